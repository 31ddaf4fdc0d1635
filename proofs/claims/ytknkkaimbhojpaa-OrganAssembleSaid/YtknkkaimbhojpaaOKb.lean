/- The frame of tiles; the law of the document's Assemble. -/
import Derived.Test.YtknkkaimbhojpaaOK
import Derived.Test.YtknkkaimbhojpaaOKa
set_option linter.all false
set_option linter.unusedVariables false
set_option linter.unusedSimpArgs false
open Go Go.Abs Go.Proofs
set_option linter.unusedSimpArgs false
set_option linter.unusedVariables false
namespace Go.Proofs.Ytknkkaimbhojpaa
/-! ### the frame -/
def frP (f : Q4) (s : Int × Int) : Q4 :=
  (bif decide (s.1 < f.1) then s.1 else f.1, bif decide (s.2 < f.2.1) then s.2 else f.2.1, bif decide (s.1 > f.2.2.1) then s.1 else f.2.2.1, bif decide (s.2 > f.2.2.2) then s.2 else f.2.2.2)
theorem frStep_P (f : Q4) (t : Ti) : frStep f t = frP f (t.1, t.2.1) := rfl
theorem mn_comm (a b c : Int) : (bif decide (c < (bif decide (b < a) then b else a)) then c else (bif decide (b < a) then b else a)) = (bif decide (b < (bif decide (c < a) then c else a)) then b else (bif decide (c < a) then c else a)) := by
  simp only [Bool.cond_decide]
  by_cases h1 : b < a <;> by_cases h2 : c < a <;> by_cases h3 : c < b <;> by_cases h4 : b < c <;> simp [h1, h2, h3, h4] <;> omega
theorem mx_comm (a b c : Int) : (bif decide (c > (bif decide (b > a) then b else a)) then c else (bif decide (b > a) then b else a)) = (bif decide (b > (bif decide (c > a) then c else a)) then b else (bif decide (c > a) then c else a)) := by
  simp only [Bool.cond_decide]
  by_cases h1 : b > a <;> by_cases h2 : c > a <;> by_cases h3 : c > b <;> by_cases h4 : b > c <;> simp [h1, h2, h3, h4] <;> omega
theorem frP_comm (f : Q4) (a b : Int × Int) : frP (frP f a) b = frP (frP f b) a :=
  Prod.ext (mn_comm f.1 a.1 b.1) (Prod.ext (mn_comm f.2.1 a.2 b.2) (Prod.ext (mx_comm f.2.2.1 a.1 b.1) (mx_comm f.2.2.2 a.2 b.2)))
theorem fold_erase {α β : Type} (d : α) (g : β → α → β) (hc : ∀ q a b, g (g q a) b = g (g q b) a) : ∀ (l : List α) (i : Nat) (q : β), i < l.length → (l.eraseIdx i).foldl g (g q (nth d l i)) = l.foldl g q
  | [], i, _, h => by simp at h
  | x :: l, 0, q, _ => rfl
  | x :: l, i + 1, q, h => by
    have ih := fold_erase d g hc l i (g q x) (by simpa using h)
    simp only [nth, List.eraseIdx, List.foldl_cons]
    rw [hc q (nth d l i) x]
    exact ih
def within (lo hi : Int) (q : Q4) : Prop := lo ≤ q.1 ∧ lo ≤ q.2.1 ∧ q.2.2.1 < hi ∧ q.2.2.2 < hi
def subQ (q r : Q4) : Prop := r.1 ≤ q.1 ∧ r.2.1 ≤ q.2.1 ∧ q.2.2.1 ≤ r.2.2.1 ∧ q.2.2.2 ≤ r.2.2.2
theorem fr_cases (q : Q4) (t : Ti) : (frStep q t).1 ≤ q.1 ∧ (frStep q t).1 ≤ t.1 ∧ ((frStep q t).1 = q.1 ∨ (frStep q t).1 = t.1) ∧ (frStep q t).2.1 ≤ q.2.1 ∧ (frStep q t).2.1 ≤ t.2.1 ∧ ((frStep q t).2.1 = q.2.1 ∨ (frStep q t).2.1 = t.2.1) ∧
    q.2.2.1 ≤ (frStep q t).2.2.1 ∧ t.1 ≤ (frStep q t).2.2.1 ∧ ((frStep q t).2.2.1 = q.2.2.1 ∨ (frStep q t).2.2.1 = t.1) ∧ q.2.2.2 ≤ (frStep q t).2.2.2 ∧ t.2.1 ≤ (frStep q t).2.2.2 ∧ ((frStep q t).2.2.2 = q.2.2.2 ∨ (frStep q t).2.2.2 = t.2.1) := by
  simp only [frStep, Bool.cond_decide]
  refine ⟨?_, ?_, ?_, ?_, ?_, ?_, ?_, ?_, ?_, ?_, ?_, ?_⟩ <;> split <;> omega
theorem fold_sub : ∀ (l : List Ti) (q : Q4), subQ q (l.foldl frStep q)
  | [], q => ⟨Int.le_refl _, Int.le_refl _, Int.le_refl _, Int.le_refl _⟩
  | t :: l, q => by
    have ih := fold_sub l (frStep q t)
    have h := fr_cases q t
    simp only [subQ, List.foldl_cons] at ih ⊢
    omega
theorem fold_in : ∀ (l : List Ti) (q : Q4), ∀ t ∈ l, inF (l.foldl frStep q) t = true
  | [], _, t, h => by simp at h
  | x :: l, q, t, h => by
    rcases List.mem_cons.1 h with rfl | h
    · have h1 := fold_sub l (frStep q t)
      have h2 := fr_cases q t
      simp only [subQ] at h1
      have : inF (l.foldl frStep (frStep q t)) t = true := decide_eq_true (by omega)
      exact this
    · exact fold_in l (frStep q x) t h
theorem fold_bound : ∀ (l : List Ti) (q : Q4), (∀ t ∈ l, tinyP (t.1, t.2.1) = true) → within 0 1000 q → within 0 1000 (l.foldl frStep q)
  | [], q, _, h => h
  | t :: l, q, ht, h => by
    have h2 := fr_cases q t
    have h3 := of_decide_eq_true (ht t List.mem_cons_self)
    refine fold_bound l (frStep q t) (fun x hx => ht x (List.mem_cons_of_mem _ hx)) ?_
    simp only [within] at h ⊢
    simp only at h3
    omega
theorem frame_cons (t : Ti) (l : List Ti) : frameOf (t :: l) = l.foldl frStep (t.1, t.2.1, t.1, t.2.1) := rfl
theorem frame_in {l : List Ti} : l.all (inF (frameOf l)) = true := by
  rw [List.all_eq_true]
  intro t h
  cases l with
  | nil => simp at h
  | cons x l =>
    rw [frame_cons]
    rcases List.mem_cons.1 h with rfl | h
    · have h1 := fold_sub l (t.1, t.2.1, t.1, t.2.1)
      simp only [subQ] at h1
      simp only [inF, decide_eq_true_eq]
      omega
    · exact fold_in l _ t h
theorem frame_ok {l : List Ti} (hl : 1 ≤ l.length) (ht : ∀ t ∈ l, tinyP (t.1, t.2.1) = true) : frOk (frameOf l) = true := by
  cases l with
  | nil => simp at hl
  | cons x l =>
    rw [frame_cons]
    have h0 := of_decide_eq_true (ht x List.mem_cons_self)
    have h1 := fold_sub l (x.1, x.2.1, x.1, x.2.1)
    have h2 := fold_bound l (x.1, x.2.1, x.1, x.2.1) (fun t h => ht t (List.mem_cons_of_mem _ h)) (by simp only [within]; simp only at h0; omega)
    simp only [subQ] at h1
    simp only [within] at h2
    simp only [frOk, decide_eq_true_eq]
    omega
theorem frame_big {l : List Ti} (hl : 1 ≤ l.length) (ht : ∀ t ∈ l, tinyP (t.1, t.2.1) = true) : l.foldl frStep (1048576, 1048576, -1, -1) = frameOf l := by
  cases l with
  | nil => simp at hl
  | cons x l =>
    have h0 := of_decide_eq_true (ht x List.mem_cons_self)
    simp only at h0
    rw [frame_cons, List.foldl_cons]
    congr 1
    simp only [frStep, Bool.cond_decide, if_pos (show x.1 < 1048576 by omega), if_pos (show x.2.1 < 1048576 by omega), if_pos (show x.1 > -1 by omega), if_pos (show x.2.1 > -1 by omega)]
/-! ### all tiles are small -/
theorem tiny_all {ps : List Part} {ls : List Lead} (h : rigFull ps ls = true) : ∀ t ∈ allTi ps ls, tinyP (t.1, t.2.1) = true := by
  intro t ht
  rw [← both_snd] at ht
  obtain ⟨b, hb, rfl⟩ := List.mem_map.1 ht
  have hp : partsB ps = true := by simp only [rigFull, Bool.and_eq_true] at h; exact h.1
  have h1 := (both_ok (ls := ls) hp b hb).1
  have h2 := List.all_eq_true.1 (allEnts_ok h) b.1 (by rw [← both_fst]; exact List.mem_map_of_mem hb)
  simp only [entOk, Bool.and_eq_true] at h2
  rw [← h1]
  exact h2.1
theorem tiSm_all {ps : List Part} {ls : List Lead} (h : rigFull ps ls = true) : (allTi ps ls).all (tiSm ls) = true := by
  rw [List.all_eq_true]
  intro t ht
  have hti := tiny_all h t ht
  rw [← both_snd] at ht
  obtain ⟨b, hb, rfl⟩ := List.mem_map.1 ht
  have hp : partsB ps = true := by simp only [rigFull, Bool.and_eq_true] at h; exact h.1
  have h1 := (both_ok (ls := ls) hp b hb).2
  have h3 := of_decide_eq_true hti
  simp only at h3
  simp only [tiSm, sm, Bool.and_eq_true, decide_eq_true_eq]
  rcases h1 with ⟨x1, x2, x3, x4, x5⟩ | ⟨k, i, hk, hi, x1, x2, x3, x4, x5⟩
  · omega
  · have hl := (lead_fine h _ (nth_mem l0 ls hk)).2
    omega
theorem partsTi_len : ∀ (l : List Part) (k : Nat), (∀ p ∈ l, FinePart p) → (partsTi l k).length ≤ 576 * l.length ∧ (1 ≤ l.length → 1 ≤ (partsTi l k).length)
  | [], _, _ => ⟨by simp [partsTi], fun h => by simp at h⟩
  | p :: r, k, h => by
    have ih := partsTi_len r (k + 1) (fun q hq => h q (List.mem_cons_of_mem _ hq))
    have hp := h p List.mem_cons_self
    have hle := hp.le
    have hlen := hp.len
    have h1 : 1 * 1 ≤ p.2.1 * p.2.2.1 := Int.mul_le_mul hp.w0 hp.h0 (by omega) (by have := hp.w0; omega)
    simp only [partsTi, List.length_append, partTi_len, List.length_cons]
    omega
theorem leadsTi_len (ps : List Part) : ∀ (r : List Lead) (k : Nat), (∀ l ∈ r, l.2.2.2.2.all inC = true ∧ l.2.2.2.2.length ≤ 576) → (leadsTi ps r k).length ≤ 576 * r.length
  | [], _, _ => by simp [leadsTi]
  | l :: r, k, h => by
    have ih := leadsTi_len ps r (k + 1) (fun q hq => h q (List.mem_cons_of_mem _ hq))
    have := (h l List.mem_cons_self).2
    simp only [leadsTi, List.length_append, leadTi_len, List.length_cons]
    omega
theorem allTi_len {ps : List Part} {ls : List Lead} (h : rigFull ps ls = true) : 1 ≤ (allTi ps ls).length ∧ (allTi ps ls).length < 1000000 := by
  have h0 := h
  simp only [rigFull, Bool.and_eq_true, decide_eq_true_eq] at h0
  have hl := parts_len h0.1
  have a := partsTi_len ps 0 (parts_fine h0.1)
  have b := leadsTi_len ps ls 0 (lead_fine h)
  simp only [allTi, List.length_append]
  omega
theorem leadGood_all {ps : List Part} {ls : List Lead} (h : rigFull ps ls = true) : ls.all (leadGood ps) = true := by
  simp only [rigFull, Bool.and_eq_true] at h
  refine List.all_eq_true.2 fun l hl => ?_
  have := List.all_eq_true.1 h.2.2 l hl
  simp only [leadFull, Bool.and_eq_true] at this
  exact this.2
theorem rigTi_all {ps : List Part} {ls : List Lead} (h : rigFull ps ls = true) : rigTi ps ls (allTi ps ls) = true := by
  have h0 := h
  simp only [rigFull, Bool.and_eq_true, decide_eq_true_eq] at h0
  simp only [rigTi, h0.1, mos_short h0.1, leadGood_all h, tiSm_all h, Bool.and_true, Bool.true_and, Bool.and_eq_true, decide_eq_true_eq]
  have := allTi_len h
  omega
/-! ### the document's Assemble -/
abbrev Asm := Int × Int × Int × List Int × List Mo × Int
def asmErr (e : Int) : Asm := (0, 0, 0, [], [], e)
def asmOf (o : Organ) : Asm := (o.1, o.2.1, o.2.2.1, o.2.2.2.1, o.2.2.2.2, 0)
def rigO (ps : List Part) (ls : List Lead) : Organ := builtO ps ls (allTi ps ls) (frameOf (allTi ps ls))
def asmM : Rig → Asm := fun (ps, ls) =>
  bif !partsB ps then asmErr 50 else bif !leadsB ps [] ls then asmErr 56 else bif closedR ps ls (allTi ps ls) (frameOf (allTi ps ls)) then asmErr 55 else
  bif organM (rigO ps ls) != 0 then asmErr 50 else asmOf (rigO ps ls)
abbrev MoK : CK := .pair (.int .i64) (.pair (.int .i64) (.pair (.int .i64) .bool))
def errR (e : Int) : Res := ⟨true, .tup [.agg [.int .i64 0, .int .i64 0, .int .i64 0, .sl 0 0 0 none, .sl 1 0 0 none], .int .i64 e], [.row 0 3 (.int .i64) [], .row 0 77 MoK []]⟩
def orgRo (o : Organ) : Res := ⟨true, .tup [.agg [.int .i64 o.1, .int .i64 o.2.1, .int .i64 o.2.2.1, .ro (.int .i64) o.2.2.2.1, .ro MoK o.2.2.2.2], .int .i64 0], []⟩
def orgRw (o : Organ) : Res := ⟨true, .tup [.agg [.int .i64 o.1, .int .i64 o.2.1, .int .i64 o.2.2.1, .sl 0 0 0 none, .sl 1 0 0 none], .int .i64 0], [.row 0 3 (.int .i64) o.2.2.2.1, .row 0 77 MoK o.2.2.2.2]⟩
theorem ret_org {a b c e : Int} {cs : List Int} {ms : List Mo} {r : Res} (h0 : r.ok = true) (h1 : (valsOf r.val).all isV = true) (h2 : ∀ ws, r.val = .tup ws → ws.length ≠ 1)
    (hh : roVs r = [.agg [.int .i64 a, .int .i64 b, .int .i64 c, .ro (.int .i64) cs, .ro MoK ms], .int .i64 e]) : Ret rAsm_re rAsm_R r ((a, b, c, cs, ms, e) : Asm) := by
  refine ⟨h0, h1, ?_, ?_, ?_, ?_, h2⟩
  · rw [hh]; rfl
  · rw [hh]; rfl
  · rw [hh]; simp [rAsm_R, flatA, cellsA, decOk, nth, isRo, isInt, dropL, width]
  · rw [hh]
    exact (congrArg (fun (x : List Int) => ((a, b, c, x, asL MoK (.ro MoK ms), e) : Asm)) (asL_ro (.int .i64) cs)).trans (congrArg (fun (x : List Mo) => ((a, b, c, cs, x, e) : Asm)) (asL_ro MoK ms))
theorem Ret.errR {e : Int} : Ret rAsm_re rAsm_R (errR e) (asmErr e) := ret_org rfl rfl (fun ws h => by cases h; simp) rfl
theorem Ret.orgRo {o : Organ} : Ret rAsm_re rAsm_R (orgRo o) (asmOf o) := ret_org rfl rfl (fun ws h => by cases h; simp) rfl
theorem Ret.orgRw {o : Organ} : Ret rAsm_re rAsm_R (orgRw o) (asmOf o) := ret_org rfl rfl (fun ws h => by cases h; simp) rfl
theorem builtO_len {ps : List Part} {ls : List Lead} {l : List Ti} {q : Q4} (hp : partsB ps = true) (hq : frOk q = true) : (builtO ps ls l q).2.2.2.1.length < 9223372036854775807 ∧ (builtO ps ls l q).2.2.2.2.length < 9223372036854775807 := by
  have hA := area_ok hq
  have hpl := parts_len hp
  have e1 : ∀ (l : List Ti) (cs : List Int), (l.foldl (setT q) cs).length = cs.length := by
    intro l
    induction l with
    | nil => intro cs; rfl
    | cons t l ih => intro cs; rw [List.foldl_cons, ih]; simp [setT]
  have e2 : ∀ n k, k + n = ps.length → (openAll ps ls q n k).length ≤ 8 * n := by
    intro n
    induction n with
    | zero => intro k _; simp [openAll]
    | succ n ih =>
      intro k hk
      have h1 := ih (k + 1) (by omega)
      have h2 := openMo_len ps ls q k (mos (nth p0 ps k)).length 0
      have h3 := mosLe_at (mos_short hp) (show k < ps.length by omega)
      simp only [openAll, List.length_append]
      omega
  have h2 := e2 ps.length 0 (by omega)
  constructor
  · show ((l.foldl (setT q) (List.replicate (areaQ q) 0))).length < _
    rw [e1, List.length_replicate]
    simp only [areaQ]
    omega
  · show (openAll ps ls q ps.length 0).length < _
    omega
def asmTail (ps : List Part) (ls : List Lead) (l : List Ti) : Res :=
  bif closedR ps ls l (frameOf l) then errR 55 else bif organM (builtO ps ls l (frameOf l)) != 0 then errR 50 else orgRo (builtO ps ls l (frameOf l))
theorem rAsm_L0_spec (F : Nat) (ps : List Part) (ls : List Lead) (h : rigFull ps ls = true) : ∀ (k f i : Nat) (acc : List Ti), i + k = ls.length → k < f → acc ++ leadsTi ps (ls.drop i) i = allTi ps ls →
    rAsm_L0 F f i ps ls 0 0 0 acc [] [] = asmTail ps ls (allTi ps ls)
  | k, 0, i, _, _, hh, _ => by omega
  | 0, f + 1, i, acc, hi, _, ha => by
    rw [drop_len ls (by omega)] at ha
    simp only [leadsTi, List.append_nil] at ha
    subst ha
    have hlen := allTi_len h
    have hT := rigTi_all h
    have hfr := frame_ok hlen.1 (tiny_all h)
    have hin : (allTi ps ls).all (inF (frameOf (allTi ps ls))) = true := frame_in
    have hp : partsB ps = true := by simp only [rigFull, Bool.and_eq_true] at h; exact h.1
    have hbl := builtO_len (ls := ls) (l := allTi ps ls) hp hfr
    have o1 : rAroundOk (allTi ps ls) = true := decide_eq_true (by omega)
    have o2 : rClosedOk (ps, ls, allTi ps ls, (frameOf (allTi ps ls)).1, (frameOf (allTi ps ls)).2.1, (frameOf (allTi ps ls)).2.2.1, (frameOf (allTi ps ls)).2.2.2) = true := hT
    have o3 : rBuiltOk (ps, ls, allTi ps ls, (frameOf (allTi ps ls)).1, (frameOf (allTi ps ls)).2.1, (frameOf (allTi ps ls)).2.2.1, (frameOf (allTi ps ls)).2.2.2) = true := by
      show (rigTi ps ls (allTi ps ls) && (frOk (frameOf (allTi ps ls)) && (allTi ps ls).all (inF (frameOf (allTi ps ls))))) = true
      rw [hT, hfr, hin]; rfl
    have o4 : rVOk (builtO ps ls (allTi ps ls) (frameOf (allTi ps ls))) = true := decide_eq_true hbl
    rw [rAsm_L0_succ, ltF (by omega)]
    have e1 : rAroundM (allTi ps ls) = frameOf (allTi ps ls) := rfl
    have e2 : rBuiltM (ps, ls, allTi ps ls, (frameOf (allTi ps ls)).1, (frameOf (allTi ps ls)).2.1, (frameOf (allTi ps ls)).2.2.1, (frameOf (allTi ps ls)).2.2.2) = builtO ps ls (allTi ps ls) (frameOf (allTi ps ls)) := rfl
    have e3 : rClosedM (ps, ls, allTi ps ls, (frameOf (allTi ps ls)).1, (frameOf (allTi ps ls)).2.1, (frameOf (allTi ps ls)).2.2.1, (frameOf (allTi ps ls)).2.2.2) = closedR ps ls (allTi ps ls) (frameOf (allTi ps ls)) := rfl
    simp only [e1, o1, o2, o3, e3, cond_true, cond_false]
    rw [e2]
    generalize hgo : builtO ps ls (allTi ps ls) (frameOf (allTi ps ls)) = o at *
    have o4' : rVOk (o.1, o.2.1, o.2.2.1, o.2.2.2.1, o.2.2.2.2) = true := o4
    rw [o4']
    simp only [cond_true]
    obtain ⟨o1, o2, o3, o4, o5⟩ := o
    show _ = bif closedR ps ls (allTi ps ls) (frameOf (allTi ps ls)) then errR 55 else bif organM (builtO ps ls (allTi ps ls) (frameOf (allTi ps ls))) != 0 then errR 50 else orgRo (builtO ps ls (allTi ps ls) (frameOf (allTi ps ls)))
    rw [hgo]
    rfl
  | k + 1, f + 1, i, acc, hi, hf, ha => by
    have hil : i < ls.length := by omega
    have hls : ls.length < 1000 := by simp only [rigFull, Bool.and_eq_true, decide_eq_true_eq] at h; exact h.2.1
    have hlen := allTi_len h
    rw [drop_nth l0 ls hil] at ha
    simp only [leadsTi] at ha
    have ih := rAsm_L0_spec F ps ls h k f (i + 1) (acc ++ leadTi ps (nth l0 ls i) i (nth l0 ls i).2.2.2.2.length 0) (by omega) (by omega) (by rw [List.append_assoc]; exact ha)
    have ok : leadTilesOk (ps, ls, (i : Int)) = true := by
      have := h
      simp only [rigFull, Bool.and_eq_true] at this
      have := List.all_eq_true.1 this.2.2 _ (nth_mem l0 ls hil)
      simp only [leadFull, Bool.and_eq_true] at this
      simp only [leadTilesOk, Int.toNat_natCast, this.1, Bool.and_true, decide_eq_true_eq]
      omega
    have eM : leadTilesM (ps, ls, (i : Int)) = leadTi ps (nth l0 ls i) i (nth l0 ls i).2.2.2.2.length 0 := by
      simp only [leadTilesM, Int.toNat_natCast]
    have hl := congrArg List.length ha
    simp only [List.length_append] at hl
    have hle : decide (Nat.mul (Nat.add acc.length (leadTi ps (nth l0 ls i) i (nth l0 ls i).2.2.2.2.length 0).length) 48 ≤ 140737488355328) = true := decide_eq_true (by show (acc.length + (leadTi ps (nth l0 ls i) i (nth l0 ls i).2.2.2.2.length 0).length) * 48 ≤ _; omega)
    have hble : Nat.ble 0 acc.length = true := by rw [Nat.ble_eq]; exact Nat.zero_le _
    rw [rAsm_L0_succ, ltT hil, ok, eM, wrapS (show i < 9223372036854775807 by omega), hle, hble]
    exact ih
def rAsmOk : Rig → Bool := rigOk
def rAsmM : Rig → Asm := asmM
def rAsmFu : Rig → Nat := fun (_, ls) => ls.length + 1
theorem rAsm_ret (z : Rig) (h : rAsmOk z = true) : Ret rAsm_re rAsm_R (rAsm_run (rAsmFu z) z) (rAsmM z) := by
  obtain ⟨ps, ls⟩ := z
  have o1 : rPartsOk (ps, ls) = true := h
  refine Ret.of (r' := bif !partsB ps then errR 50 else bif !leadsB ps [] ls then errR 56 else asmTail ps ls (allTi ps ls)) ((rAsm_arg ..).trans ((rAsm_eq ..).trans ?_)) ?_
  · rw [o1]
    show (bif true then (bif !partsB ps then _ else _) else _) = _
    cases hp : partsB ps with
    | false => rfl
    | true =>
      have o2 : rLeadsOk (ps, ls) = true := by show (rigOk (ps, ls) && partsB ps) = true; rw [show rigOk (ps, ls) = true from h, hp]; rfl
      have o3 : partTilesOk (ps, ls) = true := o2
      rw [o2, o3]
      show (bif !leadsB ps [] ls then _ else _) = _
      cases hb : leadsB ps [] ls with
      | false => rfl
      | true => exact rAsm_L0_spec (ls.length + 1) ps ls (full_of hp hb) ls.length (ls.length + 1) 0 (partsTi ps 0) (by omega) (by omega) rfl
  · simp only [rAsmM, asmM, rigO]
    cases partsB ps
    · exact Ret.errR
    · cases leadsB ps [] ls
      · exact Ret.errR
      · simp only [Bool.not_true, cond_false, asmTail]
        cases closedR ps ls (allTi ps ls) (frameOf (allTi ps ls))
        · simp only [cond_false]
          cases organM (builtO ps ls (allTi ps ls) (frameOf (allTi ps ls))) != 0
          · exact Ret.orgRo
          · exact Ret.errR
        · exact Ret.errR
end Go.Proofs.Ytknkkaimbhojpaa

open Go Go.Abs Go.Proofs
set_option linter.unusedSimpArgs false
set_option linter.unusedVariables false
namespace Go.Proofs.Ytknkkaimbhojpaa
theorem led_go (a b : Int) : ∀ (l : List Lead) (i : Nat), decide (ledGo a b l i ≥ 0) = l.any (endAt a b)
  | [], i => by simp [ledGo]
  | x :: l, i => by
    have ih := led_go a b l (i + 1)
    rcases em2 (endAt a b x) with h | h
    · rw [decide_eq_true (by simp only [ledGo, h, cond_true]; omega), List.any_cons, h]; rfl
    · rw [List.any_cons, h, Bool.false_or, ← ih]; exact decide_eq_decide.2 (by simp only [ledGo, h, cond_false])
theorem lt_ge {x : Int} : decide (x < 0) = !decide (x ≥ 0) := by
  by_cases h : x < 0
  · simp [h, show ¬ x ≥ 0 by omega]
  · simp [h, show x ≥ 0 by omega]
theorem led_ld {ps : List Part} : ∀ (r pre : List Lead) (h : LMap), Ld h pre → Ld (r.foldl ledAdd h) (pre ++ r)
  | [], pre, h, hd => by rw [List.append_nil]; exact hd
  | l :: r, pre, h, hd => by
    have := led_ld (ps := ps) r (pre ++ [l]) _ (hd.step l)
    rw [List.append_assoc] at this
    exact this
theorem oAsm_L2_spec (F m : Nat) (ps : List Part) (ls : List Lead) (led : LMap) (hd : Ld led ls) (q : Q4) (hq : frOk q = true) (z1 z2 z3 o1 o2 o3 : Int) (y1 : List Int) (y2 : List Mo) (cs : List Int) (hp : partsB ps = true) (k : Nat) (hk : k < ps.length) : ∀ (n f i : Nat) (acc : List Mo), i + n = (mos (nth p0 ps k)).length → n < f → acc.length + n ≤ 100000 →
    oAsm_L2 F m f led k ps ps.length k (mos (nth p0 ps k)) (mos (nth p0 ps k)).length i ps ls z1 z2 z3 q.1 q.2.1 q.2.2.1 q.2.2.2 o1 o2 o3 (nth p0 ps k).1 (nth p0 ps k).2.1 (nth p0 ps k).2.2.1 (nth p0 ps k).2.2.2.1 (nth p0 ps k).2.2.2.2.1 (nth p0 ps k).2.2.2.2.2.1 (nth p0 ps k).2.2.2.2.2.2 y1 y2 cs acc =
      bif anyFrom (openIn ps ls q k) n i then errR 55 else oAsm_L1 F m led ps ps.length ((k + 1 : Nat) : Int) ps ls z1 z2 z3 q.1 q.2.1 q.2.2.1 q.2.2.2 o1 o2 o3 y1 y2 cs (acc ++ openMo ps ls q k n i)
  | n, 0, i, acc, _, h, _ => by omega
  | 0, f + 1, i, acc, hi, _, _ => by
    have hlen := parts_len hp
    rw [oAsm_L2_succ, ltF (by omega), wrapS (show k < 9223372036854775807 by omega)]
    simp only [openMo, List.append_nil]; rfl
  | n + 1, f + 1, i, acc, hi, hf, ha => by
    have ih0 := oAsm_L2_spec F m ps ls led hd q hq z1 z2 z3 o1 o2 o3 y1 y2 cs hp k hk n f (i + 1) acc (by omega) (by omega) (by omega)
    have ih1 := oAsm_L2_spec F m ps ls led hd q hq z1 z2 z3 o1 o2 o3 y1 y2 cs hp k hk n f (i + 1) (acc ++ [((cellM ps k i).1 - q.1, (cellM ps k i).2 - q.2.1, (moAt ps k i).2.2.1, (moAt ps k i).2.2.2)]) (by omega) (by omega) (by simp; omega)
    have hil : i < (mos (nth p0 ps k)).length := by omega
    have hh : hasMo ps k i = true := decide_eq_true ⟨by omega, by omega, by omega, by simp only [partAt, Int.toNat_natCast]; omega⟩
    have hg := good_of hp hh
    have hsm := mo_small hp hh
    have hc := cell_small hg
    have hc1 := of_decide_eq_true hc.1
    have hc2 := of_decide_eq_true hc.2
    have hq0 := of_decide_eq_true hq
    have hg' := hg
    simp only [goodMo, Bool.and_eq_true] at hg'
    have eN : nth (0, 0, 0, false) (mos (nth p0 ps k)) i = moAt ps k i := rfl
    have eG : getM (CK.pair (CK.int IntKind.i64) (CK.int IntKind.i64)) false led (((k : Int), (i : Int)) : Int × Int) = decide (ledGo k i ls 0 ≥ 0) := (hd k i).trans (led_go k i ls 0).symm
    have eO : outerOfOk ((nth p0 ps k).1, (nth p0 ps k).2.1, (nth p0 ps k).2.2.1, (nth p0 ps k).2.2.2.1, (nth p0 ps k).2.2.2.2.1, (nth p0 ps k).2.2.2.2.2.1, (nth p0 ps k).2.2.2.2.2.2, (moAt ps k i).1, (moAt ps k i).2.1, (moAt ps k i).2.2.1, (moAt ps k i).2.2.2) = true := hg'.2
    have eM : outerOfM ((nth p0 ps k).1, (nth p0 ps k).2.1, (nth p0 ps k).2.2.1, (nth p0 ps k).2.2.2.1, (nth p0 ps k).2.2.2.2.1, (nth p0 ps k).2.2.2.2.2.1, (nth p0 ps k).2.2.2.2.2.2, (moAt ps k i).1, (moAt ps k i).2.1, (moAt ps k i).2.2.1, (moAt ps k i).2.2.2) = outM ps k i := rfl
    rw [oAsm_L2_succ, ltT hil, nnT, Int.toNat_natCast, eN, eG, eO, eM, wrapS (show i < 9223372036854775807 by omega), ih0]
    have hle : decide (Nat.mul (Nat.add acc.length 1) 32 ≤ 140737488355328) = true := decide_eq_true (by show (acc.length + 1) * 32 ≤ _; omega)
    have hble : Nat.ble 0 acc.length = true := by rw [Nat.ble_eq]; exact Nat.zero_le _
    have hS : oAsm_L2_S1 F m f led k ps ps.length k (mos (nth p0 ps k)) (mos (nth p0 ps k)).length i ps ls z1 z2 z3 q.1 q.2.1 q.2.2.1 q.2.2.2 o1 o2 o3 (nth p0 ps k).1 (nth p0 ps k).2.1 (nth p0 ps k).2.2.1 (nth p0 ps k).2.2.2.1 (nth p0 ps k).2.2.2.2.1 (nth p0 ps k).2.2.2.2.2.1 (nth p0 ps k).2.2.2.2.2.2 y1 y2 cs acc =
        bif anyFrom (openIn ps ls q k) n (i + 1) then errR 55 else oAsm_L1 F m led ps ps.length ((k + 1 : Nat) : Int) ps ls z1 z2 z3 q.1 q.2.1 q.2.2.1 q.2.2.2 o1 o2 o3 y1 y2 cs ((acc ++ [((cellM ps k i).1 - q.1, (cellM ps k i).2 - q.2.1, (moAt ps k i).2.2.1, (moAt ps k i).2.2.2)]) ++ openMo ps ls q k n (i + 1)) := by
      rw [← ih1]
      simp only [oAsm_L2_S1]
      have c1 : (nth p0 ps k).2.2.2.2.2.1 + (moAt ps k i).1 = (cellM ps k i).1 := rfl
      have c2 : (nth p0 ps k).2.2.2.2.2.2 + (moAt ps k i).2.1 = (cellM ps k i).2 := rfl
      rw [Int.toNat_natCast, eN, c1, c2, wrap_id (n := (cellM ps k i).1) (by omega) (by omega), wrap_id (n := (cellM ps k i).2) (by omega) (by omega), wrap_id (n := (cellM ps k i).1 - q.1) (by omega) (by omega), wrap_id (n := (cellM ps k i).2 - q.2.1) (by omega) (by omega), wrapS (show i < 9223372036854775807 by omega), hle, hble]
      rfl
    rw [hS]
    simp only [anyFrom, openIn, insideF, openMo, lt_ge, Bool.and_self, cond_true]
    rcases em2 (decide (ledGo k i ls 0 ≥ 0)) with d1 | d1
    · simp only [d1, cond_true, Bool.not_true, Bool.false_and, Bool.false_or, List.nil_append]
    · simp only [d1, cond_false, Bool.not_false, Bool.true_and]
      rcases em2 (decide ((outM ps k i).1 ≥ q.1)) with d2 | d2 <;> rcases em2 (decide ((outM ps k i).1 ≤ q.2.2.1)) with d3 | d3 <;> rcases em2 (decide ((outM ps k i).2 ≥ q.2.1)) with d4 | d4 <;> rcases em2 (decide ((outM ps k i).2 ≤ q.2.2.2)) with d5 | d5 <;>
        simp only [d2, d3, d4, d5, cond_true, cond_false, Bool.true_and, Bool.false_and, Bool.and_self, Bool.and_false, Bool.or_false, Bool.false_or, Bool.true_or, List.append_assoc] <;> rfl
/-- What stands behind the mouths. -/
noncomputable def tailA (F : Nat) (ps : List Part) (ls : List Lead) (q : Q4) (z1 z2 z3 o1 o2 o3 : Int) (y1 : List Int) (y2 : List Mo) (ms : List Mo) : Res :=
  bif decide (o2 > 24) then errR 50 else bif decide (o3 > 24) then errR 50 else oAsm_L3 F F ps ps.length 0 ps ls z1 z2 z3 o1 o2 o3 q.1 q.2.1 y1 y2 (List.replicate (o2 * o3).toNat 0) ms
theorem oAsm_L1_spec (F : Nat) (hF : 20 ≤ F) (ps : List Part) (ls : List Lead) (led : LMap) (hd : Ld led ls) (q : Q4) (hq : frOk q = true) (z1 z2 z3 o1 o2 o3 : Int) (ho : 0 ≤ o2 ∧ 0 ≤ o3) (y1 : List Int) (y2 : List Mo) (hp : partsB ps = true) : ∀ (n f k : Nat) (acc : List Mo), k + n = ps.length → n < f → acc.length + 8 * n ≤ 100000 →
    oAsm_L1 F f led ps ps.length k ps ls z1 z2 z3 q.1 q.2.1 q.2.2.1 q.2.2.2 o1 o2 o3 y1 y2 [] acc = bif anyFrom (partIn ps ls q) n k then errR 55 else tailA F ps ls q z1 z2 z3 o1 o2 o3 y1 y2 (acc ++ openAll ps ls q n k)
  | n, 0, k, acc, _, h, _ => by omega
  | 0, f + 1, k, acc, hk, _, _ => by
    rw [oAsm_L1_succ, ltF (by omega)]
    simp only [openAll, List.append_nil, anyFrom, cond_false, tailA]
    by_cases h2 : o2 > 24
    · simp only [h2, decide_true, cond_true]; rfl
    · by_cases h3 : o3 > 24
      · simp only [h2, h3, decide_true, decide_false, cond_true, cond_false]; rfl
      · have h1 : 0 ≤ o2 * o3 := Int.mul_nonneg ho.1 ho.2
        have h4 : o2 * o3 ≤ 24 * o3 := Int.mul_le_mul_of_nonneg_right (by omega) ho.2
        rw [wrap_id (n := o2 * o3) (by omega) (by omega)]
        simp only [h2, h3, decide_true, decide_false, cond_true, cond_false, show 0 ≤ o2 * o3 from h1, show o2 * o3 ≤ o2 * o3 from Int.le_refl _, show o2 * o3 * 8 ≤ 140737488355328 by omega, show o2 * o3 ≤ 4611686018427387904 by omega, Bool.and_self]
  | n + 1, f + 1, k, acc, hk, hf, ha => by
    have hkl : k < ps.length := by omega
    have hm8 := mosLe_at (mos_short hp) hkl
    have hol := openMo_len ps ls q k (mos (nth p0 ps k)).length 0
    have ih := oAsm_L1_spec F hF ps ls led hd q hq z1 z2 z3 o1 o2 o3 ho y1 y2 hp n f (k + 1) (acc ++ openMo ps ls q k (mos (nth p0 ps k)).length 0) (by omega) (by omega) (by rw [List.length_append]; omega)
    have l2 := oAsm_L2_spec F f ps ls led hd q hq z1 z2 z3 o1 o2 o3 y1 y2 [] hp k hkl (mos (nth p0 ps k)).length F 0 acc (by omega) (by omega) (by omega)
    have e0 : nth (0, 0, 0, [], [], 0, 0) ps k = nth p0 ps k := rfl
    rw [oAsm_L1_succ, ltT hkl, nnT, Int.toNat_natCast, e0]
    refine Eq.trans (?_ : _ = _) (l2.trans ?_)
    · rfl
    · rw [ih]
      simp only [openAll, List.append_assoc, anyFrom, partIn]
      cases anyFrom (openIn ps ls q k) (mos (nth p0 ps k)).length 0 <;> rfl
/-! ### the frame -/
theorem oAsm_L0_spec (F : Nat) (ps : List Part) (ls : List Lead) (led : LMap) (hp : partsB ps = true) : ∀ (n f : Nat) (rest cur : PMap) (q : Q4), rest.length = n → n < f →
    oAsm_L0 F f led ps ls 0 0 0 q.1 q.2.1 q.2.2.1 q.2.2.2 rest cur [] [] =
      (fun q' : Q4 => oAsm_L1 F F led ps ps.length 0 ps ls 0 0 0 q'.1 q'.2.1 q'.2.2.1 q'.2.2.2 (nth p0 ps 0).1 (IntKind.wrap IntKind.i64 (IntKind.wrap IntKind.i64 (q'.2.2.1 - q'.1) + 1)) (IntKind.wrap IntKind.i64 (IntKind.wrap IntKind.i64 (q'.2.2.2 - q'.2.1) + 1)) [] [] [] []) (rest.foldl (fun q p => frP q p.1) q)
  | n, 0, _, _, _, _, h => by omega
  | 0, f + 1, rest, cur, q, hr, _ => by
    obtain rfl : rest = [] := List.length_eq_zero_iff.1 hr
    have hl := parts_len hp
    rw [oAsm_L0_succ, show decide (0 < (ps.length : Int)) = true from decide_eq_true (by omega)]; rfl
  | n + 1, f + 1, rest, cur, q, hr, hf => by
    have he : rest.isEmpty = false := by cases rest with
      | nil => simp at hr
      | cons => rfl
    rw [oAsm_L0_succ, he]
    simp only [cond_false]
    refine anyN_const (fun i hi => ?_) (by omega)
    have hlt : decide (i < rest.length) = true := decide_eq_true hi
    have ih := oAsm_L0_spec F ps ls led hp n f (rest.eraseIdx i) [nth ((0, 0), 0) rest i] (frP q (nth ((0, 0), 0) rest i).1) (by rw [List.length_eraseIdx]; simp [hi]; omega) (by omega)
    rw [fold_erase ((0, 0), 0) (fun q (p : (Int × Int) × Int) => frP q p.1) (fun q a b => frP_comm q a.1 b.1) rest i q hi] at ih
    rw [hlt]
    exact ih
/-! ### cells -/
theorem idx_way {q : Q4} {x y : Int} (h : frOk q = true) (hi : inF q (x, y, 0, 0, 0, 0) = true) (hx : tinyP (x, y) = true) :
    IntKind.wrap IntKind.i64 (IntKind.wrap IntKind.i64 (IntKind.wrap IntKind.i64 (IntKind.wrap IntKind.i64 (y - q.2.1) * (q.2.2.1 - q.1 + 1)) + x) - q.1) = (y - q.2.1) * (q.2.2.1 - q.1 + 1) + (x - q.1) ∧
    0 ≤ (y - q.2.1) * (q.2.2.1 - q.1 + 1) + (x - q.1) ∧ (y - q.2.1) * (q.2.2.1 - q.1 + 1) + (x - q.1) < areaQ q := by
  have h0 := of_decide_eq_true h
  have h1 := idx_frame h hi
  have h2 := of_decide_eq_true hi
  have h3 := of_decide_eq_true hx
  have hA := area_ok h
  simp only at h1 h2 h3
  rw [wrap_id (n := y - q.2.1) (by omega) (by omega), wrap_id (n := (y - q.2.1) * (q.2.2.1 - q.1 + 1)) (by omega) (by omega), wrap_id (n := (y - q.2.1) * (q.2.2.1 - q.1 + 1) + x) (by omega) (by omega), wrap_id (n := (y - q.2.1) * (q.2.2.1 - q.1 + 1) + x - q.1) (by omega) (by omega)]
  simp only [areaQ]
  omega
theorem oAsm_L4_spec (F m : Nat) (ps : List Part) (ls : List Lead) (q : Q4) (hq : frOk q = true) (z1 z2 z3 o1 o3 : Int) (y1 : List Int) (y2 ms : List Mo) (p : Part) (hp : FinePart p) (k : Nat) (hk : k < 1000) : ∀ (n f i : Nat) (cs : List Int), i + n = p.2.2.2.1.length → n < f → cs.length = areaQ q → (partTi p k n i).all (inF q) = true →
    oAsm_L4 F m f ps ps.length k p.2.2.2.1 p.2.2.2.1.length i ps ls z1 z2 z3 o1 (q.2.2.1 - q.1 + 1) o3 q.1 q.2.1 p.1 p.2.1 p.2.2.1 p.2.2.2.1 p.2.2.2.2.1 p.2.2.2.2.2.1 p.2.2.2.2.2.2 y1 y2 cs ms =
      oAsm_L3 F m ps ps.length ((k + 1 : Nat) : Int) ps ls z1 z2 z3 o1 (q.2.2.1 - q.1 + 1) o3 q.1 q.2.1 y1 y2 ((partTi p k n i).foldl (setT q) cs) ms
  | n, 0, i, cs, _, h, _, _ => by omega
  | 0, f + 1, i, cs, hi, _, _, _ => by
    rw [oAsm_L4_succ, ltF (by omega), wrapS (show k < 9223372036854775807 by omega)]; rfl
  | n + 1, f + 1, i, cs, hi, hf, hcs, hin => by
    simp only [partTi, List.all_cons, Bool.and_eq_true] at hin
    have ih := oAsm_L4_spec F m ps ls q hq z1 z2 z3 o1 o3 y1 y2 ms p hp k hk n f (i + 1) (setT q cs (cellTi p k i)) (by omega) (by omega) (by simp only [setT, List.length_set]; exact hcs) hin.2
    have hle := hp.le
    have w0 := hp.w0
    have w1 := hp.w1
    have t0 : 0 ≤ Int.tmod (i : Int) p.2.1 := Int.tmod_nonneg _ (by omega)
    have t1 : Int.tmod (i : Int) p.2.1 < p.2.1 := Int.tmod_lt_of_pos _ (by omega)
    have t2 : 0 ≤ Int.tdiv (i : Int) p.2.1 := Int.tdiv_nonneg (by omega) (by omega)
    have t3 : Int.tdiv (i : Int) p.2.1 ≤ i := Int.tdiv_le_self _ (by omega)
    have x0 := hp.x0
    have x1 := hp.x1
    have y0 := hp.y0
    have y1' := hp.y1
    have hw : (p.2.1 != 0) = true := by rw [beq_ne]; simp; omega
    obtain ⟨j1, j2, j3⟩ := idx_way (x := p.2.2.2.2.2.1 + Int.tmod (i : Int) p.2.1) (y := p.2.2.2.2.2.2 + Int.tdiv (i : Int) p.2.1) hq hin.1 (decide_eq_true (by simp only; omega))
    rw [oAsm_L4_succ, ltT (show i < p.2.2.2.1.length by omega), nnT, wrapS (show i < 9223372036854775807 by omega), wrap_id (n := Int.tdiv (i : Int) p.2.1) (by omega) (by omega), wrap_id (n := p.2.2.2.2.2.1 + Int.tmod (i : Int) p.2.1) (by omega) (by omega), wrap_id (n := p.2.2.2.2.2.2 + Int.tdiv (i : Int) p.2.1) (by omega) (by omega), j1, Int.toNat_natCast]
    rw [decide_eq_true j2, show decide ((p.2.2.2.2.2.2 + Int.tdiv (i : Int) p.2.1 - q.2.1) * (q.2.2.1 - q.1 + 1) + (p.2.2.2.2.2.1 + Int.tmod (i : Int) p.2.1 - q.1) < (cs.length : Int)) = true from decide_eq_true (by rw [hcs]; exact j3),
      show decide (Int.toNat ((p.2.2.2.2.2.2 + Int.tdiv (i : Int) p.2.1 - q.2.1) * (q.2.2.1 - q.1 + 1) + (p.2.2.2.2.2.1 + Int.tmod (i : Int) p.2.1 - q.1)) < cs.length) = true from decide_eq_true (by omega), hw]
    exact ih
theorem oAsm_L6_spec (F m : Nat) (ps : List Part) (ls : List Lead) (q : Q4) (hq : frOk q = true) (z1 z2 z3 o1 o3 : Int) (y1 : List Int) (y2 ms : List Mo) (l : Lead) (hc : l.2.2.2.2.all inC = true) (hx : l.2.2.2.2.length ≤ 576) (hg : goodMo ps l.2.2.1 l.2.2.2.1 = true) (he : endsB (outM ps l.1 l.2.1) (outM ps l.2.2.1 l.2.2.2.1) l.2.2.2.2 = true) (k : Nat) (hk : k < 1000) : ∀ (n f i : Nat) (cs : List Int), i + n = l.2.2.2.2.length → n < f → cs.length = areaQ q → (leadTi ps l k n i).all (inF q) = true →
    oAsm_L6 F m f ls ls.length k l.2.2.2.2 l.2.2.2.2.length i ps ls z1 z2 z3 o1 (q.2.2.1 - q.1 + 1) o3 q.1 q.2.1 l.1 l.2.1 l.2.2.1 l.2.2.2.1 l.2.2.2.2 y1 y2 cs ms =
      oAsm_L5 F m ls ls.length ((k + 1 : Nat) : Int) ps ls z1 z2 z3 o1 (q.2.2.1 - q.1 + 1) o3 q.1 q.2.1 y1 y2 ((leadTi ps l k n i).foldl (setT q) cs) ms
  | n, 0, i, cs, _, h, _, _ => by omega
  | 0, f + 1, i, cs, hi, _, _, _ => by
    rw [oAsm_L6_succ, ltF (by omega), wrapS (show k < 9223372036854775807 by omega)]; rfl
  | n + 1, f + 1, i, cs, hi, hf, hcs, hin => by
    simp only [leadTi, List.all_cons, Bool.and_eq_true] at hin
    have ih := oAsm_L6_spec F m ps ls q hq z1 z2 z3 o1 o3 y1 y2 ms l hc hx hg he k hk n f (i + 1) (setT q cs (leadTi1 ps l k i)) (by omega) (by omega) (by simp only [setT, List.length_set]; exact hcs) hin.2
    have hil : i < l.2.2.2.2.length := by omega
    have hci := of_decide_eq_true (all_nth c0 hc hil)
    rw [show nth c0 l.2.2.2.2 i = ceAt l.2.2.2.2 i from rfl] at hci
    have hsm := inC_small (all_nth c0 hc hil)
    rw [show nth c0 l.2.2.2.2 i = ceAt l.2.2.2.2 i from rfl] at hsm
    obtain ⟨j1, j2, j3⟩ := idx_way (x := (ceAt l.2.2.2.2 i).1) (y := (ceAt l.2.2.2.2 i).2.1) hq hin.1 (decide_eq_true (by simp only; omega))
    have j4 : decide (((ceAt l.2.2.2.2 i).2.1 - q.2.1) * (q.2.2.1 - q.1 + 1) + ((ceAt l.2.2.2.2 i).1 - q.1) < (cs.length : Int)) = true := decide_eq_true (by rw [hcs]; exact j3)
    have j5 : decide (Int.toNat (((ceAt l.2.2.2.2 i).2.1 - q.2.1) * (q.2.2.1 - q.1 + 1) + ((ceAt l.2.2.2.2 i).1 - q.1)) < cs.length) = true := decide_eq_true (by omega)
    have j2' : decide (0 ≤ ((ceAt l.2.2.2.2 i).2.1 - q.2.1) * (q.2.2.1 - q.1 + 1) + ((ceAt l.2.2.2.2 i).1 - q.1)) = true := decide_eq_true j2
    have hg' := hg
    simp only [goodMo, Bool.and_eq_true] at hg'
    obtain ⟨g1, g2, g3, g4⟩ := of_decide_eq_true hg'.1
    simp only [mos] at g4
    have hside := hg'.2
    simp only [tinies, Bool.and_eq_true, decide_eq_true_eq] at hside
    have e0 : nth (0, 0, 0) l.2.2.2.2 i = ceAt l.2.2.2.2 i := rfl
    have e1 : nth (0, 0, 0, [], [], 0, 0) ps (Int.toNat l.2.2.1) = partAt ps l.2.2.1 := rfl
    have e2 : nth (0, 0, 0, false) (partAt ps l.2.2.1).2.2.2.2.1 (Int.toNat l.2.2.2.1) = moAt ps l.2.2.1 l.2.2.2.1 := rfl
    have eS3 : oAsm_L6_S3 F m f ls ls.length k l.2.2.2.2 l.2.2.2.2.length i ps ls z1 z2 z3 o1 (q.2.2.1 - q.1 + 1) o3 q.1 q.2.1 l.1 l.2.1 l.2.2.1 l.2.2.2.1 l.2.2.2.2 y1 y2 cs ms =
        oAsm_L6 F m f ls ls.length k l.2.2.2.2 l.2.2.2.2.length ((i + 1 : Nat) : Int) ps ls z1 z2 z3 o1 (q.2.2.1 - q.1 + 1) o3 q.1 q.2.1 l.1 l.2.1 l.2.2.1 l.2.2.2.1 l.2.2.2.2 y1 y2 (List.set cs (Int.toNat (((ceAt l.2.2.2.2 i).2.1 - q.2.1) * (q.2.2.1 - q.1 + 1) + ((ceAt l.2.2.2.2 i).1 - q.1))) 0) ms := by
      simp only [oAsm_L6_S3]
      rw [Int.toNat_natCast, e0, j1, j2', j4, j5, wrapS (show i < 9223372036854775807 by omega)]
      rfl
    have fin : (leadTi ps l k (n + 1) i).foldl (setT q) cs = (leadTi ps l k n (i + 1)).foldl (setT q) (setT q cs (leadTi1 ps l k i)) := rfl
    rw [fin, ← ih, oAsm_L6_succ, ltT hil, nnT, Int.toNat_natCast, e0, wrapS (show i < 9223372036854775807 by omega), e1, e2, j1, j2', j4, j5, eS3]
    simp only [show ¬ (ceAt l.2.2.2.2 i).1 < 0 by omega, show ¬ (ceAt l.2.2.2.2 i).1 ≥ 24 by omega, show ¬ (ceAt l.2.2.2.2 i).2.1 < 0 by omega, show ¬ (ceAt l.2.2.2.2 i).2.1 ≥ 24 by omega, g1, g2, g3, g4, decide_false, decide_true, cond_false, Bool.and_self, cond_true]
    by_cases hn : i + 1 < l.2.2.2.2.length
    · have hcn := of_decide_eq_true (all_nth c0 hc hn)
      rw [show nth c0 l.2.2.2.2 (i + 1) = ceAt l.2.2.2.2 (i + 1) from rfl] at hcn
      have hs2 := inC_small (all_nth c0 hc hn)
      rw [show nth c0 l.2.2.2.2 (i + 1) = ceAt l.2.2.2.2 (i + 1) from rfl] at hs2
      have e3 : nth (0, 0, 0) l.2.2.2.2 (i + 1) = ceAt l.2.2.2.2 (i + 1) := rfl
      have hd : leadDir ps l i = dirC (ceAt l.2.2.2.2 i) (ceAt l.2.2.2.2 (i + 1)) := by simp only [leadDir, hn, decide_true, cond_true]
      have hb := dirOf_le (ceAt l.2.2.2.2 i).1 (ceAt l.2.2.2.2 i).2.1 (ceAt l.2.2.2.2 (i + 1)).1 (ceAt l.2.2.2.2 (i + 1)).2.1
      have ok : towardsOk ((ceAt l.2.2.2.2 i).1, (ceAt l.2.2.2.2 i).2.1, (ceAt l.2.2.2.2 (i + 1)).1, (ceAt l.2.2.2.2 (i + 1)).2.1) = true := by
        simp only [towardsOk, Bool.and_eq_true]
        exact ⟨hsm.1, hsm.2, hs2.1, hs2.2⟩
      have eM : towardsM ((ceAt l.2.2.2.2 i).1, (ceAt l.2.2.2.2 i).2.1, (ceAt l.2.2.2.2 (i + 1)).1, (ceAt l.2.2.2.2 (i + 1)).2.1) = dirOf (ceAt l.2.2.2.2 i).1 (ceAt l.2.2.2.2 i).2.1 (ceAt l.2.2.2.2 (i + 1)).1 (ceAt l.2.2.2.2 (i + 1)).2.1 := rfl
      rw [ltT hn, nnT, Int.toNat_natCast, e3, ok, eM]
      simp only [show ¬ (ceAt l.2.2.2.2 (i + 1)).1 < 0 by omega, show ¬ (ceAt l.2.2.2.2 (i + 1)).1 ≥ 24 by omega, show ¬ (ceAt l.2.2.2.2 (i + 1)).2.1 < 0 by omega, show ¬ (ceAt l.2.2.2.2 (i + 1)).2.1 ≥ 24 by omega, decide_false, decide_true, cond_false, Bool.and_self, cond_true]
      by_cases d1 : dirOf (ceAt l.2.2.2.2 i).1 (ceAt l.2.2.2.2 i).2.1 (ceAt l.2.2.2.2 (i + 1)).1 (ceAt l.2.2.2.2 (i + 1)).2.1 < 0
      · simp only [d1, decide_true, cond_true, setT, idxT', leadTi1, hd, dirC, ordI]
      · rw [wrap_id (n := 9 + dirOf (ceAt l.2.2.2.2 i).1 (ceAt l.2.2.2.2 i).2.1 (ceAt l.2.2.2.2 (i + 1)).1 (ceAt l.2.2.2.2 (i + 1)).2.1) (by omega) (by omega)]
        simp only [d1, show ¬ dirOf (ceAt l.2.2.2.2 i).1 (ceAt l.2.2.2.2 i).2.1 (ceAt l.2.2.2.2 (i + 1)).1 (ceAt l.2.2.2.2 (i + 1)).2.1 > 3 by omega, decide_false, cond_false, setT, idxT', leadTi1, hd, dirC, ordI]
    · have hd : leadDir ps l i = dirOf (ceAt l.2.2.2.2 i).1 (ceAt l.2.2.2.2 i).2.1 (cellM ps l.2.2.1 l.2.2.2.1).1 (cellM ps l.2.2.1 l.2.2.2.1).2 := by simp only [leadDir, hn, decide_false, cond_false]
      have hlast : i = l.2.2.2.2.length - 1 := by omega
      simp only [endsB, atP, Bool.and_eq_true, decide_eq_true_eq, ← hlast] at he
      have hout : dirOf (ceAt l.2.2.2.2 i).1 (ceAt l.2.2.2.2 i).2.1 (cellM ps l.2.2.1 l.2.2.2.1).1 (cellM ps l.2.2.1 l.2.2.2.1).2 = Int.tmod (moAt ps l.2.2.1 l.2.2.2.1).2.2.1 4 + 0 ∨ True := .inr trivial
      have hdir : dirOf (ceAt l.2.2.2.2 i).1 (ceAt l.2.2.2.2 i).2.1 (cellM ps l.2.2.1 l.2.2.2.1).1 (cellM ps l.2.2.1 l.2.2.2.1).2 = Int.tmod ((moAt ps l.2.2.1 l.2.2.2.1).2.2.1 + 2) 4 := by
        rw [he.2.1, he.2.2, outM_cell]
        generalize (moAt ps l.2.2.1 l.2.2.2.1).2.2.1 = d at *
        have e : d = 0 ∨ d = 1 ∨ d = 2 ∨ d = 3 := by omega
        rcases e with rfl | rfl | rfl | rfl
        · show dirOf ((cellM ps l.2.2.1 l.2.2.2.1).1 + 1) ((cellM ps l.2.2.1 l.2.2.2.1).2 + 0) _ _ = 2
          simp only [dirOf, Bool.cond_decide]; rw [if_neg (by omega), if_neg (by omega), if_pos (by omega)]
        · show dirOf ((cellM ps l.2.2.1 l.2.2.2.1).1 + 0) ((cellM ps l.2.2.1 l.2.2.2.1).2 + -1) _ _ = 3
          simp only [dirOf, Bool.cond_decide]; rw [if_neg (by omega), if_neg (by omega), if_neg (by omega), if_pos (by omega)]
        · show dirOf ((cellM ps l.2.2.1 l.2.2.2.1).1 + -1) ((cellM ps l.2.2.1 l.2.2.2.1).2 + 0) _ _ = 0
          simp only [dirOf, Bool.cond_decide]; rw [if_pos (by omega)]
        · show dirOf ((cellM ps l.2.2.1 l.2.2.2.1).1 + 0) ((cellM ps l.2.2.1 l.2.2.2.1).2 + 1) _ _ = 1
          simp only [dirOf, Bool.cond_decide]; rw [if_neg (by omega), if_pos (by omega)]
      have hb := dirOf_le (ceAt l.2.2.2.2 i).1 (ceAt l.2.2.2.2 i).2.1 (cellM ps l.2.2.1 l.2.2.2.1).1 (cellM ps l.2.2.1 l.2.2.2.1).2
      have ht0 : 0 ≤ Int.tmod ((moAt ps l.2.2.1 l.2.2.2.1).2.2.1 + 2) 4 := Int.tmod_nonneg _ (by omega)
      rw [ltF (by omega), wrap_id (n := (moAt ps l.2.2.1 l.2.2.2.1).2.2.1 + 2) (by omega) (by omega), wrap_id (n := 9 + Int.tmod ((moAt ps l.2.2.1 l.2.2.2.1).2.2.1 + 2) 4) (by omega) (by omega)]
      simp only [decide_eq_false (show ¬ Int.tmod ((moAt ps l.2.2.1 l.2.2.2.1).2.2.1 + 2) 4 < 0 by omega), decide_eq_false (show ¬ Int.tmod ((moAt ps l.2.2.1 l.2.2.2.1).2.2.1 + 2) 4 > 3 by omega), cond_false, setT, idxT', leadTi1, hd, hdir, ordI]
end Go.Proofs.Ytknkkaimbhojpaa

open Go Go.Abs Go.Proofs
set_option linter.unusedSimpArgs false
set_option linter.unusedVariables false
namespace Go.Proofs.Ytknkkaimbhojpaa
def tailO (ps : List Part) (o1 o2 o3 : Int) (cs : List Int) (ms : List Mo) : Res := bif organM (o1, o2, o3, cs, ms) != 0 then errR 50 else orgRw (o1, o2, o3, cs, ms)
theorem fold_len (q : Q4) : ∀ (l : List Ti) (cs : List Int), (l.foldl (setT q) cs).length = cs.length
  | [], _ => rfl
  | t :: l, cs => by rw [List.foldl_cons, fold_len q l]; simp [setT]
theorem oAsm_L5_spec (F : Nat) (hF : 700 ≤ F) (ps : List Part) (ls : List Lead) (hfull : rigFull ps ls = true) (he : ∀ l ∈ ls, endsB (outM ps l.1 l.2.1) (outM ps l.2.2.1 l.2.2.2.1) l.2.2.2.2 = true) (q : Q4) (hq : frOk q = true) (z1 z2 z3 o1 o3 : Int) (y1 : List Int) (y2 ms : List Mo) (hms : ms.length < 9223372036854775807) : ∀ (n f k : Nat) (cs : List Int), k + n = ls.length → n < f → cs.length = areaQ q → (leadsTi ps (ls.drop k) k).all (inF q) = true →
    oAsm_L5 F f ls ls.length k ps ls z1 z2 z3 o1 (q.2.2.1 - q.1 + 1) o3 q.1 q.2.1 y1 y2 cs ms = tailO ps o1 (q.2.2.1 - q.1 + 1) o3 ((leadsTi ps (ls.drop k) k).foldl (setT q) cs) ms
  | n, 0, k, cs, _, h, _, _ => by omega
  | 0, f + 1, k, cs, hk, _, hcs, _ => by
    have hA := area_ok hq
    have ok : oVOk (o1, (q.2.2.1 - q.1 + 1), o3, cs, ms) = true := decide_eq_true ⟨by rw [hcs, areaQ]; omega, hms⟩
    rw [oAsm_L5_succ, ltF (by omega), drop_len ls (by omega), ok]
    rfl
  | n + 1, f + 1, k, cs, hk, hf, hcs, hin => by
    have hkl : k < ls.length := by omega
    have hmem := nth_mem l0 ls hkl
    have hfi := lead_fine hfull _ hmem
    have h0 := hfull
    simp only [rigFull, Bool.and_eq_true, decide_eq_true_eq] at h0
    have hgo := List.all_eq_true.1 (leadGood_all hfull) _ hmem
    simp only [leadGood, Bool.and_eq_true] at hgo
    rw [drop_nth l0 ls hkl] at hin ⊢
    simp only [leadsTi, List.all_append, Bool.and_eq_true] at hin
    have ih := oAsm_L5_spec F hF ps ls hfull he q hq z1 z2 z3 o1 o3 y1 y2 ms hms n f (k + 1) ((leadTi ps (nth l0 ls k) k (nth l0 ls k).2.2.2.2.length 0).foldl (setT q) cs) (by omega) (by omega) (by rw [fold_len]; exact hcs) hin.2
    have l6 := oAsm_L6_spec F f ps ls q hq z1 z2 z3 o1 o3 y1 y2 ms (nth l0 ls k) hfi.1 hfi.2 hgo.2.2 (he _ hmem) k (by omega) (nth l0 ls k).2.2.2.2.length F 0 cs (by omega) (by omega) hcs hin.1
    have e0 : nth (0, 0, 0, 0, []) ls k = nth l0 ls k := rfl
    rw [oAsm_L5_succ, ltT hkl, nnT, Int.toNat_natCast, e0]
    simp only [leadsTi, List.foldl_append]
    refine Eq.trans (?_ : _ = _) (l6.trans ih)
    rfl
theorem oAsm_L3_spec (F : Nat) (hF : 700 ≤ F) (ps : List Part) (ls : List Lead) (hFl : ls.length < F) (hfull : rigFull ps ls = true) (he : ∀ l ∈ ls, endsB (outM ps l.1 l.2.1) (outM ps l.2.2.1 l.2.2.2.1) l.2.2.2.2 = true) (q : Q4) (hq : frOk q = true) (z1 z2 z3 o1 o3 : Int) (y1 : List Int) (y2 ms : List Mo) (hms : ms.length < 9223372036854775807) : ∀ (n f k : Nat) (cs : List Int), k + n = ps.length → n < f → cs.length = areaQ q → (partsTi (ps.drop k) k ++ leadsTi ps ls 0).all (inF q) = true →
    oAsm_L3 F f ps ps.length k ps ls z1 z2 z3 o1 (q.2.2.1 - q.1 + 1) o3 q.1 q.2.1 y1 y2 cs ms = tailO ps o1 (q.2.2.1 - q.1 + 1) o3 ((partsTi (ps.drop k) k ++ leadsTi ps ls 0).foldl (setT q) cs) ms
  | n, 0, k, cs, _, h, _, _ => by omega
  | 0, f + 1, k, cs, hk, _, hcs, hin => by
    rw [drop_len ps (by omega)] at hin ⊢
    simp only [partsTi, List.nil_append] at hin ⊢
    have l5 := oAsm_L5_spec F hF ps ls hfull he q hq z1 z2 z3 o1 o3 y1 y2 ms hms ls.length F 0 cs (by omega) hFl hcs (by rw [List.drop_zero]; exact hin)
    rw [List.drop_zero] at l5
    rw [oAsm_L3_succ, ltF (by omega)]
    exact l5
  | n + 1, f + 1, k, cs, hk, hf, hcs, hin => by
    have hkl : k < ps.length := by omega
    have h0 := hfull
    simp only [rigFull, Bool.and_eq_true, decide_eq_true_eq] at h0
    have hpl := parts_len h0.1
    have hfp := parts_fine h0.1 _ (nth_mem p0 ps hkl)
    have hle := hfp.le
    rw [drop_nth p0 ps hkl] at hin ⊢
    simp only [partsTi, List.append_assoc] at hin ⊢
    rw [List.all_append, Bool.and_eq_true] at hin
    have ih := oAsm_L3_spec F hF ps ls hFl hfull he q hq z1 z2 z3 o1 o3 y1 y2 ms hms n f (k + 1) ((partTi (nth p0 ps k) k (nth p0 ps k).2.2.2.1.length 0).foldl (setT q) cs) (by omega) (by omega) (by rw [fold_len]; exact hcs) hin.2
    have l4 := oAsm_L4_spec F f ps ls q hq z1 z2 z3 o1 o3 y1 y2 ms (nth p0 ps k) hfp k (by omega) (nth p0 ps k).2.2.2.1.length F 0 cs (by omega) (by omega) hcs hin.1
    have e0 : nth (0, 0, 0, [], [], 0, 0) ps k = nth p0 ps k := rfl
    rw [oAsm_L3_succ, ltT hkl, nnT, Int.toNat_natCast, e0, List.foldl_append]
    refine Eq.trans (?_ : _ = _) (l4.trans ih)
    rfl
theorem fold_ow (ps : List Part) (ls : List Lead) (q : Q4) : (owE (allEnts ps ls)).foldl (fun q p => frP q p.1) q = (allTi ps ls).foldl frStep q := by
  have key : ∀ (l : List ET), (∀ b ∈ l, b.1.1 = (b.2.1, b.2.2.1)) → ∀ q, (owE (l.map Prod.fst)).foldl (fun q p => frP q p.1) q = (l.map Prod.snd).foldl frStep q := by
    intro l
    induction l with
    | nil => intro _ q; rfl
    | cons b l ih =>
      intro h q
      have hb := h b List.mem_cons_self
      have := ih (fun x hx => h x (List.mem_cons_of_mem _ hx)) (frP q b.1.1)
      show (owE (l.map Prod.fst)).foldl (fun q p => frP q p.1) (frP q b.1.1) = (l.map Prod.snd).foldl frStep (frStep q b.2)
      rw [this, frStep_P, hb]
  have hok : ∀ b ∈ allBoth ps ls, b.1.1 = (b.2.1, b.2.2.1) := by
    have h1 : ∀ (p : Part) (k n i : Nat), ∀ b ∈ bothP p k n i, b.1.1 = (b.2.1, b.2.2.1) := by
      intro p k n
      induction n with
      | zero => intro i b h; simp [bothP] at h
      | succ n ih =>
        intro i b h
        rcases List.mem_cons.1 h with rfl | h
        · rfl
        · exact ih (i + 1) b h
    have h2 : ∀ (l : List Part) (k : Nat), ∀ b ∈ bothsP l k, b.1.1 = (b.2.1, b.2.2.1) := by
      intro l
      induction l with
      | nil => intro k b h; simp [bothsP] at h
      | cons p l ih =>
        intro k b h
        rcases List.mem_append.1 h with h | h
        · exact h1 _ _ _ _ b h
        · exact ih (k + 1) b h
    have h3 : ∀ (l : Lead) (k n i : Nat), ∀ b ∈ bothL ps l k n i, b.1.1 = (b.2.1, b.2.2.1) := by
      intro p k n
      induction n with
      | zero => intro i b h; simp [bothL] at h
      | succ n ih =>
        intro i b h
        rcases List.mem_cons.1 h with rfl | h
        · rfl
        · exact ih (i + 1) b h
    have h4 : ∀ (l : List Lead) (k : Nat), ∀ b ∈ bothsL ps l k, b.1.1 = (b.2.1, b.2.2.1) := by
      intro l
      induction l with
      | nil => intro k b h; simp [bothsL] at h
      | cons p l ih =>
        intro k b h
        rcases List.mem_append.1 h with h | h
        · exact h3 _ _ _ _ b h
        · exact ih (k + 1) b h
    intro b h
    rcases List.mem_append.1 h with h | h
    · exact h2 _ _ b h
    · exact h4 _ _ b h
  have := key (allBoth ps ls) hok q
  rw [both_fst, both_snd] at this
  exact this
def oAsmOk : Rig → Bool := rigOk
def oAsmM : Rig → Asm := asmM
def oAsmFu : Rig → Nat := fun (ps, ls) => (allEnts ps ls).length + ps.length + ls.length + 700
theorem organ_wide {k w h : Int} {cs : List Int} {ms : List Mo} (hw : w > 24 ∨ h > 24) : (organM (k, w, h, cs, ms) != 0) = true := by
  have : organB k w h cs ms = false := by
    simp only [organB, shapeB]
    rw [show decide (1 ≤ w ∧ w ≤ 24 ∧ 1 ≤ h ∧ h ≤ 24 ∧ (cs.length : Int) = w * h) = false from decide_eq_false (by omega)]
    simp
  simp only [organM, this, cond_false]; rfl
def asmTailW (ps : List Part) (ls : List Lead) : Res :=
  bif closedR ps ls (allTi ps ls) (frameOf (allTi ps ls)) then errR 55 else bif organM (rigO ps ls) != 0 then errR 50 else orgRw (rigO ps ls)
theorem oAsm_tail {F : Nat} (hF : 700 ≤ F) {ps : List Part} {ls : List Lead} (hFl : (allEnts ps ls).length + ps.length + ls.length < F) (hp : partsB ps = true) (hb : leadsB ps [] ls = true) (hlay : (layM (ps, ls)).2.2 = true) :
    oAsm_L0 F F (ls.foldl ledAdd []) ps ls 0 0 0 1048576 1048576 (-1) (-1) (layM (ps, ls)).1 [] [] [] = asmTailW ps ls ∧ (layM (ps, ls)).1.isEmpty = false := by
  have hfull := full_of hp hb
  have hlen := allTi_len hfull
  have htiny := tiny_all hfull
  have hfr := frame_ok hlen.1 htiny
  have hbl := builtO_len (ls := ls) (l := allTi ps ls) hp hfr
  have hq0 := of_decide_eq_true hfr
  have hcl := closed_lay hp hb
  have hpl := parts_len hp
  have hlay2 : ((layGo [] (allEnts ps ls)).2 && (owE (layGo [] (allEnts ps ls)).1).all (nbOk ps ls (owE (layGo [] (allEnts ps ls)).1) (noE (layGo [] (allEnts ps ls)).1))) = true := hlay
  rw [hlay2] at hcl
  have hgo : (layGo [] (allEnts ps ls)).2 = true := by simp only [Bool.and_eq_true] at hlay2; exact hlay2.1
  have how : (layM (ps, ls)).1 = owE (allEnts ps ls) := by
    show owE (layGo [] (allEnts ps ls)).1 = _
    rw [layGo_whole _ _ hgo, List.nil_append]
  rw [how]
  have hel : (allEnts ps ls).length = (allTi ps ls).length := by rw [← both_fst, ← both_snd, List.length_map, List.length_map]
  refine ⟨?_, by
    cases h : owE (allEnts ps ls) with
    | nil => have := congrArg List.length h; simp only [owE, List.length_map, List.length_nil] at this; omega
    | cons => rfl⟩
  have a0 := oAsm_L0_spec F ps ls (ls.foldl ledAdd []) hp (owE (allEnts ps ls)).length F (owE (allEnts ps ls)) [] (1048576, 1048576, -1, -1) rfl (by simp [owE]; omega)
  rw [fold_ow, frame_big hlen.1 htiny] at a0
  refine a0.trans ?_
  generalize hfq : frameOf (allTi ps ls) = q at *
  have hd := led_ld (ps := ps) ls [] [] Ld.nil
  rw [List.nil_append] at hd
  show oAsm_L1 F F (ls.foldl ledAdd []) ps ps.length 0 ps ls 0 0 0 q.1 q.2.1 q.2.2.1 q.2.2.2 (nth p0 ps 0).1 (IntKind.wrap IntKind.i64 (IntKind.wrap IntKind.i64 (q.2.2.1 - q.1) + 1)) (IntKind.wrap IntKind.i64 (IntKind.wrap IntKind.i64 (q.2.2.2 - q.2.1) + 1)) [] [] [] [] = _
  rw [wrap_id (n := q.2.2.1 - q.1) (by omega) (by omega), wrap_id (n := q.2.2.2 - q.2.1) (by omega) (by omega), wrap_id (n := q.2.2.1 - q.1 + 1) (by omega) (by omega), wrap_id (n := q.2.2.2 - q.2.1 + 1) (by omega) (by omega)]
  have a1 := oAsm_L1_spec F (by omega) ps ls (ls.foldl ledAdd []) hd q hfr 0 0 0 (nth p0 ps 0).1 (q.2.2.1 - q.1 + 1) (q.2.2.2 - q.2.1 + 1) ⟨by omega, by omega⟩ [] [] hp ps.length F 0 [] (by omega) (by omega) (by simp; omega)
  refine a1.trans ?_
  simp only [asmTailW, closedR, hcl, Bool.not_true, Bool.false_or, hfq, List.nil_append]
  cases anyFrom (partIn ps ls q) ps.length 0 with
  | true => rfl
  | false =>
    simp only [cond_false, tailA]
    have hro : rigO ps ls = ((nth p0 ps 0).1, q.2.2.1 - q.1 + 1, q.2.2.2 - q.2.1 + 1, (allTi ps ls).foldl (setT q) (List.replicate (areaQ q) 0), openAll ps ls q ps.length 0) := by simp only [rigO, hfq, builtO]
    by_cases h2 : q.2.2.1 - q.1 + 1 > 24
    · have hw := organ_wide (k := (nth p0 ps 0).1) (h := q.2.2.2 - q.2.1 + 1) (cs := (allTi ps ls).foldl (setT q) (List.replicate (areaQ q) 0)) (ms := openAll ps ls q ps.length 0) (Or.inl h2)
      rw [hro, hw, decide_eq_true h2]; rfl
    · by_cases h3 : q.2.2.2 - q.2.1 + 1 > 24
      · have hw := organ_wide (k := (nth p0 ps 0).1) (w := q.2.2.1 - q.1 + 1) (cs := (allTi ps ls).foldl (setT q) (List.replicate (areaQ q) 0)) (ms := openAll ps ls q ps.length 0) (Or.inr h3)
        rw [hro, hw, decide_eq_false h2, decide_eq_true h3]; rfl
      · rw [decide_eq_false h2, decide_eq_false h3]
        have hin : (allTi ps ls).all (inF q) = true := by rw [← hfq]; exact frame_in
        have a3 := oAsm_L3_spec F hF ps ls (by omega) hfull (ends_of hb) q hfr 0 0 0 (nth p0 ps 0).1 (q.2.2.2 - q.2.1 + 1) [] [] (openAll ps ls q ps.length 0) hbl.2 ps.length F 0 (List.replicate (areaQ q) 0) (by omega) (by omega) (by rw [List.length_replicate]) (by rw [List.drop_zero]; exact hin)
        rw [List.drop_zero] at a3
        refine Eq.trans (?_ : _ = _) (a3.trans ?_)
        · rfl
        · rw [hro]; rfl
theorem oAsm_ret (z : Rig) (h : oAsmOk z = true) : Ret oAsm_re oAsm_R (oAsm_run (oAsmFu z) z) (oAsmM z) := by
  obtain ⟨ps, ls⟩ := z
  have o1 : partsOk (ps, ls) = true := h
  refine Ret.of (r' := bif !partsB ps then errR 50 else bif !leadsB ps [] ls then errR 56 else asmTailW ps ls) ((oAsm_arg ..).trans ((oAsm_eq ..).trans ?_)) ?_
  · rw [o1]
    show (bif true then (bif partsM (ps, ls) != 0 then errR (partsM (ps, ls)) else _) else _) = _
    simp only [partsM]
    cases hp : partsB ps with
    | false => rfl
    | true =>
      have o2 : oLeadsOk (ps, ls) = true := by show (rigOk (ps, ls) && partsB ps) = true; rw [show rigOk (ps, ls) = true from h, hp]; rfl
      rw [o2]
      simp only [oLeadsM]
      cases hb : leadsB ps [] ls with
      | false => rfl
      | true =>
        have o3 : layOk (ps, ls) = true := full_of hp hb
        rw [o3]
        show (bif !(layM (ps, ls)).2.2 then errR 55 else bif !(layM (ps, ls)).1.isEmpty then oAsm_L0 (oAsmFu (ps, ls)) (oAsmFu (ps, ls)) (ls.foldl ledAdd []) ps ls 0 0 0 1048576 1048576 (-1) (-1) (layM (ps, ls)).1 [] [] [] else _) = asmTailW ps ls
        cases hlay : (layM (ps, ls)).2.2 with
        | false =>
          have hcl := closed_lay hp hb
          have : ((layGo [] (allEnts ps ls)).2 && (owE (layGo [] (allEnts ps ls)).1).all (nbOk ps ls (owE (layGo [] (allEnts ps ls)).1) (noE (layGo [] (allEnts ps ls)).1))) = false := hlay
          rw [this] at hcl
          simp only [asmTailW, closedR, hcl, Bool.not_false, Bool.true_or, cond_true]
        | true =>
          obtain ⟨t1, t2⟩ := oAsm_tail (F := oAsmFu (ps, ls)) (by simp only [oAsmFu]; omega) (by simp only [oAsmFu]; omega) hp hb hlay
          rw [t1, t2]; rfl
  · simp only [oAsmM, asmM]
    cases partsB ps
    · exact Ret.errR
    · cases leadsB ps [] ls
      · exact Ret.errR
      · simp only [Bool.not_true, cond_false, asmTailW]
        cases closedR ps ls (allTi ps ls) (frameOf (allTi ps ls))
        · simp only [cond_false]
          cases organM (rigO ps ls) != 0
          · exact Ret.orgRw
          · exact Ret.errR
        · exact Ret.errR
end Go.Proofs.Ytknkkaimbhojpaa

open Go Go.Abs Go.Proofs
set_option linter.unusedVariables false
namespace Go.Proofs.Ytknkkaimbhojpaa
noncomputable def tbOKL_1 : FuncId → List AV → List Blk → Res := addC 6 (tspec rAsm_sh rAsm_K rAsm_re rAsm_R rAsmOk rAsmM) tbOK
theorem tabOKL_1 : Tab Try.prog tbOKL_1 cxMd tbKOK := Tab.addTy tabOK tabOK (KK := rAsm_K) (R := rAsm_R) (fn := Try.f6) (by kernel_rfl) (by kernel_rfl) (by kernel_rfl) (by kernel_rfl) _ rAsmFu rAsm_ret
noncomputable def tbOKL_2 : FuncId → List AV → List Blk → Res := addC 7 (tspec oAsm_sh oAsm_K oAsm_re oAsm_R oAsmOk oAsmM) tbOKL_1
theorem tabOKL_2 : Tab Try.prog tbOKL_2 cxMd tbKOK := Tab.addTy tabOKL_1 tabOK (KK := oAsm_K) (R := oAsm_R) (fn := Try.f7) (by kernel_rfl) (by kernel_rfl) (by kernel_rfl) (by kernel_rfl) _ oAsmFu oAsm_ret
noncomputable def tbOKB : FuncId → List AV → List Blk → Res := tbOKL_2
noncomputable def tbKOKB : KT := tbKOK
theorem tabOKB : Tab Try.prog tbOKB cxMd tbKOKB := tabOKL_2
end Go.Proofs.Ytknkkaimbhojpaa
