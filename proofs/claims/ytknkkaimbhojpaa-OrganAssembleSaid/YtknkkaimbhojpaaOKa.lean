/- Plain laws of rigs: what has passed; parts and leads as tiles and as entries; what clashes is what lay does not let in; the frame. -/
import Derived.Test.YtknkkaimbhojpaaOJLa
set_option linter.all false
set_option linter.unusedVariables false
set_option linter.unusedSimpArgs false
open Go Go.Abs Go.Proofs
set_option linter.unusedSimpArgs false
set_option linter.unusedVariables false
namespace Go.Proofs.Ytknkkaimbhojpaa
/-! ### rigs that have passed -/
theorem mos_short {ps : List Part} (hp : partsB ps = true) : ps.all mosLe = true := by
  refine List.all_eq_true.2 fun p hm => ?_
  simp only [partsB, Bool.and_eq_true] at hp
  have h := List.all_eq_true.1 hp.2 p hm
  simp only [partOk, Bool.and_eq_true] at h
  have hM := of_decide_eq_true h.2.1
  simp only [organM, organOf] at hM
  cases hb : organB p.1 p.2.1 p.2.2.1 p.2.2.2.1 p.2.2.2.2.1 with
  | false => rw [hb] at hM; simp at hM
  | true =>
    simp only [organB, Bool.and_eq_true] at hb
    have := of_decide_eq_true hb.2.2.2
    have hc := cnt_le p.2.2.2.2.1
    exact decide_eq_true (by show (p.2.2.2.2.1).length ≤ 8; omega)
structure LeadOk (ps : List Part) (l : Lead) : Prop where
  m1 : hasMo ps l.1 l.2.1 = true
  m2 : hasMo ps l.2.2.1 l.2.2.2.1 = true
  path : pathB (outM ps l.1 l.2.1) (outM ps l.2.2.1 l.2.2.2.1) l.2.2.2.2 = true
theorem leads_ok {ps : List Part} : ∀ (r pre : List Lead), leadsB ps pre r = true → ∀ l ∈ r, LeadOk ps l
  | [], _, _, l, h => by simp at h
  | x :: r, pre, hb, l, h => by
    simp only [leadsB, Bool.and_eq_true] at hb
    rcases List.mem_cons.1 h with rfl | h
    · have := hb.1
      simp only [leadB, isMo, Bool.and_eq_true] at this
      exact ⟨this.1.1, this.2.1.1, this.2.2.2.2⟩
    · exact leads_ok r _ hb.2 l h
def codeL (l : Lead) : Nat := (l.1 * 8 + l.2.1).toNat
theorem mo_small {ps : List Part} (hp : partsB ps = true) {i k : Int} (h : hasMo ps i k = true) : 0 ≤ i ∧ i < 16 ∧ 0 ≤ k ∧ k < 8 := by
  have h := of_decide_eq_true h
  have := parts_len hp
  have h8 := mosLe_at (mos_short hp) (show i.toNat < ps.length by omega)
  rw [show nth p0 ps i.toNat = partAt ps i from rfl] at h8
  omega
theorem code_inj {ps : List Part} (hp : partsB ps = true) {l m : Lead} (hl : LeadOk ps l) (hm : LeadOk ps m) (h : codeL l = codeL m) : m.1 = l.1 ∧ m.2.1 = l.2.1 := by
  have a := mo_small hp hl.m1
  have b := mo_small hp hm.m1
  simp only [codeL] at h
  omega
theorem leads_nodup {ps : List Part} (hp : partsB ps = true) : ∀ (r pre : List Lead), leadsB ps pre r = true → (∀ m ∈ pre, LeadOk ps m) → (r.map codeL).Nodup ∧ ∀ l ∈ r, ∀ m ∈ pre, codeL l ≠ codeL m
  | [], _, _, _ => ⟨List.nodup_nil, fun l h => by simp at h⟩
  | x :: r, pre, hb, hpre => by
    have hok := leads_ok (x :: r) pre hb x List.mem_cons_self
    simp only [leadsB, Bool.and_eq_true] at hb
    obtain ⟨n1, n2⟩ := leads_nodup hp r (pre ++ [x]) hb.2 fun m hm => by
      rcases List.mem_append.1 hm with hm | hm
      · exact hpre m hm
      · rw [List.mem_singleton.1 hm]; exact hok
    refine ⟨?_, fun l hl m hm => ?_⟩
    · rw [List.map_cons, List.nodup_cons]
      refine ⟨fun hx => ?_, n1⟩
      obtain ⟨y, hy, he⟩ := List.mem_map.1 hx
      exact n2 y hy x (by simp) he
    · rcases List.mem_cons.1 hl with rfl | hl
      · intro he
        have hb1 := hb.1
        simp only [leadB, Bool.and_eq_true, Bool.not_eq_true'] at hb1
        obtain ⟨e1, e2⟩ := code_inj hp hok (hpre m hm) he
        have : pre.any (endAt l.1 l.2.1) = true := List.any_eq_true.2 ⟨m, hm, by simp [endAt, e1, e2]⟩
        rw [this] at hb1
        exact absurd hb1.2.2.1 (by simp)
      · exact n2 l hl m (by simp [hm])
theorem leads_few {ps : List Part} {ls : List Lead} (hp : partsB ps = true) (hb : leadsB ps [] ls = true) : ls.length ≤ 128 := by
  have h := leads_nodup hp ls [] hb (fun m hm => by simp at hm)
  have := nodup_lt 128 (ls.map codeL) h.1 fun x hx => by
    obtain ⟨l, hl, rfl⟩ := List.mem_map.1 hx
    have := mo_small hp (leads_ok ls [] hb l hl).m1
    simp only [codeL]
    omega
  rwa [List.length_map] at this
theorem full_of {ps : List Part} {ls : List Lead} (hp : partsB ps = true) (hb : leadsB ps [] ls = true) : rigFull ps ls = true := by
  have hf := leads_few hp hb
  simp only [rigFull, hp, Bool.true_and, Bool.and_eq_true]
  refine ⟨decide_eq_true (by omega), List.all_eq_true.2 fun l hl => ?_⟩
  have h := leads_ok ls [] hb l hl
  have hpa := h.path
  simp only [pathB, Bool.and_eq_true, Bool.not_eq_true', decide_eq_false_iff_not] at hpa
  have hle := pathR_le hpa.2.1
  simp only [leadFull, leadFine, leadGood, good_of hp h.m1, good_of hp h.m2, hle.1, Bool.and_true, Bool.true_and, Bool.and_eq_true, decide_eq_true_eq]
  omega
theorem ends_of {ps : List Part} {ls : List Lead} (hb : leadsB ps [] ls = true) : ∀ l ∈ ls, endsB (outM ps l.1 l.2.1) (outM ps l.2.2.1 l.2.2.2.1) l.2.2.2.2 = true := by
  intro l hl
  have hpa := (leads_ok ls [] hb l hl).path
  simp only [pathB, Bool.and_eq_true] at hpa
  exact hpa.2.2
/-! ### tiles and entries -/
def leadsTi (ps : List Part) : List Lead → Nat → List Ti
  | [], _ => []
  | l :: r, k => leadTi ps l k l.2.2.2.2.length 0 ++ leadsTi ps r (k + 1)
def allTi (ps : List Part) (ls : List Lead) : List Ti := partsTi ps 0 ++ leadsTi ps ls 0
abbrev ET := Ent × Ti
def bothP (p : Part) (k : Nat) : Nat → Nat → List ET
  | 0, _ => []
  | n + 1, i => (entP1 p k i, cellTi p k i) :: bothP p k n (i + 1)
def bothsP : List Part → Nat → List ET
  | [], _ => []
  | p :: r, k => bothP p k p.2.2.2.1.length 0 ++ bothsP r (k + 1)
def bothL (ps : List Part) (l : Lead) (k : Nat) : Nat → Nat → List ET
  | 0, _ => []
  | n + 1, i => (entL1 l k i, leadTi1 ps l k i) :: bothL ps l k n (i + 1)
def bothsL (ps : List Part) : List Lead → Nat → List ET
  | [], _ => []
  | l :: r, k => bothL ps l k l.2.2.2.2.length 0 ++ bothsL ps r (k + 1)
def allBoth (ps : List Part) (ls : List Lead) : List ET := bothsP ps 0 ++ bothsL ps ls 0
theorem bothP_fst (p : Part) (k : Nat) : ∀ n i, (bothP p k n i).map Prod.fst = entP p k n i
  | 0, _ => rfl
  | n + 1, i => by simp [bothP, entP, bothP_fst p k n (i + 1)]
theorem bothP_snd (p : Part) (k : Nat) : ∀ n i, (bothP p k n i).map Prod.snd = partTi p k n i
  | 0, _ => rfl
  | n + 1, i => by simp [bothP, partTi, bothP_snd p k n (i + 1)]
theorem bothsP_fst : ∀ (l : List Part) (k : Nat), (bothsP l k).map Prod.fst = entsP l k
  | [], _ => rfl
  | p :: r, k => by simp [bothsP, entsP, bothP_fst, bothsP_fst r (k + 1)]
theorem bothsP_snd : ∀ (l : List Part) (k : Nat), (bothsP l k).map Prod.snd = partsTi l k
  | [], _ => rfl
  | p :: r, k => by simp [bothsP, partsTi, bothP_snd, bothsP_snd r (k + 1)]
theorem bothL_fst (ps : List Part) (l : Lead) (k : Nat) : ∀ n i, (bothL ps l k n i).map Prod.fst = entL l k n i
  | 0, _ => rfl
  | n + 1, i => by simp [bothL, entL, bothL_fst ps l k n (i + 1)]
theorem bothL_snd (ps : List Part) (l : Lead) (k : Nat) : ∀ n i, (bothL ps l k n i).map Prod.snd = leadTi ps l k n i
  | 0, _ => rfl
  | n + 1, i => by simp [bothL, leadTi, bothL_snd ps l k n (i + 1)]
theorem bothsL_fst (ps : List Part) : ∀ (r : List Lead) (k : Nat), (bothsL ps r k).map Prod.fst = entsL r k
  | [], _ => rfl
  | l :: r, k => by simp [bothsL, entsL, bothL_fst, bothsL_fst ps r (k + 1)]
theorem bothsL_snd (ps : List Part) : ∀ (r : List Lead) (k : Nat), (bothsL ps r k).map Prod.snd = leadsTi ps r k
  | [], _ => rfl
  | l :: r, k => by simp [bothsL, leadsTi, bothL_snd, bothsL_snd ps r (k + 1)]
theorem both_fst (ps : List Part) (ls : List Lead) : (allBoth ps ls).map Prod.fst = allEnts ps ls := by simp [allBoth, allEnts, bothsP_fst, bothsL_fst]
theorem both_snd (ps : List Part) (ls : List Lead) : (allBoth ps ls).map Prod.snd = allTi ps ls := by simp [allBoth, allTi, bothsP_snd, bothsL_snd]
/-- What a tile's entry is. -/
def KindP (b : ET) : Prop := b.2.2.2.2.1 = -1 ∧ b.2.2.2.2.2.1 = 0 ∧ b.1.2.1 = b.2.2.2.1 ∧ 0 ≤ b.2.2.2.1 ∧ b.2.2.2.1 < 1000
def KindL (ls : List Lead) (b : ET) : Prop := ∃ k i : Nat, k < ls.length ∧ i < (nth l0 ls k).2.2.2.2.length ∧ b.2.2.2.2.1 = k ∧ b.1.2.1 = 1000 + (k : Int) ∧ b.1.2.2 = i ∧ b.2.2.2.2.2.1 = i ∧ b.1.1 = ((ceAt (nth l0 ls k).2.2.2.2 i).1, (ceAt (nth l0 ls k).2.2.2.2 i).2.1)
def PairOk (ls : List Lead) (b : ET) : Prop := b.1.1 = (b.2.1, b.2.2.1) ∧ (KindP b ∨ KindL ls b)
theorem bothP_ok (ls : List Lead) (p : Part) (k : Nat) (hk : k < 1000) : ∀ n i, ∀ b ∈ bothP p k n i, PairOk ls b
  | 0, _, b, h => by simp [bothP] at h
  | n + 1, i, b, h => by
    rcases List.mem_cons.1 h with rfl | h
    · exact ⟨rfl, .inl ⟨rfl, rfl, rfl, by show (0 : Int) ≤ (k : Int); omega, by show (k : Int) < 1000; omega⟩⟩
    · exact bothP_ok ls p k hk n (i + 1) b h
theorem bothsP_ok (ls : List Lead) : ∀ (l : List Part) (k : Nat), k + l.length ≤ 1000 → ∀ b ∈ bothsP l k, PairOk ls b
  | [], _, _, b, h => by simp [bothsP] at h
  | p :: r, k, hk, b, h => by
    simp only [List.length_cons] at hk
    rcases List.mem_append.1 h with h | h
    · exact bothP_ok ls p k (by omega) _ _ b h
    · exact bothsP_ok ls r (k + 1) (by omega) b h
theorem bothL_ok (ps : List Part) (ls : List Lead) (k : Nat) (hk : k < ls.length) : ∀ n i, i + n = (nth l0 ls k).2.2.2.2.length → ∀ b ∈ bothL ps (nth l0 ls k) k n i, PairOk ls b
  | 0, _, _, b, h => by simp [bothL] at h
  | n + 1, i, hi, b, h => by
    rcases List.mem_cons.1 h with rfl | h
    · exact ⟨rfl, .inr ⟨k, i, hk, by omega, rfl, rfl, rfl, rfl, rfl⟩⟩
    · exact bothL_ok ps ls k hk n (i + 1) (by omega) b h
theorem bothsL_ok (ps : List Part) (ls : List Lead) : ∀ (n k : Nat), k + n = ls.length → ∀ b ∈ bothsL ps (ls.drop k) k, PairOk ls b
  | 0, k, hk, b, h => by rw [drop_len ls (by omega)] at h; simp [bothsL] at h
  | n + 1, k, hk, b, h => by
    rw [drop_nth l0 ls (by omega)] at h
    rcases List.mem_append.1 h with h | h
    · exact bothL_ok ps ls k (by omega) _ _ (by omega) b h
    · exact bothsL_ok ps ls n (k + 1) (by omega) b h
theorem both_ok {ps : List Part} {ls : List Lead} (hp : partsB ps = true) : ∀ b ∈ allBoth ps ls, PairOk ls b := by
  intro b h
  have hl := parts_len hp
  rcases List.mem_append.1 h with h | h
  · exact bothsP_ok ls ps 0 (by omega) b h
  · exact bothsL_ok ps ls ls.length 0 (by omega) b (by rw [List.drop_zero]; exact h)
/-! ### neighbours -/
theorem dXn (d : Nat) : dX (d : Int) = nth 0 [1, 0, -1, 0] d := by simp only [dX, Int.toNat_natCast]
theorem dYn (d : Nat) : dY (d : Int) = nth 0 [0, -1, 0, 1] d := by simp only [dY, Int.toNat_natCast]
theorem nx0 (s : Int × Int) : nextP s 0 = (s.1 + 1, s.2 + 0) := rfl
theorem nx1 (s : Int × Int) : nextP s 1 = (s.1 + 0, s.2 + -1) := rfl
theorem nx2 (s : Int × Int) : nextP s 2 = (s.1 + -1, s.2 + 0) := rfl
theorem nx3 (s : Int × Int) : nextP s 3 = (s.1 + 0, s.2 + 1) := rfl
theorem dir_next {s t : Int × Int} (h : 0 ≤ dirOf s.1 s.2 t.1 t.2) : ∃ d : Nat, d < 4 ∧ t = nextP s d := by
  simp only [dirOf, Bool.cond_decide] at h
  by_cases a1 : t.1 = s.1 + 1 ∧ t.2 = s.2
  · exact ⟨0, by omega, by rw [nx0]; exact Prod.ext (by show t.1 = s.1 + 1; omega) (by show t.2 = s.2 + 0; omega)⟩
  by_cases a2 : t.1 = s.1 ∧ t.2 = s.2 - 1
  · exact ⟨1, by omega, by rw [nx1]; exact Prod.ext (by show t.1 = s.1 + 0; omega) (by show t.2 = s.2 + -1; omega)⟩
  by_cases a3 : t.1 = s.1 - 1 ∧ t.2 = s.2
  · exact ⟨2, by omega, by rw [nx2]; exact Prod.ext (by show t.1 = s.1 + -1; omega) (by show t.2 = s.2 + 0; omega)⟩
  by_cases a4 : t.1 = s.1 ∧ t.2 = s.2 + 1
  · exact ⟨3, by omega, by rw [nx3]; exact Prod.ext (by show t.1 = s.1 + 0; omega) (by show t.2 = s.2 + 1; omega)⟩
  · simp only [a1, a2, a3, a4, if_false] at h
    omega
theorem next_dir {s : Int × Int} {d : Nat} (hd : d < 4) : 0 ≤ dirOf s.1 s.2 (nextP s d).1 (nextP s d).2 := by
  have e : d = 0 ∨ d = 1 ∨ d = 2 ∨ d = 3 := by omega
  rcases e with rfl | rfl | rfl | rfl
  · rw [nx0]; simp only [dirOf, Bool.cond_decide]; rw [if_pos (by simp)]; omega
  · rw [nx1]; simp only [dirOf, Bool.cond_decide]; rw [if_neg (by omega), if_pos (by omega)]; omega
  · rw [nx2]; simp only [dirOf, Bool.cond_decide]; rw [if_neg (by omega), if_neg (by omega), if_pos (by omega)]; omega
  · rw [nx3]; simp only [dirOf, Bool.cond_decide]; rw [if_neg (by omega), if_neg (by omega), if_neg (by omega), if_pos (by simp)]; omega
theorem dir_turn {s t : Int × Int} (h : 0 ≤ dirOf s.1 s.2 t.1 t.2) : 0 ≤ dirOf t.1 t.2 s.1 s.2 := by
  simp only [dirOf, Bool.cond_decide] at h ⊢
  by_cases a1 : t.1 = s.1 + 1 ∧ t.2 = s.2
  · rw [if_neg (by omega), if_neg (by omega), if_pos (by omega)]; omega
  by_cases a2 : t.1 = s.1 ∧ t.2 = s.2 - 1
  · rw [if_neg (by omega), if_neg (by omega), if_neg (by omega), if_pos (by omega)]; omega
  by_cases a3 : t.1 = s.1 - 1 ∧ t.2 = s.2
  · rw [if_pos (by omega)]; omega
  by_cases a4 : t.1 = s.1 ∧ t.2 = s.2 + 1
  · rw [if_neg (by omega), if_pos (by omega)]; omega
  · simp only [a1, a2, a3, a4, if_false] at h
    omega
theorem next_ne {s : Int × Int} {d : Nat} (hd : d < 4) : nextP s d ≠ s := by
  intro e
  have e1 := congrArg Prod.fst e
  have e2 := congrArg Prod.snd e
  have e : d = 0 ∨ d = 1 ∨ d = 2 ∨ d = 3 := by omega
  rcases e with rfl | rfl | rfl | rfl <;> simp only [nextP, dXn, dYn, nth] at e1 e2 <;> omega
theorem mayB_turn (ps : List Part) (ls : List Lead) (no : PMap) (s : Int × Int) (a : Int) (t : Int × Int) (b : Int) : mayB ps ls no s a t b = mayB ps ls no t b s a := by
  simp only [mayB]
  by_cases ha : a < 1000 <;> by_cases hb : b < 1000 <;> simp only [ha, hb, decide_true, decide_false, cond_true, cond_false]
  · exact decide_eq_decide.2 eq_comm
  · rw [Bool.or_comm, show decide (a = b) = decide (b = a) from decide_eq_decide.2 eq_comm]
theorem outM_cell (ps : List Part) (p m : Int) : outM ps p m = ((cellM ps p m).1 + dX (moAt ps p m).2.2.1, (cellM ps p m).2 + dY (moAt ps p m).2.2.1) := rfl
theorem mayEnd_eq {ps : List Part} {p m q a nt : Int} {s t : Int × Int} (h : nt = q → t = outM ps p m) : mayEnd ps (p, m, q) a nt s t = (decide (nt = q) && (decide (a = p) && atCell (cellM ps p m) s.1 s.2)) := by
  simp only [mayEnd, nearMo, atCell, besideT]
  by_cases e1 : nt = q
  · by_cases e2 : p = a
    · subst e2
      by_cases e3 : s.1 = (cellM ps p m).1
      · by_cases e4 : s.2 = (cellM ps p m).2
        · have ht := h e1
          rw [outM_cell] at ht
          rw [ht]
          simp [e1, e3, e4]
        · simp [e1, e3, e4]
      · simp [e1, e3]
    · simp [e1, e2, show ¬ a = p from fun e => e2 e.symm]
  · simp [e1]
theorem mayPL_joint {ps : List Part} {l : Lead} (he : endsB (outM ps l.1 l.2.1) (outM ps l.2.2.1 l.2.2.2.1) l.2.2.2.2 = true) {i : Nat} (hi : i < l.2.2.2.2.length) (a : Int) (s : Int × Int) :
    mayPL ps l a i s ((ceAt l.2.2.2.2 i).1, (ceAt l.2.2.2.2 i).2.1) = jointB ps l i a s.1 s.2 := by
  simp only [endsB, atP, Bool.and_eq_true, decide_eq_true_eq] at he
  simp only [mayPL, jointB, jointA, jointZ]
  rw [mayEnd_eq (fun e => ?_), mayEnd_eq (fun e => ?_)]
  · have : i = l.2.2.2.2.length - 1 := by omega
    rw [this]
    exact Prod.ext he.2.1 he.2.2
  · have : i = 0 := by omega
    rw [this]
    exact Prod.ext he.1.1 he.1.2
/-- Neighbours may be neighbours, or clash. -/
theorem may_clash {ps : List Part} {ls : List Lead} (he : ∀ l ∈ ls, endsB (outM ps l.1 l.2.1) (outM ps l.2.2.1 l.2.2.2.1) l.2.2.2.2 = true) {no : PMap} {x y : ET} (hx : PairOk ls x) (hy : PairOk ls y) (nx : atM no x.1.1 = x.1.2.2) (ny : atM no y.1.1 = y.1.2.2)
    (hd : 0 ≤ dirOf x.1.1.1 x.1.1.2 y.1.1.1 y.1.1.2) (hne : x.1.1 ≠ y.1.1) : mayB ps ls no x.1.1 x.1.2.1 y.1.1 y.1.2.1 = !clashT ps ls x.2 y.2 := by
  obtain ⟨px, hx⟩ := hx
  obtain ⟨py, hy⟩ := hy
  have ex1 : x.2.1 = x.1.1.1 := by rw [px]
  have ex2 : x.2.2.1 = x.1.1.2 := by rw [px]
  have ey1 : y.2.1 = y.1.1.1 := by rw [py]
  have ey2 : y.2.2.1 = y.1.1.2 := by rw [py]
  have hp : (decide (x.1.1.1 = y.1.1.1) && decide (x.1.1.2 = y.1.1.2)) = false := by
    rw [← Bool.decide_and]
    exact decide_eq_false fun e => hne (Prod.ext e.1 e.2)
  simp only [clashT, clashB, ex1, ex2, ey1, ey2, hp, cond_false, decide_eq_false (show ¬ dirOf x.1.1.1 x.1.1.2 y.1.1.1 y.1.1.2 < 0 by omega), mayB]
  rcases hx with ⟨x1, x2, x3, x4, x5⟩ | ⟨k, i, hk, hi, x1, x2, x3, x4, x5⟩ <;> rcases hy with ⟨y1, y2, y3, y4, y5⟩ | ⟨k', i', hk', hi', y1, y2, y3, y4, y5⟩
  · simp [x1, y1, x3, y3, x5, y5]
  · have hl := he _ (nth_mem l0 ls hk')
    rw [ny, y3, y2, x1, y1, x3, show (1000 + (k' : Int) - 1000).toNat = k' by omega, y4, y5, mayPL_joint hl hi']
    simp only [decide_eq_true x5, decide_eq_false (show ¬ (1000 + (k' : Int) < 1000) by omega), cond_true, cond_false, show decide ((-1 : Int) < 0) = true from rfl, decide_eq_false (show ¬ ((k' : Int) < 0) by omega), Bool.not_not, Int.toNat_natCast]
  · have hl := he _ (nth_mem l0 ls hk)
    rw [nx, x3, x2, x1, y1, y3, show (1000 + (k : Int) - 1000).toNat = k by omega, x4, x5, mayPL_joint hl hi]
    simp only [decide_eq_true y5, decide_eq_false (show ¬ (1000 + (k : Int) < 1000) by omega), cond_true, cond_false, show decide ((-1 : Int) < 0) = true from rfl, decide_eq_false (show ¬ ((k : Int) < 0) by omega), Bool.not_not, Int.toNat_natCast]
  · rw [nx, ny, x2, y2, x1, y1, x3, y3, x4, y4]
    simp only [decide_eq_false (show ¬ (1000 + (k : Int) < 1000) by omega), decide_eq_false (show ¬ (1000 + (k' : Int) < 1000) by omega), decide_eq_false (show ¬ ((k : Int) < 0) by omega), decide_eq_false (show ¬ ((k' : Int) < 0) by omega), cond_false]
    rw [show decide (1000 + (k : Int) = 1000 + (k' : Int)) = decide ((k : Int) = k') from decide_eq_decide.2 (by omega)]
    cases decide ((k : Int) = k') <;> cases decide ((i : Int) - i' = 1) <;> cases decide ((i' : Int) - i = 1) <;> rfl
/-! ### lay against closed -/
def farP (a b : Int × Int) : Prop := eqP b a = false
theorem eqP_iff {a b : Int × Int} : eqP a b = true ↔ a = b := by
  simp only [eqP, Bool.and_eq_true, decide_eq_true_eq]
  exact ⟨fun h => Prod.ext h.1 h.2, fun h => by rw [h]; exact ⟨rfl, rfl⟩⟩
theorem layGo_iff : ∀ (r pre : List Ent), (layGo pre r).2 = true ↔ (r.Pairwise (fun a b => eqP b.1 a.1 = false) ∧ ∀ e ∈ r, hasE pre e.1 = false)
  | [], pre => by simp [layGo]
  | e :: r, pre => by
    have ih := layGo_iff r (pre ++ [e])
    simp only [layGo]
    cases h : hasE pre e.1 with
    | true => simp [h]
    | false =>
      simp only [cond_false]
      rw [ih, List.pairwise_cons]
      constructor
      · rintro ⟨h1, h2⟩
        refine ⟨⟨fun b hb => ?_, h1⟩, fun x hx => ?_⟩
        · have := h2 b hb
          simp only [hasE, List.any_append, List.any_cons, List.any_nil, Bool.or_false, Bool.or_eq_false_iff] at this
          exact this.2
        · rcases List.mem_cons.1 hx with rfl | hx
          · exact h
          · have := h2 x hx
            simp only [hasE, List.any_append, Bool.or_eq_false_iff] at this
            exact this.1
      · rintro ⟨⟨h1, h2⟩, h3⟩
        refine ⟨h2, fun x hx => ?_⟩
        simp only [hasE, List.any_append, List.any_cons, List.any_nil, Bool.or_false, Bool.or_eq_false_iff]
        exact ⟨h3 x (List.mem_cons_of_mem _ hx), h1 x hx⟩
theorem layGo_whole : ∀ (r pre : List Ent), (layGo pre r).2 = true → (layGo pre r).1 = pre ++ r
  | [], pre, _ => by simp [layGo]
  | e :: r, pre, h => by
    simp only [layGo] at h ⊢
    cases hh : hasE pre e.1 with
    | true => rw [hh] at h; simp at h
    | false =>
      rw [hh] at h
      simp only [cond_false] at h ⊢
      rw [layGo_whole r _ h, List.append_assoc]; rfl
theorem closedA_iff (ps : List Part) (ls : List Lead) : ∀ (l pre : List Ti), closedA ps ls pre l = false ↔ (l.Pairwise (fun a b => clashT ps ls b a = false) ∧ ∀ t ∈ l, ∀ u ∈ pre, clashT ps ls t u = false)
  | [], pre => by simp [closedA]
  | t :: r, pre => by
    have ih := closedA_iff ps ls r (pre ++ [t])
    simp only [closedA, Bool.or_eq_false_iff]
    rw [ih, List.pairwise_cons]
    constructor
    · rintro ⟨h0, h1, h2⟩
      refine ⟨⟨fun b hb => h2 b hb t (by simp), h1⟩, fun x hx u hu => ?_⟩
      rcases List.mem_cons.1 hx with rfl | hx
      · have := List.any_eq_false.1 h0 u hu
        simpa using this
      · exact h2 x hx u (by simp [hu])
    · rintro ⟨⟨h1, h2⟩, h3⟩
      refine ⟨List.any_eq_false.2 fun u hu => by simp [h3 t (by simp) u hu], h2, fun x hx u hu => ?_⟩
      rcases List.mem_append.1 hu with hu | hu
      · exact h3 x (List.mem_cons_of_mem _ hx) u hu
      · rw [List.mem_singleton.1 hu]; exact h1 x hx
theorem at_own {f : Ent → Int} : ∀ (E : List Ent), E.Pairwise (fun a b => eqP b.1 a.1 = false) → ∀ e ∈ E, atM (E.map fun e => (e.1, f e)) e.1 = f e
  | [], _, e, h => by simp at h
  | x :: r, hp, e, h => by
    rw [List.pairwise_cons] at hp
    show (bif eqP e.1 x.1 then f x else atM (r.map fun e => (e.1, f e)) e.1) = f e
    rcases List.mem_cons.1 h with rfl | h
    · rw [eqP_iff.2 rfl]; rfl
    · rw [hp.1 e h]
      exact at_own r hp.2 e h
theorem has_ent {E : List Ent} {k : Int × Int} : hasE E k = true ↔ ∃ e ∈ E, e.1 = k := by
  simp only [hasE, List.any_eq_true, eqP_iff]
  exact ⟨fun ⟨e, h1, h2⟩ => ⟨e, h1, h2.symm⟩, fun ⟨e, h1, h2⟩ => ⟨e, h1, h2.symm⟩⟩
theorem pw_all {α : Type} {R : α → α → Prop} (hs : ∀ a b, R a b → R b a) : ∀ {l : List α}, l.Pairwise R → ∀ a ∈ l, ∀ b ∈ l, a ≠ b → R a b
  | [], _, a, ha, _, _, _ => by simp at ha
  | x :: l, hp, a, ha, b, hb, hne => by
    rw [List.pairwise_cons] at hp
    rcases List.mem_cons.1 ha with ha1 | ha1 <;> rcases List.mem_cons.1 hb with hb1 | hb1
    · exact absurd (ha1.trans hb1.symm) hne
    · rw [ha1]; exact hp.1 b hb1
    · rw [hb1]; exact hs _ _ (hp.1 a ha1)
    · exact pw_all hs hp.2 a ha1 b hb1 hne
theorem nbFrom_all (ps : List Part) (ls : List Lead) (ow no : PMap) (p : (Int × Int) × Int) : nbOk ps ls ow no p = true ↔ ∀ d, d < 4 → nb1 ps ls ow no p d = true := by
  simp only [nbOk, nbFrom, Bool.and_true, Bool.and_eq_true]
  constructor
  · rintro ⟨h0, h1, h2, h3⟩ d hd
    have e : d = 0 ∨ d = 1 ∨ d = 2 ∨ d = 3 := by omega
    rcases e with rfl | rfl | rfl | rfl <;> assumption
  · intro h
    exact ⟨h 0 (by omega), h 1 (by omega), h 2 (by omega), h 3 (by omega)⟩
theorem closed_lay {ps : List Part} {ls : List Lead} (hp : partsB ps = true) (hb : leadsB ps [] ls = true) :
    closedA ps ls [] (allTi ps ls) = !((layGo [] (allEnts ps ls)).2 && (owE (layGo [] (allEnts ps ls)).1).all (nbOk ps ls (owE (layGo [] (allEnts ps ls)).1) (noE (layGo [] (allEnts ps ls)).1))) := by
  have he := ends_of hb
  have hok := both_ok (ls := ls) hp
  have hc := closedA_iff ps ls (allTi ps ls) []
  have hg := layGo_iff (allEnts ps ls) []
  have hno : ∀ e ∈ allEnts ps ls, hasE [] e.1 = false := fun _ _ => rfl
  rw [← both_snd, List.pairwise_map] at hc
  cases hl : (layGo [] (allEnts ps ls)).2 with
  | false =>
    rw [Bool.false_and, Bool.not_false]
    cases hca : closedA ps ls [] (allTi ps ls) with
    | true => rfl
    | false =>
      rw [both_snd, hca] at hc
      have hpw := (hc.1 rfl).1
      rw [hl] at hg
      exact absurd (hg.2 ⟨by
        rw [← both_fst, List.pairwise_map]
        refine List.Pairwise.imp_of_mem (fun {a b} ha hb' hab => ?_) hpw
        cases hq : eqP b.1.1 a.1.1 with
        | false => rfl
        | true =>
          have hq := eqP_iff.1 hq
          have h1 := (hok a ha).1
          have h2 := (hok b hb').1
          rw [hq, h1] at h2
          have e1 : b.2.1 = a.2.1 := (congrArg Prod.fst h2).symm
          have e2 : b.2.2.1 = a.2.2.1 := (congrArg Prod.snd h2).symm
          simp only [clashT, clashB, e1, e2, decide_true, Bool.and_self, cond_true] at hab
          exact absurd hab (by simp), hno⟩) (by simp)
  | true =>
    rw [Bool.true_and, layGo_whole _ _ hl, List.nil_append]
    have hdist := (hg.1 hl).1
    have a1 : ∀ e ∈ allEnts ps ls, atM (owE (allEnts ps ls)) e.1 = e.2.1 := at_own (f := fun e => e.2.1) _ hdist
    have a2 : ∀ e ∈ allEnts ps ls, atM (noE (allEnts ps ls)) e.1 = e.2.2 := at_own (f := fun e => e.2.2) _ hdist
    have hdB : (allBoth ps ls).Pairwise (fun a b => eqP b.1.1 a.1.1 = false) := by
      have := hdist
      rw [← both_fst, List.pairwise_map] at this
      exact this
    have mem1 : ∀ b ∈ allBoth ps ls, b.1 ∈ allEnts ps ls := fun b hb => by rw [← both_fst]; exact List.mem_map_of_mem hb
    have hiff : closedA ps ls [] (allTi ps ls) = false ↔ (owE (allEnts ps ls)).all (nbOk ps ls (owE (allEnts ps ls)) (noE (allEnts ps ls))) = true := by
      rw [← both_snd, hc, List.all_eq_true]
      constructor
      · rintro ⟨hpw, _⟩ p hpm
        obtain ⟨e, hem, rfl⟩ := List.mem_map.1 hpm
        rw [← both_fst] at hem
        obtain ⟨x, hxm, rfl⟩ := List.mem_map.1 hem
        refine (nbFrom_all ..).2 fun d hd => ?_
        simp only [nb1]
        cases hh : hasM K2 (owE (allEnts ps ls)) (nextP x.1.1 d : Int × Int) with
        | false => rfl
        | true =>
          rw [has_ow] at hh
          obtain ⟨e', he', hk⟩ := has_ent.1 hh
          rw [← both_fst] at he'
          obtain ⟨y, hym, rfl⟩ := List.mem_map.1 he'
          have hne : x.1.1 ≠ y.1.1 := fun e => next_ne hd (hk ▸ e.symm)
          have hdir : 0 ≤ dirOf x.1.1.1 x.1.1.2 y.1.1.1 y.1.1.2 := by rw [hk]; exact next_dir hd
          -- symmetric relation
          have hsym := pw_all (R := fun a b : ET => 0 ≤ dirOf a.1.1.1 a.1.1.2 b.1.1.1 b.1.1.2 → mayB ps ls (noE (allEnts ps ls)) a.1.1 a.1.2.1 b.1.1 b.1.2.1 = true)
            (fun a b h hd' => by rw [mayB_turn]; exact h (dir_turn hd'))
            (l := allBoth ps ls) (List.Pairwise.imp_of_mem (fun {a b} ha hb' hab hd' => by
              obtain ⟨hab1, hab2⟩ := hab
              have hne' : b.1.1 ≠ a.1.1 := fun e => by rw [eqP_iff.2 e] at hab1; cases hab1
              have := may_clash he (hok b hb') (hok a ha) (a2 _ (mem1 b hb')) (a2 _ (mem1 a ha)) (dir_turn hd') hne'
              rw [mayB_turn]
              exact this.trans (by rw [hab2]; rfl)) (hdB.and hpw)) x hxm y hym (fun e => hne (by rw [e]))
          have hm := hsym hdir
          rw [hk] at hm
          show (!true || mayB ps ls (noE (allEnts ps ls)) x.1.1 x.1.2.1 (nextP x.1.1 d) (atM (owE (allEnts ps ls)) (nextP x.1.1 d))) = true
          have := a1 _ (mem1 y hym)
          rw [hk] at this
          rw [show atM (owE (allEnts ps ls)) (nextP x.1.1 d) = y.1.2.1 from this, hm]
          rfl
      · intro hall
        refine ⟨List.Pairwise.imp_of_mem (fun {a b} ha hb' hab => ?_) hdB, fun t ht u hu => by simp at hu⟩
        have hne : b.1.1 ≠ a.1.1 := fun e => by rw [eqP_iff.2 e] at hab; cases hab
        by_cases hd : 0 ≤ dirOf b.1.1.1 b.1.1.2 a.1.1.1 a.1.1.2
        · have hmc := may_clash he (hok b hb') (hok a ha) (a2 _ (mem1 b hb')) (a2 _ (mem1 a ha)) hd hne
          obtain ⟨d, hd4, hnx⟩ := dir_next hd
          have hbo := hall (b.1.1, b.1.2.1) (List.mem_map.2 ⟨b.1, mem1 b hb', rfl⟩)
          have h1 := (nbFrom_all ..).1 hbo d hd4
          have hh : hasM K2 (owE (allEnts ps ls)) (nextP b.1.1 d : Int × Int) = true := by
            rw [has_ow, has_ent]
            exact ⟨a.1, mem1 a ha, hnx⟩
          simp only [nb1, hh, Bool.not_true, Bool.false_or] at h1
          have := a1 _ (mem1 a ha)
          rw [hnx] at this
          rw [show atM (owE (allEnts ps ls)) (nextP b.1.1 d) = a.1.2.1 from this, ← hnx] at h1
          rw [h1] at hmc
          cases hcl : clashT ps ls b.2 a.2 with
          | false => rfl
          | true => rw [hcl] at hmc; cases hmc
        · have h1 := (hok b hb').1
          have h2 := (hok a ha).1
          have ex1 : b.2.1 = b.1.1.1 := by rw [h1]
          have ex2 : b.2.2.1 = b.1.1.2 := by rw [h1]
          have ey1 : a.2.1 = a.1.1.1 := by rw [h2]
          have ey2 : a.2.2.1 = a.1.1.2 := by rw [h2]
          have hpl : (decide (b.1.1.1 = a.1.1.1) && decide (b.1.1.2 = a.1.1.2)) = false := by
            rw [← Bool.decide_and]
            exact decide_eq_false fun e => hne (Prod.ext e.1 e.2)
          simp only [clashT, clashB, ex1, ex2, ey1, ey2, hpl, cond_false, decide_eq_true (show dirOf b.1.1.1 b.1.1.2 a.1.1.1 a.1.1.2 < 0 by omega), cond_true]
    cases hA : closedA ps ls [] (allTi ps ls) with
    | false => rw [hiff.1 hA]; rfl
    | true =>
      cases hB : (owE (allEnts ps ls)).all (nbOk ps ls (owE (allEnts ps ls)) (noE (allEnts ps ls))) with
      | false => rfl
      | true => rw [hiff.2 hB] at hA; cases hA
end Go.Proofs.Ytknkkaimbhojpaa
