/- Put of both. -/
import Derived.Test.YtmiddecfdfbocaaTO
import Derived.Test.YtmiddecfdfbocaaTNL
import Derived.Test.YtmiddecfdfbocaaA22
set_option linter.all false
set_option linter.unusedVariables false
set_option linter.unusedSimpArgs false
open Go Go.Abs Go.Proofs
set_option linter.unusedSimpArgs false
set_option linter.unusedVariables false
namespace Go.Proofs.Ytmiddecfdfbocaa
abbrev Ask := Int × List Six × List Cell × List Branch × Int × Int × List Cell
abbrev Ans := Int × List Six × List Cell × List Branch × Int × Int
/-- What Put does, for any kind of answers: errors; the journal as it was; another one. -/
def putT {α : Type} (E : Int → α) (K0 K1 : List Branch → Int → α) (v : List Branch → Int) (l : Int) (past : Bool) (bs : List Branch) (b t : Int) (c : List Cell) : α :=
  bif !decide (v bs = 0) then E (v bs) else bif decide (b < 0) || decide (b ≥ (bs.length : Int)) then E 101 else
  bif decide (t < (nth branch0 bs b.toNat).2.1) || decide (t > 1099511627776) then E 102 else
  bif !decide (l = 0) then E l else bif decide ((c.length : Int) = 0) then K0 bs b else
  bif past then (bif !decide (v (bs ++ [(b, t, [(t, c)])]) = 0) then E 103 else K1 (bs ++ [(b, t, [(t, c)])]) (bs.length : Int))
  else (bif !decide (v (bs.set b.toNat ((nth branch0 bs b.toNat).1, (nth branch0 bs b.toNat).2.1, (nth branch0 bs b.toNat).2.2 ++ [(t, c)])) = 0) then E 103 else K1 (bs.set b.toNat ((nth branch0 bs b.toNat).1, (nth branch0 bs b.toNat).2.1, (nth branch0 bs b.toNat).2.2 ++ [(t, c)])) b)
theorem putT_rel {α β : Type} {R : α → β → Prop} {E : Int → α} {K0 K1 : List Branch → Int → α} {E' : Int → β} {K0' K1' : List Branch → Int → β} (h1 : ∀ e, R (E e) (E' e)) (h2 : ∀ bs i, R (K0 bs i) (K0' bs i)) (h3 : ∀ bs i, R (K1 bs i) (K1' bs i)) (v : List Branch → Int) (l : Int) (past : Bool) (bs : List Branch) (b t : Int) (c : List Cell) :
    R (putT E K0 K1 v l past bs b t c) (putT E' K0' K1' v l past bs b t c) := by
  unfold putT
  cases !decide (v bs = 0)
  · simp only [cond_false]
    cases decide (b < 0) || decide (b ≥ (bs.length : Int))
    · simp only [cond_false]
      cases decide (t < (nth branch0 bs b.toNat).2.1) || decide (t > 1099511627776)
      · simp only [cond_false]
        cases !decide (l = 0)
        · simp only [cond_false]
          cases decide ((c.length : Int) = 0)
          · simp only [cond_false]
            cases past
            · simp only [cond_false]
              cases !decide (v (bs.set b.toNat ((nth branch0 bs b.toNat).1, (nth branch0 bs b.toNat).2.1, (nth branch0 bs b.toNat).2.2 ++ [(t, c)])) = 0)
              · exact h3 _ _
              · exact h1 _
            · simp only [cond_true]
              cases !decide (v (bs ++ [(b, t, [(t, c)])]) = 0)
              · exact h3 _ _
              · exact h1 _
          · exact h2 _ _
        · exact h1 _
      · exact h1 _
    · exact h1 _
  · exact h1 _
def putN (e : Int) : Ans := (0, [], [], [], 0, e)
def putG (v : List Branch → Int) (l : Int) (past : Bool) : Ask → Ans := fun (k, cs, p, bs, b, t, c) => putT putN (fun bs i => (k, cs, p, bs, i, 0)) (fun bs i => (k, cs, p, bs, i, 0)) v l past bs b t c
def roomy (b : Branch) : Bool := decide ((b.2.2.length + 1) * 32 ≤ 140737488355328)
def putOk : Ask → Bool := fun (k, cs, p, bs, b, t, c) => (copiedOk (k, cs, p, bs) && journalOk (k, cs, p, bs)) && (decide ((bs.length + 1) * 40 ≤ 140737488355328) && (bs.all roomy && decide (c.length * 24 ≤ 140737488355328)))
theorem nth_last {α : Type} (d x : α) (l : List α) : nth d (l ++ [x]) l.length = x := by rw [nth_append, if_neg (by omega), Nat.sub_self]; rfl
theorem set_last {α : Type} (x y : α) : ∀ l : List α, (l ++ [x]).set l.length y = l ++ [y]
  | [] => rfl
  | a :: l => congrArg (a :: ·) (set_last x y l)
theorem beqL {i j : Nat} : List.beq [(i, j)] [(i, j)] = true := by
  show ([(i, j)] == [(i, j)]) = true
  exact beq_self_eq_true _
/-- The journals that come of one that is fit are fit. -/
theorem fit_new {k : Int} {cs : List Six} {p : List Cell} {bs : List Branch} {b t : Int} {c : List Cell} (h : putOk (k, cs, p, bs, b, t, c) = true) : journalOk (k, cs, p, bs ++ [(b, t, [(t, c)])]) = true := by
  simp only [putOk, Bool.and_eq_true, decide_eq_true_eq] at h
  obtain ⟨⟨_, h2⟩, h3, h4, h5⟩ := h
  simp only [journalOk, Bool.and_eq_true, decide_eq_true_eq] at h2 ⊢
  refine ⟨h2.1, ?_⟩
  rw [List.all_append, Bool.and_eq_true]
  refine ⟨h2.2, ?_⟩
  simp only [List.all_cons, List.all_nil, Bool.and_true, branchOk, editOk, Bool.and_eq_true, decide_eq_true_eq, List.length_cons, List.length_nil, big]
  omega
theorem fit_set {k : Int} {cs : List Six} {p : List Cell} {bs : List Branch} {b t : Int} {c : List Cell} {i : Nat} {x y : Int} (h : putOk (k, cs, p, bs, b, t, c) = true) (hi : i < bs.length) : journalOk (k, cs, p, bs.set i (x, y, (nth branch0 bs i).2.2 ++ [(t, c)])) = true := by
  simp only [putOk, Bool.and_eq_true, decide_eq_true_eq] at h
  obtain ⟨⟨_, h2⟩, h3, h4, h5⟩ := h
  have h6 := nth_all (d := branch0) h4 hi
  simp only [roomy, decide_eq_true_eq] at h6
  simp only [journalOk, Bool.and_eq_true, decide_eq_true_eq] at h2 ⊢
  refine ⟨h2.1, ?_⟩
  have h7 := nth_all (d := branch0) h2.2 hi
  rw [List.all_eq_true]
  intro z hz
  rcases List.mem_or_eq_of_mem_set hz with hz | rfl
  · exact List.all_eq_true.1 h2.2 z hz
  · simp only [branchOk, Bool.and_eq_true, decide_eq_true_eq] at h7 ⊢
    refine ⟨?_, ?_⟩
    · rw [List.length_append]
      simp only [List.length_cons, List.length_nil, big]
      omega
    · rw [List.all_append, Bool.and_eq_true]
      refine ⟨h7.2, ?_⟩
      simp only [List.all_cons, List.all_nil, Bool.and_true, editOk, decide_eq_true_eq, big]
      omega

/-! ### the program's -/
def oE (e : Int) : Res := ⟨true, .tup [.agg [.int .i64 0, .sl 0 0 0 none, .sl 1 0 0 none, .tsl 2 0 []], .int .i64 0, .int .i64 e], [.row 0 71 case_k [], .row 0 58 cell_k [], .tab false 0 0 45 branch_k [47] [] none]⟩
def oK (k : Int) (cs : List Six) (p : List Cell) (bs : List Branch) (i : Int) : Res := ⟨true, .tup [.agg [.int .i64 k, .ro case_k cs, .ro cell_k p, .tsl 0 0 []], .int .i64 i, .int .i64 0], [.tab false 0 0 45 branch_k [47] bs none]⟩
def oPutOk : Ask → Bool := putOk
def oPutM : Ask → Ans := fun (k, cs, p, bs, b, t, c) => putG (fun bs => validM (k, cs, p, bs)) (lookedM (k, cs, c)) (pastF bs b t) (k, cs, p, bs, b, t, c)
abbrev oPutFu : Ask → Nat := fun _ => 0
theorem oE_ret (e : Int) : Ret oPut_re oPut_R (oE e) (putN e) := by
  refine ⟨rfl, rfl, rfl, rfl, ?_, ?_, fun _ h => by cases h; simp⟩
  · kernel_rfl
  · kernel_rfl
theorem oK_ret (k : Int) (cs : List Six) (p : List Cell) (bs : List Branch) (i : Int) : Ret oPut_re oPut_R (oK k cs p bs i) (show Ans from (k, cs, p, bs, i, 0)) := by
  refine ⟨rfl, rfl, rfl, rfl, ?_, ?_, fun _ h => by cases h; simp⟩
  · kernel_rfl
  · kernel_rfl
theorem oPut_law (k : Int) (cs : List Six) (p : List Cell) (bs : List Branch) (b t : Int) (c : List Cell) (h : putOk (k, cs, p, bs, b, t, c) = true) :
    oPut_run 0 (k, cs, p, bs, b, t, c) = putT oE (oK k cs p) (oK k cs p) (fun bs => validM (k, cs, p, bs)) (lookedM (k, cs, c)) (pastF bs b t) bs b t c := by
  have fnew := fit_new h
  have fset := fun i x y => fit_set (i := i) (x := x) (y := y) h
  simp only [putOk, Bool.and_eq_true, decide_eq_true_eq] at h
  obtain ⟨⟨h1, h2⟩, h3, h4, h5⟩ := h
  refine (oPut_arg ..).trans ((oPut_eq ..).trans ?_)
  have f1 : validOk (k, cs, p, bs) = true := h2
  have f2 : lookedOk (k, cs, c) = true := by simp only [lookedOk, decide_eq_true_eq, big]; omega
  have f3 : copiedTOk (k, cs, p, bs) = true := h1
  have f4 : cloneCellOk c = true := by simp only [cloneCellOk, decide_eq_true_eq]; exact h5
  rw [f1, cond_true, beq_ne]
  by_cases hv : validM (k, cs, p, bs) = 0
  · rw [show decide (validM (k, cs, p, bs) = 0) = true from decide_eq_true hv, Bool.not_true, cond_false]
    unfold putT
    rw [show decide (validM (k, cs, p, bs) = 0) = true from decide_eq_true hv, Bool.not_true, cond_false]
    by_cases hb : 0 ≤ b ∧ b < (bs.length : Int)
    · obtain ⟨i, rfl⟩ := Int.eq_ofNat_of_zero_le hb.1
      have hi : i < bs.length := by omega
      rw [show decide ((i : Int) < 0) = false by simp, show decide ((i : Int) ≥ (bs.length : Int)) = false by simp; omega, cond_false, cond_false, Bool.or_false, cond_false, oPut_S1, nnT, ltT hi, Bool.and_true, cond_true, Int.toNat_natCast]
      have h6 := nth_all (d := branch0) h4 hi
      have h7 := nth_all (d := branch0) (show bs.all branchOk = true by simp only [journalOk, Bool.and_eq_true] at h2; exact h2.2) hi
      simp only [roomy, decide_eq_true_eq] at h6
      simp only [branchOk, Bool.and_eq_true, decide_eq_true_eq] at h7
      have f5 : pastOk (k, cs, p, bs, (i : Int), t) = true := by
        simp only [pastOk, Bool.and_eq_true, decide_eq_true_eq, Int.toNat_natCast]
        exact ⟨by simp only [big]; omega, h7.1, by omega, by omega⟩
      have fs := fset i (nth branch0 bs i).1 (nth branch0 bs i).2.1 hi
      rw [f2, f3, f4, f5, beq_ne, show pastM (k, cs, p, bs, (i : Int), t) = pastF bs i t from rfl, beqL, beqL]
      simp only [Int.toNat_natCast, nth_last, set_last, List.length_append, List.length_cons, List.length_nil, nnT, ltT (show bs.length < bs.length + (0 + 1) by omega), Bool.and_true, Bool.true_and, cond_true]
      have g1 : decide (Nat.mul (Nat.add bs.length 1) 40 ≤ 140737488355328) = true := decide_eq_true h3
      have g2 : decide (bs.length < bs.length + (0 + 1)) = true := decide_eq_true (by omega)
      have g3 : (Nat.ble 0 0 && decide (Nat.mul (Nat.add 0 1) 32 ≤ 140737488355328)) = true := rfl
      have g4 : validOk (k, cs, p, bs ++ [((i : Int), t, [] ++ [(t, cloneCellM c)])]) = true := fnew
      have g5 : decide (i < bs.length) = true := decide_eq_true hi
      have g6 : (Nat.ble 0 (List.length (nth branch0 bs i).2.2) && decide (Nat.mul (Nat.add (List.length (nth branch0 bs i).2.2) 1) 32 ≤ 140737488355328)) = true := by
        rw [Bool.and_eq_true]
        exact ⟨Nat.ble_eq_true_of_le (Nat.zero_le _), decide_eq_true h6⟩
      have g7 : validOk (k, cs, p, bs.set i ((nth branch0 bs i).1, (nth branch0 bs i).2.1, (nth branch0 bs i).2.2 ++ [(t, cloneCellM c)])) = true := fs
      rw [g1, g2, g3, g4, g5, g6, g7, beq_ne, beq_ne]
      simp only [cond_true]
      cases decide (t < (nth branch0 bs i).2.1) <;> cases decide (t > 1099511627776) <;> first | rfl | skip
    · have e1 : (bif decide (b < 0) then oE 101 else bif decide (b ≥ (bs.length : Int)) then oE 101 else oPut_S1 k cs p bs b t c) = oE 101 := by
        by_cases hb0 : b < 0
        · rw [cT hb0]
        · rw [cF hb0, cT (by omega)]
      have e2 : (decide (b < 0) || decide (b ≥ (bs.length : Int))) = true := by
        by_cases hb0 : b < 0
        · simp [hb0]
        · simp; omega
      rw [e2, cond_true]
      exact e1
  · unfold putT
    rw [show decide (validM (k, cs, p, bs) = 0) = false from decide_eq_false hv, Bool.not_false, cond_true, cond_true]
    rfl
theorem oPut_ret (x : Ask) (h : oPutOk x = true) : Ret oPut_re oPut_R (oPut_run (oPutFu x) x) (oPutM x) := by
  obtain ⟨k, cs, p, bs, b, t, c⟩ := x
  refine Ret.of (oPut_law k cs p bs b t c h) ?_
  exact putT_rel oE_ret (oK_ret k cs p) (oK_ret k cs p) _ _ _ _ _ _ _

/-! ### the document's -/
def lastE (t : Int) (es : List Edit) : Bool := bif decide ((es.length : Int) = 0) then true else decide (t > (nth edit0 es (es.length - 1)).1)
def lastB (b t : Int) (bs : List Branch) : Bool := bs.all fun o => !decide (o.1 = b) || decide (t > o.2.1)
def lastF (bs : List Branch) (b t : Int) : Bool := lastE t (nth branch0 bs b.toNat).2.2 && lastB b t bs
def rE (e : Int) : Res := ⟨true, .tup [.agg [.int .i64 0, .sl 0 0 0 none, .sl 1 0 0 none, .sl 2 0 0 none], .int .i64 0, .int .i64 e], [.row 0 71 case_k [], .row 0 58 cell_k [], .row 0 45 branch_k []]⟩
def rK0 (k : Int) (cs : List Six) (p : List Cell) (bs : List Branch) (i : Int) : Res := ⟨true, .tup [.agg [.int .i64 k, .ro case_k cs, .ro cell_k p, .ro branch_k bs], .int .i64 i, .int .i64 0], []⟩
def rK (k : Int) (cs : List Six) (p : List Cell) (bs : List Branch) (i : Int) : Res := ⟨true, .tup [.agg [.int .i64 k, .ro case_k cs, .ro cell_k p, .sl 0 0 0 none], .int .i64 i, .int .i64 0], [.row 0 45 branch_k bs]⟩
def rPutOk : Ask → Bool := putOk
def rPutM : Ask → Ans := fun (k, cs, p, bs, b, t, c) => putG (fun bs => rValidM (k, cs, p, bs)) (rCellsOfM (k, cs, c)) (!lastF bs b t) (k, cs, p, bs, b, t, c)
abbrev rPutFu : Ask → Nat := fun x => x.2.2.2.1.length + 1
theorem rE_ret (e : Int) : Ret rPut_re rPut_R (rE e) (putN e) := by
  refine ⟨rfl, rfl, rfl, rfl, ?_, ?_, fun _ h => by cases h; simp⟩
  · kernel_rfl
  · kernel_rfl
theorem rK0_ret (k : Int) (cs : List Six) (p : List Cell) (bs : List Branch) (i : Int) : Ret rPut_re rPut_R (rK0 k cs p bs i) (show Ans from (k, cs, p, bs, i, 0)) := by
  refine ⟨rfl, rfl, rfl, rfl, ?_, ?_, fun _ h => by cases h; simp⟩
  · kernel_rfl
  · kernel_rfl
theorem rK_ret (k : Int) (cs : List Six) (p : List Cell) (bs : List Branch) (i : Int) : Ret rPut_re rPut_R (rK k cs p bs i) (show Ans from (k, cs, p, bs, i, 0)) := by
  refine ⟨rfl, rfl, rfl, rfl, ?_, ?_, fun _ h => by cases h; simp⟩
  · kernel_rfl
  · kernel_rfl
def rFin (last : Bool) (k : Int) (cs : List Six) (p : List Cell) (bs : List Branch) (i : Nat) (t : Int) (c : List Cell) : Res :=
  bif !last then (bif !decide (rValidM (k, cs, p, bs ++ [((i : Int), t, [(t, c)])]) = 0) then rE 103 else rK k cs p (bs ++ [((i : Int), t, [(t, c)])]) (bs.length : Int))
  else (bif !decide (rValidM (k, cs, p, bs.set i ((nth branch0 bs i).1, (nth branch0 bs i).2.1, (nth branch0 bs i).2.2 ++ [(t, c)])) = 0) then rE 103 else rK k cs p (bs.set i ((nth branch0 bs i).1, (nth branch0 bs i).2.1, (nth branch0 bs i).2.2 ++ [(t, c)])) (i : Int))
theorem rPut_L0_spec (F : Nat) (k : Int) (cs : List Six) (p : List Cell) (bs : List Branch) (j : Nat) (t : Int) (c : List Cell) (z : Int) (h3' : List Six) (h4' : List Cell) (h5' : List Branch) (h : putOk (k, cs, p, bs, (j : Int), t, c) = true) (hj : j < bs.length) : ∀ (q f i : Nat) (last : Bool), i + q = bs.length → q < f →
    rPut_L0 F f (j : Int) t c last bs bs.length i k cs p bs z (nth branch0 bs j).1 (nth branch0 bs j).2.1 (nth branch0 bs j).2.2 h3' h4' h5' = rFin (last && lastB (j : Int) t (bs.drop i)) k cs p bs j t c
  | q, 0, i, last, _, hf => by omega
  | 0, f + 1, i, last, hi, _ => by
    have fnew := fit_new h
    have fs := fit_set (i := j) (x := (nth branch0 bs j).1) (y := (nth branch0 bs j).2.1) h hj
    simp only [putOk, Bool.and_eq_true, decide_eq_true_eq] at h
    obtain ⟨⟨h1, h2⟩, h3, h4, h5⟩ := h
    have h6 := nth_all (d := branch0) h4 hj
    simp only [roomy, decide_eq_true_eq] at h6
    rw [rPut_L0_succ, ltF (by omega), cond_false, drop_len bs (by omega)]
    have g0 : decide (Nat.mul (Nat.add 0 (List.length bs)) 40 ≤ 140737488355328) = true := decide_eq_true (by rw [Nat.add_eq, Nat.zero_add]; show bs.length * 40 ≤ _; omega)
    have g1 : (Nat.ble 0 (List.length bs) && decide (Nat.mul (Nat.add (List.length bs) 1) 40 ≤ 140737488355328)) = true := by
      rw [Bool.and_eq_true]
      exact ⟨Nat.ble_eq_true_of_le (Nat.zero_le _), decide_eq_true h3⟩
    have g2 : decide (Nat.mul (Nat.add 0 (List.length (nth branch0 bs j).2.2)) 32 ≤ 140737488355328) = true := decide_eq_true (by rw [Nat.add_eq, Nat.zero_add]; show (nth branch0 bs j).2.2.length * 32 ≤ _; omega)
    have g6 : (Nat.ble 0 (List.length (nth branch0 bs j).2.2) && decide (Nat.mul (Nat.add (List.length (nth branch0 bs j).2.2) 1) 32 ≤ 140737488355328)) = true := by
      rw [Bool.and_eq_true]
      exact ⟨Nat.ble_eq_true_of_le (Nat.zero_le _), decide_eq_true h6⟩
    have g4 : rValidOk (k, cs, p, bs ++ [((j : Int), t, [(t, c)])]) = true := fnew
    have g7 : rValidOk (k, cs, p, bs.set j ((nth branch0 bs j).1, (nth branch0 bs j).2.1, (nth branch0 bs j).2.2 ++ [(t, c)])) = true := fs
    rw [g0, g1, g2, g6, g4, nnT, ltT hj, Int.toNat_natCast, decide_eq_true hj, g7, beq_ne, beq_ne]
    cases last <;> rfl
  | q + 1, f + 1, i, last, hi, hf => by
    have ih := fun last => rPut_L0_spec F k cs p bs j t c z h3' h4' h5' h hj q f (i + 1) last (by omega) (by omega)
    rw [rPut_L0_succ, ltT (by omega), nnT, Int.toNat_natCast, wrapS (by simp only [putOk, Bool.and_eq_true, decide_eq_true_eq] at h; simp only [big]; omega), ih, ih, ih, beq_ne, drop_nth branch0 bs (by omega : i < bs.length)]
    generalize nth branch0 bs i = o
    simp only [lastB, List.all_cons, Bool.and_true, cond_true]
    cases last <;> cases decide (o.1 = (j : Int)) <;> simp
theorem rPut_law (k : Int) (cs : List Six) (p : List Cell) (bs : List Branch) (b t : Int) (c : List Cell) (h : putOk (k, cs, p, bs, b, t, c) = true) :
    rPut_run (bs.length + 1) (k, cs, p, bs, b, t, c) = putT rE (rK0 k cs p) (rK k cs p) (fun bs => rValidM (k, cs, p, bs)) (rCellsOfM (k, cs, c)) (!lastF bs b t) bs b t c := by
  have h' := h
  simp only [putOk, Bool.and_eq_true, decide_eq_true_eq] at h
  obtain ⟨⟨h1, h2⟩, h3, h4, h5⟩ := h
  refine (rPut_arg ..).trans ((rPut_eq ..).trans ?_)
  have f1 : rValidOk (k, cs, p, bs) = true := h2
  have f2 : rCellsOfOk (k, cs, c) = true := by simp only [rCellsOfOk, decide_eq_true_eq, big]; omega
  rw [f1, cond_true, beq_ne]
  unfold putT
  by_cases hv : rValidM (k, cs, p, bs) = 0
  · rw [show decide (rValidM (k, cs, p, bs) = 0) = true from decide_eq_true hv, Bool.not_true, cond_false, cond_false]
    by_cases hb : 0 ≤ b ∧ b < (bs.length : Int)
    · obtain ⟨i, rfl⟩ := Int.eq_ofNat_of_zero_le hb.1
      have hi : i < bs.length := by omega
      rw [show decide ((i : Int) < 0) = false by simp, show decide ((i : Int) ≥ (bs.length : Int)) = false by simp; omega, show decide ((i : Int) ≥ 0) = true by simp, Bool.or_false, cond_false, cond_true, ltT hi, Bool.not_true, cond_false, Bool.and_true, cond_true, Int.toNat_natCast, f2, beq_ne]
      have h7 := nth_all (d := branch0) (show bs.all branchOk = true by simp only [journalOk, Bool.and_eq_true] at h2; exact h2.2) hi
      simp only [branchOk, Bool.and_eq_true, decide_eq_true_eq] at h7
      have key : ∀ last : Bool, rPut_L0 (bs.length + 1) (bs.length + 1) (i : Int) t c last bs bs.length 0 k cs p bs 0 (nth branch0 bs i).1 (nth branch0 bs i).2.1 (nth branch0 bs i).2.2 [] [] [] = rFin (last && lastB (i : Int) t bs) k cs p bs i t c := fun last => by
        have := rPut_L0_spec (bs.length + 1) k cs p bs i t c 0 [] [] [] h' hi bs.length (bs.length + 1) 0 last (by omega) (by omega)
        rw [List.drop_zero] at this
        exact this
      rw [key, key]
      have hl : (bif decide (((nth branch0 bs i).2.2.length : Int) = 0) then rFin (true && lastB (i : Int) t bs) k cs p bs i t c else
          bif decide (0 ≤ IntKind.wrap IntKind.i64 (((nth branch0 bs i).2.2.length : Int) - 1)) && decide (IntKind.wrap IntKind.i64 (((nth branch0 bs i).2.2.length : Int) - 1) < ((nth branch0 bs i).2.2.length : Int)) then
            rFin (decide (t > (nth edit0 (nth branch0 bs i).2.2 (Int.toNat (IntKind.wrap IntKind.i64 (((nth branch0 bs i).2.2.length : Int) - 1)))).1) && lastB (i : Int) t bs) k cs p bs i t c else ⟨false, .junk, []⟩) = rFin (lastF bs (i : Int) t) k cs p bs i t c := by
        simp only [lastF, lastE, Int.toNat_natCast]
        by_cases he : (nth branch0 bs i).2.2.length = 0
        · rw [show decide (((nth branch0 bs i).2.2.length : Int) = 0) = true by simp [he]]
          rfl
        · rw [show decide (((nth branch0 bs i).2.2.length : Int) = 0) = false by simp; intro h; exact he (by rw [h]; rfl), cond_false, cond_false]
          have hw : IntKind.wrap IntKind.i64 (((nth branch0 bs i).2.2.length : Int) - 1) = (((nth branch0 bs i).2.2.length - 1 : Nat) : Int) := by
            rw [show ((nth branch0 bs i).2.2.length : Int) - 1 = (((nth branch0 bs i).2.2.length - 1 : Nat) : Int) by omega]
            exact wrap_id (by simp only [big] at h7; omega) (by simp only [big] at h7; omega)
          rw [hw, nnT, ltT (by omega), Int.toNat_natCast]
          rfl
      rw [hl]
      cases decide (t < (nth branch0 bs i).2.1) <;> cases decide (t > 1099511627776) <;> first | rfl | skip
    · by_cases hb0 : b < 0
      · rw [show decide (b ≥ 0) = false by simp; exact hb0, show decide (b < 0) = true from decide_eq_true hb0]
        rfl
      · rw [show decide (b ≥ 0) = true by simp; omega, show decide (b < (bs.length : Int)) = false by simp; omega, show decide (b ≥ (bs.length : Int)) = true by simp; omega, Bool.or_true]
        rfl
  · rw [show decide (rValidM (k, cs, p, bs) = 0) = false from decide_eq_false hv, Bool.not_false, cond_true, cond_true]
    rfl
theorem rPut_ret (x : Ask) (h : rPutOk x = true) : Ret rPut_re rPut_R (rPut_run (rPutFu x) x) (rPutM x) := by
  obtain ⟨k, cs, p, bs, b, t, c⟩ := x
  refine Ret.of (rPut_law k cs p bs b t c h) ?_
  exact putT_rel rE_ret (rK0_ret k cs p) (rK_ret k cs p) _ _ _ _ _ _ _
end Go.Proofs.Ytmiddecfdfbocaa

open Go Go.Abs Go.Proofs
set_option linter.unusedVariables false
namespace Go.Proofs.Ytmiddecfdfbocaa
noncomputable def tbTOL_1 : FuncId → List AV → List Blk → Res := addC 13 (tspec oPut_sh oPut_K oPut_re oPut_R oPutOk oPutM) tbTO
theorem tabTOL_1 : Tab Try.prog tbTOL_1 cxMd tbKTO := Tab.addTy (os := [47]) tabTO tabTO (KK := oPut_K) (R := oPut_R) (fn := Try.f13) (by kernel_rfl) (by kernel_rfl) (by kernel_rfl) (by kernel_rfl) _ oPutFu oPut_ret
noncomputable def tbTOL_2 : FuncId → List AV → List Blk → Res := addC 12 (tspec rPut_sh rPut_K rPut_re rPut_R rPutOk rPutM) tbTOL_1
theorem tabTOL_2 : Tab Try.prog tbTOL_2 cxMd tbKTO := Tab.addTy (os := []) tabTOL_1 tabTO (KK := rPut_K) (R := rPut_R) (fn := Try.f12) (by kernel_rfl) (by kernel_rfl) (by kernel_rfl) (by kernel_rfl) _ rPutFu rPut_ret
noncomputable def tbTOB : FuncId → List AV → List Blk → Res := tbTOL_2
noncomputable def tbKTOB : KT := tbKTO
theorem tabTOB : Tab Try.prog tbTOB cxMd tbKTOB := tabTOL_2
end Go.Proofs.Ytmiddecfdfbocaa
