/- What the cells of an edit, and a journal, are. -/
import Derived.Test.YtmiddecfdfbocaaTF
import Derived.Test.YtmiddecfdfbocaaA22
set_option linter.all false
set_option linter.unusedVariables false
set_option linter.unusedSimpArgs false
open Go Go.Abs Go.Proofs
set_option linter.unusedSimpArgs false
set_option linter.unusedVariables false
namespace Go.Proofs.Ytmiddecfdfbocaa
abbrev Edit := Int × List Cell
abbrev Branch := Int × Int × List Edit
abbrev Journal := Int × List Six × List Cell × List Branch
/-! ### the cells of an edit -/
def stK (kind : Int) (cases : List Six) (s : Int) : Bool := bif decide (s = 0) then true else bif !decide (checkM (kind, cases) = 0) then false else stC kind s
theorem lookM_one (kind : Int) (cases : List Six) (s : Int) : decide (lookM ([(0, 0, s)], kind, cases) = 0) = stC kind s := by
  have e : lookM ([(0, 0, s)], kind, cases) = bif stC kind s then 0 else 11 := by
    simp only [lookM, lookF]
    cases stC kind s <;> rfl
  rw [e]
  cases stC kind s <;> rfl
theorem looked_S1_eq (F n : Nat) (p : List Cell) (m kind : Int) (cases : List Six) (i : Nat) (hi : i < p.length) (hp : p.length < big) :
    looked_L0_S1 F n p p m i kind cases = bif badOrd (prevOf p i) (nth cell0 p i) then ⟨true, .int .i64 12, []⟩ else looked_L0 F n p p m ((i + 1 : Nat) : Int) kind cases := by
  cases i with
  | zero => simp [looked_L0_S1, prevOf, badOrd, wrap_id]
  | succ j =>
    rw [looked_L0_S1, gt0S, wrapP (by omega), wrapS (by omega), Int.toNat_natCast, Int.toNat_natCast, ltT (by omega), nnT]
    simp only [cond_true, Bool.and_true, prevS, badOrd, fbehindM]
    rfl
theorem looked_L0_spec (F : Nat) (p : List Cell) (kind : Int) (cases : List Six) (hp : p.length < big) : ∀ (k f i : Nat), i + k = p.length → k < f → looked_L0 F f p p p.length i kind cases = ⟨true, .int .i64 (lookF (stK kind cases) (prevOf p i) (p.drop i)), []⟩
  | k, 0, i, _, h => by omega
  | 0, f + 1, i, hi, _ => by
    rw [looked_L0_succ, ltF (by omega), cond_false, drop_len p (by omega)]
    simp only [lookF]
  | k + 1, f + 1, i, hi, hf => by
    have ih := looked_L0_spec F p kind cases hp k f (i + 1) (by omega) (by omega)
    rw [looked_L0_succ, ltT (by omega), nnT, drop_nth cell0 p (by omega : i < p.length), Int.toNat_natCast, looked_S1_eq F f p p.length kind cases i (by omega) hp, ih]
    simp only [prevS, cond_true, Bool.and_true, lookF, beq_ne, show ∀ s, lookOk ([(0, 0, s)], kind, cases) = true from fun s => rfl, lookM_one]
    generalize nth cell0 p i = c
    generalize prevOf p i = q
    obtain ⟨cx, cy, cs⟩ := c
    simp only [cor, farC, stK]
    cases decide (cx < -1073741824) || (decide (cx > 1073741824) || (decide (cy < -1073741824) || decide (cy > 1073741824)))
    · cases badOrd q (cx, cy, cs) <;> cases decide (cs = 0) <;> cases decide (checkM (kind, cases) = 0) <;> cases stC kind cs <;> rfl
    · rfl
def lookedOk : Int × List Six × List Cell → Bool := fun x => decide (x.2.2.length < big)
def lookedM : Int × List Six × List Cell → Int := fun x => lookF (stK x.1 x.2.1) none x.2.2
abbrev lookedFu : Int × List Six × List Cell → Nat := fun x => x.2.2.length + 1
theorem looked_ret (x : Int × List Six × List Cell) (h : lookedOk x = true) : Ret looked_re looked_R (looked_run (lookedFu x) x) (lookedM x) := by
  obtain ⟨kind, cases, p⟩ := x
  simp only [lookedOk, decide_eq_true_eq] at h
  exact Ret.of ((looked_arg ..).trans ((looked_eq ..).trans (looked_L0_spec _ p kind cases h p.length _ 0 (by omega) (Nat.lt_succ_self _)))) (Ret.int _ _)

/-! ### a journal -/
def fromBad (i : Nat) (f : Int) : Bool := bif decide (i = 0) then !decide (f = -1) else decide (f < 0) || decide (f ≥ (i : Int))
def timeBad (i : Nat) (t : Int) : Bool := decide (t < 0) || (decide (t > 1099511627776) || (bif decide (i = 0) then !decide (t = 0) else false))
def lateBad : Option Int → Int → Bool
  | none, _ => false
  | some u, t => decide (t ≤ u)
/-- an error, and how many edits and cells there are -/
def editsF (st : Int → Bool) (bat : Int) : Option Int → List Edit → Int → Int → Int × Int × Int
  | _, [], e, c => (0, e, c)
  | q, x :: l, e, c => bif decide (x.1 < bat) || (decide (x.1 > 1099511627776) || lateBad q x.1) then (102, e, c) else bif decide ((x.2.length : Int) = 0) then (103, e, c) else
      bif !decide (lookF st none x.2 = 0) then (lookF st none x.2, e, c) else editsF st bat (some x.1) l (IntKind.wrap IntKind.i64 (e + 1)) (IntKind.wrap IntKind.i64 (c + (x.2.length : Int)))
def branchesF (st : Int → Bool) : Nat → List Branch → Int → Int → Int
  | _, [], e, c => bif decide (e > 1024) || decide (c > 65536) then 103 else 0
  | i, b :: l, e, c => bif fromBad i b.1 then 101 else bif timeBad i b.2.1 then 102 else
      bif !decide ((editsF st b.2.1 none b.2.2 e c).1 = 0) then (editsF st b.2.1 none b.2.2 e c).1 else branchesF st (i + 1) l (editsF st b.2.1 none b.2.2 e c).2.1 (editsF st b.2.1 none b.2.2 e c).2.2
abbrev edit0 : Edit := (0, [])
abbrev branch0 : Branch := (0, 0, [])
def prevE (l : List Edit) : Nat → Option Int
  | 0 => none
  | j + 1 => some (nth edit0 l j).1
theorem prevES {l : List Edit} {i : Nat} : prevE l (i + 1) = some (nth edit0 l i).1 := rfl
def editOk (e : Edit) : Bool := decide (e.2.length < big)
def branchOk (b : Branch) : Bool := decide (b.2.2.length < big) && b.2.2.all editOk
def journalOk (j : Journal) : Bool := decide (j.2.2.1.length < big) && j.2.2.2.all branchOk
theorem nth_all {α : Type} {d : α} {l : List α} {p : α → Bool} (h : l.all p = true) {i : Nat} (hi : i < l.length) : p (nth d l i) = true := by
  rw [nth_lt _ _ _ hi]; exact List.all_eq_true.1 h _ (List.getElem_mem hi)
theorem eq0 {i : Nat} : decide ((i : Int) = 0) = decide (i = 0) := by rw [Bool.eq_iff_iff]; simp
theorem rValid_L1_spec (F m : Nat) (bs : List Branch) (len q : Int) (kind : Int) (cases : List Six) (first : List Cell) (fr bat : Int) (es : List Edit) (he : es.length < big) (ho : es.all editOk = true) : ∀ (k f i : Nat) (e c : Int), i + k = es.length → k < f →
    rValid_L1 F m f e c bs len q es es.length i kind cases first bs fr bat es =
      bif !decide ((editsF (st10 kind cases) bat (prevE es i) (es.drop i) e c).1 = 0) then ⟨true, .int .i64 (editsF (st10 kind cases) bat (prevE es i) (es.drop i) e c).1, []⟩ else
        rValid_L0 F m (editsF (st10 kind cases) bat (prevE es i) (es.drop i) e c).2.1 (editsF (st10 kind cases) bat (prevE es i) (es.drop i) e c).2.2 bs len (IntKind.wrap IntKind.i64 (q + 1)) kind cases first bs
  | k, 0, i, e, c, _, h => by omega
  | 0, f + 1, i, e, c, hi, _ => by
    rw [rValid_L1_succ, ltF (by omega), cond_false, drop_len es (by omega)]
    simp only [editsF, decide_true, Bool.not_true, cond_false]
  | k + 1, f + 1, i, e, c, hi, hf => by
    have ih := fun e c => rValid_L1_spec F m bs len q kind cases first fr bat es he ho k f (i + 1) e c (by omega) (by omega)
    have hx := nth_all (d := edit0) ho (i := i) (by omega)
    simp only [editOk, decide_eq_true_eq] at hx
    rw [rValid_L1_succ, ltT (by omega), nnT, drop_nth edit0 es (by omega : i < es.length), Int.toNat_natCast, wrapS (by omega)]
    rw [ih, prevES]
    have hl : (bif decide ((i : Int) > 0) then bif decide (0 ≤ IntKind.wrap IntKind.i64 ((i : Int) - 1)) && decide (IntKind.wrap IntKind.i64 ((i : Int) - 1) < (es.length : Int)) then bif decide ((nth edit0 es i).1 ≤ (nth edit0 es (Int.toNat (IntKind.wrap IntKind.i64 ((i : Int) - 1)))).1) then true else false else false else false) = lateBad (prevE es i) (nth edit0 es i).1 ∧
        (decide ((i : Int) > 0) = true → (decide (0 ≤ IntKind.wrap IntKind.i64 ((i : Int) - 1)) && decide (IntKind.wrap IntKind.i64 ((i : Int) - 1) < (es.length : Int))) = true) := by
      cases i with
      | zero => simp [prevE, lateBad]
      | succ j =>
        rw [gt0S, wrapP (by omega), Int.toNat_natCast, ltT (by omega), nnT]
        simp only [cond_true, Bool.and_true, prevES, lateBad, implies_true, and_true]
        cases decide ((nth edit0 es (j + 1)).1 ≤ (nth edit0 es j).1) <;> rfl
    obtain ⟨hl1, hl2⟩ := hl
    generalize nth edit0 es i = x at *
    generalize (decide (0 ≤ IntKind.wrap IntKind.i64 ((i : Int) - 1)) && decide (IntKind.wrap IntKind.i64 ((i : Int) - 1) < (es.length : Int))) = b1 at *
    obtain ⟨t, cs⟩ := x
    simp only at hx
    simp only [cond_true, Bool.and_true, editsF, rCellsOfOk, rCellsOfM, hx, decide_true, beq_ne, ← hl1]
    generalize decide (t ≤ (nth edit0 es (Int.toNat (IntKind.wrap IntKind.i64 ((i : Int) - 1)))).1) = b2 at *
    by_cases hL : lookF (st10 kind cases) none cs = 0
    · cases h0 : decide ((i : Int) > 0)
      · cases decide (t < bat) <;> cases decide (t > 1099511627776) <;> cases decide ((cs.length : Int) = 0) <;> simp [hL]
      · rw [hl2 h0]
        cases decide (t < bat) <;> cases decide (t > 1099511627776) <;> cases b2 <;> cases decide ((cs.length : Int) = 0) <;> simp [hL]
    · cases h0 : decide ((i : Int) > 0)
      · cases decide (t < bat) <;> cases decide (t > 1099511627776) <;> cases decide ((cs.length : Int) = 0) <;> simp [hL]
      · rw [hl2 h0]
        cases decide (t < bat) <;> cases decide (t > 1099511627776) <;> cases b2 <;> cases decide ((cs.length : Int) = 0) <;> simp [hL]

theorem rValid_S1_eq (F n : Nat) (e c : Int) (bs : List Branch) (len : Int) (kind : Int) (cases : List Six) (first : List Cell) (i : Nat) (b : Branch) (hb : nth branch0 bs i = b) :
    rValid_L0_S1 F n e c bs len i kind cases first bs = bif timeBad i b.2.1 then ⟨true, .int .i64 102, []⟩ else rValid_L1 F n F e c bs len i b.2.2 b.2.2.length 0 kind cases first bs b.1 b.2.1 b.2.2 := by
  rw [rValid_L0_S1, Int.toNat_natCast, hb, beq_ne, eq0, timeBad]
  cases decide (b.2.1 < 0) <;> cases decide (b.2.1 > 1099511627776) <;> cases decide (i = 0) <;> cases decide (b.2.1 = 0) <;> rfl
def fuelJ (bs : List Branch) : Nat := bs.length + (bs.map fun b => b.2.2.length).sum + 1
theorem fuelJ_mem {bs : List Branch} {b : Branch} (h : b ∈ bs) : b.2.2.length < fuelJ bs := by
  have : b.2.2.length ≤ (bs.map fun b => b.2.2.length).sum := by
    induction bs with
    | nil => simp at h
    | cons x l ih =>
      simp only [List.map_cons, List.sum_cons]
      rcases List.mem_cons.1 h with rfl | h
      · omega
      · have := ih h; omega
  simp only [fuelJ]; omega
theorem rValid_L0_spec (F : Nat) (bs : List Branch) (kind : Int) (cases : List Six) (first : List Cell) (hb : bs.length < big) (ho : bs.all branchOk = true) (hF : ∀ b ∈ bs, b.2.2.length < F) : ∀ (k f i : Nat) (e c : Int), i + k = bs.length → k < f →
    rValid_L0 F f e c bs bs.length i kind cases first bs = ⟨true, .int .i64 (branchesF (st10 kind cases) i (bs.drop i) e c), []⟩
  | k, 0, i, e, c, _, h => by omega
  | 0, f + 1, i, e, c, hi, _ => by
    rw [rValid_L0_succ, ltF (by omega), cond_false, drop_len bs (by omega)]
    simp only [branchesF, cor, resI]
  | k + 1, f + 1, i, e, c, hi, hf => by
    have ih := fun e c => rValid_L0_spec F bs kind cases first hb ho hF k f (i + 1) e c (by omega) (by omega)
    have hx := nth_all (d := branch0) ho (i := i) (by omega)
    have hm := hF _ (nth_mem branch0 bs (i := i) (by omega))
    rw [rValid_L0_succ, ltT (by omega), nnT, drop_nth branch0 bs (by omega : i < bs.length), rValid_L0_S2, rValid_S1_eq F f e c bs bs.length kind cases first i _ rfl, Int.toNat_natCast, eq0]
    generalize nth branch0 bs i = b at *
    obtain ⟨fr, bat, es⟩ := b
    simp only [branchOk, Bool.and_eq_true, decide_eq_true_eq] at hx
    have hL := rValid_L1_spec F f bs bs.length i kind cases first fr bat es hx.1 hx.2 es.length F 0 e c (by omega) hm
    rw [show ((0 : Nat) : Int) = 0 from rfl, List.drop_zero] at hL
    rw [hL, wrapS (by omega), ih]
    simp only [cond_true, Bool.and_true, branchesF, fromBad, beq_ne, show prevE es 0 = none from rfl]
    generalize editsF (st10 kind cases) bat none es e c = r
    obtain ⟨r1, r2, r3⟩ := r
    simp only
    by_cases h0 : i = 0
    · subst h0
      by_cases hr : r1 = 0
      · cases decide (fr = -1) <;> cases timeBad 0 bat <;> simp [hr]
      · cases decide (fr = -1) <;> cases timeBad 0 bat <;> simp [hr]
    · have hp : decide ((i : Int) > 0) = true := by simp; omega
      rw [hp]
      by_cases hr : r1 = 0
      · cases decide (fr < 0) <;> cases decide (fr ≥ (i : Int)) <;> cases timeBad i bat <;> simp [hr, h0]
      · cases decide (fr < 0) <;> cases decide (fr ≥ (i : Int)) <;> cases timeBad i bat <;> simp [hr, h0]
def validF (st : Int → Bool) (check first : Int) (bs : List Branch) : Int :=
  bif !decide (check = 0) then 10 else bif !decide (first = 0) then first else bif decide ((bs.length : Int) = 0) || decide ((bs.length : Int) > 256) then 103 else branchesF st 0 bs 0 0
def rValidOk : Journal → Bool := journalOk
def rValidM : Journal → Int := fun j => validF (st10 j.1 j.2.1) (rCheckM (j.1, j.2.1)) (rproperM (j.1, j.2.1, true, j.2.2.1)) j.2.2.2
def rValidFu : Journal → Nat := fun j => fuelJ j.2.2.2
theorem rValid_law (j : Journal) (h : journalOk j = true) : rValid_run (rValidFu j) j = ⟨true, .int .i64 (rValidM j), []⟩ := by
  obtain ⟨kind, cases, first, bs⟩ := j
  simp only [journalOk, Bool.and_eq_true, decide_eq_true_eq] at h
  refine (rValid_arg ..).trans ((rValid_eq ..).trans ?_)
  simp only [rproperOk, h.1, decide_true, cond_true, rValidM, validF, beq_ne]
  by_cases h0 : bs.length ≤ 256
  · have := rValid_L0_spec (fuelJ bs) bs kind cases first (by simp [big]; omega) h.2 (fun b hb => fuelJ_mem hb) bs.length (fuelJ bs) 0 0 0 (by omega) (by simp [fuelJ]; omega)
    rw [show ((0 : Nat) : Int) = 0 from rfl, List.drop_zero] at this
    rw [show rValidFu (kind, cases, first, bs) = fuelJ bs from rfl, this]
    rw [show decide ((bs.length : Int) > 256) = false by simp; omega]
    generalize rCheckM (kind, cases) = r1
    generalize rproperM (kind, cases, true, first) = r2
    cases decide ((bs.length : Int) = 0) <;> by_cases e1 : r1 = 0 <;> by_cases e2 : r2 = 0 <;> simp [e1, e2]
  · rw [show decide ((bs.length : Int) > 256) = true by simp; omega]
    generalize rCheckM (kind, cases) = r1
    generalize rproperM (kind, cases, true, first) = r2
    cases decide ((bs.length : Int) = 0) <;> by_cases e1 : r1 = 0 <;> by_cases e2 : r2 = 0 <;> simp [e1, e2]
theorem rValid_ret (j : Journal) (h : rValidOk j = true) : Ret rValid_re rValid_R (rValid_run (rValidFu j) j) (rValidM j) := Ret.of (rValid_law j h) (Ret.int _ _)
end Go.Proofs.Ytmiddecfdfbocaa

open Go Go.Abs Go.Proofs
set_option linter.unusedVariables false
namespace Go.Proofs.Ytmiddecfdfbocaa
noncomputable def tbTFL_1 : FuncId → List AV → List Blk → Res := addC 27 (tspec looked_sh looked_K looked_re looked_R lookedOk lookedM) tbTF
theorem tabTFL_1 : Tab Try.prog tbTFL_1 cxMd tbKTF := Tab.addTy (os := []) tabTF tabTF (KK := looked_K) (R := looked_R) (fn := Try.f27) (by kernel_rfl) (by kernel_rfl) (by kernel_rfl) (by kernel_rfl) _ lookedFu looked_ret
noncomputable def tbTFL_2 : FuncId → List AV → List Blk → Res := addC 7 (tspec rValid_sh rValid_K rValid_re rValid_R rValidOk rValidM) tbTFL_1
theorem tabTFL_2 : Tab Try.prog tbTFL_2 cxMd tbKTF := Tab.addTy (os := []) tabTFL_1 tabTF (KK := rValid_K) (R := rValid_R) (fn := Try.f7) (by kernel_rfl) (by kernel_rfl) (by kernel_rfl) (by kernel_rfl) _ rValidFu rValid_ret
noncomputable def tbTFB : FuncId → List AV → List Blk → Res := tbTFL_2
noncomputable def tbKTFB : KT := tbKTF
theorem tabTFB : Tab Try.prog tbTFB cxMd tbKTFB := tabTFL_2
end Go.Proofs.Ytmiddecfdfbocaa
