/- The law of the document's leadsFine: it tells what the program's checkLeads tells. -/
import Derived.Test.YtknkkaimbhojpaaOG
set_option linter.all false
set_option linter.unusedVariables false
set_option linter.unusedSimpArgs false
open Go Go.Abs Go.Proofs
set_option linter.unusedSimpArgs false
set_option linter.unusedVariables false
namespace Go.Proofs.Ytknkkaimbhojpaa
def share (l m : Lead) : Bool := (decide (m.1 = l.1) && decide (m.2.1 = l.2.1)) || (decide (m.2.2.1 = l.2.2.1) && decide (m.2.2.2.1 = l.2.2.2.1))
def ownsB (ps : List Part) (m : Lead) : Bool := isMo ps m.1 m.2.1 true && isMo ps m.2.2.1 m.2.2.2.1 false
theorem isMouth_is {ps : List Part} {ls : List Lead} {i k : Int} {o : Bool} : isMouthM (ps, ls, i, k, o) = isMo ps i k o := rfl
theorem isMo_ne {ps : List Part} {a b c d : Int} (h1 : isMo ps a b true = true) (h2 : isMo ps c d false = true) : (decide (c = a) && decide (d = b)) = false := by
  cases h : (decide (c = a) && decide (d = b)) with
  | false => rfl
  | true =>
    simp only [Bool.and_eq_true, decide_eq_true_eq] at h
    obtain ⟨rfl, rfl⟩ := h
    simp only [isMo, Bool.and_eq_true, decide_eq_true_eq] at h1 h2
    rw [h1.2] at h2
    exact absurd h2.2 (by simp)
theorem share_eq {ps : List Part} {l : Lead} (hl : ownsB ps l = true) : ∀ pre : List Lead, pre.all (ownsB ps) = true → pre.any (share l) = (pre.any (endAt l.1 l.2.1) || pre.any (endAt l.2.2.1 l.2.2.2.1))
  | [], _ => rfl
  | m :: pre, h => by
    simp only [List.all_cons, Bool.and_eq_true] at h
    have ih := share_eq hl pre h.2
    simp only [List.any_cons, ih]
    simp only [ownsB, Bool.and_eq_true] at hl h
    have e1 := isMo_ne hl.1 h.1.2
    have e2 := isMo_ne h.1.1 hl.2
    have e3 : (decide (m.1 = l.2.2.1) && decide (m.2.1 = l.2.2.2.1)) = false := by
      rw [show decide (m.1 = l.2.2.1) = decide (l.2.2.1 = m.1) from decide_eq_decide.2 eq_comm, show decide (m.2.1 = l.2.2.2.1) = decide (l.2.2.2.1 = m.2.1) from decide_eq_decide.2 eq_comm]
      exact e2
    simp only [share, endAt, e1, e3, Bool.or_false, Bool.false_or]
    cases (decide (m.1 = l.1) && decide (m.2.1 = l.2.1)) <;> cases (decide (m.2.2.1 = l.2.2.1) && decide (m.2.2.2.1 = l.2.2.2.1)) <;> cases pre.any (endAt l.1 l.2.1) <;> cases pre.any (endAt l.2.2.1 l.2.2.2.1) <;> rfl
theorem rLeads_L1_spec (F m : Nat) (ps : List Part) (ls : List Lead) (hx : ls.length < 9223372036854775807) (l : Lead) (i : Nat) (hi : i < ls.length) (hr : rPathOk (ps, ls, l.1, l.2.1, l.2.2.1, l.2.2.2.1, l.2.2.2.2) = true) : ∀ (k f j : Nat), j + k = i → k < f →
    rLeads_L1 F m f i j ps ls l.1 l.2.1 l.2.2.1 l.2.2.2.1 l.2.2.2.2 = bif ((ls.take i).drop j).any (share l) then ⟨true, .bool false, []⟩ else bif pathB (outM ps l.1 l.2.1) (outM ps l.2.2.1 l.2.2.2.1) l.2.2.2.2 then rLeads_L0 F m ((i + 1 : Nat) : Int) ps ls else ⟨true, .bool false, []⟩
  | k, 0, j, _, h => by omega
  | 0, f + 1, j, hj, _ => by
    rw [rLeads_L1_succ, ltF (by omega), wrapS (show i < 9223372036854775807 by omega), drop_len (ls.take i) (by simp; omega), hr]
    simp only [rPathM, List.any_nil, cond_false, cond_true]
    cases pathB (outM ps l.1 l.2.1) (outM ps l.2.2.1 l.2.2.2.1) l.2.2.2.2 <;> rfl
  | k + 1, f + 1, j, hj, hf => by
    have ih := rLeads_L1_spec F m ps ls hx l i hi hr k f (j + 1) (by omega) (by omega)
    have hjl : j < (ls.take i).length := by simp; omega
    rw [rLeads_L1_succ, ltT (show j < i by omega), nnT, ltT (show j < ls.length by omega), wrapS (show j < 9223372036854775807 by omega), ih, drop_nth l0 _ hjl, nth_take _ _ _ _ (by omega), Int.toNat_natCast]
    have e0 : nth (0, 0, 0, 0, []) ls j = nth l0 ls j := rfl
    simp only [List.any_cons, share, e0]
    by_cases e1 : (nth l0 ls j).1 = l.1 <;> by_cases e2 : (nth l0 ls j).2.1 = l.2.1 <;> by_cases e3 : (nth l0 ls j).2.2.1 = l.2.2.1 <;> by_cases e4 : (nth l0 ls j).2.2.2.1 = l.2.2.2.1 <;> simp [e1, e2, e3, e4]
theorem rLeads_L0_spec (F : Nat) (ps : List Part) (ls : List Lead) (hx : ls.length < 9223372036854775807) (hl : ls.all (fun l => decide (l.2.2.2.2.length < 9223372036854775807)) = true) (hF : ls.length < F) (hp : partsB ps = true) : ∀ (k f i : Nat), i + k = ls.length → k < f → (ls.take i).all (ownsB ps) = true →
    rLeads_L0 F f i ps ls = ⟨true, .bool (leadsB ps (ls.take i) (ls.drop i)), []⟩
  | k, 0, i, _, h, _ => by omega
  | 0, f + 1, i, hi, _, _ => by
    rw [rLeads_L0_succ, ltF (by omega), drop_len ls (by omega)]; rfl
  | k + 1, f + 1, i, hi, hf, ho => by
    have hil : i < ls.length := by omega
    have ht := take_nth l0 ls hil
    have hlen := of_decide_eq_true (all_nth l0 hl hil)
    have ih := rLeads_L0_spec F ps ls hx hl hF hp k f (i + 1) (by omega) (by omega)
    rw [show ls.take (i + 1) = ls.take i ++ [nth l0 ls i] from ht] at ih
    rw [rLeads_L0_succ, ltT hil, nnT, Int.toNat_natCast, drop_nth l0 ls hil]
    have e0 : nth (0, 0, 0, 0, []) ls i = nth l0 ls i := rfl
    simp only [e0]
    generalize nth l0 ls i = l at *
    simp only [Bool.and_self, cond_true, leadsB, leadB, isMouth_is]
    cases hm1 : isMo ps l.1 l.2.1 true with
    | false => simp
    | true =>
      cases hm2 : isMo ps l.2.2.1 l.2.2.2.1 false with
      | false => simp
      | true =>
        have hh1 : hasMo ps l.1 l.2.1 = true := by simp only [isMo, Bool.and_eq_true] at hm1; exact hm1.1
        have hh2 : hasMo ps l.2.2.1 l.2.2.2.1 = true := by simp only [isMo, Bool.and_eq_true] at hm2; exact hm2.1
        have hr : rPathOk (ps, ls, l.1, l.2.1, l.2.2.1, l.2.2.2.1, l.2.2.2.2) = true := by simp only [rPathOk, hlen, decide_true, good_of hp hh1, good_of hp hh2, Bool.and_self]
        have hw : ownsB ps l = true := by simp only [ownsB, hm1, hm2, Bool.and_self]
        have l1 := rLeads_L1_spec F f ps ls hx l i hil hr i F 0 (by omega) (by omega)
        rw [List.drop_zero, share_eq hw _ ho] at l1
        simp only [Bool.not_true, cond_false, Bool.true_and]
        refine Eq.trans (?_ : _ = _) (l1.trans ?_)
        · rfl
        · rw [ih (by rw [List.all_append, ho]; simp [hw])]
          cases (ls.take i).any (endAt l.1 l.2.1) <;> cases (ls.take i).any (endAt l.2.2.1 l.2.2.2.1) <;> cases pathB (outM ps l.1 l.2.1) (outM ps l.2.2.1 l.2.2.2.1) l.2.2.2.2 <;> rfl
def rLeadsOk : Rig → Bool := oLeadsOk
def rLeadsM : Rig → Bool := fun (ps, ls) => leadsB ps [] ls
def rLeadsFu : Rig → Nat := fun (_, ls) => ls.length + 1
theorem rLeads_ret (z : Rig) (h : rLeadsOk z = true) : Ret rLeads_re rLeads_R (rLeads_run (rLeadsFu z) z) (rLeadsM z) := by
  obtain ⟨ps, ls⟩ := z
  simp only [rLeadsOk, oLeadsOk, rigOk, Bool.and_eq_true, decide_eq_true_eq] at h
  have a := rLeads_L0_spec (ls.length + 1) ps ls h.1.1.2 h.1.2.2 (by omega) h.2 ls.length (ls.length + 1) 0 (by omega) (by omega) rfl
  rw [List.take_zero, List.drop_zero] at a
  exact Ret.of ((rLeads_arg ..).trans ((rLeads_eq ..).trans a)) (Ret.bool _)
/-! ### the cell of a mouth; lists -/
def cellM (ps : List Part) (i k : Int) : Int × Int := ((partAt ps i).2.2.2.2.2.1 + (moAt ps i k).1, (partAt ps i).2.2.2.2.2.2 + (moAt ps i k).2.1)
def mCellOk : RigK → Bool := fun (ps, _, i, k) => goodMo ps i k
def mCellM : RigK → Int × Int := fun (ps, _, i, k) => cellM ps i k
def mCellFu : RigK → Nat := fun _ => 1
theorem mCell_ret (z : RigK) (h : mCellOk z = true) : Ret mCell_re mCell_R (mCell_run (mCellFu z) z) (mCellM z) := by
  obtain ⟨ps, ls, i, k⟩ := z
  simp only [mCellOk, goodMo, Bool.and_eq_true] at h
  obtain ⟨hm, ht⟩ := h
  obtain ⟨h1, h2, h3, h4⟩ := of_decide_eq_true hm
  simp only [mos] at h4
  refine Ret.of (r' := ⟨true, .tup [.int .i64 (cellM ps i k).1, .int .i64 (cellM ps i k).2], []⟩) ((mCell_arg ..).trans ((mCell_eq ..).trans ?_)) (Ret.int2 _ _ _ _)
  have e1 : nth (0, 0, 0, [], [], 0, 0) ps i.toNat = partAt ps i := rfl
  have e2 : nth (0, 0, 0, false) (partAt ps i).2.2.2.2.1 k.toNat = moAt ps i k := rfl
  simp only [e1, e2, cellM]
  simp only [h1, h2, h3, h4, decide_true, Bool.and_self, cond_true]
  simp only [tinies, tiny, Bool.and_eq_true, decide_eq_true_eq] at ht
  rw [wrap_id (by omega) (by omega), wrap_id (by omega) (by omega)]
abbrev LL := List Int × List Int
def sameIOk : LL → Bool := fun (a, b) => decide (a.length < 9223372036854775807 ∧ b.length < 9223372036854775807)
def eqL : List Int → List Int → Bool
  | [], [] => true
  | x :: a, y :: b => decide (x = y) && eqL a b
  | _, _ => false
theorem eqL_self : ∀ a : List Int, eqL a a = true
  | [] => rfl
  | x :: a => by simp [eqL, eqL_self a]
theorem eqL_len : ∀ (a b : List Int), a.length ≠ b.length → eqL a b = false
  | [], [], h => absurd rfl h
  | [], _ :: _, _ => rfl
  | _ :: _, [], _ => rfl
  | x :: a, y :: b, h => by
    simp only [eqL, eqL_len a b (by simpa using h), Bool.and_false]
def sameIM : LL → Bool := fun (a, b) => eqL a b
def sameIFu : LL → Nat := fun (a, _) => a.length + 1
theorem sameI_L0_spec (F : Nat) (a b : List Int) (hx : a.length < 9223372036854775807) (he : b.length = a.length) : ∀ (k f i : Nat), i + k = a.length → k < f → sameI_L0 F f a b i = ⟨true, .bool (eqL (a.drop i) (b.drop i)), []⟩
  | k, 0, i, _, h => by omega
  | 0, f + 1, i, hi, _ => by
    rw [sameI_L0_succ, ltF (by omega), drop_len a (by omega), drop_len b (by omega)]; rfl
  | k + 1, f + 1, i, hi, hf => by
    have ih := sameI_L0_spec F a b hx he k f (i + 1) (by omega) (by omega)
    rw [sameI_L0_succ, ltT (show i < a.length by omega), ltT (show i < b.length by omega), nnT, wrapS (show i < 9223372036854775807 by omega), ih, drop_nth 0 a (show i < a.length by omega), drop_nth 0 b (show i < b.length by omega), Int.toNat_natCast]
    simp only [eqL, beq_ne, Bool.and_self, cond_true]
    by_cases h : nth 0 a i = nth 0 b i <;> simp [h]
theorem sameI_ret (z : LL) (h : sameIOk z = true) : Ret sameI_re sameI_R (sameI_run (sameIFu z) z) (sameIM z) := by
  obtain ⟨a, b⟩ := z
  simp only [sameIOk, decide_eq_true_eq] at h
  refine Ret.of ((sameI_arg ..).trans ((sameI_eq ..).trans ?_)) (Ret.bool _)
  simp only [sameIM, beq_ne, Int.natCast_inj]
  by_cases hl : a.length = b.length
  · have := sameI_L0_spec (a.length + 1) a b h.1 hl.symm a.length (a.length + 1) 0 (by omega) (by omega)
    rw [List.drop_zero, List.drop_zero] at this
    simp only [hl, decide_true, Bool.not_true, cond_false]
    rw [hl] at this
    refine Eq.trans (?_ : _ = _) this
    rw [show sameIFu (a, b) = a.length + 1 from rfl, hl]; rfl
  · simp [hl, eqL_len a b hl]
end Go.Proofs.Ytknkkaimbhojpaa

open Go Go.Abs Go.Proofs
set_option linter.unusedVariables false
namespace Go.Proofs.Ytknkkaimbhojpaa
noncomputable def tbOGL_1 : FuncId → List AV → List Blk → Res := addC 16 (tspec rLeads_sh rLeads_K rLeads_re rLeads_R rLeadsOk rLeadsM) tbOG
theorem tabOGL_1 : Tab Try.prog tbOGL_1 cxMd tbKOG := Tab.addTy tabOG tabOG (KK := rLeads_K) (R := rLeads_R) (fn := Try.f16) (by kernel_rfl) (by kernel_rfl) (by kernel_rfl) (by kernel_rfl) _ rLeadsFu rLeads_ret
noncomputable def tbOGL_2 : FuncId → List AV → List Blk → Res := addC 44 (tspec mCell_sh mCell_K mCell_re mCell_R mCellOk mCellM) tbOGL_1
theorem tabOGL_2 : Tab Try.prog tbOGL_2 cxMd tbKOG := Tab.addTy tabOGL_1 tabOG (KK := mCell_K) (R := mCell_R) (fn := Try.f44) (by kernel_rfl) (by kernel_rfl) (by kernel_rfl) (by kernel_rfl) _ mCellFu mCell_ret
noncomputable def tbOGL_3 : FuncId → List AV → List Blk → Res := addC 11 (tspec sameI_sh sameI_K sameI_re sameI_R sameIOk sameIM) tbOGL_2
theorem tabOGL_3 : Tab Try.prog tbOGL_3 cxMd tbKOG := Tab.addTy tabOGL_2 tabOG (KK := sameI_K) (R := sameI_R) (fn := Try.f11) (by kernel_rfl) (by kernel_rfl) (by kernel_rfl) (by kernel_rfl) _ sameIFu sameI_ret
noncomputable def tbOGB : FuncId → List AV → List Blk → Res := tbOGL_3
noncomputable def tbKOGB : KT := tbKOG
theorem tabOGB : Tab Try.prog tbOGB cxMd tbKOGB := tabOGL_3
end Go.Proofs.Ytknkkaimbhojpaa
