/- TrackKeptForth: what its text comes to. -/
import Derived.Test.YtaiokhbjjhicpaaKH
import Derived.Test.YtaiokhbjjhicpaaRows
set_option linter.all false
set_option linter.unusedVariables false
set_option linter.unusedSimpArgs false
open Go Go.Abs Go.Proofs
set_option linter.unusedSimpArgs false
set_option linter.unusedVariables false
namespace Go.Proofs.Ytaiokhbjjhicpaa
abbrev RB (b : Bool) : Res := { ok := true, val := AV.bool b }
theorem wrapK {i : Nat} (h : i < 1000) : IntKind.wrap IntKind.i64 ((i : Int) + 1) = ((i + 1 : Nat) : Int) := by rw [wrap_id (by omega) (by omega)]; omega
section
variable (s : Nat) (hs : s ≤ 1099511627776)
include hs
theorem len_T : (ints (rk s)).length ≤ 42 := by rw [ints, List.length_map]; exact rk_len hs
theorem lKept_L3_spec (F m : Nat) (u : Int) (i : Nat) (T A : List Int) (hA : A.length < 1000) : ∀ (n f j : Nat) (b : Bool), j + n = A.length → n < f → (b = true ∨ ∃ k, j ≤ k ∧ k < A.length ∧ u = nth 0 A k) →
    lKept_L3 F m f s T A u b T T.length i A A.length j = lKept_L2 F m s T A T T.length (IntKind.wrap IntKind.i64 ((i : Int) + 1))
  | n, 0, _, _, _, h, _ => by omega
  | 0, f + 1, j, b, hj, _, hb => by
    have hb : b = true := by
      rcases hb with hb | ⟨k, h1, h2, _⟩
      · exact hb
      · omega
    subst hb
    rw [lKept_L3_succ, decide_eq_false (show ¬ (j : Int) < (A.length : Int) by omega)]; rfl
  | n + 1, f + 1, j, b, hj, hf, hb => by
    rw [lKept_L3_succ, decide_eq_true (show (j : Int) < (A.length : Int) by omega), decide_eq_true (show (0 : Int) ≤ (j : Int) by omega), wrapK (show j < 1000 by omega), Int.toNat_natCast]
    simp only [Bool.and_self, cond_true]
    cases b with
    | true => exact lKept_L3_spec F m u i T A hA n f (j + 1) true (by omega) (by omega) (Or.inl rfl)
    | false =>
      refine lKept_L3_spec F m u i T A hA n f (j + 1) (decide (u = nth 0 A j)) (by omega) (by omega) ?_
      rcases hb with hb | ⟨k, h1, h2, h3⟩
      · cases hb
      · by_cases e : k = j
        · subst e; exact Or.inl (decide_eq_true h3)
        · exact Or.inr ⟨k, by omega, h2, h3⟩
theorem lKept_L2_spec (A : List Int) (hA : A.length < 90) (hin : ∀ u ∈ rk s, u = s ∨ ∃ k, k < A.length ∧ (u : Int) = nth 0 A k) : ∀ (n f i : Nat), i + n = (ints (rk s)).length → n < f → 
    lKept_L2 100 f s (ints (rk s)) A (ints (rk s)) (ints (rk s)).length i = RB true
  | n, 0, _, _, h => by omega
  | 0, f + 1, i, hi, _ => by
    rw [lKept_L2_succ, decide_eq_false (show ¬ (i : Int) < ((ints (rk s)).length : Int) by omega)]; rfl
  | n + 1, f + 1, i, hi, hf => by
    have ht := len_T s hs
    have hlr : (ints (rk s)).length = (rk s).length := List.length_map _
    have hg : ∀ (k : Nat) (h : k < (rk s).length), nth 0 (ints (rk s)) k = (((rk s)[k]'h : Nat) : Int) := fun k h => by rw [nth_lt _ _ _ (by omega)]; simp
    have l3 := lKept_L3_spec s hs 100 f (nth 0 (ints (rk s)) i) i (ints (rk s)) A (by omega) A.length 100 0 (decide (nth 0 (ints (rk s)) i = (s : Int))) (by omega) (by omega) (by
      have hm : (rk s)[i]'(by omega) ∈ rk s := List.getElem_mem _
      rw [hg i (by omega)]
      rcases hin _ hm with e | ⟨k, h1, h2⟩
      · exact Or.inl (decide_eq_true (by rw [e]))
      · exact Or.inr ⟨k, by omega, h1, h2⟩)
    have ih := lKept_L2_spec A hA hin n f (i + 1) (by omega) (by omega)
    rw [wrapK (by omega), ih] at l3
    rw [lKept_L2_succ, decide_eq_true (show (i : Int) < ((ints (rk s)).length : Int) by omega), decide_eq_true (show (0 : Int) ≤ (i : Int) by omega), Int.toNat_natCast]
    simp only [Bool.and_self, cond_true]
    by_cases h0 : i = 0
    · subst h0
      rw [decide_eq_false (show ¬ ((0 : Nat) : Int) > 0 by omega)]
      exact l3
    · have hr : (rk s)[i - 1]'(by omega) < (rk s)[i]'(by omega) := List.pairwise_iff_getElem.1 (rk_rises s) (i - 1) i (by omega) (by omega) (by omega)
      have hn : ¬ nth 0 (ints (rk s)) i ≤ nth 0 (ints (rk s)) (i - 1) := by rw [hg i (by omega), hg (i - 1) (by omega)]; omega
      have w : IntKind.wrap IntKind.i64 ((i : Int) - 1) = ((i - 1 : Nat) : Int) := by rw [wrap_id (by omega) (by omega)]; omega
      rw [w, decide_eq_true (show (i : Int) > 0 by omega), decide_eq_true (show (0 : Int) ≤ ((i - 1 : Nat) : Int) by omega), decide_eq_true (show ((i - 1 : Nat) : Int) < ((ints (rk s)).length : Int) by omega), Int.toNat_natCast, decide_eq_false hn]
      simp only [Bool.and_self, cond_true, cond_false]
      exact l3
theorem lKept_L1_spec (A : List Int) (hA : A.length < 90) (hin : ∀ u ∈ rk s, u = s ∨ ∃ k, k < A.length ∧ (u : Int) = nth 0 A k) : ∀ (n f i : Nat), i + n = (ints (rk s)).length → n < f → 
    lKept_L1 100 f s (ints (rk s)) A (ints (rk s)) (ints (rk s)).length i = RB true
  | n, 0, _, _, h => by omega
  | 0, f + 1, i, hi, _ => by
    have ht := len_T s hs
    rw [lKept_L1_succ, decide_eq_false (show ¬ (i : Int) < ((ints (rk s)).length : Int) by omega)]
    exact lKept_L2_spec s hs A hA hin (ints (rk s)).length 100 0 (Nat.zero_add _) (by omega)
  | n + 1, f + 1, i, hi, hf => by
    have ht := len_T s hs
    rw [lKept_L1_succ, decide_eq_true (show (i : Int) < ((ints (rk s)).length : Int) by omega), decide_eq_true (show (0 : Int) ≤ (i : Int) by omega), Int.toNat_natCast, bne_self_eq_false, wrapK (by omega)]
    simp only [Bool.and_self, cond_true, cond_false]
    exact lKept_L1_spec A hA hin n f (i + 1) (by omega) (by omega)
theorem lKept_L0_spec : ∀ (x f b : Nat), (rk x).length ≤ f → x ≤ 1099511627776 → b + (rk x).length = (ints (rk s)).length + 1 → b < 1000 →
    lKept_L0 100 f s (ints (rk s)) b x = RB true := by
  intro x
  induction x using Nat.strongRecOn with
  | ind x ih =>
    intro f b hf hx hb hb'
    obtain ⟨q, hq⟩ := rk_head x
    have hpos : 0 < (rk x).length := by rw [hq]; simp
    obtain ⟨f, rfl⟩ : ∃ f', f = f' + 1 := ⟨f - 1, by omega⟩
    rw [lKept_L0_succ]
    by_cases h : x = 0
    · subst h
      have hb2 : (ints (rk s)).length = b := by rw [rk_zero] at hb; simp only [List.length_singleton] at hb; omega
      have ht := len_T s hs
      rw [decide_eq_false (show ¬ ((0 : Nat) : Int) > 0 by omega), hb2, bne_self_eq_false]
      rw [show ∀ x, oKeptM x = kpt x from fun _ => rfl, show ∀ x, rKeptM x = kpt x from fun _ => rfl]
      simp only [cond_false]
      rw [kpt_in hs, wrap_id (n := (s : Int) - 1) (by omega) (by omega)]
      have hA : (kpt ((s : Int) - 1)).length < 90 := by
        by_cases h0 : s = 0
        · subst h0; rw [kpt_out (Or.inl (by omega))]; simp
        · rw [show (s : Int) - 1 = ((s - 1 : Nat) : Int) by omega, kpt_in (by omega), ints, List.length_map]
          have := rk_len (show s - 1 ≤ 1099511627776 by omega)
          omega
      refine lKept_L1_spec s hs (kpt ((s : Int) - 1)) hA (fun u hu => ?_) _ 100 0 (Nat.zero_add _) (by omega)
      rcases rk_ahead hu with e | ⟨h0, hm⟩
      · exact Or.inl e
      · refine Or.inr ?_
        obtain ⟨k, hk, e⟩ := List.getElem_of_mem hm
        rw [show (s : Int) - 1 = ((s - 1 : Nat) : Int) by omega, kpt_in (by omega)]
        refine ⟨k, by rw [ints, List.length_map]; exact hk, ?_⟩
        rw [nth_lt _ _ _ (by rw [ints, List.length_map]; exact hk), List.getElem_map, e]
    · have e := rk_pos (show 0 < x by omega)
      have hle : (rk x).length = (rk (dn x)).length + 1 := by rw [e]; simp
      have hd := dn_lt (show 0 < x by omega)
      rw [decide_eq_true (show (x : Int) > 0 by omega), dn_and (by omega) (by omega), cond_true, wrapK hb']
      have ht := len_T s hs
      exact ih (dn x) hd f (b + 1) (by omega) (by omega) (by omega) (by omega)
end
theorem lKept_plain (t : Int) : lKept_run 100 t = RB true := by
  refine (lKept_arg ..).trans ((lKept_eq ..).trans ?_)
  rw [show oKeptM t = kpt t from rfl]
  by_cases h : t < 0
  · rw [decide_eq_true h, kpt_out (Or.inl h)]; rfl
  · by_cases h' : t > 1099511627776
    · rw [decide_eq_false h, decide_eq_true h', kpt_out (Or.inr h')]; rfl
    · obtain ⟨s, rfl⟩ : ∃ s : Nat, t = (s : Int) := ⟨t.toNat, by omega⟩
      have hs : s ≤ 1099511627776 := by omega
      rw [decide_eq_false h, decide_eq_false h', kpt_in hs]
      have ht := len_T s hs
      obtain ⟨q, hq⟩ := rk_head s
      have hlr : (ints (rk s)).length = (rk s).length := List.length_map _
      have hpos : 0 < (rk s).length := by rw [hq]; simp
      have n0 : nth 0 (ints (rk s)) 0 = 0 := by rw [hq]; rfl
      have nl : nth 0 (ints (rk s)) ((ints (rk s)).length - 1) = (s : Int) := by
        by_cases h0 : s = 0
        · subst h0; rw [rk_zero]; rfl
        · rw [nth_lt _ _ _ (by omega)]
          have e := rk_pos (show 0 < s by omega)
          simp only [ints, List.getElem_map, List.length_map]
          congr 1
          have : (rk s)[(rk s).length - 1]'(by omega) = (rk s).getLast (by rw [hq]; simp) := (List.getLast_eq_getElem _).symm
          rw [this]
          simp only [e, List.getLast_append, List.getLast_singleton, List.isEmpty_cons]
          simp
      have w : IntKind.wrap IntKind.i64 (((ints (rk s)).length : Int) - 1) = (((ints (rk s)).length - 1 : Nat) : Int) := by rw [wrap_id (by omega) (by omega)]; omega
      rw [w, decide_eq_false (show ¬ ((ints (rk s)).length : Int) = 0 by omega), decide_eq_true (show (0 : Int) < ((ints (rk s)).length : Int) by omega), n0, Int.toNat_natCast, nl, decide_eq_true (show (0 : Int) ≤ (((ints (rk s)).length - 1 : Nat) : Int) by omega), decide_eq_true (show (((ints (rk s)).length - 1 : Nat) : Int) < ((ints (rk s)).length : Int) by omega), bne_self_eq_false, bne_self_eq_false]
      simp only [Bool.and_self, cond_true, cond_false]
      exact lKept_L0_spec s hs s 100 1 (by omega) hs (by omega) (by omega)
theorem lKept_fin (y : CT lKept_K) (h : wfT Try.prog lKept_K y) : ∃ F, runF (cx_lKept F) Try.f3 (groupA lKept_sh (enc lKept_K y)) [] = ⟨true, .bool true, []⟩ :=
  ⟨100, lKept_plain y⟩
end Go.Proofs.Ytaiokhbjjhicpaa

open Go Go.Abs Go.Proofs
open Go.ChangeShapes Go.WideShapes Go.ChangeAt Go.RowKit
namespace Go.Proofs.Ytaiokhbjjhicpaa
theorem own : ownKnob Try.prog.godebug = none := by kernel_rfl
theorem laidOut : laidOutB Try.prog = true := by kernel_rfl
set_option maxRecDepth 100000 in
theorem lifted (os : Os) (started : os.Started) (H : Type) (enc : TypeId × Value → H) :
    ReturnsInHanded {} Try.checked os 3 .any (Ytaiokhbjjhicpaa.Rows.trackKeptForthSpec.pre6 enc Try.prog Try.f3 Ytaiokhbjjhicpaa.Rows.trackKeptForthRow.domain false) (Ytaiokhbjjhicpaa.Rows.trackKeptForthSpec.post enc Try.prog Try.f3 false true false false) := by
  refine returnsInHanded_of_change_sized (C := Try.checked) own started (by kernel_rfl) Try.func3
    (ChangeSpec.witness6 (enc := enc) (C := Try.checked) false ⟨#[], #[.int .i64 0], []⟩ 8 (by kernel_rfl) (by kernel_rfl) (by kernel_rfl) (by kernel_rfl)) ?_
  intro W base args ds gs before hval0 hW hcnd hsz0 _
  have hW' := hW
  obtain ⟨p, q, hA, hV, rfl, hfz, hnd⟩ := hW
  obtain ⟨rfl, rfl⟩ := trodVars_none hV
  have hsz : (DataW.weightsEach Try.prog (Try.f3.params.toList ++ []) (ds ++ [])).all (· ≤ reachBytes) = true := hsz0
  rw [List.append_nil, List.append_nil] at hsz
  have hts : Try.f3.params.toList.length = 1 := by kernel_rfl
  have hlen := trodAll_len hA
  rw [hts] at hlen
  refine (lawCalls tabKH (f := 3) (fn := Try.f3) (ts := Try.f3.params.toList) (KK := lKept_K) (sh := lKept_sh) Try.func3 (by kernel_rfl) (by kernel_rfl) (by kernel_rfl) (by kernel_rfl) (by kernel_rfl) laidOut lKept_fin (fun j t v h1 h2 => hval0 j t v (by simpa using h1) h2) hA hsz).mono fun e W' ⟨he, bel, back⟩ => ?_
  subst he
  match ds, hlen with
  | [d0], _ => exact ⟨_, rfl, _, _, _, [], _, [], hW', trodAll_mk1 (shut_bool (t := 4) (by kernel_rfl) _), back, rfl, bel.frame _, fun h => by cases h⟩
theorem over : Ytaiokhbjjhicpaa.Rows.trackKeptForthRow.holds Ytaiokhbjjhicpaa.Try.pinned (OpenSpec.ofChange Ytaiokhbjjhicpaa.Rows.trackKeptForthSpec) :=
  OpenClaim.holds_of_wide 3 Try.f3 rfl rfl rfl rfl rfl rfl rfl ⟨rfl, rfl, rfl, rfl, rfl⟩ rfl rfl rfl rfl rfl (by kernel_rfl) Try.func3 (by kernel_rfl)
    (of_decide_eq_true (by kernel_rfl)) (by unfold Func.isWrapper; first | (rw [if_pos (by decide +kernel)]; kernel_rfl) | (rw [if_neg (by decide +kernel)]; exact ⟨rfl, rfl⟩))
    (fun os started H enc _ => lifted os started H enc)
theorem proved : Ytaiokhbjjhicpaa.Rows.TrackKeptForthSaid := over
end Go.Proofs.Ytaiokhbjjhicpaa
