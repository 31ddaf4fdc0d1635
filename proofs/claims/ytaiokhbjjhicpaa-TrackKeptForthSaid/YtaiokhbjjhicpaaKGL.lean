/- Kept, both of them. -/
import Derived.Test.YtaiokhbjjhicpaaKG
import Derived.Test.YtaiokhbjjhicpaaKF
set_option linter.all false
set_option linter.unusedVariables false
set_option linter.unusedSimpArgs false
open Go Go.Abs Go.Proofs
set_option linter.unusedSimpArgs false
set_option linter.unusedVariables false
namespace Go.Proofs.Ytaiokhbjjhicpaa
theorem cons_erase {α : Type} : ∀ (l : List α) (i : Nat) (h : i < l.length), (l[i] :: l.eraseIdx i).Perm l
  | [], i, h => by cases h
  | x :: r, 0, _ => .refl _
  | x :: r, i + 1, h => (List.Perm.swap x (r[i]'(Nat.lt_of_succ_lt_succ h)) (r.eraseIdx i)).trans ((cons_erase r i (Nat.lt_of_succ_lt_succ h)).cons x)
theorem erase_map {α β : Type} (g : α → β) : ∀ (l : List α) (i : Nat), (l.map g).eraseIdx i = (l.eraseIdx i).map g
  | [], _ => rfl
  | _ :: _, 0 => rfl
  | x :: r, i + 1 => congrArg (g x :: ·) (erase_map g r i)
abbrev ints (l : List Nat) : List Int := l.map (fun n : Nat => (n : Int))
abbrev keys (l : List Nat) : List (Int × Bool) := l.map (fun n : Nat => ((n : Int), true))
abbrev rowS (l : List Int) : Res := { ok := true, val := AV.sl 0 0 0 none, heap := [Blk.row 0 2 (CK.int IntKind.i64) l] }
theorem rKept_L0_spec (F : Nat) : ∀ (s f : Nat) (r : List Nat), (rk s).length ≤ f → s ≤ 1099511627776 → (rk s).length + r.length ≤ 50 → rKept_L0 F f s (ints (s :: r)) = rowS (ints (rk s ++ r)) := by
  intro s
  induction s using Nat.strongRecOn with
  | ind s ih =>
    intro f r hf hs hl
    obtain ⟨q, hq⟩ := rk_head s
    rw [hq] at hf
    obtain ⟨f, rfl⟩ : ∃ f', f = f' + 1 := ⟨f - 1, by simp at hf; omega⟩
    rw [rKept_L0_succ]
    by_cases h : s = 0
    · subst h
      rw [decide_eq_false (show ¬ ((0 : Nat) : Int) > 0 by omega), rk_zero]
      rfl
    · have e := rk_pos (show 0 < s by omega)
      have hle : (rk s).length = (rk (dn s)).length + 1 := by rw [e]; simp
      have hm : decide (Nat.mul (Nat.add 1 (List.length (ints (s :: r)))) 8 ≤ 140737488355328) = true := by
        refine decide_eq_true ?_
        show (1 + (ints (s :: r)).length) * 8 ≤ 140737488355328
        simp only [ints, List.length_map, List.length_cons]; omega
      rw [decide_eq_true (show (s : Int) > 0 by omega), hm, dn_and (by omega) (by omega), cond_true, cond_true]
      have := ih (dn s) (dn_lt (by omega)) f (s :: r) (by rw [hq] at hle; simp only [List.length_cons] at hf hle; omega) (by have := dn_lt (show 0 < s by omega); omega) (by simp only [List.length_cons]; omega)
      rw [e, List.append_assoc]
      exact this
theorem ins_key (s : Nat) : ∀ l : List Nat, s ∉ l → Abs.insM (CK.int IntKind.i64) (keys l) (s : Int) true = keys (l ++ [s])
  | [], _ => rfl
  | x :: r, h => by
    have h' : s ≠ x ∧ s ∉ r := by simpa using h
    have ih := ins_key s r h'.2
    show (bif decide ((s : Int) = (x : Int)) then _ else ((x : Int), true) :: Abs.insM (CK.int IntKind.i64) (keys r) (s : Int) true) = _
    rw [decide_eq_false (show ¬ (s : Int) = (x : Int) by omega), ih]; rfl
theorem oKept_L0_spec (F : Nat) : ∀ (s f : Nat) (l : List Nat), (rk s).length ≤ f → s ≤ 1099511627776 → (∀ u ∈ l, u = 0 ∨ s < u) → ∃ l', oKept_L0 F f s (keys l) = oKept_L1 F F [] (keys l') [] ∧ l'.Perm (l ++ (rk s).tail) := by
  intro s
  induction s using Nat.strongRecOn with
  | ind s ih =>
    intro f l hf hs hl
    obtain ⟨q, hq⟩ := rk_head s
    rw [hq] at hf
    obtain ⟨f, rfl⟩ : ∃ f', f = f' + 1 := ⟨f - 1, by simp at hf; omega⟩
    rw [oKept_L0_succ]
    by_cases h : s = 0
    · subst h
      rw [decide_eq_false (show ¬ ((0 : Nat) : Int) > 0 by omega), rk_zero]
      exact ⟨l, rfl, by simp⟩
    · have e := rk_pos (show 0 < s by omega)
      have hd := dn_lt (show 0 < s by omega)
      have hle : (rk s).length = (rk (dn s)).length + 1 := by rw [e]; simp
      have hni : s ∉ l := fun hm => by have := hl s hm; omega
      rw [decide_eq_true (show (s : Int) > 0 by omega), dn_and (by omega) (by omega), cond_true, ins_key s l hni]
      obtain ⟨l', e1, e2⟩ := ih (dn s) hd f (l ++ [s]) (by rw [hq] at hle; simp only [List.length_cons] at hf hle; omega) (by omega) (by
        intro u hu
        rcases List.mem_append.1 hu with hu | hu
        · have := hl u hu; omega
        · simp at hu; omega)
      refine ⟨l', e1, e2.trans ?_⟩
      obtain ⟨q', hq'⟩ := rk_head (dn s)
      rw [e, hq', List.append_assoc]
      exact List.Perm.append_left l List.perm_append_comm
theorem nth_keys (l : List Nat) (i : Nat) (h : i < l.length) : nth (0, false) (keys l) i = ((l[i] : Int), true) := by
  rw [nth_lt _ _ _ (by simpa using h)]; simp
theorem oKept_L1_spec (F : Nat) (T : List Nat) (hT : T.Pairwise (· < ·)) (hl : T.length < 50) : ∀ (n f : Nat) (h rest : List Nat) (c : List (Int × Bool)), rest.length = n → n < f → (h ++ rest).Perm T → oKept_L1 F f (ints h) (keys rest) c = rowS (ints T)
  | n, 0, _, _, _, _, h, _ => by omega
  | 0, f + 1, h, rest, c, hr, _, hp => by
    obtain rfl : rest = [] := List.length_eq_zero_iff.1 hr
    rw [List.append_nil] at hp
    have hh := hp.length_eq
    have ok : sortOk (ints h) [] = true := decide_eq_true (by simp only [ints, List.length_map]; omega)
    obtain ⟨-, p1, p2⟩ := sort_law ok
    have hs : sortY (ints h) [] = ints T := by
      refine List.Perm.eq_of_pairwise (le := fun a b : Int => a ≤ b) (fun a b _ _ h1 h2 => Int.le_antisymm h1 h2) ?_ ?_ (p1.trans (hp.map _))
      · refine List.pairwise_iff_getElem.2 fun i j hi hj hij => ?_
        have hlen := p1.length_eq
        have := p2 i j (Nat.zero_le _) hij (by omega)
        rwa [nth_lt _ _ _ hi, nth_lt _ _ _ hj] at this
      · refine List.pairwise_map.2 (hT.imp fun hab => by omega)
    rw [oKept_L1_succ]
    show (bif sortOk (ints h) [] then _ else _) = _
    rw [ok, hs]; rfl
  | n + 1, f + 1, h, rest, c, hr, hf, hp => by
    have he : (keys rest).isEmpty = false := by cases rest with
      | nil => simp at hr
      | cons => rfl
    have hh := hp.length_eq
    rw [List.length_append] at hh
    rw [oKept_L1_succ, he]
    simp only [cond_false]
    have hkl : (keys rest).length = rest.length := List.length_map _
    refine anyN_const (fun i hi => ?_) (by omega)
    rw [hkl] at hi
    have hm : decide (Nat.mul (Nat.add (List.length (ints h)) 1) 8 ≤ 140737488355328) = true := by
      refine decide_eq_true ?_
      show ((ints h).length + 1) * 8 ≤ 140737488355328
      simp only [ints, List.length_map]; omega
    have hb : Nat.ble 0 (List.length (ints h)) = true := by rw [Nat.ble_eq]; exact Nat.zero_le _
    rw [decide_eq_true (show i < (keys rest).length by omega), hm, hb, nth_keys rest i hi]
    have ih := oKept_L1_spec F T hT hl n f (h ++ [rest[i]]) (rest.eraseIdx i) [((rest[i] : Int), true)] (by rw [List.length_eraseIdx]; simp [hi]; omega) (by omega) (by
      refine List.Perm.trans ?_ hp
      rw [List.append_assoc]
      exact List.Perm.append_left h (cons_erase rest i hi))
    have e1 : ints (h ++ [rest[i]]) = ints h ++ [(rest[i] : Int)] := by simp [ints]
    have e2 : keys (rest.eraseIdx i) = (keys rest).eraseIdx i := (erase_map _ rest i).symm
    rw [e1, e2] at ih
    exact ih
def oKeptM : Int → List Int := kpt
def oKeptFu : Int → Nat := fun _ => 100
def rKeptM : Int → List Int := kpt
def rKeptFu : Int → Nat := fun _ => 100
theorem kpt_out {t : Int} (h : t < 0 ∨ t > 1099511627776) : kpt t = [] := if_neg (by omega)
theorem kpt_in {t : Nat} (h : t ≤ 1099511627776) : kpt (t : Int) = ints (rk t) := by rw [kpt, if_pos (by omega), Int.toNat_natCast]
theorem rKept_is (t : Int) : rKept_run 100 t = rowS (kpt t) := by
  refine (rKept_arg ..).trans ((rKept_eq ..).trans ?_)
  by_cases h : t < 0
  · rw [decide_eq_true h, kpt_out (Or.inl h)]; rfl
  · by_cases h' : t > 1099511627776
    · rw [decide_eq_false h, decide_eq_true h', kpt_out (Or.inr h')]; rfl
    · obtain ⟨s, rfl⟩ : ∃ s : Nat, t = (s : Int) := ⟨t.toNat, by omega⟩
      rw [decide_eq_false h, decide_eq_false h', kpt_in (by omega)]
      have hl := rk_len (show s ≤ 1099511627776 by omega)
      have := rKept_L0_spec 100 s 100 [] (by omega) (by omega) (by simp; omega)
      rw [List.append_nil] at this
      exact this
theorem oKept_is (t : Int) : oKept_run 100 t = rowS (kpt t) := by
  refine (oKept_arg ..).trans ((oKept_eq ..).trans ?_)
  by_cases h : t < 0
  · rw [decide_eq_true h, kpt_out (Or.inl h)]; rfl
  · by_cases h' : t > 1099511627776
    · rw [decide_eq_false h, decide_eq_true h', kpt_out (Or.inr h')]; rfl
    · obtain ⟨s, rfl⟩ : ∃ s : Nat, t = (s : Int) := ⟨t.toNat, by omega⟩
      rw [decide_eq_false h, decide_eq_false h', kpt_in (by omega)]
      have hl := rk_len (show s ≤ 1099511627776 by omega)
      obtain ⟨l', e1, e2⟩ := oKept_L0_spec 100 s 100 [0] (by omega) (by omega) (fun u hu => Or.inl (by simpa using hu))
      obtain ⟨q, hq⟩ := rk_head s
      have e3 : l'.Perm (rk s) := by rw [hq] at e2 ⊢; exact e2
      have hl' := e3.length_eq
      exact e1.trans (oKept_L1_spec 100 (rk s) (rk_rises s) (by omega) l'.length 100 [] l' [] rfl (by omega) e3)
theorem oKept_ret (z : Int) (_ : true = true) : Ret oKept_re oKept_R (oKept_run (oKeptFu z) z) (oKeptM z) := Ret.of (oKept_is z) Ret.row
theorem rKept_ret (z : Int) (_ : true = true) : Ret rKept_re rKept_R (rKept_run (rKeptFu z) z) (rKeptM z) := Ret.of (rKept_is z) Ret.row
end Go.Proofs.Ytaiokhbjjhicpaa

open Go Go.Abs Go.Proofs
set_option linter.unusedVariables false
namespace Go.Proofs.Ytaiokhbjjhicpaa
noncomputable def tbKGL_1 : FuncId → List AV → List Blk → Res := addC 4 (tspec oKept_sh oKept_K oKept_re oKept_R (fun _ => true) oKeptM) tbKG
theorem tabKGL_1 : Tab Try.prog tbKGL_1 cxMd tbKKG := Tab.addTy tabKG tabKG (KK := oKept_K) (R := oKept_R) (fn := Try.f4) (by kernel_rfl) (by kernel_rfl) (by kernel_rfl) (by kernel_rfl) _ oKeptFu oKept_ret
noncomputable def tbKGL_2 : FuncId → List AV → List Blk → Res := addC 5 (tspec rKept_sh rKept_K rKept_re rKept_R (fun _ => true) rKeptM) tbKGL_1
theorem tabKGL_2 : Tab Try.prog tbKGL_2 cxMd tbKKG := Tab.addTy tabKGL_1 tabKG (KK := rKept_K) (R := rKept_R) (fn := Try.f5) (by kernel_rfl) (by kernel_rfl) (by kernel_rfl) (by kernel_rfl) _ rKeptFu rKept_ret
noncomputable def tbKGB : FuncId → List AV → List Blk → Res := tbKGL_2
noncomputable def tbKKGB : KT := tbKKG
theorem tabKGB : Tab Try.prog tbKGB cxMd tbKKGB := tabKGL_2
end Go.Proofs.Ytaiokhbjjhicpaa
