/- Contracts of functions over plain values that hand back memory of their own. -/
import Derived.Test.YtkecflbflcppkaaGreatDoorA23
set_option linter.all false
set_option linter.unusedVariables false
set_option linter.unusedSimpArgs false
namespace Go.Abs
variable [Globs]
variable {os : List TypeId}
open Go.RowKit (Below)
/-- What a function comes to that takes plain values, and hands back rows of its own. -/
def tspecR (shape : List (Option Nat)) (K : CK) (ok : CT K → Bool) (M : CT K → Res) (vs : List AV) (Hi : List Blk) : Res :=
  ⟨Hi.isEmpty && (fitsA shape vs && ((flatA vs).length == width K && (decOk K (flatA vs) && ok (dec K (flatA vs))))), (M (dec K (flatA vs))).val, (M (dec K (flatA vs))).heap⟩
theorem CSound.typedR {P : Program} {C : FuncId → List AV → List Blk → Res} {f : FuncId} {fn : Func} {shape : List (Option Nat)} {K : CK} {ok : CT K → Bool} {M : CT K → Res} (hC : CSound P C) (hm : P.follows .mixedOrders = true) (hf : P.funcs[f]? = some fn) (hn : (fn.name == "runtime.NumGoroutine") = false) (hb : fn.body.isNone = false)
    (mode : FuncId → List Bool) (live : Nat → List Nat) (fuel : CT K → Nat) (Kc : FuncId → Option (List AV → List Blk → (Res → Res) → Res)) (hK : ∀ fu pin, KOk { P := P, C := C, mode := mode, fuel := fu, live := live, pin := pin, K := Kc })
    (hs : ∀ x, ok x = true → runF { P := P, C := C, mode := mode, fuel := fuel x, live := live, pin := 0, K := Kc, nx := true, os := os } fn (groupA shape (enc K x)) [] = M x ∧ (M x).ok = true) :
    CSound P (addC f (tspecR shape K ok M) C) := by
  intro g vs Hi us w S M' μ hok hl hh hM hv
  simp only [addC] at hok ⊢
  cases hg : (g == f) with
  | false =>
    simp only [hg, cond_false] at hok ⊢
    exact hC g vs Hi us w S M' μ hok hl hh hM hv
  | true =>
    simp only [hg, cond_true] at hok ⊢
    have hgf : g = f := by simpa using hg
    subst hgf
    refine ⟨⟨fn, hf, hn, hb⟩, ?_⟩
    simp only [tspecR, Bool.and_eq_true, beq_iff_eq, List.isEmpty_iff] at hok
    obtain ⟨he, h1, h2, h3, h4⟩ := hok
    subst he
    have key := hs _ h4
    obtain ⟨g1, g2⟩ := groupA_sound (H := []) (μ := μ) (w := w) (S := S) shape vs (enc K (dec K (flatA vs))) h1 (by rw [enc_length, h2]) (fun q hq u hu => by
      rw [enc_length] at hq
      exact decP_sound K _ h3 q hq u hu)
    have := runF_sound (cx := { P := P, C := C, mode := mode, fuel := fuel (dec K (flatA vs)), live := live, pin := 0, K := Kc, nx := true, os := os }) (fn := fn) (vs := groupA shape (enc K (dec K (flatA vs)))) (Hi := []) hC hm rfl (hK 0 0) hf (by rw [key.1]; exact key.2) (by rw [g1]; exact hl) hh hM (fun i hi => g2 i (by rw [g1] at hi; exact hi) _ (hv i (by rw [g1] at hi; exact hi)))
    refine this.mono fun e w' hw => ?_
    rw [key.1] at hw
    exact hw
theorem Tab.addTyR {P : Program} {C C' : FuncId → List AV → List Blk → Res} {mode : FuncId → List Bool} {K K' : KT} {f : FuncId} {fn : Func} {shape : List (Option Nat)} {KK : CK} {ok : CT KK → Bool} {M : CT KK → Res} (h : Tab P C mode K) (h' : Tab P C' mode K') (hf : P.funcs[f]? = some fn) (hn : (fn.name == "runtime.NumGoroutine") = false) (hb : fn.body.isNone = false)
    (hkn : K f = Option.none) (live : Nat → List Nat) (fuel : CT KK → Nat)
    (hs : ∀ x, ok x = true → runF { P := P, C := C', mode := mode, fuel := fuel x, live := live, pin := 0, K := K', nx := true, os := os } fn (groupA shape (enc KK x)) [] = M x ∧ (M x).ok = true) :
    Tab P (addC f (tspecR shape KK ok M) C) mode K :=
  h.one (CSound.typedR h'.sound h.mixed hf hn hb mode live fuel K' (fun fu pin => h'.go fu _ pin) hs) hkn
end Go.Abs

namespace Go.Abs
variable [Globs]
open Go.RowKit (Below)
def ints (l : List AV) : List Int := l.map asInt
def allInt (l : List AV) : Bool := l.all (isInt .i64)
theorem allInt_eq : ∀ {l : List AV}, allInt l = true → l = (ints l).map (AV.int .i64)
  | [], _ => rfl
  | v :: l, h => by
    simp only [allInt, List.all_cons, Bool.and_eq_true] at h
    have ih := allInt_eq (l := l) h.2
    have hv : v = .int .i64 (asInt v) := by
      cases v <;> simp [isInt] at h
      rename_i k n
      obtain ⟨rfl, _⟩ := h
      rfl
    show v :: l = AV.int .i64 (asInt v) :: (ints l).map (AV.int .i64)
    rw [← ih, ← hv]
/-- What a function comes to that is handed a row, and numbers. -/
def tspecB (e : TypeId) (k : CK) (ok : List (CT k) → List Int → Bool) (M : List (CT k) → List Int → Res) (vs : List AV) (Hi : List Blk) : Res :=
  match vs, Hi with
  | .sl 0 0 0 Option.none :: rest, [.row 0 e' k' xs] =>
    ⟨decide (k' = k) && (decide (e' = e) && (allInt rest && ok (asL k (.ro k' xs)) (ints rest))), (M (asL k (.ro k' xs)) (ints rest)).val, (M (asL k (.ro k' xs)) (ints rest)).heap⟩
  | _, _ => .bad
theorem tspecB_ok {e : TypeId} {k : CK} {ok : List (CT k) → List Int → Bool} {M : List (CT k) → List Int → Res} {vs : List AV} {Hi : List Blk} (h : (tspecB e k ok M vs Hi).ok = true) :
    ∃ xs is, vs = .sl 0 0 0 Option.none :: is.map (AV.int .i64) ∧ Hi = [.row 0 e k xs] ∧ ok xs is = true ∧ tspecB e k ok M vs Hi = ⟨true, (M xs is).val, (M xs is).heap⟩ := by
  unfold tspecB at h ⊢
  split at h
  · rename_i vs Hi rest e' k' xs
    simp only [Bool.and_eq_true, decide_eq_true_eq] at h
    obtain ⟨rfl, rfl, h1, h2⟩ := h
    rw [asL_ro] at h2
    refine ⟨xs, ints rest, by rw [← allInt_eq h1], rfl, h2, ?_⟩
    simp only [asL_ro, decide_true, h1, h2, Bool.and_self]
  · cases h
theorem Tab.addTyB {P : Program} {C C' : FuncId → List AV → List Blk → Res} {mode : FuncId → List Bool} {K K' : KT} {f : FuncId} {fn : Func} {e : TypeId} {k : CK} {ok : List (CT k) → List Int → Bool} {M : List (CT k) → List Int → Res} (h : Tab P C mode K) (h' : Tab P C' mode K') (hf : P.funcs[f]? = some fn) (hn : (fn.name == "runtime.NumGoroutine") = false) (hb : fn.body.isNone = false)
    (hkn : K f = Option.none) (live : Nat → List Nat) (fuel : Nat)
    (hs : ∀ xs is, ok xs is = true → runF { P := P, C := C', mode := mode, fuel := fuel, live := live, pin := 1, K := K' } fn (.sl 0 0 0 Option.none :: is.map (AV.int .i64)) [.row 0 e k xs] = ⟨true, (M xs is).val, (M xs is).heap⟩) :
    Tab P (addC f (tspecB e k ok M) C) mode K := by
  refine Tab.add h h' hf hn hb hkn live (fun _ _ => fuel) fun vs Hi ho => ?_
  obtain ⟨xs, is, rfl, rfl, h1, h2⟩ := tspecB_ok ho
  rw [h2]
  exact hs xs is h1
/-- One that is told by what it does. -/
noncomputable def oneOf {α : Type} [Nonempty α] (p : α → Prop) : α := Classical.epsilon p
theorem oneOf_spec {α : Type} [Nonempty α] {p : α → Prop} (h : ∃ y, p y) : p (oneOf p) := Classical.epsilon_spec h
end Go.Abs
