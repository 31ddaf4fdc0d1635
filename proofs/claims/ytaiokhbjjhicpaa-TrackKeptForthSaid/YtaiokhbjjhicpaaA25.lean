/- Contracts of functions that work on a row that is handed over, and take numbers beside it. -/
import Derived.Test.YtaiokhbjjhicpaaA24
set_option linter.all false
set_option linter.unusedVariables false
set_option linter.unusedSimpArgs false
namespace Go.Abs
open Go.RowKit (Below)
def ints (l : List AV) : List Int := l.map asInt
def allInt (l : List AV) : Bool := l.all (isInt .i64)
theorem allInt_eq : ∀ {l : List AV}, allInt l = true → l = (ints l).map (AV.int .i64)
  | [], _ => rfl
  | v :: l, h => by
    simp only [allInt, List.all_cons, Bool.and_eq_true] at h
    have ih := allInt_eq (l := l) h.2
    have hv : v = .int .i64 (asInt v) := by
      cases v <;> simp [isInt] at h
      rename_i k n
      obtain ⟨rfl, _⟩ := h
      rfl
    show v :: l = AV.int .i64 (asInt v) :: (ints l).map (AV.int .i64)
    rw [← ih, ← hv]
/-- What a function comes to that is handed a row, and numbers. -/
def tspecB (e : TypeId) (k : CK) (ok : List (CT k) → List Int → Bool) (M : List (CT k) → List Int → Res) (vs : List AV) (Hi : List Blk) : Res :=
  match vs, Hi with
  | .sl 0 0 0 Option.none :: rest, [.row 0 e' k' xs] =>
    ⟨decide (k' = k) && (decide (e' = e) && (allInt rest && ok (asL k (.ro k' xs)) (ints rest))), (M (asL k (.ro k' xs)) (ints rest)).val, (M (asL k (.ro k' xs)) (ints rest)).heap⟩
  | _, _ => .bad
theorem tspecB_ok {e : TypeId} {k : CK} {ok : List (CT k) → List Int → Bool} {M : List (CT k) → List Int → Res} {vs : List AV} {Hi : List Blk} (h : (tspecB e k ok M vs Hi).ok = true) :
    ∃ xs is, vs = .sl 0 0 0 Option.none :: is.map (AV.int .i64) ∧ Hi = [.row 0 e k xs] ∧ ok xs is = true ∧ tspecB e k ok M vs Hi = ⟨true, (M xs is).val, (M xs is).heap⟩ := by
  unfold tspecB at h ⊢
  split at h
  · rename_i vs Hi rest e' k' xs
    simp only [Bool.and_eq_true, decide_eq_true_eq] at h
    obtain ⟨rfl, rfl, h1, h2⟩ := h
    rw [asL_ro] at h2
    refine ⟨xs, ints rest, by rw [← allInt_eq h1], rfl, h2, ?_⟩
    simp only [asL_ro, decide_true, h1, h2, Bool.and_self]
  · cases h
theorem Tab.addTyB {P : Program} {C C' : FuncId → List AV → List Blk → Res} {mode : FuncId → List Bool} {K K' : KT} {f : FuncId} {fn : Func} {e : TypeId} {k : CK} {ok : List (CT k) → List Int → Bool} {M : List (CT k) → List Int → Res} (h : Tab P C mode K) (h' : Tab P C' mode K') (hf : P.funcs[f]? = some fn) (hn : (fn.name == "runtime.NumGoroutine") = false) (hb : fn.body.isNone = false)
    (hkn : K f = Option.none) (live : Nat → List Nat) (fuel : Nat)
    (hs : ∀ xs is, ok xs is = true → runF { P := P, C := C', mode := mode, fuel := fuel, live := live, pin := 1, K := K' } fn (.sl 0 0 0 Option.none :: is.map (AV.int .i64)) [.row 0 e k xs] = ⟨true, (M xs is).val, (M xs is).heap⟩) :
    Tab P (addC f (tspecB e k ok M) C) mode K := by
  refine Tab.add h h' hf hn hb hkn live (fun _ _ => fuel) fun vs Hi ho => ?_
  obtain ⟨xs, is, rfl, rfl, h1, h2⟩ := tspecB_ok ho
  rw [h2]
  exact hs xs is h1
/-- One that is told by what it does. -/
noncomputable def oneOf {α : Type} [Nonempty α] (p : α → Prop) : α := Classical.epsilon p
theorem oneOf_spec {α : Type} [Nonempty α] {p : α → Prop} (h : ∃ y, p y) : p (oneOf p) := Classical.epsilon_spec h
end Go.Abs
