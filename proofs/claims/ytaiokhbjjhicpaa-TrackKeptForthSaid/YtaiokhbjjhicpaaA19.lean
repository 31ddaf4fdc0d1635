/- Words for laws. -/
import Derived.Test.YtaiokhbjjhicpaaA18
set_option linter.all false
set_option linter.unusedVariables false
set_option linter.unusedSimpArgs false
namespace Go.Abs

theorem wrap_id {n : Int} (h : -9223372036854775808 ≤ n) (h' : n ≤ 9223372036854775807) : IntKind.wrap IntKind.i64 n = n := by rw [IntKind.wrap_i64]; omega
theorem wrap_succ {i : Nat} (h : i < 9223372036854775807) : IntKind.wrap IntKind.i64 ((i : Int) + 1) = ((i + 1 : Nat) : Int) := by rw [wrap_id (by omega) (by omega)]; omega
theorem wrapu_id {n : Int} (h : 0 ≤ n) (h' : n ≤ 9223372036854775807) : IntKind.wrap IntKind.u64 n = n := by simp [IntKind.wrap, IntKind.signed, IntKind.bits]; omega
theorem drop_nth {α : Type} (d : α) (xs : List α) {i : Nat} (h : i < xs.length) : xs.drop i = nth d xs i :: xs.drop (i + 1) := by rw [nth_lt _ _ _ h]; exact List.drop_eq_getElem_cons h
theorem take_nth {α : Type} (d : α) (xs : List α) {i : Nat} (h : i < xs.length) : xs.take (i + 1) = xs.take i ++ [nth d xs i] := by rw [nth_lt _ _ _ h]; exact List.take_succ_eq_append_getElem h
theorem nth_mem {α : Type} (d : α) (xs : List α) {i : Nat} (h : i < xs.length) : nth d xs i ∈ xs := by rw [nth_lt _ _ _ h]; exact List.getElem_mem h
theorem drop_len {α : Type} (xs : List α) {i : Nat} (h : xs.length ≤ i) : xs.drop i = [] := List.drop_of_length_le h
theorem shl_one {b : Int} (h : 0 ≤ b) (h' : b ≤ 62) : shlI .i64 1 b = 2 ^ b.toNat := by
  have e : min b.toNat (IntKind.bits .i64) = b.toNat := by simp [IntKind.bits]; omega
  have hp : (2 : Int) ^ b.toNat ≤ 2 ^ 62 := by
    have := Nat.pow_le_pow_right (n := 2) (by omega) (show b.toNat ≤ 62 by omega)
    exact_mod_cast this
  have hq : (0 : Int) ≤ 2 ^ b.toNat := Int.pow_nonneg (by omega)
  simp only [shlI, e, Int.one_mul]
  exact wrap_id (by omega) (by omega)
/-- A call that comes to one plain value. -/
theorem Ret.bool (b : Bool) : Ret [none] .bool ⟨true, .bool b, []⟩ b := ⟨rfl, rfl, rfl, rfl, rfl, rfl, fun _ h => by cases h⟩
theorem Ret.int (k : IntKind) (n : Int) : Ret [none] (.int k) ⟨true, .int k n, []⟩ n := ⟨rfl, rfl, rfl, rfl, by simp [roVs, valsOf, view, view1, flatA, cellsA, decOk, nth, isInt], rfl, fun _ h => by cases h⟩
theorem nble (a b : Nat) : Nat.ble a b = decide (a ≤ b) := by rw [Bool.eq_iff_iff]; simp [Nat.ble_eq]
theorem beq_ne {a b : Int} : (a != b) = !decide (a = b) := by
  rw [Bool.eq_iff_iff]; simp
end Go.Abs
