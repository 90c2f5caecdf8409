/- Small laws for walks: masks, arrays that are filled. -/
import Derived.Test.YtmgnnclkjkbmdaaFw13
set_option linter.unusedSimpArgs false
set_option linter.unusedVariables false
namespace Go.Fw
open Go
section
variable {P : Program} {a : Act} {w : World} {d : Option Tmp} {ty : TypeId} {pos : String} {aft : Array Edge} {g : Option (Nat × Bool)} {x y z : Operand} {t u : TypeId}
theorem ofInt64I {i : Int} (h0 : 0 ≤ i) (h1 : i < 18446744073709551616) : BitVec.ofInt 64 i = BitVec.ofNat 64 i.toNat := by
  apply BitVec.eq_of_toNat_eq
  simp [BitVec.toNat_ofInt]
  omega
theorem ib_andI {i j : Int} (h0 : 0 ≤ i) (h1 : i < 9223372036854775808) (g0 : 0 ≤ j) (g1 : j < 9223372036854775808) : Op.intBits .and .i64 i j = pure (I (i.toNat &&& j.toNat : Nat)) := by
  show (pure (.int .i64 (IntKind.i64.wrap ((BitVec.ofInt 64 i &&& BitVec.ofInt 64 j).toNat : Nat))) : Sem Value) = _
  rw [ofInt64I h0 (by omega), ofInt64I g0 (by omega)]
  have e : (BitVec.ofNat 64 i.toNat &&& BitVec.ofNat 64 j.toNat).toNat = i.toNat &&& j.toNat := by
    rw [BitVec.toNat_and, BitVec.toNat_ofNat, BitVec.toNat_ofNat, Nat.mod_eq_of_lt (by omega), Nat.mod_eq_of_lt (by omega)]
  have h2 : i.toNat &&& j.toNat ≤ i.toNat := Nat.and_le_left
  rw [e, wrap64_in (by omega) (by omega)]
theorem ib_xorI {i j : Int} (h0 : 0 ≤ i) (h1 : i < 9223372036854775808) (g0 : 0 ≤ j) (g1 : j < 9223372036854775808) : Op.intBits .xor .i64 i j = pure (I (i.toNat ^^^ j.toNat : Nat)) := by
  show (pure (.int .i64 (IntKind.i64.wrap ((BitVec.ofInt 64 i ^^^ BitVec.ofInt 64 j).toNat : Nat))) : Sem Value) = _
  rw [ofInt64I h0 (by omega), ofInt64I g0 (by omega)]
  have e : (BitVec.ofNat 64 i.toNat ^^^ BitVec.ofNat 64 j.toNat).toNat = i.toNat ^^^ j.toNat := by
    rw [BitVec.toNat_xor, BitVec.toNat_ofNat, BitVec.toNat_ofNat, Nat.mod_eq_of_lt (by omega), Nat.mod_eq_of_lt (by omega)]
  have h2 : i.toNat ^^^ j.toNat < 2 ^ 63 := Nat.xor_lt_two_pow (by omega) (by omega)
  rw [e, wrap64_in (by omega) (by omega)]
/-- 'x & 3' of what isn't negative. -/
theorem c_and3I {i : Int} (hx : a.eval x = I i) (hy : a.eval y = I 3) (h0 : 0 ≤ i) (h1 : i < 9223372036854775808) :
    (execOp a.eval ⟨d, .binOp .and t x y u, ty, pos, aft, g⟩).run P w = .ok (.value (I (i % 4))) w := by
  have e : ((i.toNat &&& (3 : Int).toNat : Nat) : Int) = i % 4 := by
    rw [show (3 : Int).toNat = 2 ^ 2 - 1 from rfl, Nat.and_two_pow_sub_one_eq_mod]
    omega
  simp [execOp, hx, hy, eqGuard, binOp, ib_andI h0 h1 (j := 3) (by omega) (by omega), e]
  exact e
theorem c_xor1I {i : Nat} (hx : a.eval x = I i) (hy : a.eval y = I 1) (h1 : (i : Int) < 9223372036854775808) :
    (execOp a.eval ⟨d, .binOp .xor t x y u, ty, pos, aft, g⟩).run P w = .ok (.value (I ((i ^^^ 1 : Nat) : Int))) w := by
  simp [execOp, hx, hy, eqGuard, binOp, ib_xorI (i := (i : Int)) (j := 1) (by omega) h1 (by omega) (by omega)]
end

theorem set_rep {α : Type} (l : List α) (m : Nat) (z x : α) : (l ++ List.replicate (m + 1) z).set l.length x = (l ++ [x]) ++ List.replicate m z := by
  rw [List.set_append_right _ _ (Nat.le_refl _), Nat.sub_self, List.replicate_succ, List.set_cons_zero]
  simp
/-- An array that is filled by a function. -/
def filled {α : Type} (f : Nat → α) (z : α) (n k : Nat) : List α := (List.range k).map f ++ List.replicate (n - k) z
theorem filled_len {α : Type} (f : Nat → α) (z : α) {n k : Nat} (h : k ≤ n) : (filled f z n k).length = n := by simp [filled]; omega
theorem filled_set {α : Type} (f : Nat → α) (z : α) {n k : Nat} (h : k < n) {x : α} (hx : x = f k) : (filled f z n k).set k x = filled f z n (k + 1) := by
  have h2 := set_rep ((List.range k).map f) (n - (k + 1)) z x
  simp only [List.length_map, List.length_range] at h2
  rw [show n - (k + 1) + 1 = n - k from by omega] at h2
  rw [filled, h2, filled, hx, List.range_succ]
  simp
theorem filled_zero {α : Type} (f : Nat → α) (z : α) (n : Nat) : filled f z n 0 = List.replicate n z := by simp [filled]
theorem filled_full {α : Type} (f : Nat → α) (z : α) (n : Nat) : filled f z n n = (List.range n).map f := by simp [filled]
theorem filled_get {α : Type} (f : Nat → α) (z : α) {n k j : Nat} (h : j < k) (hk : k ≤ n) (d : α) : (filled f z n k).getD j d = f j := by
  simp [filled, List.getElem?_append_left, h]
theorem getD_len {α : Type} (l : List α) (i : Nat) (d : α) (h : i < l.length) : l[i]? = some (l.getD i d) := by simp [h]
end Go.Fw
namespace Go.Fw
open Go
theorem c_tt {r : Result Next} {b : Bool} {w : World} (h : r = .ok (.value (.bool b)) w) (hb : b = true) : r = .ok (.value (.bool true)) w := by rw [h, hb]
theorem c_ff {r : Result Next} {b : Bool} {w : World} (h : r = .ok (.value (.bool b)) w) (hb : b = false) : r = .ok (.value (.bool false)) w := by rw [h, hb]
theorem c_to {r : Result Next} {u v : Value} {w : World} (h : r = .ok (.value u) w) (hb : u = v) : r = .ok (.value v) w := by rw [h, hb]
end Go.Fw
