/- Bytes from behind; digits as the document has them. -/
import Derived.Test.YtmgnnclkjkbmdaaHexSpec
set_option linter.unusedSimpArgs false
set_option linter.unusedVariables false
set_option maxRecDepth 100000
namespace Go.Proofs.Ytmgnnclkjkbmdaa



namespace Sha
def qd (x : UInt64) : Nat → UInt64
  | 0 => x
  | k + 1 => qd x k / 256
def qd32 (x : UInt32) : Nat → UInt32
  | 0 => x
  | k + 1 => qd32 x k / 256
theorem qd_byte (x : UInt64) : ∀ k, k < 8 → (qd x k % 256).toUInt8 = (be64 x).getD (7 - k) 0 := by
  have h256 : (256 : UInt64).toNat = 256 := rfl
  have hx := x.toNat_lt
  have key : ∀ k, (qd x k).toNat = x.toNat / 256 ^ k := by
    intro k
    induction k with
    | zero => simp [qd]
    | succ k ih => rw [qd, UInt64.toNat_div, ih, h256, Nat.div_div_eq_div_mul, Nat.pow_succ]
  intro k hk
  apply UInt8.toNat_inj.1
  rw [UInt64.toNat_toUInt8, UInt64.toNat_mod, key, h256]
  rcases k with _ | _ | _ | _ | _ | _ | _ | _ | k
  · simp [be64, List.getD]
  · simp [be64, List.getD, UInt64.toNat_shiftRight, Nat.shiftRight_eq_div_pow]
  · simp [be64, List.getD, UInt64.toNat_shiftRight, Nat.shiftRight_eq_div_pow]
  · simp [be64, List.getD, UInt64.toNat_shiftRight, Nat.shiftRight_eq_div_pow]
  · simp [be64, List.getD, UInt64.toNat_shiftRight, Nat.shiftRight_eq_div_pow]
  · simp [be64, List.getD, UInt64.toNat_shiftRight, Nat.shiftRight_eq_div_pow]
  · simp [be64, List.getD, UInt64.toNat_shiftRight, Nat.shiftRight_eq_div_pow]
  · simp [be64, List.getD, UInt64.toNat_shiftRight, Nat.shiftRight_eq_div_pow]
  · omega
theorem qd32_byte (x : UInt32) : ∀ k, k < 4 → (qd32 x k % 256).toUInt8 = (be32 x).getD (3 - k) 0 := by
  have h256 : (256 : UInt32).toNat = 256 := rfl
  have hx := x.toNat_lt
  have key : ∀ k, (qd32 x k).toNat = x.toNat / 256 ^ k := by
    intro k
    induction k with
    | zero => simp [qd32]
    | succ k ih => rw [qd32, UInt32.toNat_div, ih, h256, Nat.div_div_eq_div_mul, Nat.pow_succ]
  intro k hk
  apply UInt8.toNat_inj.1
  rw [UInt32.toNat_toUInt8, UInt32.toNat_mod, key, h256]
  rcases k with _ | _ | _ | _ | k
  · simp [be32, List.getD]
  · simp [be32, List.getD, UInt32.toNat_shiftRight, Nat.shiftRight_eq_div_pow]
  · simp [be32, List.getD, UInt32.toNat_shiftRight, Nat.shiftRight_eq_div_pow]
  · simp [be32, List.getD, UInt32.toNat_shiftRight, Nat.shiftRight_eq_div_pow]
  · omega
/-- Bytes from behind. -/
def lo64 (x : UInt64) (k : Nat) : List UInt8 := List.replicate (8 - k) 0 ++ (be64 x).drop (8 - k)
theorem lo64_set (x : UInt64) : ∀ k, k < 8 → (lo64 x k).set (7 - k) ((be64 x).getD (7 - k) 0) = lo64 x (k + 1)
  | 0, _ => rfl | 1, _ => rfl | 2, _ => rfl | 3, _ => rfl | 4, _ => rfl | 5, _ => rfl | 6, _ => rfl | 7, _ => rfl
  | k + 8, h => absurd h (by omega)
theorem lo64_len (x : UInt64) (k : Nat) (h : k ≤ 8) : (lo64 x k).length = 8 := by simp [lo64]
def lo32 (x : UInt32) (k : Nat) : List UInt8 := List.replicate (4 - k) 0 ++ (be32 x).drop (4 - k)
theorem lo32_set (x : UInt32) : ∀ k, k < 4 → (lo32 x k).set (3 - k) ((be32 x).getD (3 - k) 0) = lo32 x (k + 1)
  | 0, _ => rfl | 1, _ => rfl | 2, _ => rfl | 3, _ => rfl
  | k + 4, h => absurd h (by omega)
theorem lo32_len (x : UInt32) (k : Nat) (h : k ≤ 4) : (lo32 x k).length = 4 := by simp [lo32]
/-- A digit as the document has it. -/
def dig2 (n : UInt8) : UInt8 := if n < 10 then 48 + n else 97 + n - 10
theorem dig2_eq : ∀ i, i < 16 → dig2 (UInt8.ofNat i) = hexd (UInt8.ofNat i) := by decide
theorem dig2_hexd (n : UInt8) (h : n.toNat < 16) : dig2 n = hexd n := by
  have := dig2_eq n.toNat h
  rwa [UInt8.ofNat_toNat] at this
theorem hi_eq8 (x : UInt8) : x / (16 : UInt8) = x >>> (4 : UInt8) := by
  apply UInt8.toNat_inj.1
  rw [UInt8.toNat_div, UInt8.toNat_shiftRight]
  simp [Nat.shiftRight_eq_div_pow]
theorem lo_eq8 (x : UInt8) : x % (16 : UInt8) = x &&& (15 : UInt8) := by
  apply UInt8.toNat_inj.1
  rw [UInt8.toNat_mod, UInt8.toNat_and]
  have h : (15 : UInt8).toNat = 2 ^ 4 - 1 := rfl
  rw [h, Nat.and_two_pow_sub_one_eq_mod]
  rfl
end Sha

end Go.Proofs.Ytmgnnclkjkbmdaa
