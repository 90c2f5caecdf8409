/- Bytes as digits; the standard's example. -/
import Derived.Test.YtmgnnclkjkbmdaaShaSpec2
set_option linter.unusedSimpArgs false
set_option linter.unusedVariables false
set_option maxRecDepth 100000
namespace Go.Proofs.Ytmgnnclkjkbmdaa



namespace Sha
def digs : List UInt8 := [48, 49, 50, 51, 52, 53, 54, 55, 56, 57, 97, 98, 99, 100, 101, 102]
def hexd (n : UInt8) : UInt8 := digs.getD n.toNat 0
/-- Bytes as digits. -/
def hexs (p : List UInt8) : List UInt8 := p.flatMap fun (x : UInt8) => [hexd (x >>> 4), hexd (x &&& 15)]
theorem hi_lt (x : UInt8) : (x >>> 4).toNat < 16 := by
  have := x.toNat_lt
  rw [UInt8.toNat_shiftRight]
  simp [Nat.shiftRight_eq_div_pow]
  omega
theorem lo_lt (x : UInt8) : (x &&& 15).toNat < 16 := by
  rw [UInt8.toNat_and]
  have h : (15 : UInt8).toNat = 2 ^ 4 - 1 := rfl
  rw [h, Nat.and_two_pow_sub_one_eq_mod]
  omega
theorem hexs_succ (p : List UInt8) (k : Nat) (h : k < p.length) : hexs (p.take (k + 1)) = hexs (p.take k) ++ [hexd (p.getD k 0 >>> 4), hexd (p.getD k 0 &&& 15)] := by
  have : p.take (k + 1) = p.take k ++ [p.getD k 0] := by
    rw [List.take_succ_eq_append_getElem h]
    simp [List.getD, h]
  rw [this, hexs, List.flatMap_append]
  rfl
theorem hexs_length (p : List UInt8) : (hexs p).length = 2 * p.length := by
  induction p with
  | nil => rfl
  | cons x p ih => simp only [hexs, List.flatMap_cons, List.length_append, List.length_cons, List.length_nil] at ih ⊢; omega
/-- The standard's example. -/
def abcHex : List UInt8 := [98, 97, 55, 56, 49, 54, 98, 102, 56, 102, 48, 49, 99, 102, 101, 97, 52, 49, 52, 49, 52, 48, 100, 101, 53, 100, 97, 101, 50, 50, 50, 51, 98, 48, 48, 51, 54, 49, 97, 51, 57, 54, 49, 55, 55, 97, 57, 99, 98, 52, 49, 48, 102, 102, 54, 49, 102, 50, 48, 48, 49, 53, 97, 100]
theorem abc_ok : (hexs (sum [97, 98, 99]) == abcHex) = true := by decide +kernel
end Sha

end Go.Proofs.Ytmgnnclkjkbmdaa
