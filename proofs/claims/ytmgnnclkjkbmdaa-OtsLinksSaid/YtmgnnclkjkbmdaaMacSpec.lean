/- Keyed sums and short sums, as plain Lean. -/
import Derived.Test.YtmgnnclkjkbmdaaShaSpec2
set_option linter.unusedSimpArgs false
set_option linter.unusedVariables false
set_option maxRecDepth 100000
namespace Go.Proofs.Ytmgnnclkjkbmdaa



namespace Sha
def short (k : UInt8) (p : List UInt8) : List UInt8 := (sum (k :: p)).take 16
@[simp] theorem short_length (k : UInt8) (p : List UInt8) : (short k p).length = 16 := rfl
def keyB (k : List UInt8) : List UInt8 := if k.length > 64 then sum k ++ List.replicate 32 0 else k ++ List.replicate (64 - k.length) 0
theorem keyB_length (k : List UInt8) : (keyB k).length = 64 := by
  unfold keyB
  split
  · rw [List.length_append, sum_length, List.length_replicate]
  · simp; omega
def hmac (k p : List UInt8) : List UInt8 := sum ((keyB k).map (· ^^^ 0x5c) ++ sum ((keyB k).map (· ^^^ 0x36) ++ p))
@[simp] theorem hmac_length (k p : List UInt8) : (hmac k p).length = 32 := rfl
def tag (k p : List UInt8) : List UInt8 := (hmac k p).take 16
@[simp] theorem tag_length (k p : List UInt8) : (tag k p).length = 16 := rfl
def prf (seed : List UInt8) (kind : UInt8) (nums : List UInt64) : List UInt8 := tag seed (kind :: UInt8.ofNat nums.length :: nums.flatMap be64)
@[simp] theorem prf_length (seed : List UInt8) (kind : UInt8) (nums : List UInt64) : (prf seed kind nums).length = 16 := rfl
/-- Each of the first k bytes is turned. -/
def xorZ (c : UInt8) (l : List UInt8) (k : Nat) : List UInt8 := (l.take k).map (· ^^^ c) ++ l.drop k
theorem xorZ_length (c : UInt8) (l : List UInt8) (k : Nat) : (xorZ c l k).length = l.length := by simp [xorZ]; omega
theorem xorZ_zero (c : UInt8) (l : List UInt8) : xorZ c l 0 = l := by simp [xorZ]
theorem xorZ_full (c : UInt8) (l : List UInt8) (k : Nat) (h : k = l.length) : xorZ c l k = l.map (· ^^^ c) := by subst h; simp [xorZ]
theorem xorZ_get (c : UInt8) (l : List UInt8) (k : Nat) (h : k < l.length) : (xorZ c l k).getD k 0 = l.getD k 0 := by
  have h1 : ((l.take k).map (· ^^^ c)).length = k := by simp; omega
  rw [xorZ, List.getD, List.getElem?_append_right (by omega), h1, Nat.sub_self, List.getElem?_drop]
  rfl
theorem xorZ_set (c : UInt8) (l : List UInt8) (k : Nat) (h : k < l.length) : (xorZ c l k).set k (l.getD k 0 ^^^ c) = xorZ c l (k + 1) := by
  have h1 : ((l.take k).map (· ^^^ c)).length = k := by simp; omega
  rw [xorZ, xorZ, List.set_append_right _ _ (by omega), h1, Nat.sub_self, List.take_succ_eq_append_getElem h, List.drop_eq_getElem_cons h, List.set_cons_zero, List.map_append, List.append_assoc]
  have h2 : l.getD k 0 = l[k] := by simp [List.getD, h]
  rw [h2]
  rfl
/-- The first k bytes of l in n places. -/
def upto (l : List UInt8) (n k : Nat) : List UInt8 := l.take k ++ List.replicate (n - k) 0
theorem upto_len (l : List UInt8) (n k : Nat) (h : k ≤ n) (hl : k ≤ l.length) : (upto l n k).length = n := by simp [upto]; omega
theorem upto_set (l : List UInt8) (n k : Nat) (h : k < n) (hl : k < l.length) : (upto l n k).set k (l.getD k 0) = upto l n (k + 1) := by
  have h2 := set_rep (l.take k) (n - (k + 1)) (0 : UInt8) (l.getD k 0)
  rw [List.length_take, Nat.min_eq_left (by omega), show n - (k + 1) + 1 = n - k from by omega] at h2
  rw [upto, upto, h2, List.take_succ_eq_append_getElem hl]
  simp [List.getD, hl]
theorem keyB_long (k : List UInt8) (h : 64 < k.length) : (sum k).take 64 ++ (List.replicate 64 (0 : UInt8)).drop (sum k).length = keyB k := by rw [keyB, if_pos h]; rfl
theorem keyB_small (k : List UInt8) (h : ¬ 64 < k.length) : k.take 64 ++ (List.replicate 64 (0 : UInt8)).drop k.length = keyB k := by
  rw [keyB, if_neg h, List.take_of_length_le (by omega), List.drop_replicate]
end Sha

end Go.Proofs.Ytmgnnclkjkbmdaa
