/- Numbers as bytes. -/
import Derived.Test.YtmgnnclkjkbmdaaMacSpec
import Derived.Test.YtmgnnclkjkbmdaaRefSpec
import Derived.Test.YtmgnnclkjkbmdaaShaSpec2
set_option linter.unusedSimpArgs false
set_option linter.unusedVariables false
set_option maxRecDepth 100000
namespace Go.Proofs.Ytmgnnclkjkbmdaa



namespace Sha
def num (x : UInt64) (s k : Nat) : List UInt8 := List.replicate (s - k) 0 ++ (be64 x).drop (8 - k)
theorem num_len (x : UInt64) (s k : Nat) (h : k ≤ s) (hs : s ≤ 8) : (num x s k).length = s := by simp [num]; omega
theorem drop_back (x : UInt64) : ∀ k, k < 8 → (be64 x).drop (8 - (k + 1)) = (be64 x).getD (7 - k) 0 :: (be64 x).drop (8 - k)
  | 0, _ => rfl | 1, _ => rfl | 2, _ => rfl | 3, _ => rfl | 4, _ => rfl | 5, _ => rfl | 6, _ => rfl | 7, _ => rfl
  | k + 8, h => absurd h (by omega)
theorem num_set (x : UInt64) (s k : Nat) (h : k < s) (hs : s ≤ 8) : (num x s k).set (s - 1 - k) ((be64 x).getD (7 - k) 0) = num x s (k + 1) := by
  have e : List.replicate (s - k) (0 : UInt8) = List.replicate (s - 1 - k) 0 ++ [0] := by
    rw [show s - k = (s - 1 - k) + 1 from by omega, List.replicate_succ']
  rw [num, num, e, List.append_assoc, List.set_append_right _ _ (by simp), List.length_replicate, Nat.sub_self, drop_back x k (by omega), show s - (k + 1) = s - 1 - k from by omega]
  rfl
theorem num_zero (x : UInt64) (s : Nat) (hs : s ≤ 8) : num x s 0 = List.replicate s 0 := by rw [num, List.drop_of_length_le (by simp)]; simp
theorem num_8 (x : UInt64) : num x 8 8 = be64 x := rfl
theorem take_xor (c : UInt8) (l : List UInt8) (i : Nat) (h : i < l.length) : (l.take (i + 1)).map (· ^^^ c) = (l.take i).map (· ^^^ c) ++ [l.getD i 0 ^^^ c] := by
  rw [List.take_succ_eq_append_getElem h, List.map_append]
  have h2 : l.getD i 0 = l[i] := by simp [List.getD, h]
  rw [h2]
  rfl
theorem upto_zero (l : List UInt8) (n : Nat) : upto l n 0 = List.replicate n 0 := by simp [upto]
theorem upto_long (k : List UInt8) (h : 64 < k.length) : upto (sum k) 64 32 = keyB k := by rw [keyB, if_pos h]; rfl
theorem upto_small (k : List UInt8) (h : ¬ 64 < k.length) : upto k 64 k.length = keyB k := by rw [keyB, if_neg h, upto, List.take_length]
theorem upto_half (d : List UInt8) : upto d 16 16 = d.take 16 := by simp [upto]
end Sha

end Go.Proofs.Ytmgnnclkjkbmdaa
