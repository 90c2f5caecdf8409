/- The sum of the standard, as plain functions. -/

set_option linter.unusedSimpArgs false
set_option linter.unusedVariables false
set_option maxRecDepth 100000
namespace Go.Proofs.Ytmgnnclkjkbmdaa



/-! SHA-256 as plain functions on lists. -/
namespace Sha
def rotr (x : UInt32) (n : Nat) : UInt32 := x >>> UInt32.ofNat n ||| x <<< UInt32.ofNat (32 - n)
def s0 (x : UInt32) : UInt32 := rotr x 7 ^^^ rotr x 18 ^^^ x >>> 3
def s1 (x : UInt32) : UInt32 := rotr x 17 ^^^ rotr x 19 ^^^ x >>> 10
def word (p : List UInt8) (i : Nat) : UInt32 :=
  (p.getD (4 * i) 0).toUInt32 <<< 24 ||| (p.getD (4 * i + 1) 0).toUInt32 <<< 16 ||| (p.getD (4 * i + 2) 0).toUInt32 <<< 8 ||| (p.getD (4 * i + 3) 0).toUInt32
/-- The words of the first n rounds. -/
def sched (p : List UInt8) : Nat → List UInt32
  | 0 => []
  | n + 1 => sched p n ++ [if n < 16 then word p n else (sched p n).getD (n - 16) 0 + s0 ((sched p n).getD (n - 15) 0) + (sched p n).getD (n - 7) 0 + s1 ((sched p n).getD (n - 2) 0)]
theorem sched_length (p : List UInt8) : ∀ n, (sched p n).length = n
  | 0 => rfl
  | n + 1 => by simp [sched, sched_length p n]
def K : List UInt32 := [
    0x428a2f98, 0x71374491, 0xb5c0fbcf, 0xe9b5dba5, 0x3956c25b, 0x59f111f1, 0x923f82a4, 0xab1c5ed5,
    0xd807aa98, 0x12835b01, 0x243185be, 0x550c7dc3, 0x72be5d74, 0x80deb1fe, 0x9bdc06a7, 0xc19bf174,
    0xe49b69c1, 0xefbe4786, 0x0fc19dc6, 0x240ca1cc, 0x2de92c6f, 0x4a7484aa, 0x5cb0a9dc, 0x76f988da,
    0x983e5152, 0xa831c66d, 0xb00327c8, 0xbf597fc7, 0xc6e00bf3, 0xd5a79147, 0x06ca6351, 0x14292967,
    0x27b70a85, 0x2e1b2138, 0x4d2c6dfc, 0x53380d13, 0x650a7354, 0x766a0abb, 0x81c2c92e, 0x92722c85,
    0xa2bfe8a1, 0xa81a664b, 0xc24b8b70, 0xc76c51a3, 0xd192e819, 0xd6990624, 0xf40e3585, 0x106aa070,
    0x19a4c116, 0x1e376c08, 0x2748774c, 0x34b0bcb5, 0x391c0cb3, 0x4ed8aa4a, 0x5b9cca4f, 0x682e6ff3,
    0x748f82ee, 0x78a5636f, 0x84c87814, 0x8cc70208, 0x90befffa, 0xa4506ceb, 0xbef9a3f7, 0xc67178f2]
@[simp] theorem K_length : K.length = 64 := rfl
structure R where
  (a b c d e f g h : UInt32)
  deriving DecidableEq
def R.list (r : R) : List UInt32 := [r.a, r.b, r.c, r.d, r.e, r.f, r.g, r.h]
def first : R := ⟨0x6a09e667, 0xbb67ae85, 0x3c6ef372, 0xa54ff53a, 0x510e527f, 0x9b05688c, 0x1f83d9ab, 0x5be0cd19⟩
def t1 (r : R) (k w : UInt32) : UInt32 := r.h + (rotr r.e 6 ^^^ rotr r.e 11 ^^^ rotr r.e 25) + (r.e &&& r.f ^^^ ~~~r.e &&& r.g) + k + w
def t2 (r : R) : UInt32 := (rotr r.a 2 ^^^ rotr r.a 13 ^^^ rotr r.a 22) + (r.a &&& r.b ^^^ r.a &&& r.c ^^^ r.b &&& r.c)
def round (r : R) (k w : UInt32) : R := ⟨t1 r k w + t2 r, r.a, r.b, r.c, r.d + t1 r k w, r.e, r.f, r.g⟩
def rounds (p : List UInt8) (r : R) : Nat → R
  | 0 => r
  | n + 1 => round (rounds p r n) (K.getD n 0) ((sched p 64).getD n 0)
def R.add (r s : R) : R := ⟨r.a + s.a, r.b + s.b, r.c + s.c, r.d + s.d, r.e + s.e, r.f + s.f, r.g + s.g, r.h + s.h⟩
/-- One block. -/
def comp (r : R) (p : List UInt8) : R := r.add (rounds p r 64)

theorem set_rep {α : Type} (l : List α) (m : Nat) (z x : α) : (l ++ List.replicate (m + 1) z).set l.length x = (l ++ [x]) ++ List.replicate m z := by
  rw [List.set_append_right _ _ (Nat.le_refl _), Nat.sub_self, List.replicate_succ, List.set_cons_zero]
  simp
theorem sched_set (p : List UInt8) (k : Nat) (hk : k < 64) (x : UInt32) (hx : sched p (k + 1) = sched p k ++ [x]) : (sched p k ++ List.replicate (64 - k) 0).set k x = sched p (k + 1) ++ List.replicate (64 - (k + 1)) 0 := by
  have h := set_rep (sched p k) (64 - (k + 1)) 0 x
  rw [sched_length, show 64 - (k + 1) + 1 = 64 - k from by omega] at h
  rw [h, hx]
theorem sched_lo (p : List UInt8) (k : Nat) (hk : k < 16) : sched p (k + 1) = sched p k ++ [word p k] := by simp [sched, hk]
theorem sched_hi (p : List UInt8) (k : Nat) (hk : 16 ≤ k) : sched p (k + 1) = sched p k ++ [(sched p k).getD (k - 16) 0 + s0 ((sched p k).getD (k - 15) 0) + (sched p k).getD (k - 7) 0 + s1 ((sched p k).getD (k - 2) 0)] := by
  simp [sched, show ¬ k < 16 by omega]
theorem sched_getD (p : List UInt8) (k j : Nat) (R : List UInt32) (hj : j < k) : (sched p k ++ R).getD j 0 = (sched p k).getD j 0 := by
  have : j < (sched p k).length := by rw [sched_length]; exact hj
  simp [List.getElem?_append_left this]
theorem sched_zero (p : List UInt8) : sched p 0 = [] := rfl
attribute [irreducible] sched
@[simp] theorem R.list_length (r : R) : r.list.length = 8 := rfl
end Sha

end Go.Proofs.Ytmgnnclkjkbmdaa
