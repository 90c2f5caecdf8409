/- The sum of many blocks, as plain Lean. -/
import Derived.Test.YtmgnnclkjkbmdaaShaSpec
set_option linter.unusedSimpArgs false
set_option linter.unusedVariables false
set_option maxRecDepth 100000
namespace Go.Proofs.Ytmgnnclkjkbmdaa



namespace Sha
theorem word_congr {p q : List UInt8} (h : ∀ j, j < 64 → p.getD j 0 = q.getD j 0) {i : Nat} (hi : i < 16) : word p i = word q i := by
  simp only [word, h (4 * i) (by omega), h (4 * i + 1) (by omega), h (4 * i + 2) (by omega), h (4 * i + 3) (by omega)]
theorem sched_congr {p q : List UInt8} (h : ∀ j, j < 64 → p.getD j 0 = q.getD j 0) : ∀ n, sched p n = sched q n
  | 0 => by rw [sched_zero, sched_zero]
  | n + 1 => by
    have ih := sched_congr h n
    by_cases hn : n < 16
    · rw [sched_lo p n hn, sched_lo q n hn, ih, word_congr h hn]
    · rw [sched_hi p n (by omega), sched_hi q n (by omega), ih]
theorem rounds_congr {p q : List UInt8} (h : ∀ j, j < 64 → p.getD j 0 = q.getD j 0) (r : R) : ∀ n, rounds p r n = rounds q r n
  | 0 => rfl
  | n + 1 => by rw [rounds, rounds, rounds_congr h r n, sched_congr h 64]
theorem comp_congr {p q : List UInt8} (h : ∀ j, j < 64 → p.getD j 0 = q.getD j 0) (r : R) : comp r p = comp r q := by
  rw [comp, comp, rounds_congr h r 64]

/-- The first n blocks of some bytes. -/
def foldB (r : R) (l : List UInt8) : Nat → R
  | 0 => r
  | n + 1 => comp (foldB r l n) (l.drop (64 * n))
theorem foldB_congr {l m : List UInt8} (r : R) : ∀ n, (∀ j, j < 64 * n → l.getD j 0 = m.getD j 0) → foldB r l n = foldB r m n
  | 0, _ => rfl
  | n + 1, h => by
    rw [foldB, foldB, foldB_congr r n fun j hj => h j (by omega)]
    refine comp_congr (fun j hj => ?_) _
    have := h (64 * n + j) (by omega)
    simpa [List.getD, List.getElem?_drop] using this
theorem foldB_app (r : R) (a b : List UInt8) (n : Nat) (h : 64 * n ≤ a.length) : foldB r (a ++ b) n = foldB r a n :=
  foldB_congr r n fun j hj => by simp [List.getD, List.getElem?_append_left (show j < a.length by omega)]
theorem foldB_add (r : R) (l : List UInt8) (n : Nat) : ∀ k, foldB (foldB r l n) (l.drop (64 * n)) k = foldB r l (n + k)
  | 0 => rfl
  | k + 1 => by
    rw [foldB, foldB_add r l n k, List.drop_drop, ← Nat.add_assoc, foldB]
    congr 2
    omega

def be32 (x : UInt32) : List UInt8 := [(x >>> 24).toUInt8, (x >>> 16).toUInt8, (x >>> 8).toUInt8, x.toUInt8]
def be64 (x : UInt64) : List UInt8 := [(x >>> 56).toUInt8, (x >>> 48).toUInt8, (x >>> 40).toUInt8, (x >>> 32).toUInt8, (x >>> 24).toUInt8, (x >>> 16).toUInt8, (x >>> 8).toUInt8, x.toUInt8]
/-- How many zeros stand behind m bytes. -/
def zc (m : Nat) : Nat := (119 - m % 64) % 64
/-- Some last bytes, filled up, where n bytes are summed in all. -/
def fill (l : List UInt8) (n : UInt64) : List UInt8 := l ++ [0x80] ++ List.replicate (zc l.length) 0 ++ be64 (n * 8)
def pad (p : List UInt8) : List UInt8 := fill p (UInt64.ofNat p.length)
def out (r : R) : List UInt8 := r.list.flatMap be32
/-- The sum. -/
def sum (p : List UInt8) : List UInt8 := out (foldB first (pad p) ((pad p).length / 64))
/-- How many blocks. -/
def blocks (n : Nat) : Nat := n / 64 + (if n % 64 > 55 then 2 else 1)

@[simp] theorem be32_length (x : UInt32) : (be32 x).length = 4 := rfl
@[simp] theorem be64_length (x : UInt64) : (be64 x).length = 8 := rfl
@[simp] theorem out_length (r : R) : (out r).length = 32 := rfl
@[simp] theorem sum_length (p : List UInt8) : (sum p).length = 32 := rfl
theorem fill_length (l : List UInt8) (n : UInt64) : (fill l n).length = 64 * blocks l.length := by
  simp only [fill, List.length_append, List.length_cons, List.length_nil, List.length_replicate, be64_length, zc, blocks]
  split <;> omega
theorem pad_length (p : List UInt8) : (pad p).length = 64 * blocks p.length := fill_length _ _
theorem sum_eq (p : List UInt8) : sum p = out (foldB first (pad p) (blocks p.length)) := by
  rw [sum, pad_length, Nat.mul_div_cancel_left _ (by decide)]
/-- The bytes that are not yet taken in. -/
def rest (a : List UInt8) : List UInt8 := a.drop (64 * (a.length / 64))
theorem rest_length (a : List UInt8) : (rest a).length = a.length % 64 := by rw [rest, List.length_drop]; omega
theorem pad_rest (a : List UInt8) : fill (rest a) (UInt64.ofNat a.length) = (pad a).drop (64 * (a.length / 64)) := by
  have hz : zc (rest a).length = zc a.length := by rw [rest_length, zc, zc, Nat.mod_mod]
  simp only [pad, fill, hz, List.append_assoc]
  rw [List.drop_append_of_le_length (by omega)]
  rfl
/-- The sum by what was taken in and what was not. -/
theorem sum_rest (a : List UInt8) : out (foldB (foldB first a (a.length / 64)) (fill (rest a) (UInt64.ofNat a.length)) (blocks (a.length % 64))) = sum a := by
  have h1 : foldB first a (a.length / 64) = foldB first (pad a) (a.length / 64) := by
    simp only [pad, fill, List.append_assoc]
    rw [foldB_app _ _ _ _ (by omega)]
  rw [h1, pad_rest, foldB_add, sum_eq]
  congr 2
  simp only [blocks]
  split <;> split <;> omega
end Sha

end Go.Proofs.Ytmgnnclkjkbmdaa
