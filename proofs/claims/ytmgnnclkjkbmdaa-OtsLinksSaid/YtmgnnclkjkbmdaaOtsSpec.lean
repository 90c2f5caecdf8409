/- A message, its digits, and why of two unlike messages each has a lower digit. -/
import Derived.Test.YtmgnnclkjkbmdaaShaSpec
set_option linter.unusedSimpArgs false
set_option linter.unusedVariables false
set_option maxRecDepth 100000
namespace Go.Proofs.Ytmgnnclkjkbmdaa



/-! A message's digits. -/
namespace Ots
def dig (m : List UInt8) (i : Nat) : UInt8 := m.getD (i / 4) 0 >>> UInt8.ofNat (6 - 2 * (i % 4)) &&& 3
/-- What is left, over the first n digits. -/
def left (m : List UInt8) : Nat → Nat
  | 0 => 0
  | n + 1 => left m n + (3 - (dig m n).toNat)
def chk (m : List UInt8) (i : Nat) : UInt8 := UInt8.ofNat (left m 64 / 2 ^ (6 - 2 * i) % 4)
def dgt (m : List UInt8) (i : Nat) : UInt8 := if i < 64 then dig m i else chk m (i - 64)
def digits (m : List UInt8) : List UInt8 := (List.range 68).map (dgt m)
@[simp] theorem digits_length (m : List UInt8) : (digits m).length = 68 := by simp [digits]
theorem dig_le (m : List UInt8) (i : Nat) : (dig m i).toNat ≤ 3 := by
  unfold dig
  rw [UInt8.toNat_and]
  exact Nat.and_le_right
theorem left_le (m : List UInt8) : ∀ n, left m n ≤ 3 * n
  | 0 => by simp [left]
  | n + 1 => by have := left_le m n; simp only [left]; omega
theorem chk_toNat (m : List UInt8) (i : Nat) : (chk m i).toNat = left m 64 / 2 ^ (6 - 2 * i) % 4 := by
  unfold chk
  rw [UInt8.toNat_ofNat']
  omega
theorem dgt_le (m : List UInt8) (i : Nat) : (dgt m i).toNat ≤ 3 := by
  unfold dgt
  split
  · exact dig_le m i
  · rw [chk_toNat]; omega
theorem dgt_getD (m : List UInt8) (i : Nat) (h : i < 68) : (digits m).getD i 0 = dgt m i := by simp [digits, h]

/-! Of two unlike messages each has a lower digit. -/
theorem byte_parts (x y : UInt8) (h : ∀ k, k < 4 → x >>> UInt8.ofNat (6 - 2 * k) &&& 3 = y >>> UInt8.ofNat (6 - 2 * k) &&& 3) : x = y := by
  have h0 := h 0 (by omega)
  have h1 := h 1 (by omega)
  have h2 := h 2 (by omega)
  have h3 := h 3 (by omega)
  have e : ∀ (z : UInt8) (n : Nat), n < 8 → (z >>> UInt8.ofNat n &&& 3).toNat = z.toNat / 2 ^ n % 4 := by
    intro z n hn
    rw [UInt8.toNat_and, UInt8.toNat_shiftRight]
    rw [show (3 : UInt8).toNat = 2 ^ 2 - 1 from rfl, Nat.and_two_pow_sub_one_eq_mod]
    simp [Nat.shiftRight_eq_div_pow, Nat.mod_eq_of_lt (a := n) (b := 256) (by omega), Nat.mod_eq_of_lt hn]
  have g0 := congrArg UInt8.toNat h0
  have g1 := congrArg UInt8.toNat h1
  have g2 := congrArg UInt8.toNat h2
  have g3 := congrArg UInt8.toNat h3
  simp only [e _ _ (show 6 - 2 * 0 < 8 by omega), e _ _ (show 6 - 2 * 1 < 8 by omega), e _ _ (show 6 - 2 * 2 < 8 by omega), e _ _ (show 6 - 2 * 3 < 8 by omega)] at g0 g1 g2 g3
  have hx := x.toNat_lt
  have hy := y.toNat_lt
  apply UInt8.toNat_inj.1
  simp at g0 g1 g2 g3
  omega
theorem same_of_digs (a b : List UInt8) (ha : a.length = 16) (hb : b.length = 16) (h : ∀ i, i < 64 → dig a i = dig b i) : a = b := by
  apply List.ext_getElem (by omega)
  intro i h1 h2
  have := byte_parts (a.getD i 0) (b.getD i 0) fun k hk => by
    have := h (4 * i + k) (by omega)
    unfold dig at this
    rw [show (4 * i + k) / 4 = i by omega, show (4 * i + k) % 4 = k by omega] at this
    exact this
  simpa [h1, h2] using this
theorem left_mono (a b : List UInt8) : ∀ n, (∀ i, i < n → (dig b i).toNat ≤ (dig a i).toNat) → left a n ≤ left b n ∧ ((∃ i, i < n ∧ (dig b i).toNat < (dig a i).toNat) → left a n < left b n)
  | 0, _ => ⟨Nat.le_refl _, fun ⟨i, hi, _⟩ => by omega⟩
  | n + 1, h => by
    have ih := left_mono a b n fun i hi => h i (by omega)
    have hn := h n (by omega)
    have h1 := dig_le a n
    have h2 := dig_le b n
    simp only [left]
    refine ⟨by omega, ?_⟩
    rintro ⟨i, hi, hlt⟩
    by_cases e : i = n
    · subst e; omega
    · have := ih.2 ⟨i, by omega, hlt⟩
      omega
theorem digits4 (x y : Nat) (hx : x < 256) (hy : y < 256) (h : x < y) : ∃ i, i < 4 ∧ x / 2 ^ (6 - 2 * i) % 4 < y / 2 ^ (6 - 2 * i) % 4 := by
  apply Classical.byContradiction
  intro hn
  have g : ∀ i, i < 4 → y / 2 ^ (6 - 2 * i) % 4 ≤ x / 2 ^ (6 - 2 * i) % 4 := fun i hi => by
    apply Classical.byContradiction
    intro h2
    exact hn ⟨i, hi, by omega⟩
  have g0 := g 0 (by omega)
  have g1 := g 1 (by omega)
  have g2 := g 2 (by omega)
  have g3 := g 3 (by omega)
  simp at g0 g1 g2 g3
  have dec : ∀ z : Nat, z < 256 → z = 64 * (z / 64 % 4) + 16 * (z / 16 % 4) + 4 * (z / 4 % 4) + z % 4 := fun z hz => by omega
  have e1 := dec x hx
  have e2 := dec y hy
  generalize x / 64 % 4 = x3 at *
  generalize x / 16 % 4 = x2 at *
  generalize x / 4 % 4 = x1 at *
  generalize x % 4 = x0 at *
  generalize y / 64 % 4 = y3 at *
  generalize y / 16 % 4 = y2 at *
  generalize y / 4 % 4 = y1 at *
  generalize y % 4 = y0 at *
  omega
theorem lower (a b : List UInt8) (ha : a.length = 16) (hb : b.length = 16) (hne : a ≠ b) : ∃ i, i < 68 ∧ (dgt a i).toNat < (dgt b i).toNat := by
  by_cases h : ∃ i, i < 64 ∧ (dig a i).toNat < (dig b i).toNat
  · obtain ⟨i, hi, hlt⟩ := h
    exact ⟨i, by omega, by simp only [dgt, if_pos hi]; exact hlt⟩
  · have hge : ∀ i, i < 64 → (dig b i).toNat ≤ (dig a i).toNat := fun i hi => by
      apply Classical.byContradiction
      intro h2
      exact h ⟨i, hi, by omega⟩
    have hex : ∃ i, i < 64 ∧ (dig b i).toNat < (dig a i).toNat := by
      apply Classical.byContradiction
      intro h2
      apply hne
      refine same_of_digs a b ha hb fun i hi => UInt8.toNat_inj.1 ?_
      have h3 := hge i hi
      have h4 : ¬ (dig b i).toNat < (dig a i).toNat := fun h5 => h2 ⟨i, hi, h5⟩
      omega
    have hl := (left_mono a b 64 hge).2 hex
    have l1 := left_le a 64
    have l2 := left_le b 64
    obtain ⟨i, hi, hlt⟩ := digits4 (left a 64) (left b 64) (by omega) (by omega) hl
    refine ⟨64 + i, by omega, ?_⟩
    simp only [dgt, if_neg (show ¬ 64 + i < 64 by omega), show 64 + i - 64 = i by omega, chk_toNat]
    exact hlt
/-- Is some digit of the first n lower? -/
def low (a b : List UInt8) (n : Nat) : Bool := (List.range n).any fun i => decide ((dgt a i).toNat < (dgt b i).toNat)
theorem low_succ (a b : List UInt8) (n : Nat) : low a b (n + 1) = (low a b n || decide ((dgt a n).toNat < (dgt b n).toNat)) := by simp [low, List.range_succ]
theorem low_all (a b : List UInt8) (ha : a.length = 16) (hb : b.length = 16) : low a b 68 = !decide (a = b) := by
  by_cases e : a = b
  · subst e
    simp [low]
  · obtain ⟨i, hi, h⟩ := lower a b ha hb e
    have : low a b 68 = true := List.any_eq_true.2 ⟨i, by simpa using hi, by simpa using h⟩
    simp [this, e]
end Ots

end Go.Proofs.Ytmgnnclkjkbmdaa
