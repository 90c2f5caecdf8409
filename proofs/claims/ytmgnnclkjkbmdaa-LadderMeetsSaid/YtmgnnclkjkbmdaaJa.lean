/- Own texts of this seat, laid together: TreeLaw, LadderSpec, LadA, LadB, LadC, LadD. -/
import Derived.Test.YtmgnnclkjkbmdaaGa
import Derived.Test.YtmgnnclkjkbmdaaGb
import Derived.Test.YtmgnnclkjkbmdaaGe
import Derived.Test.YtmgnnclkjkbmdaaHa
import Derived.Test.YtmgnnclkjkbmdaaHb
/- Trees of short sums: the own way leads up, and whatever way leads up is the own one, or two unlike texts have one short sum. -/
section
set_option linter.unusedSimpArgs false
set_option linter.unusedVariables false
set_option maxRecDepth 100000
namespace Go.Proofs.Ytmgnnclkjkbmdaa


open Sha
section
variable (J : Nat → List UInt8 → List UInt8 → List UInt8) (lf : Nat → List UInt8) (lt : Nat → List (List UInt8))
/-- What stands at a level and a place. -/
def node : Nat → Nat → List UInt8
  | 0, q => lf q
  | n + 1, q => ofT (J (n + 1) (node n (2 * q)) (node n (2 * q + 1)))
/-- What is summed for it. -/
def nodeTs : Nat → Nat → List (List UInt8)
  | 0, q => lt q
  | n + 1, q => nodeTs n (2 * q) ++ nodeTs n (2 * q + 1) ++ [J (n + 1) (node J lf n (2 * q)) (node J lf n (2 * q + 1))]
/-- What is summed at a step up, and what comes. -/
def stepX (k q : Nat) (l s : List UInt8) : List UInt8 := if q % 2 = 1 then J (k + 1) s l else J (k + 1) l s
def riseN (id : Nat) (l : List UInt8) (way : Nat → List UInt8) : Nat → List UInt8
  | 0 => l
  | k + 1 => ofT (stepX J k (id / 2 ^ k) (riseN id l way k) (way k))
def riseTs (id : Nat) (l : List UInt8) (way : Nat → List UInt8) : Nat → List (List UInt8)
  | 0 => []
  | k + 1 => riseTs id l way k ++ [stepX J k (id / 2 ^ k) (riseN J id l way k) (way k)]
def besideI (q : Nat) : Nat := if q % 2 = 1 then q - 1 else q + 1
/-- What stands beside the way up. -/
def wayN (id k : Nat) : List UInt8 := node J lf k (besideI (id / 2 ^ k))
variable {J lf lt}
theorem node_length (hl : ∀ q, (lf q).length = 16) : ∀ n q, (node J lf n q).length = 16
  | 0, q => hl q
  | n + 1, q => rfl
theorem riseN_length {id : Nat} {l : List UInt8} {way : Nat → List UInt8} (hl : l.length = 16) : ∀ n, (riseN J id l way n).length = 16
  | 0 => hl
  | n + 1 => rfl
theorem half_pow (id k : Nat) : id / 2 ^ (k + 1) = id / 2 ^ k / 2 := by rw [Nat.pow_succ, Nat.div_div_eq_div_mul]
theorem step_own (k q : Nat) : stepX J k q (node J lf k q) (node J lf k (besideI q)) = J (k + 1) (node J lf k (2 * (q / 2))) (node J lf k (2 * (q / 2) + 1)) := by
  unfold stepX besideI
  by_cases h : q % 2 = 1
  · rw [if_pos h, if_pos h, show 2 * (q / 2) = q - 1 from by omega, show q - 1 + 1 = q from by omega]
  · rw [if_neg h, if_neg h, show 2 * (q / 2) = q from by omega]
/-- The own way leads up. -/
theorem rise_node (id : Nat) : ∀ n, riseN J id (lf id) (wayN J lf id) n = node J lf n (id / 2 ^ n)
  | 0 => by simp [riseN, node]
  | n + 1 => by rw [riseN, rise_node id n, wayN, step_own, half_pow, node]
/-- Whatever way leads up is the own one, or two unlike texts have one short sum. -/
theorem rise_sound (hJ : ∀ k a b c d, a.length = 16 → c.length = 16 → J k a b = J k c d → a = c ∧ b = d) (hl : ∀ q, (lf q).length = 16) {id : Nat} {l : List UInt8} {way : Nat → List UInt8} (hl2 : l.length = 16) :
    ∀ n, (∀ k, k < n → (way k).length = 16) → riseN J id l way n = node J lf n (id / 2 ^ n) → (∀ x ∈ nodeTs J lf lt n (id / 2 ^ n), ∀ y ∈ riseTs J id l way n, ofT x = ofT y → x = y) → l = lf id ∧ ∀ k, k < n → way k = wayN J lf id k
  | 0, _, h, _ => ⟨by simpa [riseN, node] using h, fun k hk => by omega⟩
  | n + 1, hw, h, hc => by
    have hq := half_pow id n
    rw [hq] at h hc
    have e : J (n + 1) (node J lf n (2 * (id / 2 ^ n / 2))) (node J lf n (2 * (id / 2 ^ n / 2) + 1)) = stepX J n (id / 2 ^ n) (riseN J id l way n) (way n) :=
      hc _ (by simp [nodeTs]) _ (by simp [riseTs]) (by rw [riseN, node] at h; exact h.symm)
    rw [← step_own (J := J) (lf := lf) n (id / 2 ^ n)] at e
    have hn := hw n (by omega)
    have e2 : riseN J id l way n = node J lf n (id / 2 ^ n) ∧ way n = node J lf n (besideI (id / 2 ^ n)) := by
      unfold stepX at e
      split at e
      · have := hJ _ _ _ _ _ (node_length hl _ _) hn e
        exact ⟨this.2.symm, this.1.symm⟩
      · have := hJ _ _ _ _ _ (node_length hl _ _) (riseN_length hl2 n) e
        exact ⟨this.1.symm, this.2.symm⟩
    have sub : ∀ x ∈ nodeTs J lf lt n (id / 2 ^ n), x ∈ nodeTs J lf lt (n + 1) (id / 2 ^ n / 2) := fun x hx => by
      have h2 : id / 2 ^ n = 2 * (id / 2 ^ n / 2) ∨ id / 2 ^ n = 2 * (id / 2 ^ n / 2) + 1 := by omega
      simp only [nodeTs, List.mem_append]
      rcases h2 with h2 | h2
      · left; left; rw [← h2]; exact hx
      · left; right; rw [← h2]; exact hx
    have ih := rise_sound hJ hl hl2 n (fun k hk => hw k (by omega)) e2.1 fun x hx y hy => hc x (sub x hx) y (by rw [riseTs]; exact List.mem_append.2 (.inl hy))
    refine ⟨ih.1, fun k hk => ?_⟩
    by_cases ek : k = n
    · subst ek; exact e2.2
    · exact ih.2 k (by omega)
end

end Go.Proofs.Ytmgnnclkjkbmdaa
end

/- Rungs: what is summed for them, how many levels and blocks there are. -/
section
set_option linter.unusedSimpArgs false
set_option linter.unusedVariables false
set_option maxRecDepth 100000
namespace Go.Proofs.Ytmgnnclkjkbmdaa
open Go Go.Fw

open Sha
/-- A place and a rung as bytes. -/
def placeB (d : Int) (ep sq : UInt32) (r : Int) : List UInt8 := i8 d :: (be32 ep ++ be32 sq ++ [i8 r])
@[simp] theorem placeB_length (d : Int) (ep sq : UInt32) (r : Int) : (placeB d ep sq r).length = 10 := rfl
def leafX (d : Int) (ep sq : UInt32) (r : Int) (e : List UInt8) (id : Int) : List UInt8 := 76 :: (placeB d ep sq r ++ e ++ [i8 id])
def joinX (d : Int) (ep sq : UInt32) (r : Int) (a b : List UInt8) : List UInt8 := 74 :: (placeB d ep sq r ++ a ++ b)
theorem leafX_length {d : Int} {ep sq : UInt32} {r : Int} {e : List UInt8} (id : Int) (he : e.length = 16) : (leafX d ep sq r e id).length = 28 := by simp [leafX, he]
theorem joinX_length {d : Int} {ep sq : UInt32} {r : Int} {a b : List UInt8} (ha : a.length = 16) (hb : b.length = 16) : (joinX d ep sq r a b).length = 43 := by simp [joinX, ha, hb]
theorem joinX_inj {d : Int} {ep sq : UInt32} {r : Int} {a b a' b' : List UInt8} (ha : a.length = 16) (ha' : a'.length = 16) (h : joinX d ep sq r a b = joinX d ep sq r a' b') : a = a' ∧ b = b' := by
  have h2 := (List.cons.inj h).2
  rw [List.append_assoc, List.append_assoc] at h2
  exact List.append_inj (List.append_cancel_left h2) (by omega)
/-- A rung's tree. -/
def lJ (d : Int) (ep sq : UInt32) (r : Int) (_ : Nat) (a b : List UInt8) : List UInt8 := joinX d ep sq r a b
def lLeaf (d : Int) (ep sq : UInt32) (r : Int) (e : List UInt8) (id : Int) : List UInt8 := ofT (leafX d ep sq r e id)
def lLf (d : Int) (ep sq : UInt32) (r : Int) (e : List UInt8) (q : Nat) : List UInt8 := lLeaf d ep sq r e (q : Int)
def lLt (d : Int) (ep sq : UInt32) (r : Int) (e : List UInt8) (q : Nat) : List (List UInt8) := [leafX d ep sq r e (q : Int)]
abbrev lNode (d : Int) (ep sq : UInt32) (r : Int) (e : List UInt8) : Nat → Nat → List UInt8 := node (lJ d ep sq r) (lLf d ep sq r e)
abbrev lNodeTs (d : Int) (ep sq : UInt32) (r : Int) (e : List UInt8) : Nat → Nat → List (List UInt8) := nodeTs (lJ d ep sq r) (lLf d ep sq r e) (lLt d ep sq r e)
/-- How many levels. -/
def levels (w : Int) : Int := if w = 1 then 0 else if w = 2 then 1 else if w = 4 then 2 else if w = 8 then 3 else -1
theorem levels_cases (w : Int) : (w = 1 ∧ levels w = 0) ∨ (w = 2 ∧ levels w = 1) ∨ (w = 4 ∧ levels w = 2) ∨ (w = 8 ∧ levels w = 3) ∨ (w ≠ 1 ∧ w ≠ 2 ∧ w ≠ 4 ∧ w ≠ 8 ∧ levels w = -1) := by
  unfold levels
  split
  · exact .inl ⟨by assumption, rfl⟩
  · split
    · exact .inr (.inl ⟨by assumption, rfl⟩)
    · split
      · exact .inr (.inr (.inl ⟨by assumption, rfl⟩))
      · split
        · exact .inr (.inr (.inr (.inl ⟨by assumption, rfl⟩)))
        · exact .inr (.inr (.inr (.inr ⟨by assumption, by assumption, by assumption, by assumption, rfl⟩)))
/-- May a rung and a width be? -/
def rightB (r w : Int) : Bool := decide (0 ≤ r) && decide (r ≤ 15) && decide (0 ≤ levels w)
theorem blkS_node {d : Int} {ep sq : UInt32} {r : Int} {e : List UInt8} (he : e.length = 16) : ∀ n q, blkS (lNodeTs d ep sq r e n q) = 2 ^ (n + 1) - 1
  | 0, q => by simp only [lNodeTs, nodeTs, lLt, blkS, leafX_length (q : Int) he]; rfl
  | n + 1, q => by
    rw [lNodeTs, nodeTs, blkS_append, blkS_append]
    have h1 := blkS_node (d := d) (ep := ep) (sq := sq) (r := r) he n (2 * q)
    have h2 := blkS_node (d := d) (ep := ep) (sq := sq) (r := r) he n (2 * q + 1)
    rw [lNodeTs] at h1 h2
    rw [h1, h2]
    have hl : ∀ n q, (node (lJ d ep sq r) (lLf d ep sq r e) n q).length = 16 := node_length fun q => rfl
    simp only [blkS, lJ, joinX_length (hl _ _) (hl _ _)]
    have h3 : 2 ^ (n + 1 + 1) = 2 * 2 ^ (n + 1) := by rw [Nat.pow_succ]; omega
    have h4 : 0 < 2 ^ (n + 1) := Nat.two_pow_pos _
    have h5 : blocks 43 = 1 := rfl
    omega
def upCost (w : Int) : Int := if w < 1 then 0 else if 8 < w then 15 else 2 * w - 1
def riseCost (w : Int) : Int := if levels w < 0 then 0 else levels w
theorem cost_node {w : Int} {n : Nat} (h : levels w = n) : ((2 ^ (n + 1) - 1 : Nat) : Int) = upCost w := by
  rcases levels_cases w with ⟨rfl, e⟩ | ⟨rfl, e⟩ | ⟨rfl, e⟩ | ⟨rfl, e⟩ | ⟨_, _, _, _, e⟩
  · obtain rfl : n = 0 := by omega
    rfl
  · obtain rfl : n = 1 := by omega
    rfl
  · obtain rfl : n = 2 := by omega
    rfl
  · obtain rfl : n = 3 := by omega
    rfl
  · omega

end Go.Proofs.Ytmgnnclkjkbmdaa
end

/- Levels, places, leaves, joins. -/
section
set_option linter.unusedSimpArgs false
set_option linter.unusedVariables false
set_option maxRecDepth 100000
namespace Go.Proofs.Ytmgnnclkjkbmdaa
open Go Go.Fw

open Sha
theorem levels_no {w : Int} (h : ∀ j : Nat, j < 4 → w ≠ 2 ^ j) : levels w = -1 := by
  have h0 := h 0 (by omega)
  have h1 := h 1 (by omega)
  have h2 := h 2 (by omega)
  have h3 := h 3 (by omega)
  rcases levels_cases w with e | e | e | e | e
  · exact absurd e.1 (by simpa using h0)
  · exact absurd e.1 (by simpa using h1)
  · exact absurd e.1 (by simpa using h2)
  · exact absurd e.1 (by simpa using h3)
  · exact e.2.2.2.2
theorem levels_pow : ∀ j : Nat, j < 4 → levels (2 ^ j) = j
  | 0, _ => rfl | 1, _ => rfl | 2, _ => rfl | 3, _ => rfl | j + 4, h => absurd h (by omega)
theorem pow_le8 : ∀ j : Nat, j < 4 → (2 : Int) ^ j ≤ 8
  | 0, _ => by decide | 1, _ => by decide | 2, _ => by decide | 3, _ => by decide | j + 4, h => absurd h (by omega)
theorem pow_pos (j : Nat) : (0 : Int) < 2 ^ j := Int.pow_pos (by decide)
theorem rightB_eq {r w : Int} : (decide (0 ≤ r) && decide (r ≤ 15) && decide (0 ≤ levels w)) = rightB r w := rfl

-- ladder.Levels
set_option maxHeartbeats 4000000 in
theorem ladder_Levels (x : Int) (w : World)  : Ctr Try.prog 75 [I x] w (fun _ => False) (fun v _ => v = I (levels x)) := by
  refine fn_start (N := 13) Try.func75 rfl rfl rfl fun ac hk => ?_
  have hs := St.start hk w
  refine wp_seq ?_
  refine wp_reg ?_
  refine s_q hs (c_assign (hs.ev rfl)) rfl fun ac hs => ?_
  refine s_end ?_
  refine then_n ?_
  refine wp_seq ?_
  refine wp_seq ?_
  refine wp_reg ?_
  refine s_q hs (c_move (hs.ev rfl)) rfl fun ac hs => ?_
  refine s_end ?_
  refine then_n ?_
  refine wp_block ?_
  refine s_loop hs (X := Nat) (fun k => [(4, I k)]) [(0, _)] (fun _ => []) (fun n k => k ≤ 4 ∧ n = 4 - k ∧ ∀ j : Nat, j < k → x ≠ 2 ^ j) (_) (0) (⟨Nat.zero_le _, rfl, fun _ h => absurd h (by omega)⟩) ⟨rfl, rfl, trivial⟩ rfl ?_
  rintro n k ac ww hok hs
  simp only [List.cons_append, List.nil_append] at hs
  obtain ⟨hk, rfl, hno⟩ := hok
  refine wp_seq ?_
  refine wp_reg ?_
  refine s_q hs (c_lssI (hs.ev rfl) (hs.ev rfl)) rfl fun ac hs => ?_
  refine s_end ?_
  refine then_n ?_
  refine wp_seq ?_
  refine s_cond hs rfl (fun hc => ?_) (fun hc => ?_)
  · try simp only [decide_eq_true_eq, decide_eq_false_iff_not, Bool.not_eq_true', Bool.not_eq_false', Bool.and_eq_true, Bool.or_eq_true, Bool.or_eq_false_iff] at hc
    have hk4 : k < 4 := by omega
    have hp8 := pow_le8 k hk4
    have hp0 := pow_pos k
    refine wp_skip ?_
    refine then_n ?_
    refine wp_seq ?_
    refine wp_block ?_
    refine wp_seq ?_
    refine wp_reg ?_
    refine s_q hs (c_move (hs.ev rfl)) rfl fun ac hs => ?_
    refine s_q hs (c_assign (hs.ev rfl)) rfl fun ac hs => ?_
    refine s_end ?_
    refine then_n ?_
    refine wp_seq ?_
    refine wp_reg ?_
    refine s_q hs (c_move (hs.ev rfl)) rfl fun ac hs => ?_
    refine s_q hs (c_move (hs.ev rfl)) rfl fun ac hs => ?_
    refine s_q hs (c_shlI (hs.ev rfl) (hs.ev rfl) (by omega) (by rw [Int.one_mul]; omega) (by rw [Int.one_mul]; omega)) rfl fun ac hs => ?_
    refine s_q hs (c_eqlI (hs.ev rfl) (hs.ev rfl)) rfl fun ac hs => ?_
    refine s_end ?_
    refine then_n ?_
    refine s_cond hs rfl (fun hc => ?_) (fun hc => ?_)
    · try simp only [decide_eq_true_eq, decide_eq_false_iff_not, Bool.not_eq_true', Bool.not_eq_false', Bool.and_eq_true, Bool.or_eq_true, Bool.or_eq_false_iff] at hc
      refine wp_seq ?_
      refine wp_reg ?_
      refine s_q hs (c_move (hs.ev rfl)) rfl fun ac hs => ?_
      refine s_q hs (c_assign (hs.ev rfl)) rfl fun ac hs => ?_
      refine s_end ?_
      refine then_n ?_
      refine wp_ret ?_
      refine blk_r ?_
      refine then_r ?_
      refine then_r ?_
      refine blk_r ?_
      refine then_r ?_
      refine s_ret hs rfl (.tmp (hs.tmp rfl) .nil) rfl ⟨_, rfl, hs.fr, ?_⟩
      show I _ = I _
      rw [hc, Int.one_mul, levels_pow k hk4]
    · try simp only [decide_eq_true_eq, decide_eq_false_iff_not, Bool.not_eq_true', Bool.not_eq_false', Bool.and_eq_true, Bool.or_eq_true, Bool.or_eq_false_iff] at hc
      refine wp_skip ?_
      refine blk_n ?_
      refine then_n ?_
      refine wp_reg ?_
      refine s_q hs (c_addI (hs.ev rfl) (hs.ev rfl) (by omega) (by omega)) rfl fun ac hs => ?_
      refine s_q hs (c_move (hs.ev rfl)) rfl fun ac hs => ?_
      refine s_end ?_
      refine then_n ?_
      exact ⟨4 - (k + 1), by omega, k + 1, ⟨by omega, rfl, fun j hj => by
          by_cases e : j = k
          · subst e; exact fun e => hc (by rw [e]; simp)
          · exact hno j (by omega)⟩, St.next hs ⟨rfl, rfl, trivial⟩ rfl⟩
  · try simp only [decide_eq_true_eq, decide_eq_false_iff_not, Bool.not_eq_true', Bool.not_eq_false', Bool.and_eq_true, Bool.or_eq_true, Bool.or_eq_false_iff] at hc
    obtain rfl : k = 4 := by omega
    refine wp_exit ?_
    refine then_e ?_
    refine then_e ?_
    refine blk_hit ?_
    refine then_n ?_
    refine wp_seq ?_
    refine wp_reg ?_
    refine s_q hs (c_assign (hs.ev rfl)) rfl fun ac hs => ?_
    refine s_end ?_
    replace hs := hs.sub (F' := [(2, _)]) ⟨rfl, trivial⟩
    refine then_n ?_
    refine wp_ret ?_
    refine s_ret hs rfl (.tmp (hs.tmp rfl) .nil) rfl ⟨_, rfl, hs.fr, ?_⟩
    show I _ = I _
    rw [levels_no hno]

-- fingerpostref06.Levels
set_option maxHeartbeats 4000000 in
theorem ref06_Levels (x : Int) (w : World)  : Ctr Try.prog 76 [I x] w (fun _ => False) (fun v _ => v = I (levels x)) := by
  refine fn_start (N := 12) Try.func76 rfl rfl rfl fun ac hk => ?_
  have hs := St.start hk w
  refine wp_seq ?_
  refine wp_reg ?_
  refine s_q hs (c_assign (hs.ev rfl)) rfl fun ac hs => ?_
  refine s_end ?_
  refine then_n ?_
  refine wp_seq ?_
  refine wp_seq ?_
  refine wp_reg ?_
  refine s_q hs (c_move (hs.ev rfl)) rfl fun ac hs => ?_
  refine s_end ?_
  replace hs := hs.sub (F' := [(2, _), (3, _)]) ⟨rfl, rfl, trivial⟩
  refine then_n ?_
  refine wp_block ?_
  refine wp_seq ?_
  refine wp_reg ?_
  refine s_q hs (c_eqlI (hs.ev rfl) (hs.ev rfl)) rfl fun ac hs => ?_
  refine s_q hs (c_assign (hs.ev rfl)) rfl fun ac hs => ?_
  refine s_end ?_
  replace hs := hs.sub (F' := [(2, _), (3, _), (4, _)]) ⟨rfl, rfl, rfl, trivial⟩
  refine then_n ?_
  refine s_cond hs rfl (fun hc => ?_) (fun hc => ?_)
  · try simp only [decide_eq_true_eq, decide_eq_false_iff_not, Bool.not_eq_true', Bool.not_eq_false', Bool.and_eq_true, Bool.or_eq_true, Bool.or_eq_false_iff] at hc
    refine wp_seq ?_
    refine wp_reg ?_
    refine s_q hs (c_assign (hs.ev rfl)) rfl fun ac hs => ?_
    refine s_end ?_
    replace hs := hs.sub (F' := [(2, _), (3, _)]) ⟨rfl, rfl, trivial⟩
    refine then_n ?_
    refine wp_ret ?_
    refine blk_r ?_
    refine then_r ?_
    refine s_ret hs rfl (.tmp (hs.tmp rfl) .nil) rfl ⟨_, rfl, hs.fr, ?_⟩
    show I _ = I _
    rw [hc]; rfl
  · try simp only [decide_eq_true_eq, decide_eq_false_iff_not, Bool.not_eq_true', Bool.not_eq_false', Bool.and_eq_true, Bool.or_eq_true, Bool.or_eq_false_iff] at hc
    have n1 := hc
    refine wp_seq ?_
    refine wp_reg ?_
    refine s_q hs (c_eqlI (hs.ev rfl) (hs.ev rfl)) rfl fun ac hs => ?_
    refine s_q hs (c_assign (hs.ev rfl)) rfl fun ac hs => ?_
    refine s_end ?_
    replace hs := hs.sub (F' := [(2, _), (3, _), (6, _)]) ⟨rfl, rfl, rfl, trivial⟩
    refine then_n ?_
    refine s_cond hs rfl (fun hc => ?_) (fun hc => ?_)
    · try simp only [decide_eq_true_eq, decide_eq_false_iff_not, Bool.not_eq_true', Bool.not_eq_false', Bool.and_eq_true, Bool.or_eq_true, Bool.or_eq_false_iff] at hc
      refine wp_seq ?_
      refine wp_reg ?_
      refine s_q hs (c_assign (hs.ev rfl)) rfl fun ac hs => ?_
      refine s_end ?_
      replace hs := hs.sub (F' := [(2, _), (3, _)]) ⟨rfl, rfl, trivial⟩
      refine then_n ?_
      refine wp_ret ?_
      refine blk_r ?_
      refine then_r ?_
      refine s_ret hs rfl (.tmp (hs.tmp rfl) .nil) rfl ⟨_, rfl, hs.fr, ?_⟩
      show I _ = I _
      rw [hc]; rfl
    · try simp only [decide_eq_true_eq, decide_eq_false_iff_not, Bool.not_eq_true', Bool.not_eq_false', Bool.and_eq_true, Bool.or_eq_true, Bool.or_eq_false_iff] at hc
      have n2 := hc
      refine wp_seq ?_
      refine wp_reg ?_
      refine s_q hs (c_eqlI (hs.ev rfl) (hs.ev rfl)) rfl fun ac hs => ?_
      refine s_q hs (c_assign (hs.ev rfl)) rfl fun ac hs => ?_
      refine s_end ?_
      replace hs := hs.sub (F' := [(2, _), (3, _), (8, _)]) ⟨rfl, rfl, rfl, trivial⟩
      refine then_n ?_
      refine s_cond hs rfl (fun hc => ?_) (fun hc => ?_)
      · try simp only [decide_eq_true_eq, decide_eq_false_iff_not, Bool.not_eq_true', Bool.not_eq_false', Bool.and_eq_true, Bool.or_eq_true, Bool.or_eq_false_iff] at hc
        refine wp_seq ?_
        refine wp_reg ?_
        refine s_q hs (c_assign (hs.ev rfl)) rfl fun ac hs => ?_
        refine s_end ?_
        replace hs := hs.sub (F' := [(2, _), (3, _)]) ⟨rfl, rfl, trivial⟩
        refine then_n ?_
        refine wp_ret ?_
        refine blk_r ?_
        refine then_r ?_
        refine s_ret hs rfl (.tmp (hs.tmp rfl) .nil) rfl ⟨_, rfl, hs.fr, ?_⟩
        show I _ = I _
        rw [hc]; rfl
      · try simp only [decide_eq_true_eq, decide_eq_false_iff_not, Bool.not_eq_true', Bool.not_eq_false', Bool.and_eq_true, Bool.or_eq_true, Bool.or_eq_false_iff] at hc
        have n4 := hc
        refine wp_seq ?_
        refine wp_reg ?_
        refine s_q hs (c_eqlI (hs.ev rfl) (hs.ev rfl)) rfl fun ac hs => ?_
        refine s_q hs (c_assign (hs.ev rfl)) rfl fun ac hs => ?_
        refine s_end ?_
        replace hs := hs.sub (F' := [(2, _), (10, _)]) ⟨rfl, rfl, trivial⟩
        refine then_n ?_
        refine s_cond hs rfl (fun hc => ?_) (fun hc => ?_)
        · try simp only [decide_eq_true_eq, decide_eq_false_iff_not, Bool.not_eq_true', Bool.not_eq_false', Bool.and_eq_true, Bool.or_eq_true, Bool.or_eq_false_iff] at hc
          refine wp_seq ?_
          refine wp_reg ?_
          refine s_q hs (c_assign (hs.ev rfl)) rfl fun ac hs => ?_
          refine s_end ?_
          replace hs := hs.sub (F' := [(2, _)]) ⟨rfl, trivial⟩
          refine then_n ?_
          refine wp_ret ?_
          refine blk_r ?_
          refine then_r ?_
          refine s_ret hs rfl (.tmp (hs.tmp rfl) .nil) rfl ⟨_, rfl, hs.fr, ?_⟩
          show I _ = I _
          rw [hc]; rfl
        · try simp only [decide_eq_true_eq, decide_eq_false_iff_not, Bool.not_eq_true', Bool.not_eq_false', Bool.and_eq_true, Bool.or_eq_true, Bool.or_eq_false_iff] at hc
          refine wp_skip ?_
          refine blk_n ?_
          refine then_n ?_
          refine wp_seq ?_
          refine wp_reg ?_
          refine s_q hs (c_assign (hs.ev rfl)) rfl fun ac hs => ?_
          refine s_end ?_
          replace hs := hs.sub (F' := [(2, _)]) ⟨rfl, trivial⟩
          refine then_n ?_
          refine wp_ret ?_
          refine s_ret hs rfl (.tmp (hs.tmp rfl) .nil) rfl ⟨_, rfl, hs.fr, ?_⟩
          show I _ = I _
          rw [levels, if_neg n1, if_neg n2, if_neg n4, if_neg hc]

-- ladder.right
set_option maxHeartbeats 4000000 in
theorem ladder_right (r x : Int) (w : World)  : Ctr Try.prog 165 [I r, I x] w (fun _ => False) (fun v _ => v = .bool (rightB r x)) := by
  refine fn_start (N := 16) Try.func165 rfl rfl rfl fun ac hk => ?_
  have hs := St.start hk w
  refine wp_seq ?_
  refine wp_reg ?_
  refine s_q hs (c_assign (hs.ev rfl)) rfl fun ac hs => ?_
  refine s_end ?_
  refine then_n ?_
  refine wp_seq ?_
  refine wp_reg ?_
  refine s_q hs (c_move (hs.ev rfl)) rfl fun ac hs => ?_
  refine s_q hs (c_geqI (hs.ev rfl) (hs.ev rfl)) rfl fun ac hs => ?_
  refine s_q hs (c_move (hs.ev rfl)) rfl fun ac hs => ?_
  refine s_g hs rfl rfl (fun hg => c_move (hs.ev rfl)) rfl fun ac hs => ?_
  refine s_g hs rfl rfl (fun hg => c_leqI (gev (hs.ev rfl) hg) (hs.ev rfl)) rfl fun ac hs => ?_
  refine s_q hs (c_and (hs.ev rfl) (hs.ev rfl)) rfl fun ac hs => ?_
  refine s_q hs (c_move (hs.ev rfl)) rfl fun ac hs => ?_
  refine s_g hs rfl rfl (fun hg => c_move (hs.ev rfl)) rfl fun ac hs => ?_
  refine s_gcall hs rfl rfl fu75 (fun hg => (.cons (gev (hs.ev rfl) hg) .nil)) (fun hg => ladder_Levels x _) rfl fun ac ww hf hs => ?_
  refine s_g hs rfl rfl (fun hg => c_geqI (gev (hs.ev rfl) hg) (hs.ev rfl)) rfl fun ac hs => ?_
  refine s_q hs (c_and (hs.ev rfl) (hs.ev rfl)) rfl fun ac hs => ?_
  refine s_q hs (c_assign (hs.ev rfl)) rfl fun ac hs => ?_
  refine s_end ?_
  replace hs := hs.sub (F' := [(4, _)]) ⟨rfl, trivial⟩
  refine then_n ?_
  refine wp_ret ?_
  refine s_ret hs rfl (.tmp (hs.tmp rfl) .nil) rfl ⟨_, rfl, hs.fr, ?_⟩
  rfl

-- fingerpostref06.Right
set_option maxHeartbeats 4000000 in
theorem ref06_Right (r x : Int) (w : World)  : Ctr Try.prog 107 [I r, I x] w (fun _ => False) (fun v _ => v = .bool (rightB r x)) := by
  refine fn_start (N := 16) Try.func107 rfl rfl rfl fun ac hk => ?_
  have hs := St.start hk w
  refine wp_seq ?_
  refine wp_reg ?_
  refine s_q hs (c_assign (hs.ev rfl)) rfl fun ac hs => ?_
  refine s_end ?_
  refine then_n ?_
  refine wp_seq ?_
  refine wp_reg ?_
  refine s_q hs (c_move (hs.ev rfl)) rfl fun ac hs => ?_
  refine s_q hs (c_geqI (hs.ev rfl) (hs.ev rfl)) rfl fun ac hs => ?_
  refine s_q hs (c_move (hs.ev rfl)) rfl fun ac hs => ?_
  refine s_g hs rfl rfl (fun hg => c_move (hs.ev rfl)) rfl fun ac hs => ?_
  refine s_g hs rfl rfl (fun hg => c_leqI (gev (hs.ev rfl) hg) (hs.ev rfl)) rfl fun ac hs => ?_
  refine s_q hs (c_and (hs.ev rfl) (hs.ev rfl)) rfl fun ac hs => ?_
  refine s_q hs (c_move (hs.ev rfl)) rfl fun ac hs => ?_
  refine s_g hs rfl rfl (fun hg => c_move (hs.ev rfl)) rfl fun ac hs => ?_
  refine s_gcall hs rfl rfl fu76 (fun hg => (.cons (gev (hs.ev rfl) hg) .nil)) (fun hg => ref06_Levels x _) rfl fun ac ww hf hs => ?_
  refine s_g hs rfl rfl (fun hg => c_geqI (gev (hs.ev rfl) hg) (hs.ev rfl)) rfl fun ac hs => ?_
  refine s_q hs (c_and (hs.ev rfl) (hs.ev rfl)) rfl fun ac hs => ?_
  refine s_q hs (c_assign (hs.ev rfl)) rfl fun ac hs => ?_
  refine s_end ?_
  replace hs := hs.sub (F' := [(4, _)]) ⟨rfl, trivial⟩
  refine then_n ?_
  refine wp_ret ?_
  refine s_ret hs rfl (.tmp (hs.tmp rfl) .nil) rfl ⟨_, rfl, hs.fr, ?_⟩
  rfl

-- ladder.Place).bytes
set_option maxHeartbeats 4000000 in
theorem ladder_bytes (d : Int) (ep sq : UInt32) (r : Int) (w : World)  : Ctr Try.prog 167 [.agg #[I d, U ep, U sq], I r] w (fun _ => False) (outE (segE (placeB d ep sq r)) w) := by
  refine fn_start (N := 41) Try.func167 rfl rfl rfl fun ac hk => ?_
  have hs := St.start hk w
  refine wp_seq ?_
  refine wp_reg ?_
  refine s_box hs rfl rfl rfl fun ac ww g2 hs => ?_
  refine s_q hs (c_assign (hs.ev rfl)) rfl fun ac hs => ?_
  refine s_end ?_
  replace hs := hs.sub (F' := [(1, _), (2, _), (4, _)]) ⟨rfl, rfl, rfl, trivial⟩
  refine then_n ?_
  refine wp_seq ?_
  refine wp_reg ?_
  refine s_q hs (c_fld fl84_0 (hs.ev rfl)) rfl fun ac hs => ?_
  refine s_q hs (c_loadS un3 rfl (hs.ev rfl) (hs.seg (i := 0) rfl) rfl) rfl fun ac hs => ?_
  refine s_q hs (c_cvIB un3 un5 (hs.ev rfl)) rfl fun ac hs => ?_
  refine s_q hs (c_fld fl84_1 (hs.ev rfl)) rfl fun ac hs => ?_
  refine s_q hs (c_loadS un27 rfl (hs.ev rfl) (hs.seg (i := 0) rfl) rfl) rfl fun ac hs => ?_
  refine s_q hs (c_shrU (hs.ev rfl) (hs.ev rfl) (by decide)) rfl fun ac hs => ?_
  refine s_q hs (c_cvUB un27 un5 (hs.ev rfl)) rfl fun ac hs => ?_
  refine s_q hs (c_fld fl84_1 (hs.ev rfl)) rfl fun ac hs => ?_
  refine s_q hs (c_loadS un27 rfl (hs.ev rfl) (hs.seg (i := 0) rfl) rfl) rfl fun ac hs => ?_
  refine s_q hs (c_shrU (hs.ev rfl) (hs.ev rfl) (by decide)) rfl fun ac hs => ?_
  refine s_q hs (c_cvUB un27 un5 (hs.ev rfl)) rfl fun ac hs => ?_
  refine s_q hs (c_fld fl84_1 (hs.ev rfl)) rfl fun ac hs => ?_
  refine s_q hs (c_loadS un27 rfl (hs.ev rfl) (hs.seg (i := 0) rfl) rfl) rfl fun ac hs => ?_
  refine s_q hs (c_shrU (hs.ev rfl) (hs.ev rfl) (by decide)) rfl fun ac hs => ?_
  refine s_q hs (c_cvUB un27 un5 (hs.ev rfl)) rfl fun ac hs => ?_
  refine s_q hs (c_fld fl84_1 (hs.ev rfl)) rfl fun ac hs => ?_
  refine s_q hs (c_loadS un27 rfl (hs.ev rfl) (hs.seg (i := 0) rfl) rfl) rfl fun ac hs => ?_
  refine s_q hs (c_cvUB un27 un5 (hs.ev rfl)) rfl fun ac hs => ?_
  refine s_q hs (c_fld fl84_2 (hs.ev rfl)) rfl fun ac hs => ?_
  refine s_q hs (c_loadS un27 rfl (hs.ev rfl) (hs.seg (i := 0) rfl) rfl) rfl fun ac hs => ?_
  refine s_q hs (c_shrU (hs.ev rfl) (hs.ev rfl) (by decide)) rfl fun ac hs => ?_
  refine s_q hs (c_cvUB un27 un5 (hs.ev rfl)) rfl fun ac hs => ?_
  refine s_q hs (c_fld fl84_2 (hs.ev rfl)) rfl fun ac hs => ?_
  refine s_q hs (c_loadS un27 rfl (hs.ev rfl) (hs.seg (i := 0) rfl) rfl) rfl fun ac hs => ?_
  refine s_q hs (c_shrU (hs.ev rfl) (hs.ev rfl) (by decide)) rfl fun ac hs => ?_
  refine s_q hs (c_cvUB un27 un5 (hs.ev rfl)) rfl fun ac hs => ?_
  refine s_q hs (c_fld fl84_2 (hs.ev rfl)) rfl fun ac hs => ?_
  refine s_q hs (c_loadS un27 rfl (hs.ev rfl) (hs.seg (i := 0) rfl) rfl) rfl fun ac hs => ?_
  refine s_q hs (c_shrU (hs.ev rfl) (hs.ev rfl) (by decide)) rfl fun ac hs => ?_
  refine s_q hs (c_cvUB un27 un5 (hs.ev rfl)) rfl fun ac hs => ?_
  refine s_q hs (c_fld fl84_2 (hs.ev rfl)) rfl fun ac hs => ?_
  refine s_q hs (c_loadS un27 rfl (hs.ev rfl) (hs.seg (i := 0) rfl) rfl) rfl fun ac hs => ?_
  refine s_q hs (c_cvUB un27 un5 (hs.ev rfl)) rfl fun ac hs => ?_
  refine s_q hs (c_move (hs.ev rfl)) rfl fun ac hs => ?_
  refine s_q hs (c_cvIB un3 un5 (hs.ev rfl)) rfl fun ac hs => ?_
  refine s_bslice hs un34 ty5 (.cons (hs.ev rfl) (.cons (hs.ev rfl) (.cons (hs.ev rfl) (.cons (hs.ev rfl) (.cons (hs.ev rfl) (.cons (hs.ev rfl) (.cons (hs.ev rfl) (.cons (hs.ev rfl) (.cons (hs.ev rfl) (.cons (hs.ev rfl) .nil)))))))))) rfl (by simp [Value.cells]) (by decide) rfl rfl fun ac ww g40 hs => ?_
  refine s_q hs (c_assign (hs.ev rfl)) rfl fun ac hs => ?_
  refine s_end ?_
  replace hs := hs.sub (F' := [(4, _)]) ⟨rfl, trivial⟩
  refine then_n ?_
  refine wp_ret ?_
  refine s_ret hs rfl (.tmp (hs.tmp rfl) .nil) rfl ⟨_, rfl, hs.fr, ?_⟩
  exact ⟨_, ⟨_, rfl, rfl⟩, (hs.pick (L' := [_]) (.cons_cons _ (.cons _ .slnil))).made⟩

-- fingerpostref06.Text
set_option maxHeartbeats 4000000 in
theorem ref06_Text (d : Int) (ep sq : UInt32) (r : Int) (w : World)  : Ctr Try.prog 168 [.agg #[I d, U ep, U sq], I r] w (fun _ => False) (outE (rowE (placeB d ep sq r)) w) := by
  refine fn_start (N := 27) Try.func168 rfl rfl rfl fun ac hk => ?_
  have hs := St.start hk w
  refine wp_seq ?_
  refine wp_reg ?_
  refine s_box hs rfl rfl rfl fun ac ww g2 hs => ?_
  refine s_q hs (c_assign (hs.ev rfl)) rfl fun ac hs => ?_
  refine s_end ?_
  replace hs := hs.sub (F' := [(1, _), (2, _), (4, _)]) ⟨rfl, rfl, rfl, trivial⟩
  refine then_n ?_
  refine wp_seq ?_
  refine wp_reg ?_
  refine s_q hs (c_fld fl81_0 (hs.ev rfl)) rfl fun ac hs => ?_
  refine s_q hs (c_loadS un3 rfl (hs.ev rfl) (hs.seg (i := 0) rfl) rfl) rfl fun ac hs => ?_
  refine s_q hs (c_cvIB un3 un5 (hs.ev rfl)) rfl fun ac hs => ?_
  refine s_bslice hs un34 ty5 (.cons (hs.ev rfl) .nil) rfl (by simp [Value.cells]) (by decide) rfl rfl fun ac ww g9 hs => ?_
  refine s_q hs (c_assign (hs.ev rfl)) rfl fun ac hs => ?_
  refine s_end ?_
  replace hs := (hs.segrow (i := 0) (n := 1) (sz := 1) rfl rfl (by decide)).toL (show _ = [.row _ ([i8 d] : List UInt8).length (([i8 d] : List UInt8).map B) 5 1, _] from rfl)
  replace hs := hs.sub (F' := [(1, _), (2, _), (4, _), (5, _)]) ⟨rfl, rfl, rfl, rfl, trivial⟩
  refine then_n ?_
  refine wp_seq ?_
  refine wp_reg ?_
  refine s_q hs (c_move (hs.ev rfl)) rfl fun ac hs => ?_
  refine s_q hs (c_fld fl81_1 (hs.ev rfl)) rfl fun ac hs => ?_
  refine s_q hs (c_loadS un27 rfl (hs.ev rfl) (hs.seg (i := 1) rfl) rfl) rfl fun ac hs => ?_
  refine s_q hs (c_cvUV un27 un210 (hs.ev rfl)) rfl fun ac hs => ?_
  refine s_call hs fu173 (.cons (hs.ev rfl) (.cons (hs.ev rfl) .nil)) (ref05_Num ep.toUInt64 4 (by omega) _) rfl fun ac ww v14 hf hp hs => ?_
  obtain ⟨gn, rfl, hh⟩ := hp
  replace hs := hs _ hh
  refine s_appB (i := 1) hs un34 ty5 rfl rfl rfl (RdB.segn (l := num ep.toUInt64 4 4) (hs.seg (i := 0) rfl) (by rw [num4]; rfl) (by decide)) (by rw [num4]; simp) rfl fun ac ww v15 hf hnil hs => ?_
  rw [num4] at hs
  refine s_q hs (c_assign (hs.ev rfl)) rfl fun ac hs => ?_
  refine s_end ?_
  replace hs := hs.pick (L' := [_, _]) (.cons _ (.refl _))
  replace hs := hs.sub (F' := [(1, _), (2, _), (4, _), (5, _)]) ⟨rfl, rfl, rfl, rfl, trivial⟩
  refine then_n ?_
  refine wp_seq ?_
  refine wp_reg ?_
  refine s_q hs (c_move (hs.ev rfl)) rfl fun ac hs => ?_
  refine s_q hs (c_fld fl81_2 (hs.ev rfl)) rfl fun ac hs => ?_
  refine s_q hs (c_loadS un27 rfl (hs.ev rfl) (hs.seg (i := 1) rfl) rfl) rfl fun ac hs => ?_
  refine s_q hs (c_cvUV un27 un210 (hs.ev rfl)) rfl fun ac hs => ?_
  refine s_call hs fu173 (.cons (hs.ev rfl) (.cons (hs.ev rfl) .nil)) (ref05_Num sq.toUInt64 4 (by omega) _) rfl fun ac ww v20 hf hp hs => ?_
  obtain ⟨gn, rfl, hh⟩ := hp
  replace hs := hs _ hh
  refine s_appB (i := 1) hs un34 ty5 rfl rfl rfl (RdB.segn (l := num sq.toUInt64 4 4) (hs.seg (i := 0) rfl) (by rw [num4]; rfl) (by decide)) (by rw [num4]; simp) rfl fun ac ww v21 hf hnil hs => ?_
  rw [num4] at hs
  refine s_q hs (c_assign (hs.ev rfl)) rfl fun ac hs => ?_
  refine s_end ?_
  replace hs := hs.pick (L' := [_, _]) (.cons _ (.refl _))
  replace hs := hs.sub (F' := [(1, _), (4, _), (5, _)]) ⟨rfl, rfl, rfl, trivial⟩
  refine then_n ?_
  refine wp_seq ?_
  refine wp_reg ?_
  refine s_q hs (c_move (hs.ev rfl)) rfl fun ac hs => ?_
  refine s_q hs (c_move (hs.ev rfl)) rfl fun ac hs => ?_
  refine s_q hs (c_cvIB un3 un5 (hs.ev rfl)) rfl fun ac hs => ?_
  refine s_bslice hs un34 ty5 (.cons (hs.ev rfl) .nil) rfl (by simp [Value.cells]) (by decide) rfl rfl fun ac ww g25 hs => ?_
  refine s_appB (i := 1) hs un34 ty5 rfl rfl rfl (RdB.seg (l := [i8 r]) (hs.seg (i := 0) rfl) (by show 1 ≤ maxLen; decide)) (by simp) rfl fun ac ww v26 hf hnil hs => ?_
  refine s_q hs (c_assign (hs.ev rfl)) rfl fun ac hs => ?_
  refine s_end ?_
  replace hs := hs.sub (F' := [(4, _)]) ⟨rfl, trivial⟩
  refine then_n ?_
  refine wp_ret ?_
  refine s_ret hs rfl (.tmp (hs.tmp rfl) .nil) rfl ⟨_, rfl, hs.fr, ?_⟩
  exact ⟨_, rfl, (hs.pick (L' := [_]) (.cons _ (.cons_cons _ (.cons _ .slnil)))).made⟩

-- ladder.Leaf
set_option maxHeartbeats 4000000 in
theorem ladder_Leaf (d : Int) (ep sq : UInt32) (r : Int) (e : List UInt8) (id : Int) (hel : e.length = 16) (w : World)  : Ctr Try.prog 71 [.agg #[I d, U ep, U sq], I r, .agg (e.map B).toArray, I id] w (fun _ => False) (fun v _ => v = .agg ((lLeaf d ep sq r e id).map B).toArray) := by
  refine fn_start (N := 18) Try.func71 rfl rfl rfl fun ac hk => ?_
  have hs := St.start hk w
  refine wp_seq ?_
  refine wp_reg ?_
  refine s_box hs rfl rfl rfl fun ac ww g4 hs => ?_
  refine s_box hs rfl rfl rfl fun ac ww g6 hs => ?_
  refine s_alloc hs ty54 rfl fun ac ww g8 hs => ?_
  refine s_end ?_
  replace hs := hs.sub (F' := [(1, _), (3, _), (4, _), (6, _), (8, _)]) ⟨rfl, rfl, rfl, rfl, rfl, trivial⟩
  refine then_n ?_
  refine wp_seq ?_
  refine wp_region_rg pmix 7 (by kernel_rfl) rfl hs ?_
  simp only [List.take_succ_cons, List.take_zero]
  refine rg_q (fun ac ww h => c_loadW ty84 ag84 (h.ev rfl) (h.blk (hs.seg (i := 2) rfl)) (by rfl)) rfl ?_
  refine rg_q (fun ac ww h => c_move (h.ev rfl)) rfl ?_
  refine rg_callE (segE (placeB d ep sq r)) (fun _ _ _ _ _ h => h) fu167 (fun ac ww h => ?_) rfl ?_
  · exact ⟨_, .cons (h.ev rfl) (.cons (h.ev rfl) .nil), ladder_bytes d ep sq r _⟩
  refine rg_q (fun ac ww h => c_sliceA un54 ty5 (h.ev rfl)) rfl ?_
  refine rg_q (fun ac ww h => c_move (h.ev rfl)) rfl ?_
  refine rg_q (fun ac ww h => c_cvIB un3 un5 (h.ev rfl)) rfl ?_
  refine rg_bslice un34 ty5 (fun ac ww h => (.cons (h.ev rfl) .nil)) rfl (by simp [Value.cells]) (by decide) rfl rfl ?_
  refine rg_nil fun ac ww L' hf hfe hs => ?_
  simp only [List.drop_succ_cons, List.drop_zero]
  obtain ⟨v15, L15, M15, h15, e15, ⟨v11, L11, M11, h11, e11, rfl, rfl⟩, rfl⟩ := hfe
  replace hs := hs.add h15
  replace hs := hs.add h11
  obtain ⟨g15, rfl, rfl⟩ := e15
  obtain ⟨g11, rfl, rfl⟩ := e11
  refine s_bslice hs un30 ty34 (.cons (hs.ev rfl) (.cons (hs.ev rfl) (.cons (hs.ev rfl) .nil))) rfl (by simp [Value.cells]) (by decide) rfl rfl fun ac ww g16 hs => ?_
  refine s_call hs fu91 (.cons (hs.ev rfl) (.cons (hs.ev rfl) .nil)) (mac_Short 76 [(_, placeB d ep sq r), (_, e), (_, [i8 id])] _ (by simp [flat, hel]) _ (RdP.seg (ps := [(_, placeB d ep sq r), (_, e), (_, [i8 id])]) (hs.seg (i := 0) rfl) (by show 3 ≤ maxLen; decide) (.cons (RdB.seg (hs.seg (i := 2) rfl) (by rw [placeB_length]; decide)) (.cons (RdB.segn (hs.seg (i := 4) rfl) hel (by decide)) (.cons (RdB.seg (l := [i8 id]) (hs.seg (i := 1) rfl) (by show 1 ≤ maxLen; decide)) .nil))))) rfl fun ac ww v17 hf hp hs => ?_
  obtain rfl := hp
  replace hs := hs [] (.nil _ _)
  refine s_storeW (i := 3) hs ty54 rfl rfl rfl (by simp) (all_map_B _) (by simp) fun ww hs => ?_
  refine s_end ?_
  replace hs := hs.sub (F' := [(8, _)]) ⟨rfl, trivial⟩
  refine then_n ?_
  refine wp_ret ?_
  refine s_ret hs rfl (.cell (hs.tmp rfl) (run_loadA ty54 rfl (hs.seg (i := 3) rfl) (List.take_of_length_le (by simp)) (by simp)) .nil) rfl ⟨_, rfl, hs.fr, ?_⟩
  show Value.agg _ = Value.agg _
  rw [show flat [(_, placeB d ep sq r), (_, e), (_, [i8 id])] = placeB d ep sq r ++ e ++ [i8 id] from by simp [flat]]
  rfl

-- ladder.Join
set_option maxHeartbeats 4000000 in
theorem ladder_Join (d : Int) (ep sq : UInt32) (r : Int) (a b : List UInt8) (hal : a.length = 16) (hbl : b.length = 16) (w : World)  : Ctr Try.prog 73 [.agg #[I d, U ep, U sq], I r, .agg (a.map B).toArray, .agg (b.map B).toArray] w (fun _ => False) (fun v _ => v = .agg ((ofT (joinX d ep sq r a b)).map B).toArray) := by
  refine fn_start (N := 16) Try.func73 rfl rfl rfl fun ac hk => ?_
  have hs := St.start hk w
  refine wp_seq ?_
  refine wp_reg ?_
  refine s_box hs rfl rfl rfl fun ac ww g4 hs => ?_
  refine s_box hs rfl rfl rfl fun ac ww g6 hs => ?_
  refine s_box hs rfl rfl rfl fun ac ww g7 hs => ?_
  refine s_alloc hs ty54 rfl fun ac ww g8 hs => ?_
  refine s_end ?_
  replace hs := hs.sub (F' := [(1, _), (4, _), (6, _), (7, _), (8, _)]) ⟨rfl, rfl, rfl, rfl, rfl, trivial⟩
  refine then_n ?_
  refine wp_seq ?_
  refine wp_region_rg pmix 5 (by kernel_rfl) rfl hs ?_
  simp only [List.take_succ_cons, List.take_zero]
  refine rg_q (fun ac ww h => c_loadW ty84 ag84 (h.ev rfl) (h.blk (hs.seg (i := 3) rfl)) (by rfl)) rfl ?_
  refine rg_q (fun ac ww h => c_move (h.ev rfl)) rfl ?_
  refine rg_callE (segE (placeB d ep sq r)) (fun _ _ _ _ _ h => h) fu167 (fun ac ww h => ?_) rfl ?_
  · exact ⟨_, .cons (h.ev rfl) (.cons (h.ev rfl) .nil), ladder_bytes d ep sq r _⟩
  refine rg_q (fun ac ww h => c_sliceA un54 ty5 (h.ev rfl)) rfl ?_
  refine rg_q (fun ac ww h => c_sliceA un54 ty5 (h.ev rfl)) rfl ?_
  refine rg_nil fun ac ww L' hf hfe hs => ?_
  simp only [List.drop_succ_cons, List.drop_zero]
  obtain ⟨v11, L11, M11, h11, e11, rfl, rfl⟩ := hfe
  replace hs := hs.add h11
  obtain ⟨g11, rfl, rfl⟩ := e11
  refine s_bslice hs un30 ty34 (.cons (hs.ev rfl) (.cons (hs.ev rfl) (.cons (hs.ev rfl) .nil))) rfl (by simp [Value.cells]) (by decide) rfl rfl fun ac ww g14 hs => ?_
  refine s_call hs fu91 (.cons (hs.ev rfl) (.cons (hs.ev rfl) .nil)) (mac_Short 74 [(_, placeB d ep sq r), (_, a), (_, b)] _ (by simp [flat, hal, hbl]) _ (RdP.seg (ps := [(_, placeB d ep sq r), (_, a), (_, b)]) (hs.seg (i := 0) rfl) (by show 3 ≤ maxLen; decide) (.cons (RdB.seg (hs.seg (i := 1) rfl) (by rw [placeB_length]; decide)) (.cons (RdB.segn (hs.seg (i := 4) rfl) hal (by decide)) (.cons (RdB.segn (hs.seg (i := 3) rfl) hbl (by decide)) .nil))))) rfl fun ac ww v15 hf hp hs => ?_
  obtain rfl := hp
  replace hs := hs [] (.nil _ _)
  refine s_storeW (i := 2) hs ty54 rfl rfl rfl (by simp) (all_map_B _) (by simp) fun ww hs => ?_
  refine s_end ?_
  replace hs := hs.sub (F' := [(8, _)]) ⟨rfl, trivial⟩
  refine then_n ?_
  refine wp_ret ?_
  refine s_ret hs rfl (.cell (hs.tmp rfl) (run_loadA ty54 rfl (hs.seg (i := 2) rfl) (List.take_of_length_le (by simp)) (by simp)) .nil) rfl ⟨_, rfl, hs.fr, ?_⟩
  show Value.agg _ = Value.agg _
  rw [show flat [(_, placeB d ep sq r), (_, a), (_, b)] = placeB d ep sq r ++ a ++ b from by simp [flat]]
  rfl

-- fingerpostref06.LeafText
set_option maxHeartbeats 4000000 in
theorem ref06_LeafText (d : Int) (ep sq : UInt32) (r : Int) (e : List UInt8) (id : Int) (hel : e.length = 16) (w : World)  : Ctr Try.prog 72 [.agg #[I d, U ep, U sq], I r, .agg (e.map B).toArray, I id] w (fun _ => False) (outE (rowE (leafX d ep sq r e id)) w) := by
  refine fn_start (N := 18) Try.func72 rfl rfl rfl fun ac hk => ?_
  have hs := St.start hk w
  refine wp_seq ?_
  refine wp_reg ?_
  refine s_box hs rfl rfl rfl fun ac ww g4 hs => ?_
  refine s_box hs rfl rfl rfl fun ac ww g6 hs => ?_
  refine s_q hs (c_assign (hs.ev rfl)) rfl fun ac hs => ?_
  refine s_end ?_
  replace hs := hs.sub (F' := [(1, _), (3, _), (4, _), (6, _), (8, _)]) ⟨rfl, rfl, rfl, rfl, rfl, trivial⟩
  refine then_n ?_
  refine wp_seq ?_
  refine wp_region_rg pmix 7 (by kernel_rfl) rfl hs ?_
  simp only [List.take_succ_cons, List.take_zero]
  refine rg_q (fun ac ww h => c_loadW ty81 ag81 (h.ev rfl) (h.blk (hs.seg (i := 1) rfl)) (by rfl)) rfl ?_
  refine rg_q (fun ac ww h => c_move (h.ev rfl)) rfl ?_
  refine rg_callE (rowE (placeB d ep sq r)) (fun _ _ _ _ _ h => h) fu168 (fun ac ww h => ?_) rfl ?_
  · exact ⟨_, .cons (h.ev rfl) (.cons (h.ev rfl) .nil), ref06_Text d ep sq r _⟩
  refine rg_q (fun ac ww h => c_sliceA un22 ty5 (h.ev rfl)) rfl ?_
  refine rg_q (fun ac ww h => c_move (h.ev rfl)) rfl ?_
  refine rg_q (fun ac ww h => c_cvIB un3 un5 (h.ev rfl)) rfl ?_
  refine rg_bslice un34 ty5 (fun ac ww h => (.cons (h.ev rfl) .nil)) rfl (by simp [Value.cells]) (by decide) rfl rfl ?_
  refine rg_nil fun ac ww L' hf hfe hs => ?_
  simp only [List.drop_succ_cons, List.drop_zero]
  obtain ⟨v15, L15, M15, h15, e15, ⟨v11, L11, M11, h11, e11, rfl, rfl⟩, rfl⟩ := hfe
  replace hs := hs.add h15
  replace hs := hs.add h11
  obtain ⟨g15, rfl, rfl⟩ := e15
  obtain rfl := e11
  obtain ⟨ad11, cap11, rfl, _, _⟩ := Rd.sl (RdB.row (hs.get (i := 1) rfl))
  refine s_bslice hs un30 ty34 (.cons (hs.ev rfl) (.cons (hs.ev rfl) (.cons (hs.ev rfl) .nil))) rfl (by simp [Value.cells]) (by decide) rfl rfl fun ac ww g16 hs => ?_
  refine s_call hs fu159 (.cons (hs.ev rfl) (.cons (hs.ev rfl) .nil)) (ref05_Text 76 [(_, placeB d ep sq r), (_, e), (_, [i8 id])] _ (by simp [flat, hel]) _ (RdP.seg (ps := [(_, placeB d ep sq r), (_, e), (_, [i8 id])]) (hs.seg (i := 0) rfl) (by show 3 ≤ maxLen; decide) (.cons (RdB.row (hs.get (i := 2) rfl)) (.cons (RdB.segn (hs.seg (i := 3) rfl) hel (by decide)) (.cons (RdB.seg (l := [i8 id]) (hs.seg (i := 1) rfl) (by show 1 ≤ maxLen; decide)) .nil))))) rfl fun ac ww v17 hf hp hs => ?_
  obtain ⟨qv, rfl, hh⟩ := hp
  rw [show flat [(_, placeB d ep sq r), (_, e), (_, [i8 id])] = placeB d ep sq r ++ e ++ [i8 id] from by simp [flat]] at hh
  replace hs := hs _ hh
  refine s_q hs (c_assign (hs.ev rfl)) rfl fun ac hs => ?_
  refine s_end ?_
  replace hs := hs.sub (F' := [(8, _)]) ⟨rfl, trivial⟩
  refine then_n ?_
  refine wp_ret ?_
  refine s_ret hs rfl (.tmp (hs.tmp rfl) .nil) rfl ⟨_, rfl, hs.fr, ?_⟩
  exact ⟨_, rfl, (hs.pick (L' := [_]) (.cons_cons _ (List.nil_sublist _))).made⟩

-- fingerpostref06.JoinText
set_option maxHeartbeats 4000000 in
theorem ref06_JoinText (d : Int) (ep sq : UInt32) (r : Int) (a b : List UInt8) (hal : a.length = 16) (hbl : b.length = 16) (w : World)  : Ctr Try.prog 74 [.agg #[I d, U ep, U sq], I r, .agg (a.map B).toArray, .agg (b.map B).toArray] w (fun _ => False) (outE (rowE (joinX d ep sq r a b)) w) := by
  refine fn_start (N := 16) Try.func74 rfl rfl rfl fun ac hk => ?_
  have hs := St.start hk w
  refine wp_seq ?_
  refine wp_reg ?_
  refine s_box hs rfl rfl rfl fun ac ww g4 hs => ?_
  refine s_box hs rfl rfl rfl fun ac ww g6 hs => ?_
  refine s_box hs rfl rfl rfl fun ac ww g7 hs => ?_
  refine s_q hs (c_assign (hs.ev rfl)) rfl fun ac hs => ?_
  refine s_end ?_
  replace hs := hs.sub (F' := [(1, _), (4, _), (6, _), (7, _), (8, _)]) ⟨rfl, rfl, rfl, rfl, rfl, trivial⟩
  refine then_n ?_
  refine wp_seq ?_
  refine wp_region_rg pmix 5 (by kernel_rfl) rfl hs ?_
  simp only [List.take_succ_cons, List.take_zero]
  refine rg_q (fun ac ww h => c_loadW ty81 ag81 (h.ev rfl) (h.blk (hs.seg (i := 2) rfl)) (by rfl)) rfl ?_
  refine rg_q (fun ac ww h => c_move (h.ev rfl)) rfl ?_
  refine rg_callE (rowE (placeB d ep sq r)) (fun _ _ _ _ _ h => h) fu168 (fun ac ww h => ?_) rfl ?_
  · exact ⟨_, .cons (h.ev rfl) (.cons (h.ev rfl) .nil), ref06_Text d ep sq r _⟩
  refine rg_q (fun ac ww h => c_sliceA un22 ty5 (h.ev rfl)) rfl ?_
  refine rg_q (fun ac ww h => c_sliceA un22 ty5 (h.ev rfl)) rfl ?_
  refine rg_nil fun ac ww L' hf hfe hs => ?_
  simp only [List.drop_succ_cons, List.drop_zero]
  obtain ⟨v11, L11, M11, h11, e11, rfl, rfl⟩ := hfe
  replace hs := hs.add h11
  obtain rfl := e11
  obtain ⟨ad11, cap11, rfl, _, _⟩ := Rd.sl (RdB.row (hs.get (i := 0) rfl))
  refine s_bslice hs un30 ty34 (.cons (hs.ev rfl) (.cons (hs.ev rfl) (.cons (hs.ev rfl) .nil))) rfl (by simp [Value.cells]) (by decide) rfl rfl fun ac ww g14 hs => ?_
  refine s_call hs fu159 (.cons (hs.ev rfl) (.cons (hs.ev rfl) .nil)) (ref05_Text 74 [(_, placeB d ep sq r), (_, a), (_, b)] _ (by simp [flat, hal, hbl]) _ (RdP.seg (ps := [(_, placeB d ep sq r), (_, a), (_, b)]) (hs.seg (i := 0) rfl) (by show 3 ≤ maxLen; decide) (.cons (RdB.row (hs.get (i := 1) rfl)) (.cons (RdB.segn (hs.seg (i := 3) rfl) hal (by decide)) (.cons (RdB.segn (hs.seg (i := 2) rfl) hbl (by decide)) .nil))))) rfl fun ac ww v15 hf hp hs => ?_
  obtain ⟨qv, rfl, hh⟩ := hp
  rw [show flat [(_, placeB d ep sq r), (_, a), (_, b)] = placeB d ep sq r ++ a ++ b from by simp [flat]] at hh
  replace hs := hs _ hh
  refine s_q hs (c_assign (hs.ev rfl)) rfl fun ac hs => ?_
  refine s_end ?_
  replace hs := hs.sub (F' := [(8, _)]) ⟨rfl, trivial⟩
  refine then_n ?_
  refine wp_ret ?_
  refine s_ret hs rfl (.tmp (hs.tmp rfl) .nil) rfl ⟨_, rfl, hs.fr, ?_⟩
  exact ⟨_, rfl, (hs.pick (L' := [_]) (.cons_cons _ (List.nil_sublist _))).made⟩

end Go.Proofs.Ytmgnnclkjkbmdaa
end

/- The tree of a rung. -/
section
set_option linter.unusedSimpArgs false
set_option linter.unusedVariables false
set_option maxRecDepth 100000
namespace Go.Proofs.Ytmgnnclkjkbmdaa
open Go Go.Fw

open Sha
/-- A level of a rung's tree: how many stand there, and what. -/
def lRow (d : Int) (ep sq : UInt32) (r : Int) (e : List UInt8) (lv n : Nat) : Nat × List UInt8 := (2 ^ (lv - n), rows (lNode d ep sq r e n) (2 ^ (lv - n)))
def treeE (d : Int) (ep sq : UInt32) (r : Int) (e : List UInt8) (lv : Nat) : Value → List Ent → World → Prop := fun v L _ =>
  ∃ ps : List (Value × Nat × List UInt8), ps.map (·.2) = (List.range (lv + 1)).map (lRow d ep sq r e lv) ∧ L = [.texts 110 (Ent.partS 54 16) v ps]
theorem lNode_length (d : Int) (ep sq : UInt32) (r : Int) (e : List UInt8) (n q : Nat) : (lNode d ep sq r e n q).length = 16 := node_length (fun _ => rfl) n q
theorem lrows_length (d : Int) (ep sq : UInt32) (r : Int) (e : List UInt8) (n k : Nat) : (rows (lNode d ep sq r e n) k).length = 16 * k := rows_length (N := k) (fun c _ => lNode_length d ep sq r e n c) k (Nat.le_refl _)
theorem rows_piece {f : Nat → List UInt8} {n i : Nat} (hf : ∀ c, (f c).length = 16) (h : i < n) : ((rows f n).drop (i * 16)).take 16 = f i := by
  have := rows_chunk (N := n) (fun c _ => hf c) n (Nat.le_refl _) i h
  rw [chunk, Nat.mul_comm] at this
  exact this
theorem pow8 : ∀ {lv : Nat}, lv ≤ 3 → 2 ^ lv ≤ 8
  | 0, _ => by decide | 1, _ => by decide | 2, _ => by decide | 3, _ => by decide | lv + 4, h => absurd h (by omega)
theorem pow_pos' (k : Nat) : 0 < 2 ^ k := Nat.two_pow_pos k
theorem pow_one {k : Nat} (h : ¬ 1 < 2 ^ k) : k = 0 := by
  cases k with
  | zero => rfl
  | succ k => exfalso; have := Nat.two_pow_pos k; rw [Nat.pow_succ] at h; omega
theorem pow_more {k : Nat} (h : 1 < 2 ^ k) : 0 < k := by
  cases k with
  | zero => simp at h
  | succ k => omega
theorem snd_at {α β : Type} {ps : List (α × β)} {f : Nat → β} {n k : Nat} (h : ps.map (·.2) = (List.range n).map f) (hk : k < n) (d : α × β) : (ps.getD k d).2 = f k := by
  have hl : ps.length = n := by have := congrArg List.length h; simpa using this
  have h2 := congrArg (fun l : List β => l[k]?) h
  simp only [List.getElem?_map, List.getElem?_range hk, List.getElem?_eq_getElem (show k < ps.length by omega), Option.map_some] at h2
  rw [List.getD, List.getElem?_eq_getElem (by omega)]
  exact Option.some.inj h2

-- ladder.tree
set_option maxHeartbeats 4000000 in
theorem ladder_tree (d : Int) (ep sq : UInt32) (r : Int) (e : List UInt8) (W lv : Nat) (hW : W = 2 ^ lv) (hlv : lv ≤ 3) (hel : e.length = 16) (w : World)  : Ctr Try.prog 166 [.agg #[I d, U ep, U sq], I r, .agg (e.map B).toArray, I W] w (fun _ => False) (outE (treeE d ep sq r e lv) w) := by
  have hW8 : W ≤ 8 := by rw [hW]; exact pow8 hlv
  refine fn_start (N := 68) Try.func166 rfl rfl rfl fun ac hk => ?_
  have hs := St.start hk w
  refine wp_seq ?_
  refine wp_reg ?_
  refine s_box hs rfl rfl rfl fun ac ww g4 hs => ?_
  refine s_box hs rfl rfl rfl fun ac ww g6 hs => ?_
  refine s_q hs (c_assign (hs.ev rfl)) rfl fun ac hs => ?_
  refine s_end ?_
  replace hs := hs.sub (F' := [(1, _), (3, _), (4, _), (6, _), (8, _)]) ⟨rfl, rfl, rfl, rfl, rfl, trivial⟩
  refine then_n ?_
  refine wp_seq ?_
  refine wp_reg ?_
  refine s_q hs (c_move (hs.ev rfl)) rfl fun ac hs => ?_
  refine s_make (n := W) hs un110 ty54 rfl rfl rfl rfl (by omega) (by unfold maxLen; omega) rfl fun ac ww g15 hs => ?_
  refine s_q hs (c_assign (hs.ev rfl)) rfl fun ac hs => ?_
  refine s_end ?_
  replace hs := hs.toL (show _ = [.seg g15 (((List.replicate (16 * W) (0 : UInt8))).map B) 54, _, _] from by rw [show (List.replicate W _).flatten = (List.replicate (W * 16) (0 : UInt8)).map B from flatZ W 16, Nat.mul_comm])
  replace hs := hs.sub (F' := [(1, _), (4, _), (6, _), (8, _), (9, _)]) ⟨rfl, rfl, rfl, rfl, rfl, trivial⟩
  refine then_n ?_
  refine wp_seq ?_
  refine wp_seq ?_
  refine wp_reg ?_
  refine s_q hs (c_move (hs.ev rfl)) rfl fun ac hs => ?_
  refine s_q hs (c_lenS un110 (hs.ev rfl)) rfl fun ac hs => ?_
  refine s_q hs (c_move (hs.ev rfl)) rfl fun ac hs => ?_
  refine s_end ?_
  replace hs := hs.sub (F' := [(1, _), (4, _), (6, _), (8, _), (9, _), (17, _), (18, _)]) ⟨rfl, rfl, rfl, rfl, rfl, rfl, rfl, trivial⟩
  refine then_n ?_
  refine wp_block ?_
  refine s_loop hs (X := Nat) (fun k => [(18, I k)]) [(1, _), (4, _), (6, _), (8, _), (9, _), (17, _)] (fun k => [.seg g15 ((rows (lNode d ep sq r e 0) k ++ (List.replicate (16 * W) (0 : UInt8)).drop (16 * k)).map B) 54, _, _]) (fun n k => k ≤ W ∧ n = W - k) (_) (0) (⟨Nat.zero_le _, rfl⟩) ⟨rfl, rfl, rfl, rfl, rfl, rfl, rfl, trivial⟩ rfl ?_
  rintro n k ac ww hok hs
  simp only [List.cons_append, List.nil_append] at hs
  obtain ⟨hk, rfl⟩ := hok
  have hrl := lrows_length d ep sq r e 0 k
  refine wp_seq ?_
  refine wp_reg ?_
  refine s_q hs (c_lssI (hs.ev rfl) (hs.ev rfl)) rfl fun ac hs => ?_
  refine s_end ?_
  refine then_n ?_
  refine wp_seq ?_
  refine s_cond hs rfl (fun hc => ?_) (fun hc => ?_)
  · try simp only [decide_eq_true_eq, decide_eq_false_iff_not, Bool.not_eq_true', Bool.not_eq_false', Bool.and_eq_true, Bool.or_eq_true, Bool.or_eq_false_iff] at hc
    refine wp_skip ?_
    refine then_n ?_
    refine wp_seq ?_
    refine wp_block ?_
    refine wp_seq ?_
    refine wp_reg ?_
    refine s_q hs (c_move (hs.ev rfl)) rfl fun ac hs => ?_
    refine s_q hs (c_assign (hs.ev rfl)) rfl fun ac hs => ?_
    refine s_end ?_
    refine then_n ?_
    refine wp_reg ?_
    refine s_q hs (c_move (hs.ev rfl)) rfl fun ac hs => ?_
    refine s_q hs (c_move (hs.ev rfl)) rfl fun ac hs => ?_
    refine s_q hs (c_loadW ty84 ag84 (hs.ev rfl) (hs.seg (i := 2) rfl) (by rfl)) rfl fun ac hs => ?_
    refine s_q hs (c_move (hs.ev rfl)) rfl fun ac hs => ?_
    refine s_q hs (c_loadW ty54 rfl (hs.ev rfl) (hs.seg (i := 1) rfl) (by rw [List.length_map, hel])) rfl fun ac hs => ?_
    refine s_q hs (c_move (hs.ev rfl)) rfl fun ac hs => ?_
    refine s_call hs fu71 (.cons (hs.ev rfl) (.cons (hs.ev rfl) (.cons (hs.ev rfl) (.cons (hs.ev rfl) .nil)))) (ladder_Leaf d ep sq r e (k : Int) hel _) rfl fun ac ww v27 hf hp hs => ?_
    obtain rfl := hp
    replace hs := hs [] (.nil _ _)
    refine s_q hs (c_idxS (j := k) un110 ty54 (hs.ev rfl) (hs.ev rfl) (by omega) (by omega)) rfl fun ac hs => ?_
    refine s_store (i := 0) hs ty54 rfl rfl rfl rfl (show (List.map B (lLeaf d ep sq r e (k : Int))).length = 16 by rw [List.length_map]; rfl) (all_map_B _) (by rw [List.length_map, List.length_append, List.length_drop, List.length_replicate]; omega) (chunk_set hrl) fun ww hs => ?_
    refine s_end ?_
    refine blk_n ?_
    refine then_n ?_
    refine wp_reg ?_
    refine s_q hs (c_addI (hs.ev rfl) (hs.ev rfl) (by omega) (by omega)) rfl fun ac hs => ?_
    refine s_q hs (c_move (hs.ev rfl)) rfl fun ac hs => ?_
    refine s_end ?_
    refine then_n ?_
    exact ⟨W - (k + 1), by omega, k + 1, ⟨by omega, rfl⟩, St.next hs ⟨rfl, rfl, rfl, rfl, rfl, rfl, rfl, trivial⟩ (by rw [rows_succ]; rfl)⟩
  · try simp only [decide_eq_true_eq, decide_eq_false_iff_not, Bool.not_eq_true', Bool.not_eq_false', Bool.and_eq_true, Bool.or_eq_true, Bool.or_eq_false_iff] at hc
    obtain rfl : W = k := by omega
    rw [List.drop_of_length_le (by simp), List.append_nil] at hs
    refine wp_exit ?_
    refine then_e ?_
    refine then_e ?_
    refine blk_hit ?_
    refine then_n ?_
    refine wp_seq ?_
    refine wp_reg ?_
    refine s_q hs (c_move (hs.ev rfl)) rfl fun ac hs => ?_
    refine s_bslice hs un222 ty110 (.cons (hs.ev rfl) .nil) rfl (by simp [Value.cells]) (by decide) rfl rfl fun ac ww g31 hs => ?_
    refine s_q hs (c_assign (hs.ev rfl)) rfl fun ac hs => ?_
    refine s_end ?_
    replace hs := (((hs.segrow (i := 0) (n := 1) (sz := 1) rfl rfl (by decide)).segrow (i := 1) (n := W) (sz := 16) rfl (by rw [List.length_map, lrows_length]; omega) (by unfold maxLen; omega)).texts1 (i := 0) (j := 1) (pt := Ent.partS 54 16) (z := (W, rows (lNode d ep sq r e 0) W)) rfl rfl rfl).pick (L' := [_, _, _]) (.cons_cons _ (.cons _ (.refl _)))
    replace hs := hs.sub (F' := [(1, _), (4, _), (8, _), (9, _), (11, _)]) ⟨rfl, rfl, rfl, rfl, rfl, trivial⟩
    refine then_n ?_
    refine wp_seq ?_
    refine wp_block ?_
    refine s_loop hs (X := Nat × Nat × Value × Value × List (Value × Nat × List UInt8)) (fun x => [(9, x.2.2.1), (11, x.2.2.2.1)]) [(1, _), (4, _), (8, _)] (fun x => [.texts 110 (Ent.partS 54 16) x.2.2.2.1 x.2.2.2.2, _, _]) (fun n x => x.1 ≤ lv ∧ n = lv - x.1 ∧ x.2.1 = 2 ^ (lv - x.1) ∧ x.2.2.2.2.map (·.2) = (List.range (x.1 + 1)).map (lRow d ep sq r e lv) ∧ (x.2.2.2.2.getD x.1 (.nilIface, 0, [])).1 = x.2.2.1) (_) ((0, W, _, _, [(_, W, rows (lNode d ep sq r e 0) W)])) (⟨Nat.zero_le _, rfl, hW, by rw [hW]; rfl, rfl⟩) ⟨rfl, rfl, rfl, rfl, rfl, trivial⟩ rfl ?_
    rintro n ⟨n, m, rv, ov, ps⟩ ac ww hok hs
    simp only [List.cons_append, List.nil_append] at hs
    obtain ⟨hn, rfl, hm, hps, hrv⟩ := hok
    simp only at hn hm hps hrv hs
    have hpl : ps.length = n + 1 := by have := congrArg List.length hps; simpa using this
    have hz := snd_at hps (Nat.lt_succ_self n) (.nilIface, 0, [])
    have ho : ww.ownsRow 0 54 16 (ps.getD n (.nilIface, 0, [])).1 (ps.getD n (.nilIface, 0, [])).2.1 ((ps.getD n (.nilIface, 0, [])).2.2.map B) := texts_part (hs.get (i := 0) rfl) (k := n) (by omega) (.nilIface, 0, [])
    rw [hrv, hz] at ho
    simp only [lRow, ← hm] at ho
    have hmp : 0 < m := by rw [hm]; exact pow_pos' _
    have hm8 : m ≤ 8 := by rw [hm]; exact pow8 (by omega)
    obtain ⟨rg, rcap, rcur, rfl, hrg, hrn, hrm, hrt⟩ := owns_at ho hmp
    refine wp_seq ?_
    refine wp_seq ?_
    refine wp_reg ?_
    refine s_q hs (c_move (hs.ev rfl)) rfl fun ac hs => ?_
    refine s_q hs (c_lenS un110 (hs.ev rfl)) rfl fun ac hs => ?_
    refine s_q hs (c_gtrI (hs.ev rfl) (hs.ev rfl)) rfl fun ac hs => ?_
    refine s_end ?_
    refine then_n ?_
    refine s_cond hs rfl (fun hc => ?_) (fun hc => ?_)
    · try simp only [decide_eq_true_eq, decide_eq_false_iff_not, Bool.not_eq_true', Bool.not_eq_false', Bool.and_eq_true, Bool.or_eq_true, Bool.or_eq_false_iff] at hc
      have hnl : n < lv := by have := pow_more (k := lv - n) (by rw [← hm]; omega); omega
      obtain ⟨h, hh, hh2⟩ : ∃ h, m = 2 * h ∧ h = 2 ^ (lv - (n + 1)) := ⟨_, by rw [hm, show lv - n = lv - (n + 1) + 1 from by omega, Nat.pow_succ]; omega, rfl⟩
      refine wp_skip ?_
      refine then_n ?_
      refine wp_block ?_
      refine wp_seq ?_
      refine wp_reg ?_
      refine s_q hs (c_move (hs.ev rfl)) rfl fun ac hs => ?_
      refine s_q hs (c_lenS un110 (hs.ev rfl)) rfl fun ac hs => ?_
      refine s_q hs (c_quoI (hs.ev rfl) (hs.ev rfl) (by omega) (by omega) (by omega)) rfl fun ac hs => ?_
      refine s_make (n := h) hs un110 ty54 rfl rfl (by omega) (by omega) (by omega) (by unfold maxLen; omega) rfl fun ac ww g38 hs => ?_
      refine s_q hs (c_assign (hs.ev rfl)) rfl fun ac hs => ?_
      refine s_end ?_
      replace hs := hs.toL (show _ = [.seg g38 (((List.replicate (16 * h) (0 : UInt8))).map B) 54, _, _, _] from by rw [show (List.replicate h _).flatten = (List.replicate (h * 16) (0 : UInt8)).map B from flatZ h 16, Nat.mul_comm])
      refine then_n ?_
      refine wp_seq ?_
      refine wp_seq ?_
      refine wp_reg ?_
      refine s_q hs (c_move (hs.ev rfl)) rfl fun ac hs => ?_
      refine s_q hs (c_lenS un110 (hs.ev rfl)) rfl fun ac hs => ?_
      refine s_q hs (c_move (hs.ev rfl)) rfl fun ac hs => ?_
      refine s_end ?_
      refine then_n ?_
      refine wp_block ?_
      refine s_loop hs (X := Nat) (fun q => [(41, I q)]) [(1, _), (4, _), (8, _), (9, _), (11, _), (12, _), (32, _), (33, _), (34, _), (35, _), (36, _), (37, _), (38, _), (39, _), (40, _)] (fun q => [.seg g38 ((rows (lNode d ep sq r e (n + 1)) q ++ (List.replicate (16 * h) (0 : UInt8)).drop (16 * q)).map B) 54, _, _, _]) (fun n q => q ≤ h ∧ n = h - q) (_) (0) (⟨Nat.zero_le _, rfl⟩) ⟨rfl, rfl, rfl, rfl, rfl, rfl, rfl, rfl, rfl, rfl, rfl, rfl, rfl, rfl, rfl, rfl, trivial⟩ rfl ?_
      rintro n q ac ww hok hs
      simp only [List.cons_append, List.nil_append] at hs
      obtain ⟨hq, rfl⟩ := hok
      have ho2 : ww.ownsRow 0 54 16 (ps.getD n (.nilIface, 0, [])).1 (ps.getD n (.nilIface, 0, [])).2.1 ((ps.getD n (.nilIface, 0, [])).2.2.map B) := texts_part (hs.get (i := 1) rfl) (k := n) (by omega) (.nilIface, 0, [])
      rw [hrv, hz] at ho2
      simp only [lRow, ← hm] at ho2
      obtain ⟨rg2, rcap2, rcur2, hre, hrg2, _, _, hrt2⟩ := owns_at ho2 hmp
      cases hre
      have hrl := lrows_length d ep sq r e (n + 1) q
      refine wp_seq ?_
      refine wp_reg ?_
      refine s_q hs (c_lssI (hs.ev rfl) (hs.ev rfl)) rfl fun ac hs => ?_
      refine s_end ?_
      refine then_n ?_
      refine wp_seq ?_
      refine s_cond hs rfl (fun hc => ?_) (fun hc => ?_)
      · try simp only [decide_eq_true_eq, decide_eq_false_iff_not, Bool.not_eq_true', Bool.not_eq_false', Bool.and_eq_true, Bool.or_eq_true, Bool.or_eq_false_iff] at hc
        have hqh : q < h := by omega
        refine wp_skip ?_
        refine then_n ?_
        refine wp_seq ?_
        refine wp_block ?_
        refine wp_seq ?_
        refine wp_reg ?_
        refine s_q hs (c_move (hs.ev rfl)) rfl fun ac hs => ?_
        refine s_q hs (c_assign (hs.ev rfl)) rfl fun ac hs => ?_
        refine s_end ?_
        refine then_n ?_
        refine wp_region_rg pmix 16 (by kernel_rfl) rfl hs ?_
        simp only [List.take_succ_cons, List.take_zero]
        refine rg_q (fun ac ww h => c_move (h.ev rfl)) rfl ?_
        refine rg_q (fun ac ww h => c_move (h.ev rfl)) rfl ?_
        refine rg_q (fun ac ww h => c_loadW ty84 ag84 (h.ev rfl) (h.blk (hs.seg (i := 3) rfl)) (by rfl)) rfl ?_
        refine rg_q (fun ac ww h => c_move (h.ev rfl)) rfl ?_
        refine rg_q (fun ac ww h => c_move (h.ev rfl)) rfl ?_
        refine rg_q (fun ac ww h => c_move (h.ev rfl)) rfl ?_
        refine rg_q (fun ac ww h => c_mulI (h.ev rfl) (h.ev rfl) (by omega) (by omega)) rfl ?_
        refine rg_q (fun ac ww h => c_idxS (j := 2 * q) un110 ty54 (h.ev rfl) (h.ev rfl) (by omega) (by omega)) rfl ?_
        refine rg_q (fun ac ww h => c_loadA ty54 rfl (h.ev rfl) (h.blk hrg2) ((rowpiece hrt2 (by rw [lrows_length]; omega) (show 2 * q < m by omega)).trans (by rw [rows_piece (lNode_length d ep sq r e n) (show 2 * q < m by omega)])) (by rw [List.length_map]; exact lNode_length _ _ _ _ _ _ _)) rfl ?_
        refine rg_q (fun ac ww h => c_move (h.ev rfl)) rfl ?_
        refine rg_q (fun ac ww h => c_move (h.ev rfl)) rfl ?_
        refine rg_q (fun ac ww h => c_mulI (h.ev rfl) (h.ev rfl) (by omega) (by omega)) rfl ?_
        refine rg_q (fun ac ww h => c_addI (h.ev rfl) (h.ev rfl) (by omega) (by omega)) rfl ?_
        refine rg_q (fun ac ww h => c_idxS (j := 2 * q + 1) un110 ty54 (h.ev rfl) (h.ev rfl) (by omega) (by omega)) rfl ?_
        refine rg_q (fun ac ww h => c_loadA ty54 rfl (h.ev rfl) (h.blk hrg2) ((rowpiece hrt2 (by rw [lrows_length]; omega) (show 2 * q + 1 < m by omega)).trans (by rw [rows_piece (lNode_length d ep sq r e n) (show 2 * q + 1 < m by omega)])) (by rw [List.length_map]; exact lNode_length _ _ _ _ _ _ _)) rfl ?_
        refine rg_call fu73 (fun ac ww h => (.cons (h.ev rfl) (.cons (h.ev rfl) (.cons (h.ev rfl) (.cons (h.ev rfl) .nil))))) (fun ww hf => ladder_Join d ep sq r (lNode d ep sq r e n (2 * q)) (lNode d ep sq r e n (2 * q + 1)) (lNode_length _ _ _ _ _ _ _) (lNode_length _ _ _ _ _ _ _) ww) rfl ?_
        refine rg_nil fun ac ww L' hf hfe hs => ?_
        simp only [List.drop_succ_cons, List.drop_zero]
        obtain rfl : L' = [] := hfe
        replace hs := hs.toL (List.nil_append _)
        refine s_q hs (c_idxS (j := q) un110 ty54 (hs.ev rfl) (hs.ev rfl) (by omega) (by omega)) rfl fun ac hs => ?_
        refine s_store (i := 0) hs ty54 rfl rfl rfl rfl (show (List.map B (ofT (joinX d ep sq r (lNode d ep sq r e n (2 * q)) (lNode d ep sq r e n (2 * q + 1))))).length = 16 by rw [List.length_map]; rfl) (all_map_B _) (by rw [List.length_map, List.length_append, List.length_drop, List.length_replicate]; omega) (chunk_set hrl) fun ww hs => ?_
        refine s_end ?_
        refine blk_n ?_
        refine then_n ?_
        refine wp_reg ?_
        refine s_q hs (c_addI (hs.ev rfl) (hs.ev rfl) (by omega) (by omega)) rfl fun ac hs => ?_
        refine s_q hs (c_move (hs.ev rfl)) rfl fun ac hs => ?_
        refine s_end ?_
        refine then_n ?_
        exact ⟨h - (q + 1), by omega, q + 1, ⟨by omega, rfl⟩, St.next hs ⟨rfl, rfl, rfl, rfl, rfl, rfl, rfl, rfl, rfl, rfl, rfl, rfl, rfl, rfl, rfl, rfl, trivial⟩ (by rw [rows_succ]; rfl)⟩
      · try simp only [decide_eq_true_eq, decide_eq_false_iff_not, Bool.not_eq_true', Bool.not_eq_false', Bool.and_eq_true, Bool.or_eq_true, Bool.or_eq_false_iff] at hc
        obtain rfl : h = q := by omega
        rw [List.drop_of_length_le (by simp), List.append_nil] at hs
        refine wp_exit ?_
        refine then_e ?_
        refine then_e ?_
        refine blk_hit ?_
        refine then_n ?_
        refine wp_reg ?_
        refine s_q hs (c_move (hs.ev rfl)) rfl fun ac hs => ?_
        refine s_q hs (c_move (hs.ev rfl)) rfl fun ac hs => ?_
        refine s_bslice hs un222 ty110 (.cons (hs.ev rfl) .nil) rfl (by simp [Value.cells]) (by decide) rfl rfl fun ac ww g64 hs => ?_
        replace hs := hs.segrow (i := 1) (n := h) (sz := 16) rfl (by rw [List.length_map, lrows_length]; omega) (by unfold maxLen; omega)
        refine s_appP (i := 2) (j := 1) (pt := Ent.partS 54 16) (z := (h, rows (lNode d ep sq r e (n + 1)) h)) hs un222 ty110 rfl rfl rfl rfl rfl (hs.seg (i := 0) rfl) rfl (by omega) rfl fun ac ww v65 hs => ?_
        refine s_q hs (c_move (hs.ev rfl)) rfl fun ac hs => ?_
        refine s_q hs (c_assign (hs.ev rfl)) rfl fun ac hs => ?_
        refine s_q hs (c_assign (hs.ev rfl)) rfl fun ac hs => ?_
        refine s_end ?_
        replace hs := hs.pick (L' := [_, _, _]) (.cons _ (.cons _ (.refl _)))
        refine blk_n ?_
        refine then_n ?_
        exact ⟨lv - (n + 1), by (try simp only); omega, (n + 1, h, .slice (some ⟨g38, 0, none⟩) h h, v65, ps ++ [(.slice (some ⟨g38, 0, none⟩) h h, h, rows (lNode d ep sq r e (n + 1)) h)]), ⟨by (try simp only); omega, rfl, hh2, by simp only [List.map_append]; rw [hps, List.range_succ (n := n + 1), List.map_append]; simp only [List.map_cons, List.map_nil, lRow, ← hh2], by simp only; rw [List.getD, List.getElem?_append_right (by omega), show n + 1 - ps.length = 0 from by omega]; rfl⟩, St.next hs ⟨rfl, rfl, rfl, rfl, rfl, trivial⟩ rfl⟩
    · try simp only [decide_eq_true_eq, decide_eq_false_iff_not, Bool.not_eq_true', Bool.not_eq_false', Bool.and_eq_true, Bool.or_eq_true, Bool.or_eq_false_iff] at hc
      have hnl : lv - n = 0 := pow_one (by rw [← hm]; omega)
      obtain rfl : n = lv := by omega
      refine wp_exit ?_
      refine then_e ?_
      refine then_e ?_
      refine blk_hit ?_
      refine then_n ?_
      refine wp_seq ?_
      refine wp_reg ?_
      refine s_q hs (c_move (hs.ev rfl)) rfl fun ac hs => ?_
      refine s_q hs (c_assign (hs.ev rfl)) rfl fun ac hs => ?_
      refine s_end ?_
      replace hs := hs.sub (F' := [(8, _)]) ⟨rfl, trivial⟩
      refine then_n ?_
      refine wp_ret ?_
      refine s_ret hs rfl (.tmp (hs.tmp rfl) .nil) rfl ⟨_, rfl, hs.fr, ?_⟩
      exact ⟨_, ⟨ps, hps, rfl⟩, (hs.pick (L' := [_]) (.cons_cons _ (.cons _ (.cons _ .slnil)))).made⟩

end Go.Proofs.Ytmgnnclkjkbmdaa
end

/- The next element, costs. -/
section
set_option linter.unusedSimpArgs false
set_option linter.unusedVariables false
set_option maxRecDepth 100000
namespace Go.Proofs.Ytmgnnclkjkbmdaa
open Go Go.Fw

open Sha
def upB (d : Int) (ep sq : UInt32) (r : Int) (e : List UInt8) (x : Int) : List UInt8 := if rightB r x = true then lNode d ep sq r e (levels x).toNat 0 else List.replicate 16 0
def upN (r x : Int) : Int := if rightB r x = true then 0 else 1
theorem upB_length (d : Int) (ep sq : UInt32) (r : Int) (e : List UInt8) (x : Int) : (upB d ep sq r e x).length = 16 := by
  unfold upB
  split
  · exact lNode_length _ _ _ _ _ _ _
  · simp
theorem levels_lv {x : Int} (h : 0 ≤ levels x) : ∃ lv W : Nat, lv ≤ 3 ∧ W = 2 ^ lv ∧ x = (W : Int) ∧ levels x = lv := by
  rcases levels_cases x with ⟨rfl, e⟩ | ⟨rfl, e⟩ | ⟨rfl, e⟩ | ⟨rfl, e⟩ | ⟨_, _, _, _, e⟩
  · exact ⟨0, 1, by decide, rfl, rfl, e⟩
  · exact ⟨1, 2, by decide, rfl, rfl, e⟩
  · exact ⟨2, 4, by decide, rfl, rfl, e⟩
  · exact ⟨3, 8, by decide, rfl, rfl, e⟩
  · omega
theorem right_lv {r x : Int} (h : rightB r x = true) : ∃ lv W : Nat, lv ≤ 3 ∧ W = 2 ^ lv ∧ x = (W : Int) ∧ levels x = lv := by
  unfold rightB at h
  rw [Bool.and_eq_true, decide_eq_true_iff] at h
  exact levels_lv h.2
theorem up_awake : upB 1 2 3 0 (List.replicate 16 (0 : UInt8)) 1 = lLeaf 1 2 3 0 (List.replicate 16 (0 : UInt8)) 0 := by rw [upB, if_pos (by decide)]; rfl
theorem nodeTs_le (d : Int) (ep sq : UInt32) (r : Int) (e : List UInt8) : ∀ n q, n ≤ 4 → (lNodeTs d ep sq r e n q).length ≤ 100
  | 0, q, _ => by simp [lNodeTs, nodeTs, lLt]
  | 1, q, _ => by simp [lNodeTs, nodeTs, lLt]
  | 2, q, _ => by simp [lNodeTs, nodeTs, lLt]
  | 3, q, _ => by simp [lNodeTs, nodeTs, lLt]
  | 4, q, _ => by simp [lNodeTs, nodeTs, lLt]
  | n + 5, q, h => by omega

-- ladder.Up
set_option maxHeartbeats 4000000 in
theorem ladder_Up (d : Int) (ep sq : UInt32) (r : Int) (e : List UInt8) (x : Int) (hel : e.length = 16) (w : World)  : Ctr Try.prog 67 [.agg #[I d, U ep, U sq], I r, .agg (e.map B).toArray, I x] w (fun _ => False) (fun v _ => v = .tuple #[.agg ((upB d ep sq r e x).map B).toArray, I (upN r x)]) := by
  refine fn_start (N := 29) Try.func67 rfl rfl rfl fun ac hk => ?_
  have hs := St.start hk w
  refine wp_seq ?_
  refine wp_reg ?_
  refine s_box hs rfl rfl rfl fun ac ww g4 hs => ?_
  refine s_box hs rfl rfl rfl fun ac ww g6 hs => ?_
  refine s_alloc hs ty54 rfl fun ac ww g8 hs => ?_
  refine s_q hs (c_assign (hs.ev rfl)) rfl fun ac hs => ?_
  refine s_end ?_
  replace hs := hs.sub (F' := [(1, _), (3, _), (4, _), (6, _), (8, _), (9, _)]) ⟨rfl, rfl, rfl, rfl, rfl, rfl, trivial⟩
  refine then_n ?_
  refine wp_seq ?_
  refine wp_seq ?_
  refine wp_reg ?_
  refine s_q hs (c_move (hs.ev rfl)) rfl fun ac hs => ?_
  refine s_q hs (c_move (hs.ev rfl)) rfl fun ac hs => ?_
  refine s_call hs fu165 (.cons (hs.ev rfl) (.cons (hs.ev rfl) .nil)) (ladder_right r x _) rfl fun ac ww v13 hf hp hs => ?_
  obtain rfl := hp
  replace hs := hs [] (.nil _ _)
  refine s_q hs (c_not (hs.ev rfl)) rfl fun ac hs => ?_
  refine s_end ?_
  replace hs := hs.sub (F' := [(1, _), (3, _), (4, _), (6, _), (8, _), (9, _), (14, _)]) ⟨rfl, rfl, rfl, rfl, rfl, rfl, rfl, trivial⟩
  refine then_n ?_
  refine s_cond hs rfl (fun hc => ?_) (fun hc => ?_)
  · try simp only [decide_eq_true_eq, decide_eq_false_iff_not, Bool.not_eq_true', Bool.not_eq_false', Bool.and_eq_true, Bool.or_eq_true, Bool.or_eq_false_iff] at hc
    have hno : ¬ rightB r x = true := by simpa using hc
    refine wp_seq ?_
    refine wp_reg ?_
    refine s_q hs (c_buildA ty54 un54 ty5 (zc := (List.replicate 16 (0 : UInt8)).map B) (vs := []) .nil (by simp) (by simp [flatCells]) rfl) rfl fun ac hs => ?_
    refine s_storeW (i := 0) hs ty54 rfl rfl rfl (by simp) (all_map_B _) rfl fun ww hs => ?_
    refine s_q hs (c_assign (hs.ev rfl)) rfl fun ac hs => ?_
    refine s_end ?_
    replace hs := hs.sub (F' := [(1, _), (3, _), (4, _), (6, _), (8, _), (9, _)]) ⟨rfl, rfl, rfl, rfl, rfl, rfl, trivial⟩
    refine then_n ?_
    refine wp_ret ?_
    refine then_r ?_
    refine s_ret hs rfl (.cell (hs.tmp rfl) (run_loadA ty54 rfl (hs.seg (i := 0) rfl) (List.take_of_length_le (by simp)) (by simp)) (.tmp (hs.tmp rfl) .nil)) rfl ⟨_, rfl, hs.fr, ?_⟩
    show Value.tuple _ = Value.tuple _
    rw [upB, upN, if_neg hno, if_neg hno]
    rfl
  · try simp only [decide_eq_true_eq, decide_eq_false_iff_not, Bool.not_eq_true', Bool.not_eq_false', Bool.and_eq_true, Bool.or_eq_true, Bool.or_eq_false_iff] at hc
    have hr : rightB r x = true := by simpa using hc
    obtain ⟨lv, W, hlv, hW, rfl, hxl⟩ := right_lv hr
    refine wp_skip ?_
    refine then_n ?_
    refine wp_seq ?_
    refine wp_reg ?_
    refine s_q hs (c_loadW ty84 ag84 (hs.ev rfl) (hs.seg (i := 2) rfl) (by rfl)) rfl fun ac hs => ?_
    refine s_q hs (c_move (hs.ev rfl)) rfl fun ac hs => ?_
    refine s_q hs (c_loadW ty54 rfl (hs.ev rfl) (hs.seg (i := 1) rfl) (by rw [List.length_map, hel])) rfl fun ac hs => ?_
    refine s_q hs (c_move (hs.ev rfl)) rfl fun ac hs => ?_
    refine s_call hs fu166 (.cons (hs.ev rfl) (.cons (hs.ev rfl) (.cons (hs.ev rfl) (.cons (hs.ev rfl) .nil)))) (ladder_tree d ep sq r e W lv hW hlv hel _) rfl fun ac ww v20 hf hp hs => ?_
    obtain ⟨L', ⟨ps, hps, rfl⟩, hh⟩ := hp
    replace hs := hs _ hh
    have hpl : ps.length = lv + 1 := by have := congrArg List.length hps; simpa using this
    obtain ⟨og, ocap, ocur, rfl, hog, hon, hom, hot⟩ := texts_at (hs.get (i := 0) rfl) (by omega)
    have hz := snd_at hps (Nat.lt_succ_self lv) (.nilIface, 0, [])
    have ho : ww.ownsRow 0 54 16 (ps.getD lv (.nilIface, 0, [])).1 (ps.getD lv (.nilIface, 0, [])).2.1 ((ps.getD lv (.nilIface, 0, [])).2.2.map B) := texts_part (hs.get (i := 0) rfl) (k := lv) (by omega) (.nilIface, 0, [])
    rw [hz] at ho
    simp only [lRow, Nat.sub_self, Nat.pow_zero] at ho
    obtain ⟨rg, rcap, rcur, hre, hrg, hrn, hrm, hrt⟩ := owns_at ho (by decide)
    refine s_q hs (c_assign (hs.ev rfl)) rfl fun ac hs => ?_
    refine s_end ?_
    replace hs := hs.sub (F' := [(8, _), (9, _), (10, _)]) ⟨rfl, rfl, rfl, trivial⟩
    refine then_n ?_
    refine wp_seq ?_
    refine wp_reg ?_
    refine s_q hs (c_move (hs.ev rfl)) rfl fun ac hs => ?_
    refine s_q hs (c_move (hs.ev rfl)) rfl fun ac hs => ?_
    refine s_q hs (c_lenS un222 (hs.ev rfl)) rfl fun ac hs => ?_
    refine s_q hs (c_subI (hs.ev rfl) (hs.ev rfl) (by omega) (by omega)) rfl fun ac hs => ?_
    refine s_q hs (c_idxS (j := lv) un222 ty110 (hs.ev rfl) (hs.ev rfl) (by omega) (by omega)) rfl fun ac hs => ?_
    refine s_q hs (c_loadS un110 rfl (hs.ev rfl) hog ((outcell (.nilIface, 0, []) hot (by omega)).trans (congrArg some hre))) rfl fun ac hs => ?_
    refine s_q hs (c_idxS un110 ty54 (hs.ev rfl) (hs.ev rfl) rfl (show 0 < 1 by decide)) rfl fun ac hs => ?_
    refine s_q hs (c_loadA ty54 rfl (hs.ev rfl) hrg ((rowpiece (i := 0) hrt (by rw [lrows_length]) (by decide)).trans (by rw [rows_piece (lNode_length d ep sq r e lv) (by decide)])) (by rw [List.length_map]; exact lNode_length _ _ _ _ _ _ _)) rfl fun ac hs => ?_
    refine s_storeW (i := 1) hs ty54 rfl rfl rfl (by rw [List.length_map]; exact lNode_length _ _ _ _ _ _ _) (all_map_B _) rfl fun ww hs => ?_
    refine s_q hs (c_assign (hs.ev rfl)) rfl fun ac hs => ?_
    refine s_end ?_
    replace hs := hs.sub (F' := [(8, _), (9, _)]) ⟨rfl, rfl, trivial⟩
    refine then_n ?_
    refine wp_ret ?_
    refine s_ret hs rfl (.cell (hs.tmp rfl) (run_loadA ty54 rfl (hs.seg (i := 1) rfl) (List.take_of_length_le (show (List.map B (lNode d ep sq r e lv 0)).length ≤ 16 by rw [List.length_map, lNode_length]; exact Nat.le_refl _)) (show (List.map B (lNode d ep sq r e lv 0)).length = 16 by rw [List.length_map, lNode_length])) (.tmp (hs.tmp rfl) .nil)) rfl ⟨_, rfl, hs.fr, ?_⟩
    show Value.tuple _ = Value.tuple _
    rw [upB, upN, if_pos hr, if_pos hr, hxl]
    rfl

-- ladder.UpCost
set_option maxHeartbeats 4000000 in
theorem ladder_UpCost (x : Int) (w : World)  : Ctr Try.prog 86 [I x] w (fun _ => False) (fun v _ => v = I (upCost x)) := by
  refine fn_start (N := 9) Try.func86 rfl rfl rfl fun ac hk => ?_
  have hs := St.start hk w
  refine wp_seq ?_
  refine wp_reg ?_
  refine s_q hs (c_assign (hs.ev rfl)) rfl fun ac hs => ?_
  refine s_end ?_
  refine then_n ?_
  refine wp_seq ?_
  refine wp_reg ?_
  refine s_q hs (c_move (hs.ev rfl)) rfl fun ac hs => ?_
  refine s_q hs (c_max (hs.ev rfl) (hs.ev rfl)) rfl fun ac hs => ?_
  refine s_q hs (c_min (hs.ev rfl) (hs.ev rfl)) rfl fun ac hs => ?_
  refine s_q hs (c_mulI (hs.ev rfl) (hs.ev rfl) (by omega) (by omega)) rfl fun ac hs => ?_
  refine s_q hs (c_subI (hs.ev rfl) (hs.ev rfl) (by omega) (by omega)) rfl fun ac hs => ?_
  refine s_q hs (c_max (hs.ev rfl) (hs.ev rfl)) rfl fun ac hs => ?_
  refine s_q hs (c_assign (hs.ev rfl)) rfl fun ac hs => ?_
  refine s_end ?_
  replace hs := hs.sub (F' := [(2, _)]) ⟨rfl, trivial⟩
  refine then_n ?_
  refine wp_ret ?_
  refine s_ret hs rfl (.tmp (hs.tmp rfl) .nil) rfl ⟨_, rfl, hs.fr, ?_⟩
  show I _ = I _
  refine congrArg I ?_
  unfold upCost
  split
  · omega
  · split <;> omega

-- fingerpostref06.UpCost
set_option maxHeartbeats 4000000 in
theorem ref06_UpCost (x : Int) (w : World)  : Ctr Try.prog 87 [I x] w (fun _ => False) (fun v _ => v = I (upCost x)) := by
  refine fn_start (N := 10) Try.func87 rfl rfl rfl fun ac hk => ?_
  have hs := St.start hk w
  refine wp_seq ?_
  refine wp_reg ?_
  refine s_q hs (c_assign (hs.ev rfl)) rfl fun ac hs => ?_
  refine s_end ?_
  refine then_n ?_
  refine wp_seq ?_
  refine wp_seq ?_
  refine wp_reg ?_
  refine s_q hs (c_move (hs.ev rfl)) rfl fun ac hs => ?_
  refine s_q hs (c_lssI (hs.ev rfl) (hs.ev rfl)) rfl fun ac hs => ?_
  refine s_end ?_
  replace hs := hs.sub (F' := [(0, _), (2, _), (4, _)]) ⟨rfl, rfl, rfl, trivial⟩
  refine then_n ?_
  refine s_cond hs rfl (fun hc => ?_) (fun hc => ?_)
  · try simp only [decide_eq_true_eq, decide_eq_false_iff_not, Bool.not_eq_true', Bool.not_eq_false', Bool.and_eq_true, Bool.or_eq_true, Bool.or_eq_false_iff] at hc
    refine wp_seq ?_
    refine wp_reg ?_
    refine s_q hs (c_assign (hs.ev rfl)) rfl fun ac hs => ?_
    refine s_end ?_
    replace hs := hs.sub (F' := [(0, _), (2, _)]) ⟨rfl, rfl, trivial⟩
    refine then_n ?_
    refine wp_ret ?_
    refine then_r ?_
    refine s_ret hs rfl (.tmp (hs.tmp rfl) .nil) rfl ⟨_, rfl, hs.fr, ?_⟩
    show I _ = I _
    refine congrArg I ?_
    rw [upCost, if_pos hc]
  · try simp only [decide_eq_true_eq, decide_eq_false_iff_not, Bool.not_eq_true', Bool.not_eq_false', Bool.and_eq_true, Bool.or_eq_true, Bool.or_eq_false_iff] at hc
    have n1 := hc
    refine wp_skip ?_
    refine then_n ?_
    refine wp_seq ?_
    refine wp_seq ?_
    refine wp_reg ?_
    refine s_q hs (c_move (hs.ev rfl)) rfl fun ac hs => ?_
    refine s_q hs (c_gtrI (hs.ev rfl) (hs.ev rfl)) rfl fun ac hs => ?_
    refine s_end ?_
    replace hs := hs.sub (F' := [(0, _), (2, _), (6, _)]) ⟨rfl, rfl, rfl, trivial⟩
    refine then_n ?_
    refine s_cond hs rfl (fun hc => ?_) (fun hc => ?_)
    · try simp only [decide_eq_true_eq, decide_eq_false_iff_not, Bool.not_eq_true', Bool.not_eq_false', Bool.and_eq_true, Bool.or_eq_true, Bool.or_eq_false_iff] at hc
      refine wp_seq ?_
      refine wp_reg ?_
      refine s_q hs (c_assign (hs.ev rfl)) rfl fun ac hs => ?_
      refine s_end ?_
      replace hs := hs.sub (F' := [(0, _), (2, _)]) ⟨rfl, rfl, trivial⟩
      refine then_n ?_
      refine wp_ret ?_
      refine then_r ?_
      refine s_ret hs rfl (.tmp (hs.tmp rfl) .nil) rfl ⟨_, rfl, hs.fr, ?_⟩
      show I _ = I _
      refine congrArg I ?_
      rw [upCost, if_neg (by omega), if_pos (by omega)]
    · try simp only [decide_eq_true_eq, decide_eq_false_iff_not, Bool.not_eq_true', Bool.not_eq_false', Bool.and_eq_true, Bool.or_eq_true, Bool.or_eq_false_iff] at hc
      refine wp_skip ?_
      refine then_n ?_
      refine wp_seq ?_
      refine wp_reg ?_
      refine s_q hs (c_move (hs.ev rfl)) rfl fun ac hs => ?_
      refine s_q hs (c_mulI (hs.ev rfl) (hs.ev rfl) (by omega) (by omega)) rfl fun ac hs => ?_
      refine s_q hs (c_subI (hs.ev rfl) (hs.ev rfl) (by omega) (by omega)) rfl fun ac hs => ?_
      refine s_q hs (c_assign (hs.ev rfl)) rfl fun ac hs => ?_
      refine s_end ?_
      replace hs := hs.sub (F' := [(2, _)]) ⟨rfl, trivial⟩
      refine then_n ?_
      refine wp_ret ?_
      refine s_ret hs rfl (.tmp (hs.tmp rfl) .nil) rfl ⟨_, rfl, hs.fr, ?_⟩
      show I _ = I _
      refine congrArg I ?_
      rw [upCost, if_neg (by omega), if_neg (by omega)]

-- ladder.RiseCost
set_option maxHeartbeats 4000000 in
theorem ladder_RiseCost (x : Int) (w : World)  : Ctr Try.prog 88 [I x] w (fun _ => False) (fun v _ => v = I (riseCost x)) := by
  refine fn_start (N := 6) Try.func88 rfl rfl rfl fun ac hk => ?_
  have hs := St.start hk w
  refine wp_seq ?_
  refine wp_reg ?_
  refine s_q hs (c_assign (hs.ev rfl)) rfl fun ac hs => ?_
  refine s_end ?_
  refine then_n ?_
  refine wp_seq ?_
  refine wp_reg ?_
  refine s_q hs (c_move (hs.ev rfl)) rfl fun ac hs => ?_
  refine s_call hs fu75 (.cons (hs.ev rfl) .nil) (ladder_Levels x _) rfl fun ac ww v4 hf hp hs => ?_
  obtain rfl := hp
  replace hs := hs [] (.nil _ _)
  refine s_q hs (c_max (hs.ev rfl) (hs.ev rfl)) rfl fun ac hs => ?_
  refine s_q hs (c_assign (hs.ev rfl)) rfl fun ac hs => ?_
  refine s_end ?_
  replace hs := hs.sub (F' := [(2, _)]) ⟨rfl, trivial⟩
  refine then_n ?_
  refine wp_ret ?_
  refine s_ret hs rfl (.tmp (hs.tmp rfl) .nil) rfl ⟨_, rfl, hs.fr, ?_⟩
  show I _ = I _
  refine congrArg I ?_
  unfold riseCost
  split <;> omega

-- fingerpostref06.RiseCost
set_option maxHeartbeats 4000000 in
theorem ref06_RiseCost (x : Int) (w : World)  : Ctr Try.prog 89 [I x] w (fun _ => False) (fun v _ => v = I (riseCost x)) := by
  refine fn_start (N := 8) Try.func89 rfl rfl rfl fun ac hk => ?_
  have hs := St.start hk w
  refine wp_seq ?_
  refine wp_reg ?_
  refine s_q hs (c_assign (hs.ev rfl)) rfl fun ac hs => ?_
  refine s_end ?_
  refine then_n ?_
  refine wp_seq ?_
  refine wp_seq ?_
  refine wp_reg ?_
  refine s_q hs (c_move (hs.ev rfl)) rfl fun ac hs => ?_
  refine s_call hs fu76 (.cons (hs.ev rfl) .nil) (ref06_Levels x _) rfl fun ac ww v4 hf hp hs => ?_
  obtain rfl := hp
  replace hs := hs [] (.nil _ _)
  refine s_q hs (c_lssI (hs.ev rfl) (hs.ev rfl)) rfl fun ac hs => ?_
  refine s_end ?_
  replace hs := hs.sub (F' := [(0, _), (2, _), (5, _)]) ⟨rfl, rfl, rfl, trivial⟩
  refine then_n ?_
  refine s_cond hs rfl (fun hc => ?_) (fun hc => ?_)
  · try simp only [decide_eq_true_eq, decide_eq_false_iff_not, Bool.not_eq_true', Bool.not_eq_false', Bool.and_eq_true, Bool.or_eq_true, Bool.or_eq_false_iff] at hc
    refine wp_seq ?_
    refine wp_reg ?_
    refine s_q hs (c_assign (hs.ev rfl)) rfl fun ac hs => ?_
    refine s_end ?_
    replace hs := hs.sub (F' := [(0, _), (2, _)]) ⟨rfl, rfl, trivial⟩
    refine then_n ?_
    refine wp_ret ?_
    refine then_r ?_
    refine s_ret hs rfl (.tmp (hs.tmp rfl) .nil) rfl ⟨_, rfl, hs.fr, ?_⟩
    show I _ = I _
    refine congrArg I ?_
    rw [riseCost, if_pos hc]
  · try simp only [decide_eq_true_eq, decide_eq_false_iff_not, Bool.not_eq_true', Bool.not_eq_false', Bool.and_eq_true, Bool.or_eq_true, Bool.or_eq_false_iff] at hc
    refine wp_skip ?_
    refine then_n ?_
    refine wp_seq ?_
    refine wp_reg ?_
    refine s_q hs (c_move (hs.ev rfl)) rfl fun ac hs => ?_
    refine s_call hs fu76 (.cons (hs.ev rfl) .nil) (ref06_Levels x _) rfl fun ac ww v7 hf hp hs => ?_
    obtain rfl := hp
    replace hs := hs [] (.nil _ _)
    refine s_q hs (c_assign (hs.ev rfl)) rfl fun ac hs => ?_
    refine s_end ?_
    replace hs := hs.sub (F' := [(2, _)]) ⟨rfl, trivial⟩
    refine then_n ?_
    refine wp_ret ?_
    refine s_ret hs rfl (.tmp (hs.tmp rfl) .nil) rfl ⟨_, rfl, hs.fr, ?_⟩
    show I _ = I _
    refine congrArg I ?_
    rw [riseCost, if_neg (by omega)]

-- fingerpostlaw06.To
set_option maxHeartbeats 4000000 in
theorem law06_To (d : Int) (ep sq : UInt32) (w : World)  : Ctr Try.prog 68 [.agg #[I d, U ep, U sq]] w (fun _ => False) (fun v _ => v = .agg #[I d, U ep, U sq]) := by
  refine fn_start (N := 10) Try.func68 rfl rfl rfl fun ac hk => ?_
  have hs := St.start hk w
  refine wp_seq ?_
  refine wp_reg ?_
  refine s_box hs rfl rfl rfl fun ac ww g1 hs => ?_
  refine s_alloc hs ty84 rfl fun ac ww g2 hs => ?_
  refine s_end ?_
  replace hs := hs.sub (F' := [(1, _), (2, _)]) ⟨rfl, rfl, trivial⟩
  refine then_n ?_
  refine wp_seq ?_
  refine wp_reg ?_
  refine s_q hs (c_fld fl81_0 (hs.ev rfl)) rfl fun ac hs => ?_
  refine s_q hs (c_loadS un3 rfl (hs.ev rfl) (hs.seg (i := 1) rfl) rfl) rfl fun ac hs => ?_
  refine s_q hs (c_fld fl81_1 (hs.ev rfl)) rfl fun ac hs => ?_
  refine s_q hs (c_loadS un27 rfl (hs.ev rfl) (hs.seg (i := 1) rfl) rfl) rfl fun ac hs => ?_
  refine s_q hs (c_fld fl81_2 (hs.ev rfl)) rfl fun ac hs => ?_
  refine s_q hs (c_loadS un27 rfl (hs.ev rfl) (hs.seg (i := 1) rfl) rfl) rfl fun ac hs => ?_
  refine s_q hs (c_buildS ty84 bp84 (.cons (hs.ev rfl) (.cons (hs.ev rfl) (.cons (hs.ev rfl) .nil))) ⟨rfl, rfl, rfl, trivial⟩ (by simp [flatCells, Value.cells]) rfl) rfl fun ac hs => ?_
  refine s_storeW (i := 0) hs ty84 rfl rfl rfl (by rfl) (by rfl) (by simp) fun ww hs => ?_
  refine s_end ?_
  replace hs := hs.sub (F' := [(2, _)]) ⟨rfl, trivial⟩
  refine then_n ?_
  refine wp_ret ?_
  refine s_ret hs rfl (.cell (hs.tmp rfl) (run_loadA ty84 ag84 (hs.seg (i := 0) rfl) rfl (by rfl)) .nil) rfl ⟨_, rfl, hs.fr, ?_⟩
  rfl

-- fingerpostlaw06.awake
set_option maxHeartbeats 4000000 in
theorem law06_awake  (w : World)  : Ctr Try.prog 70 [] w (fun _ => False) (fun v _ => v = .bool true) := by
  refine fn_start (N := 28) Try.func70 rfl rfl rfl fun ac hk => ?_
  have hs := St.start hk w
  refine wp_seq ?_
  refine wp_reg ?_
  refine s_q hs (c_assign (hs.ev rfl)) rfl fun ac hs => ?_
  refine s_end ?_
  refine then_n ?_
  refine wp_seq ?_
  refine wp_reg ?_
  refine s_q hs (c_buildS ty84 bp84 (.cons (hs.ev rfl) (.cons (St.ev (v := U 2) hs rfl) (.cons (St.ev (v := U 3) hs rfl) .nil))) ⟨rfl, rfl, rfl, trivial⟩ (by simp [flatCells, Value.cells]) rfl) rfl fun ac hs => ?_
  refine s_alloc hs ty84 rfl fun ac ww g1 hs => ?_
  refine s_storeW (i := 0) hs ty84 rfl rfl rfl (by rfl) (by rfl) (by simp) fun ww hs => ?_
  refine s_end ?_
  replace hs := hs.sub (F' := [(0, _), (1, _)]) ⟨rfl, rfl, trivial⟩
  refine then_n ?_
  refine wp_seq ?_
  refine wp_reg ?_
  refine s_q hs (c_loadW ty84 ag84 (hs.ev rfl) (hs.seg (i := 0) rfl) (by rfl)) rfl fun ac hs => ?_
  refine s_q hs (c_buildA ty54 un54 ty5 (zc := (List.replicate 16 (0 : UInt8)).map B) (vs := []) .nil (by simp) (by simp [flatCells]) rfl) rfl fun ac hs => ?_
  refine s_call hs fu67 (.cons (hs.ev rfl) (.cons (hs.ev rfl) (.cons (hs.ev rfl) (.cons (hs.ev rfl) .nil)))) (ladder_Up 1 2 3 0 (List.replicate 16 (0 : UInt8)) 1 (by simp) _) rfl fun ac ww v8 hf hp hs => ?_
  obtain rfl := hp
  replace hs := hs [] (.nil _ _)
  refine s_q hs (c_move (hs.ev rfl)) rfl fun ac hs => ?_
  refine s_q hs (c_extract (hs.ev rfl) rfl) rfl fun ac hs => ?_
  refine s_q hs (c_extract (hs.ev rfl) rfl) rfl fun ac hs => ?_
  refine s_alloc hs ty54 rfl fun ac ww g2 hs => ?_
  refine s_storeW (i := 0) hs ty54 rfl rfl rfl (by rw [List.length_map, upB_length]) (all_map_B _) rfl fun ww hs => ?_
  refine s_q hs (c_assign (hs.ev rfl)) rfl fun ac hs => ?_
  refine s_end ?_
  replace hs := hs.sub (F' := [(0, _), (1, _), (2, _), (3, _)]) ⟨rfl, rfl, rfl, rfl, trivial⟩
  refine then_n ?_
  refine wp_seq ?_
  refine wp_region_rg pmix 18 (by kernel_rfl) rfl hs ?_
  simp only [List.take_succ_cons, List.take_zero]
  refine rg_q (fun ac ww h => c_move (h.ev rfl)) rfl ?_
  refine rg_q (fun ac ww h => c_tt (c_eqlI (h.ev rfl) (h.ev rfl)) (by decide)) rfl ?_
  refine rg_q (fun ac ww h => c_move (h.ev rfl)) rfl ?_
  refine rg_yes rfl rfl (fun ac ww h => c_loadW ty54 rfl (h.ev rfl) (h.blk (hs.seg (i := 0) rfl)) (by rw [List.length_map, upB_length])) rfl ?_
  refine rg_yes rfl rfl (fun ac ww h => c_loadW ty84 ag84 (h.ev rfl) (h.blk (hs.seg (i := 1) rfl)) (by rfl)) rfl ?_
  refine rg_yes rfl rfl (fun ac ww h => c_buildA ty54 un54 ty5 (zc := (List.replicate 16 (0 : UInt8)).map B) (vs := []) .nil (by simp) (by simp [flatCells]) rfl) rfl ?_
  refine rg_strip rfl rfl ?_
  refine rg_call fu71 (fun ac ww h => (.cons (h.ev rfl) (.cons (h.ev rfl) (.cons (h.ev rfl) (.cons (h.ev rfl) .nil))))) (fun ww hf => ladder_Leaf 1 2 3 0 (List.replicate 16 (0 : UInt8)) 0 (by simp) ww) rfl ?_
  refine rg_yes rfl rfl (fun ac ww h => c_tt (c_eqlAB un54 ty5 eg54 (h.ev rfl) (h.ev rfl) (upB_length _ _ _ _ _ _) rfl) (by rw [up_awake]; simp)) rfl ?_
  refine rg_q (fun ac ww h => c_pick (h.ev rfl) (h.ev rfl) (h.ev rfl)) rfl ?_
  refine rg_q (fun ac ww h => c_move (h.ev rfl)) rfl ?_
  refine rg_strip rfl rfl ?_
  refine rg_call fu75 (fun ac ww h => (.cons (h.ev rfl) .nil)) (fun ww hf => ladder_Levels 3 ww) rfl ?_
  refine rg_yes rfl rfl (fun ac ww h => c_tt (c_eqlI (h.ev rfl) (h.ev rfl)) (by decide)) rfl ?_
  refine rg_q (fun ac ww h => c_pick (h.ev rfl) (h.ev rfl) (h.ev rfl)) rfl ?_
  refine rg_q (fun ac ww h => c_move (h.ev rfl)) rfl ?_
  refine rg_strip rfl rfl ?_
  refine rg_call fu86 (fun ac ww h => (.cons (h.ev rfl) .nil)) (fun ww hf => ladder_UpCost 4 ww) rfl ?_
  refine rg_yes rfl rfl (fun ac ww h => c_tt (c_eqlI (h.ev rfl) (h.ev rfl)) (by decide)) rfl ?_
  refine rg_q (fun ac ww h => c_pick (h.ev rfl) (h.ev rfl) (h.ev rfl)) rfl ?_
  refine rg_q (fun ac ww h => c_assign (h.ev rfl)) rfl ?_
  refine rg_nil fun ac ww L' hf hfe hs => ?_
  simp only [List.drop_succ_cons, List.drop_zero]
  obtain rfl : L' = [] := hfe
  replace hs := hs.toL (List.nil_append _)
  refine s_end ?_
  replace hs := hs.sub (F' := [(0, _)]) ⟨rfl, trivial⟩
  refine then_n ?_
  refine wp_ret ?_
  refine s_ret hs rfl (.tmp (hs.tmp rfl) .nil) rfl ⟨_, rfl, hs.fr, ?_⟩
  rfl

end Go.Proofs.Ytmgnnclkjkbmdaa
end

/- What stands in a tree, and the next element, as the document has them. -/
section
set_option linter.unusedSimpArgs false
set_option linter.unusedVariables false
set_option maxRecDepth 100000
namespace Go.Proofs.Ytmgnnclkjkbmdaa
open Go Go.Fw

open Sha
-- fingerpostref06.Node
set_option maxHeartbeats 4000000 in
theorem ref06_Node_step (d : Int) (ep sq : UInt32) (r : Int) (e : List UInt8) (hel : e.length = 16) (n q : Nat) (hn : n ≤ 3) (hq : q < 2 ^ (20 - n)) (ih : ∀ m : Nat, m < n → ∀ q2 : Nat, q2 < 2 ^ (20 - m) → ∀ w : World, Ctr Try.prog 90 [.agg #[I d, U ep, U sq], I r, .agg (e.map B).toArray, I (m : Nat), I (q2 : Nat)] w (fun _ => False) (outE (tupE (.agg ((lNode d ep sq r e m q2).map B).toArray) (textsE 34 5 (lNodeTs d ep sq r e m q2))) w)) (w : World)  : Ctr Try.prog 90 [.agg #[I d, U ep, U sq], I r, .agg (e.map B).toArray, I n, I q] w (fun _ => False) (outE (tupE (.agg ((lNode d ep sq r e n q).map B).toArray) (textsE 34 5 (lNodeTs d ep sq r e n q))) w) := by
  refine fn_start (N := 70) Try.func90 rfl rfl rfl fun ac hk => ?_
  have hs := St.start hk w
  refine wp_seq ?_
  refine wp_reg ?_
  refine s_box hs rfl rfl rfl fun ac ww g5 hs => ?_
  refine s_box hs rfl rfl rfl fun ac ww g7 hs => ?_
  refine s_alloc hs ty22 rfl fun ac ww g10 hs => ?_
  refine s_q hs (c_assign (hs.ev rfl)) rfl fun ac hs => ?_
  refine s_end ?_
  replace hs := hs.sub (F' := [(1, _), (3, _), (4, _), (5, _), (7, _), (10, _), (11, _)]) ⟨rfl, rfl, rfl, rfl, rfl, rfl, rfl, trivial⟩
  refine then_n ?_
  refine wp_seq ?_
  refine wp_seq ?_
  refine wp_reg ?_
  refine s_q hs (c_move (hs.ev rfl)) rfl fun ac hs => ?_
  refine s_q hs (c_eqlI (hs.ev rfl) (hs.ev rfl)) rfl fun ac hs => ?_
  refine s_end ?_
  replace hs := hs.sub (F' := [(1, _), (3, _), (4, _), (5, _), (7, _), (10, _), (11, _), (20, _)]) ⟨rfl, rfl, rfl, rfl, rfl, rfl, rfl, rfl, trivial⟩
  refine then_n ?_
  refine s_cond hs rfl (fun hc => ?_) (fun hc => ?_)
  · try simp only [decide_eq_true_eq, decide_eq_false_iff_not, Bool.not_eq_true', Bool.not_eq_false', Bool.and_eq_true, Bool.or_eq_true, Bool.or_eq_false_iff] at hc
    obtain rfl : n = 0 := by omega
    refine wp_seq ?_
    refine wp_reg ?_
    refine s_q hs (c_loadW ty81 ag81 (hs.ev rfl) (hs.seg (i := 2) rfl) (by rfl)) rfl fun ac hs => ?_
    refine s_q hs (c_move (hs.ev rfl)) rfl fun ac hs => ?_
    refine s_q hs (c_loadW ty22 rfl (hs.ev rfl) (hs.seg (i := 1) rfl) (by rw [List.length_map, hel])) rfl fun ac hs => ?_
    refine s_q hs (c_move (hs.ev rfl)) rfl fun ac hs => ?_
    refine s_call hs fu72 (.cons (hs.ev rfl) (.cons (hs.ev rfl) (.cons (hs.ev rfl) (.cons (hs.ev rfl) .nil)))) (ref06_LeafText d ep sq r e (q : Int) hel _) rfl fun ac ww v25 hf hp hs => ?_
    obtain ⟨L', hv, hh⟩ := hp
    subst hv
    replace hs := hs _ hh
    obtain ⟨qad, qcap, rfl, _, _⟩ := Rd.sl (RdB.row (hs.get (i := 0) rfl))
    refine s_q hs (c_assign (hs.ev rfl)) rfl fun ac hs => ?_
    refine s_end ?_
    replace hs := hs.sub (F' := [(1, _), (3, _), (4, _), (5, _), (7, _), (10, _), (11, _), (12, _)]) ⟨rfl, rfl, rfl, rfl, rfl, rfl, rfl, rfl, trivial⟩
    refine then_n ?_
    refine wp_seq ?_
    refine wp_reg ?_
    refine s_q hs (c_move (hs.ev rfl)) rfl fun ac hs => ?_
    refine s_call hs fu54 (.cons (hs.ev rfl) .nil) (ref06_Of 76 (placeB d ep sq r ++ e ++ [i8 q]) _ (by simp [hel]) _ (RdB.row (hs.get (i := 0) rfl))) rfl fun ac ww v27 hf hp hs => ?_
    obtain rfl := hp
    replace hs := hs [] (.nil _ _)
    refine s_q hs (c_move (hs.ev rfl)) rfl fun ac hs => ?_
    refine s_bslice hs un30 ty34 (.cons (hs.ev rfl) .nil) rfl (by simp [Value.cells]) (by decide) rfl rfl fun ac ww g29 hs => ?_
    refine s_storeW (i := 2) hs ty22 rfl rfl rfl (by simp) (all_map_B _) rfl fun ww hs => ?_
    refine s_q hs (c_assign (hs.ev rfl)) rfl fun ac hs => ?_
    refine s_end ?_
    replace hs := (hs.segrow (i := 0) (n := 1) (sz := 1) rfl rfl (by decide)).texts1 (i := 0) (j := 1) (pt := Ent.part 5) (z := leafX d ep sq r e (q : Int)) rfl rfl rfl
    replace hs := hs.sub (F' := [(1, _), (3, _), (4, _), (5, _), (7, _), (10, _), (11, _)]) ⟨rfl, rfl, rfl, rfl, rfl, rfl, rfl, trivial⟩
    refine then_n ?_
    refine wp_ret ?_
    refine then_r ?_
    refine s_ret hs rfl (.cell (hs.tmp rfl) (run_loadA ty22 rfl (hs.seg (i := 2) rfl) (List.take_of_length_le (by simp)) (by simp)) (.tmp (hs.tmp rfl) .nil)) rfl ⟨_, rfl, hs.fr, ?_⟩
    exact ⟨_, ⟨_, rfl, _, rfl, rfl⟩, (hs.pick (L' := [_]) (.cons_cons _ (List.nil_sublist _))).made⟩
  · try simp only [decide_eq_true_eq, decide_eq_false_iff_not, Bool.not_eq_true', Bool.not_eq_false', Bool.and_eq_true, Bool.or_eq_true, Bool.or_eq_false_iff] at hc
    obtain ⟨m, rfl⟩ : ∃ m, n = m + 1 := ⟨n - 1, by omega⟩
    have hq2 : 2 ^ (20 - m) = 2 * 2 ^ (20 - (m + 1)) := by rw [show 20 - m = 20 - (m + 1) + 1 from by omega, Nat.pow_succ]; omega
    refine wp_skip ?_
    refine then_n ?_
    refine wp_seq ?_
    refine wp_reg ?_
    refine s_q hs (c_loadW ty81 ag81 (hs.ev rfl) (hs.seg (i := 2) rfl) (by rfl)) rfl fun ac hs => ?_
    refine s_q hs (c_move (hs.ev rfl)) rfl fun ac hs => ?_
    refine s_q hs (c_loadW ty22 rfl (hs.ev rfl) (hs.seg (i := 1) rfl) (by rw [List.length_map, hel])) rfl fun ac hs => ?_
    refine s_q hs (c_move (hs.ev rfl)) rfl fun ac hs => ?_
    refine s_q hs (c_to (c_subI (hs.ev rfl) (hs.ev rfl) (by omega) (by omega)) ((congrArg I (show (((m + 1 : Nat) : Int) - 1 = (m : Int)) by omega)))) rfl fun ac hs => ?_
    refine s_q hs (c_move (hs.ev rfl)) rfl fun ac hs => ?_
    refine s_q hs (c_to (c_mulI (hs.ev rfl) (hs.ev rfl) (by have := Nat.pow_le_pow_right (show 0 < 2 by decide) (show 20 - (m + 1) ≤ 20 by omega); omega) (by have := Nat.pow_le_pow_right (show 0 < 2 by decide) (show 20 - (m + 1) ≤ 20 by omega); omega)) ((congrArg I (show (2 * (q : Int)) = ((2 * q : Nat) : Int) by omega)))) rfl fun ac hs => ?_
    refine s_call hs fu90 (.cons (hs.ev rfl) (.cons (hs.ev rfl) (.cons (hs.ev rfl) (.cons (hs.ev rfl) (.cons (hs.ev rfl) .nil))))) (ih m (by omega) (2 * q) (by omega) _) rfl fun ac ww v38 hf hp hs => ?_
    obtain ⟨L', ⟨tv1, rfl, ps1, hps1, rfl⟩, hh⟩ := hp
    replace hs := hs _ hh
    have hpl1 : ps1.length ≤ 100 := by have := congrArg List.length hps1; rw [List.length_map] at this; rw [this]; exact nodeTs_le _ _ _ _ _ _ _ (by omega)
    refine s_q hs (c_move (hs.ev rfl)) rfl fun ac hs => ?_
    refine s_q hs (c_extract (hs.ev rfl) rfl) rfl fun ac hs => ?_
    refine s_q hs (c_extract (hs.ev rfl) rfl) rfl fun ac hs => ?_
    refine s_alloc hs ty22 rfl fun ac ww g13 hs => ?_
    refine s_storeW (i := 0) hs ty22 rfl rfl rfl (by rw [List.length_map]; exact lNode_length _ _ _ _ _ _ _) (all_map_B _) rfl fun ww hs => ?_
    refine s_q hs (c_assign (hs.ev rfl)) rfl fun ac hs => ?_
    refine s_end ?_
    replace hs := hs.sub (F' := [(1, _), (3, _), (4, _), (5, _), (7, _), (10, _), (11, _), (13, _), (14, _)]) ⟨rfl, rfl, rfl, rfl, rfl, rfl, rfl, rfl, rfl, trivial⟩
    refine then_n ?_
    refine wp_seq ?_
    refine wp_reg ?_
    refine s_q hs (c_loadW ty81 ag81 (hs.ev rfl) (hs.seg (i := 4) rfl) (by rfl)) rfl fun ac hs => ?_
    refine s_q hs (c_move (hs.ev rfl)) rfl fun ac hs => ?_
    refine s_q hs (c_loadW ty22 rfl (hs.ev rfl) (hs.seg (i := 3) rfl) (by rw [List.length_map, hel])) rfl fun ac hs => ?_
    refine s_q hs (c_move (hs.ev rfl)) rfl fun ac hs => ?_
    refine s_q hs (c_to (c_subI (hs.ev rfl) (hs.ev rfl) (by omega) (by omega)) ((congrArg I (show (((m + 1 : Nat) : Int) - 1 = (m : Int)) by omega)))) rfl fun ac hs => ?_
    refine s_q hs (c_move (hs.ev rfl)) rfl fun ac hs => ?_
    refine s_q hs (c_mulI (hs.ev rfl) (hs.ev rfl) (by have := Nat.pow_le_pow_right (show 0 < 2 by decide) (show 20 - (m + 1) ≤ 20 by omega); omega) (by have := Nat.pow_le_pow_right (show 0 < 2 by decide) (show 20 - (m + 1) ≤ 20 by omega); omega)) rfl fun ac hs => ?_
    refine s_q hs (c_to (c_addI (hs.ev rfl) (hs.ev rfl) (by omega) (by have := Nat.pow_le_pow_right (show 0 < 2 by decide) (show 20 - (m + 1) ≤ 20 by omega); omega)) ((congrArg I (show (2 * (q : Int) + 1) = ((2 * q + 1 : Nat) : Int) by omega)))) rfl fun ac hs => ?_
    refine s_call hs fu90 (.cons (hs.ev rfl) (.cons (hs.ev rfl) (.cons (hs.ev rfl) (.cons (hs.ev rfl) (.cons (hs.ev rfl) .nil))))) (ih m (by omega) (2 * q + 1) (by omega) _) rfl fun ac ww v50 hf hp hs => ?_
    obtain ⟨L', ⟨tv2, rfl, ps2, hps2, rfl⟩, hh⟩ := hp
    replace hs := hs _ hh
    have hpl2 : ps2.length ≤ 100 := by have := congrArg List.length hps2; rw [List.length_map] at this; rw [this]; exact nodeTs_le _ _ _ _ _ _ _ (by omega)
    refine s_q hs (c_move (hs.ev rfl)) rfl fun ac hs => ?_
    refine s_q hs (c_extract (hs.ev rfl) rfl) rfl fun ac hs => ?_
    refine s_q hs (c_extract (hs.ev rfl) rfl) rfl fun ac hs => ?_
    refine s_alloc hs ty22 rfl fun ac ww g15 hs => ?_
    refine s_storeW (i := 0) hs ty22 rfl rfl rfl (by rw [List.length_map]; exact lNode_length _ _ _ _ _ _ _) (all_map_B _) rfl fun ww hs => ?_
    refine s_q hs (c_assign (hs.ev rfl)) rfl fun ac hs => ?_
    refine s_end ?_
    replace hs := hs.sub (F' := [(1, _), (5, _), (10, _), (11, _), (13, _), (14, _), (15, _), (16, _)]) ⟨rfl, rfl, rfl, rfl, rfl, rfl, rfl, rfl, trivial⟩
    refine then_n ?_
    refine wp_seq ?_
    refine wp_reg ?_
    refine s_q hs (c_loadW ty81 ag81 (hs.ev rfl) (hs.seg (i := 6) rfl) (by rfl)) rfl fun ac hs => ?_
    refine s_q hs (c_move (hs.ev rfl)) rfl fun ac hs => ?_
    refine s_q hs (c_loadW ty22 rfl (hs.ev rfl) (hs.seg (i := 2) rfl) (by rw [List.length_map]; exact lNode_length _ _ _ _ _ _ _)) rfl fun ac hs => ?_
    refine s_q hs (c_loadW ty22 rfl (hs.ev rfl) (hs.seg (i := 0) rfl) (by rw [List.length_map]; exact lNode_length _ _ _ _ _ _ _)) rfl fun ac hs => ?_
    refine s_call hs fu74 (.cons (hs.ev rfl) (.cons (hs.ev rfl) (.cons (hs.ev rfl) (.cons (hs.ev rfl) .nil)))) (ref06_JoinText d ep sq r (lNode d ep sq r e m (2 * q)) (lNode d ep sq r e m (2 * q + 1)) (lNode_length _ _ _ _ _ _ _) (lNode_length _ _ _ _ _ _ _) _) rfl fun ac ww v57 hf hp hs => ?_
    obtain ⟨L', hv, hh⟩ := hp
    subst hv
    replace hs := hs _ hh
    obtain ⟨qad, qcap, rfl, _, _⟩ := Rd.sl (RdB.row (hs.get (i := 0) rfl))
    refine s_q hs (c_assign (hs.ev rfl)) rfl fun ac hs => ?_
    refine s_end ?_
    replace hs := hs.sub (F' := [(10, _), (11, _), (14, _), (16, _), (17, _)]) ⟨rfl, rfl, rfl, rfl, rfl, trivial⟩
    refine then_n ?_
    refine wp_seq ?_
    refine wp_reg ?_
    refine s_q hs (c_assign (hs.ev rfl)) rfl fun ac hs => ?_
    refine s_end ?_
    replace hs := hs.texts0 34 (Ent.part 5)
    refine then_n ?_
    refine wp_seq ?_
    refine wp_reg ?_
    refine s_q hs (c_move (hs.ev rfl)) rfl fun ac hs => ?_
    refine s_q hs (c_move (hs.ev rfl)) rfl fun ac hs => ?_
    refine s_appTT (i := 0) (j := 5) hs un30 ty34 rfl rfl rfl rfl rfl (RdP.ones (RdP.texts (hs.get (i := 5) rfl))) (by simp only [List.length_nil]; omega) rfl fun ac ww v60 hs => ?_
    refine s_q hs (c_assign (hs.ev rfl)) rfl fun ac hs => ?_
    refine s_end ?_
    replace hs := hs.sub (F' := [(10, _), (11, _), (16, _), (17, _), (18, _)]) ⟨rfl, rfl, rfl, rfl, rfl, trivial⟩
    refine then_n ?_
    refine wp_seq ?_
    refine wp_reg ?_
    refine s_q hs (c_move (hs.ev rfl)) rfl fun ac hs => ?_
    refine s_q hs (c_move (hs.ev rfl)) rfl fun ac hs => ?_
    refine s_appTT (i := 0) (j := 3) hs un30 ty34 rfl rfl rfl rfl rfl (RdP.ones (RdP.texts (hs.get (i := 3) rfl))) (by simp only [List.length_append, List.length_nil]; omega) rfl fun ac ww v63 hs => ?_
    refine s_q hs (c_assign (hs.ev rfl)) rfl fun ac hs => ?_
    refine s_end ?_
    replace hs := hs.sub (F' := [(10, _), (11, _), (17, _), (18, _)]) ⟨rfl, rfl, rfl, rfl, trivial⟩
    refine then_n ?_
    refine wp_seq ?_
    refine wp_reg ?_
    refine s_q hs (c_move (hs.ev rfl)) rfl fun ac hs => ?_
    refine s_call hs fu54 (.cons (hs.ev rfl) .nil) (ref06_Of 74 (placeB d ep sq r ++ lNode d ep sq r e m (2 * q) ++ lNode d ep sq r e m (2 * q + 1)) _ (by simp [lNode_length]) _ (RdB.row (hs.get (i := 1) rfl))) rfl fun ac ww v65 hf hp hs => ?_
    obtain rfl := hp
    replace hs := hs [] (.nil _ _)
    refine s_q hs (c_move (hs.ev rfl)) rfl fun ac hs => ?_
    refine s_q hs (c_move (hs.ev rfl)) rfl fun ac hs => ?_
    refine s_bslice hs un30 ty34 (.cons (hs.ev rfl) .nil) rfl (by simp [Value.cells]) (by decide) rfl rfl fun ac ww g68 hs => ?_
    refine s_appT (i := 1) (j := 2) hs un30 ty34 rfl rfl rfl rfl rfl (hs.seg (i := 0) rfl) rfl (by simp only [List.length_append, List.length_nil]; omega) rfl fun ac ww v69 hs => ?_
    refine s_storeW (i := 7) hs ty22 rfl rfl rfl (by simp) (all_map_B _) rfl fun ww hs => ?_
    refine s_q hs (c_assign (hs.ev rfl)) rfl fun ac hs => ?_
    refine s_end ?_
    replace hs := hs.sub (F' := [(10, _), (11, _)]) ⟨rfl, rfl, trivial⟩
    refine then_n ?_
    refine wp_ret ?_
    refine s_ret hs rfl (.cell (hs.tmp rfl) (run_loadA ty22 rfl (hs.seg (i := 7) rfl) (List.take_of_length_le (by simp)) (by simp)) (.tmp (hs.tmp rfl) .nil)) rfl ⟨_, rfl, hs.fr, ?_⟩
    exact ⟨_, ⟨_, rfl, _, by rw [List.map_append, List.map_append, List.map_append, hps1, hps2]; rfl, rfl⟩, (hs.pick (L' := [_]) (.cons _ (.cons_cons _ (List.nil_sublist _)))).made⟩

theorem ref06_Node (d : Int) (ep sq : UInt32) (r : Int) (e : List UInt8) (hel : e.length = 16) : ∀ (n : Nat), n ≤ 3 → ∀ q : Nat, q < 2 ^ (20 - n) → ∀ w : World, Ctr Try.prog 90 [.agg #[I d, U ep, U sq], I r, .agg (e.map B).toArray, I (n : Nat), I (q : Nat)] w (fun _ => False) (outE (tupE (.agg ((lNode d ep sq r e n q).map B).toArray) (textsE 34 5 (lNodeTs d ep sq r e n q))) w) := by
  intro n
  induction n using Nat.strongRecOn with
  | _ n ih => exact fun hn q hq w => ref06_Node_step d ep sq r e hel n q hn hq (fun m hm q2 hq2 w => ih m hm (by omega) q2 hq2 w) w

-- fingerpostref06.Up
set_option maxHeartbeats 4000000 in
theorem ref06_Up (d : Int) (ep sq : UInt32) (r : Int) (e : List UInt8) (x : Int) (hel : e.length = 16) (w : World)  : Ctr Try.prog 69 [.agg #[I d, U ep, U sq], I r, .agg (e.map B).toArray, I x] w (fun _ => False) (fun v _ => v = .tuple #[.agg ((upB d ep sq r e x).map B).toArray, I (upN r x)]) := by
  refine fn_start (N := 27) Try.func69 rfl rfl rfl fun ac hk => ?_
  have hs := St.start hk w
  refine wp_seq ?_
  refine wp_reg ?_
  refine s_box hs rfl rfl rfl fun ac ww g4 hs => ?_
  refine s_box hs rfl rfl rfl fun ac ww g6 hs => ?_
  refine s_alloc hs ty22 rfl fun ac ww g8 hs => ?_
  refine s_q hs (c_assign (hs.ev rfl)) rfl fun ac hs => ?_
  refine s_end ?_
  replace hs := hs.sub (F' := [(1, _), (3, _), (4, _), (6, _), (8, _), (9, _)]) ⟨rfl, rfl, rfl, rfl, rfl, rfl, trivial⟩
  refine then_n ?_
  refine wp_seq ?_
  refine wp_seq ?_
  refine wp_reg ?_
  refine s_q hs (c_move (hs.ev rfl)) rfl fun ac hs => ?_
  refine s_q hs (c_move (hs.ev rfl)) rfl fun ac hs => ?_
  refine s_call hs fu107 (.cons (hs.ev rfl) (.cons (hs.ev rfl) .nil)) (ref06_Right r x _) rfl fun ac ww v14 hf hp hs => ?_
  obtain rfl := hp
  replace hs := hs [] (.nil _ _)
  refine s_q hs (c_not (hs.ev rfl)) rfl fun ac hs => ?_
  refine s_end ?_
  replace hs := hs.sub (F' := [(1, _), (3, _), (4, _), (6, _), (8, _), (9, _), (15, _)]) ⟨rfl, rfl, rfl, rfl, rfl, rfl, rfl, trivial⟩
  refine then_n ?_
  refine s_cond hs rfl (fun hc => ?_) (fun hc => ?_)
  · try simp only [decide_eq_true_eq, decide_eq_false_iff_not, Bool.not_eq_true', Bool.not_eq_false', Bool.and_eq_true, Bool.or_eq_true, Bool.or_eq_false_iff] at hc
    have hno : ¬ rightB r x = true := by simpa using hc
    refine wp_seq ?_
    refine wp_reg ?_
    refine s_q hs (c_buildA ty22 un22 ty5 (zc := (List.replicate 16 (0 : UInt8)).map B) (vs := []) .nil (by simp) (by simp [flatCells]) rfl) rfl fun ac hs => ?_
    refine s_storeW (i := 0) hs ty22 rfl rfl rfl (by simp) (all_map_B _) rfl fun ww hs => ?_
    refine s_q hs (c_assign (hs.ev rfl)) rfl fun ac hs => ?_
    refine s_end ?_
    replace hs := hs.sub (F' := [(1, _), (3, _), (4, _), (6, _), (8, _), (9, _)]) ⟨rfl, rfl, rfl, rfl, rfl, rfl, trivial⟩
    refine then_n ?_
    refine wp_ret ?_
    refine then_r ?_
    refine s_ret hs rfl (.cell (hs.tmp rfl) (run_loadA ty22 rfl (hs.seg (i := 0) rfl) (List.take_of_length_le (by simp)) (by simp)) (.tmp (hs.tmp rfl) .nil)) rfl ⟨_, rfl, hs.fr, ?_⟩
    show Value.tuple _ = Value.tuple _
    rw [upB, upN, if_neg hno, if_neg hno]
    rfl
  · try simp only [decide_eq_true_eq, decide_eq_false_iff_not, Bool.not_eq_true', Bool.not_eq_false', Bool.and_eq_true, Bool.or_eq_true, Bool.or_eq_false_iff] at hc
    have hr : rightB r x = true := by simpa using hc
    obtain ⟨lv, W, hlv, hW, rfl, hxl⟩ := right_lv hr
    refine wp_skip ?_
    refine then_n ?_
    refine wp_seq ?_
    refine wp_region_rgX (J := [8]) pmix 10 (by kernel_rfl) (by kernel_rfl) rfl rfl hs ?_
    simp only [List.take_succ_cons, List.take_zero]
    refine rg_q (fun ac ww h => c_loadW ty81 ag81 (h.ev rfl) (h.blk (hs.seg (i := 2) rfl)) (by rfl)) rfl ?_
    refine rg_q (fun ac ww h => c_move (h.ev rfl)) rfl ?_
    refine rg_q (fun ac ww h => c_loadW ty22 rfl (h.ev rfl) (h.blk (hs.seg (i := 1) rfl)) (by rw [List.length_map, hel])) rfl ?_
    refine rg_q (fun ac ww h => c_move (h.ev rfl)) rfl ?_
    refine rg_call fu76 (fun ac ww h => (.cons (h.ev rfl) .nil)) (fun ww hf => (by have h := ref06_Levels (W : Int) ww; rw [hxl] at h; exact h)) rfl ?_
    refine rg_callE (tupE (.agg ((lNode d ep sq r e lv 0).map B).toArray) (textsE 34 5 (lNodeTs d ep sq r e lv 0))) (fun _ _ _ _ _ h => h) fu90 (fun ac ww h => ?_) rfl ?_
    · exact ⟨_, .cons (h.ev rfl) (.cons (h.ev rfl) (.cons (h.ev rfl) (.cons (h.ev rfl) (.cons (h.ev rfl) .nil)))), ref06_Node d ep sq r e hel lv hlv 0 (Nat.two_pow_pos _) _⟩
    refine rg_moveT rfl rfl rfl ?_
    refine rg_ext0 rfl rfl rfl ?_
    refine rg_ext1 rfl rfl rfl ?_
    refine rg_alloc ty22 rfl ?_
    refine rg_nil fun ac ww L' hf hfe hs hlk => ?_
    simp only [List.drop_succ_cons, List.drop_zero]
    obtain ⟨v10, L10, M10, h10, e10, ⟨v25, L25, M25, h25, e25, ⟨v17, L17, M17, h17, e17, ⟨v23, L23, M23, h23, e23, rfl, rfl⟩, rfl⟩, rfl⟩, rfl⟩ := hfe
    replace hs := hs.add h10
    replace hs := hs.add h25
    replace hs := hs.add h17
    replace hs := hs.add h23
    obtain ⟨g10, rfl, rfl⟩ := e10
    obtain ⟨tv23, rfl, e23⟩ := e23
    obtain ⟨-, rfl⟩ := e17
    obtain rfl := lk_move (j := 6) hlk (by decide) rfl (by kernel_rfl) h17 h23
    obtain ⟨-, rfl⟩ := e25
    obtain rfl := lk_ext (j := 8) hlk (by decide) rfl (by kernel_rfl) h25 h17 rfl
    obtain ⟨ps23, hps23, rfl⟩ := e23
    refine sk_storeW (i := 0) hs ty22 rfl rfl rfl (by rw [List.length_map]; exact lNode_length _ _ _ _ _ _ _) (all_map_B _) rfl fun ww hs => ?_
    refine s_q hs (c_assign (hs.ev rfl)) rfl fun ac hs => ?_
    refine s_end ?_
    replace hs := hs.sub (F' := [(8, _), (9, _), (10, _)]) ⟨rfl, rfl, rfl, trivial⟩
    refine then_n ?_
    refine wp_seq ?_
    refine wp_reg ?_
    refine s_q hs (c_loadW ty22 rfl (hs.ev rfl) (hs.seg (i := 0) rfl) (by rw [List.length_map]; exact lNode_length _ _ _ _ _ _ _)) rfl fun ac hs => ?_
    refine s_storeW (i := 2) hs ty22 rfl rfl rfl (by rw [List.length_map]; exact lNode_length _ _ _ _ _ _ _) (all_map_B _) rfl fun ww hs => ?_
    refine s_q hs (c_assign (hs.ev rfl)) rfl fun ac hs => ?_
    refine s_end ?_
    replace hs := hs.sub (F' := [(8, _), (9, _)]) ⟨rfl, rfl, trivial⟩
    refine then_n ?_
    refine wp_ret ?_
    refine s_ret hs rfl (.cell (hs.tmp rfl) (run_loadA ty22 rfl (hs.seg (i := 2) rfl) (List.take_of_length_le (show (List.map B (lNode d ep sq r e lv 0)).length ≤ 16 by rw [List.length_map, lNode_length]; exact Nat.le_refl _)) (show (List.map B (lNode d ep sq r e lv 0)).length = 16 by rw [List.length_map, lNode_length])) (.tmp (hs.tmp rfl) .nil)) rfl ⟨_, rfl, hs.fr, ?_⟩
    show Value.tuple _ = Value.tuple _
    rw [upB, upN, if_pos hr, if_pos hr, hxl]
    rfl

end Go.Proofs.Ytmgnnclkjkbmdaa
end
