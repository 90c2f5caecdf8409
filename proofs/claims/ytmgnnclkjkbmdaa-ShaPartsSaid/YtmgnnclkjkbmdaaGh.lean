/- Own texts of this seat, laid together: OtsD, OtsE, OtsF, OtsG, OtsH, OtsI. -/
import Derived.Test.YtmgnnclkjkbmdaaGa
import Derived.Test.YtmgnnclkjkbmdaaGb
import Derived.Test.YtmgnnclkjkbmdaaGc
import Derived.Test.YtmgnnclkjkbmdaaGd
import Derived.Test.YtmgnnclkjkbmdaaGe
import Derived.Test.YtmgnnclkjkbmdaaGf
import Derived.Test.YtmgnnclkjkbmdaaGg
/- The digits as the document has them; how many blocks a signature takes. -/
section
set_option linter.unusedSimpArgs false
set_option linter.unusedVariables false
set_option maxRecDepth 100000
namespace Go.Proofs.Ytmgnnclkjkbmdaa
open Go Go.Fw

open Sha Ots
/-- Digits below a, and from b on up to c. -/
def dM (m : List UInt8) (a b c : Nat) : List UInt8 := (List.range 68).map fun p => if p < a ∨ (b ≤ p ∧ p < c) then dgt m p else 0
@[simp] theorem dM_len (m : List UInt8) (a b c : Nat) : (dM m a b c).length = 68 := by simp [dM]
theorem dM_congr {m : List UInt8} {a b c a' b' c' : Nat} (h : ∀ p, p < 68 → ((p < a ∨ (b ≤ p ∧ p < c)) ↔ (p < a' ∨ (b' ≤ p ∧ p < c')))) : dM m a b c = dM m a' b' c' := by
  refine List.map_congr_left fun p hp => ?_
  have := h p (List.mem_range.1 hp)
  by_cases e : p < a ∨ (b ≤ p ∧ p < c)
  · rw [if_pos e, if_pos (this.1 e)]
  · rw [if_neg e, if_neg fun x => e (this.2 x)]
theorem dM_empty (m : List UInt8) (a b : Nat) : dM m a 0 0 = dM m a b b := dM_congr fun p _ => by omega
theorem dM_close (m : List UInt8) {a b c d : Nat} (h : b = a) (h2 : a ≤ c) (h3 : d = c) : dM m a b c = dM m d 0 0 := dM_congr fun p _ => by omega
theorem dM_zero (m : List UInt8) : List.replicate 68 (0 : UInt8) = dM m 0 0 0 := by
  apply List.ext_getElem
  · simp
  · intro i h1 h2
    rw [List.getElem_replicate]
    simp [dM]
theorem dM_full (m : List UInt8) : dM m 68 0 0 = digits m := by
  rw [dM, digits]
  refine List.map_congr_left fun p hp => ?_
  rw [if_pos (.inl (List.mem_range.1 hp))]
theorem dM_set {m : List UInt8} {a b b' c k : Nat} {x : UInt8} (hb : b' = b + 1) (hk : k = b) (h1 : b < 68) (h2 : b < c) (hx : x = dgt m b) : (dM m a b' c).set k x = dM m a b c := by
  subst hb hk hx
  apply List.ext_getElem
  · simp
  · intro i h3 h4
    rw [List.getElem_set]
    simp only [dM, List.getElem_map, List.getElem_range]
    by_cases e : k = i
    · subst e
      rw [if_pos rfl, if_pos (.inr ⟨Nat.le_refl _, h2⟩)]
    · rw [if_neg e]
      by_cases e2 : i < a ∨ (k + 1 ≤ i ∧ i < c)
      · rw [if_pos e2, if_pos (by omega)]
      · rw [if_neg e2, if_neg (by omega)]
def xq (m : List UInt8) (i j : Nat) : UInt8 := UInt8.ofNat ((m.getD i 0).toNat / 4 ^ j)
theorem xq_zero (m : List UInt8) (i : Nat) : m.getD i 0 = xq m i 0 := by simp [xq]
theorem xq_lt (m : List UInt8) (i j : Nat) : (m.getD i 0).toNat / 4 ^ j < 256 := Nat.lt_of_le_of_lt (Nat.div_le_self _ _) (m.getD i 0).toNat_lt
theorem xq_succ (m : List UInt8) (i j : Nat) : xq m i j / 4 = xq m i (j + 1) := by
  apply UInt8.toNat_inj.1
  have h1 := xq_lt m i j
  have h2 := xq_lt m i (j + 1)
  rw [UInt8.toNat_div, xq, xq, UInt8.toNat_ofNat', UInt8.toNat_ofNat', Nat.mod_eq_of_lt h1, Nat.mod_eq_of_lt h2, Nat.pow_succ, ← Nat.div_div_eq_div_mul]
  rfl
theorem xq_dig (m : List UInt8) (i j : Nat) (hi : i < 16) (hj : j < 4) : xq m i j % 4 = dgt m (4 * i + (3 - j)) := by
  have e1 : (4 * i + (3 - j)) / 4 = i := by omega
  have e2 : 6 - 2 * ((4 * i + (3 - j)) % 4) = 2 * j := by omega
  rw [dgt, if_pos (by omega), dig, e1, e2]
  apply UInt8.toNat_inj.1
  rw [UInt8.toNat_mod, xq, UInt8.toNat_ofNat', Nat.mod_eq_of_lt (xq_lt m i j), UInt8.toNat_and, UInt8.toNat_shiftRight]
  rw [show (3 : UInt8).toNat = 2 ^ 2 - 1 from rfl, Nat.and_two_pow_sub_one_eq_mod, Nat.shiftRight_eq_div_pow]
  rw [show (UInt8.ofNat (2 * j)).toNat % 8 = 2 * j from by rw [UInt8.toNat_ofNat']; omega, Nat.pow_mul]
  rfl
def leftR (m : List UInt8) (i : Nat) : Nat → Nat
  | 0 => left m (4 * i)
  | j + 1 => leftR m i j + (3 - (dgt m (4 * i + (3 - j))).toNat)
theorem leftR_four (m : List UInt8) (i : Nat) (hi : i < 16) : leftR m i 4 = left m (4 * (i + 1)) := by
  have e : ∀ p, p < 64 → dgt m p = dig m p := fun p hp => by rw [dgt, if_pos hp]
  rw [show 4 * (i + 1) = 4 * i + 1 + 1 + 1 + 1 from by omega]
  simp only [leftR, left, show 3 - 0 = 3 from rfl, show 3 - 1 = 2 from rfl, show 3 - 2 = 1 from rfl, show 3 - 3 = 0 from rfl, Nat.add_zero, e (4 * i) (by omega), e (4 * i + 1) (by omega), e (4 * i + 2) (by omega), e (4 * i + 3) (by omega), Nat.add_assoc, Nat.reduceAdd]
  omega
theorem leftR_le (m : List UInt8) (i : Nat) (hi : i < 16) : ∀ j, j ≤ 4 → leftR m i j ≤ 204
  | 0, _ => by have := left_le m (4 * i); simp only [leftR]; omega
  | 1, _ => by have := left_le m (4 * i); simp only [leftR]; omega
  | 2, _ => by have := left_le m (4 * i); simp only [leftR]; omega
  | 3, _ => by have := left_le m (4 * i); simp only [leftR]; omega
  | 4, _ => by have := left_le m (4 * i); simp only [leftR]; omega
  | j + 5, h => by omega
theorem chk_dig (m : List UInt8) (j : Nat) (hj : j < 4) : i8 (((left m 64 / 4 ^ j : Nat) : Int) % 4) = dgt m (64 + (3 - j)) := by
  have e : 64 + (3 - j) - 64 = 3 - j := by omega
  rw [dgt, if_neg (by omega), e, chk, show 6 - 2 * (3 - j) = 2 * j from by omega, Nat.pow_mul]
  apply UInt8.toNat_inj.1
  rw [UInt8.toNat_ofNat']
  have h := i8_toNat (((left m 64 / 4 ^ j : Nat) : Int) % 4)
  have h4 : (2 : Nat) ^ 2 = 4 := rfl
  rw [h4]
  omega

-- fingerpostref10.Digits
set_option maxHeartbeats 4000000 in
theorem ref10_Digits (m : List UInt8) (hm : m.length = 16) (w : World)  : Ctr Try.prog 40 [.agg (m.map B).toArray] w (fun _ => False) (fun v _ => v = .agg ((digits m).map B).toArray) := by
  refine fn_start (N := 48) Try.func40 rfl rfl rfl fun ac hk => ?_
  have hs := St.start hk w
  refine wp_seq ?_
  refine wp_reg ?_
  refine s_box hs rfl rfl rfl fun ac ww g1 hs => ?_
  refine s_alloc hs ty23 rfl fun ac ww g2 hs => ?_
  refine s_end ?_
  replace hs := hs.sub (F' := [(1, _), (2, _)]) ⟨rfl, rfl, trivial⟩
  refine then_n ?_
  refine wp_seq ?_
  refine wp_reg ?_
  refine s_alloc hs ty23 rfl fun ac ww g3 hs => ?_
  refine s_end ?_
  refine then_n ?_
  refine wp_seq ?_
  refine wp_reg ?_
  refine s_q hs (c_assign (hs.ev rfl)) rfl fun ac hs => ?_
  refine s_end ?_
  refine then_n ?_
  refine wp_seq ?_
  refine wp_seq ?_
  refine wp_reg ?_
  refine s_q hs (c_assign (hs.ev rfl)) rfl fun ac hs => ?_
  refine s_end ?_
  refine then_n ?_
  refine wp_block ?_
  refine s_loop hs (X := Nat) (fun i => [(4, I (left m (4 * i))), (5, I i)]) [(1, _), (2, _), (3, _)] (fun i => [.seg g3 ((dM m (4 * i) 0 0).map B) 23, _, _]) (fun n i => i ≤ 16 ∧ n = 16 - i) (16) (0) (⟨by omega, rfl⟩) ⟨rfl, rfl, rfl, rfl, rfl, trivial⟩ (congrArg (fun z => [Ent.seg g3 (List.map B z) 23, _, _]) (dM_zero m)) ?_
  rintro n i ac ww hok hs
  simp only [List.cons_append, List.nil_append] at hs
  obtain ⟨hi, rfl⟩ := hok
  have hll := left_le m (4 * i)
  refine wp_seq ?_
  refine wp_seq ?_
  refine wp_reg ?_
  refine s_q hs (c_move (hs.ev rfl)) rfl fun ac hs => ?_
  refine s_q hs (c_lssI (hs.ev rfl) (hs.ev rfl)) rfl fun ac hs => ?_
  refine s_end ?_
  refine then_n ?_
  refine s_cond hs rfl (fun hc => ?_) (fun hc => ?_)
  · try simp only [decide_eq_true_eq, decide_eq_false_iff_not, Bool.not_eq_true', Bool.not_eq_false', Bool.and_eq_true, Bool.or_eq_true, Bool.or_eq_false_iff] at hc
    have hi16 : i < 16 := by omega
    refine wp_skip ?_
    refine then_n ?_
    refine wp_seq ?_
    refine wp_block ?_
    refine wp_seq ?_
    refine wp_reg ?_
    refine s_q hs (c_move (hs.ev rfl)) rfl fun ac hs => ?_
    refine s_q hs (c_idxA (j := i) un22 ty5 (hs.ev rfl) (hs.ev rfl) (by omega) (by omega)) rfl fun ac hs => ?_
    refine s_q hs (c_loadS un5 rfl (hs.ev rfl) (hs.seg (i := 2) rfl) (map_get 0 (by omega))) rfl fun ac hs => ?_
    refine s_q hs (c_assign (hs.ev rfl)) rfl fun ac hs => ?_
    refine s_end ?_
    refine then_n ?_
    refine wp_seq ?_
    refine wp_reg ?_
    refine s_q hs (c_assign (hs.ev rfl)) rfl fun ac hs => ?_
    refine s_end ?_
    refine then_n ?_
    refine wp_block ?_
    refine s_loop hs (X := Nat) (fun j => [(4, I (leftR m i j)), (6, B (xq m i j)), (7, I (3 - (j : Int)))]) [(1, _), (2, _), (3, _), (5, _), (9, _), (10, _), (13, _), (14, _), (15, _)] (fun j => [.seg g3 ((dM m (4 * i) (4 * i + (4 - j)) (4 * i + 4)).map B) 23, _, _]) (fun n j => j ≤ 4 ∧ n = 4 - j) (4) (0) (⟨by omega, rfl⟩) ⟨rfl, (congrArg (fun z => some (B z)) (xq_zero m i)), rfl, rfl, rfl, rfl, rfl, rfl, rfl, rfl, rfl, rfl, trivial⟩ (congrArg (fun z => [Ent.seg g3 (List.map B z) 23, _, _]) (dM_empty m _ _)) ?_
    rintro n j ac ww hok hs
    simp only [List.cons_append, List.nil_append] at hs
    obtain ⟨hj, rfl⟩ := hok
    have hlr := leftR_le m i hi16 j hj
    refine wp_seq ?_
    refine wp_seq ?_
    refine wp_reg ?_
    refine s_q hs (c_move (hs.ev rfl)) rfl fun ac hs => ?_
    refine s_q hs (c_geqI (hs.ev rfl) (hs.ev rfl)) rfl fun ac hs => ?_
    refine s_end ?_
    refine then_n ?_
    refine s_cond hs rfl (fun hc => ?_) (fun hc => ?_)
    · try simp only [decide_eq_true_eq, decide_eq_false_iff_not, Bool.not_eq_true', Bool.not_eq_false', Bool.and_eq_true, Bool.or_eq_true, Bool.or_eq_false_iff] at hc
      have hj4 : j < 4 := by omega
      refine wp_skip ?_
      refine then_n ?_
      refine wp_seq ?_
      refine wp_block ?_
      refine wp_seq ?_
      refine wp_reg ?_
      refine s_q hs (c_move (hs.ev rfl)) rfl fun ac hs => ?_
      refine s_q hs (c_mulI (hs.ev rfl) (hs.ev rfl) (by omega) (by omega)) rfl fun ac hs => ?_
      refine s_q hs (c_move (hs.ev rfl)) rfl fun ac hs => ?_
      refine s_q hs (c_addI (hs.ev rfl) (hs.ev rfl) (by omega) (by omega)) rfl fun ac hs => ?_
      refine s_q hs (c_move (hs.ev rfl)) rfl fun ac hs => ?_
      refine s_q hs (c_remB (hs.ev rfl) (St.ev (v := B 4) hs rfl) (by decide)) rfl fun ac hs => ?_
      refine s_q hs (c_idxA (j := 4 * i + (3 - j)) un23 ty5 (hs.ev rfl) (hs.ev rfl) (by omega) (by omega)) rfl fun ac hs => ?_
      refine s_store (i := 0) hs ty5 rfl rfl rfl rfl rfl rfl (by rw [List.length_map, dM_len]; omega) ((map_set _ (by rw [dM_len]; omega)).trans (congrArg (List.map B) (dM_set (b := 4 * i + (4 - (j + 1))) (by omega) (by omega) (by omega) (by omega) ((xq_dig m i j hi16 hj4).trans (congrArg (dgt m) (by omega)))))) fun ww hs => ?_
      refine s_end ?_
      refine then_n ?_
      refine wp_seq ?_
      refine wp_reg ?_
      refine s_q hs (c_move (hs.ev rfl)) rfl fun ac hs => ?_
      refine s_q hs (c_addI (hs.ev rfl) (hs.ev rfl) (by omega) (by omega)) rfl fun ac hs => ?_
      refine s_q hs (c_move (hs.ev rfl)) rfl fun ac hs => ?_
      refine s_q hs (c_remB (hs.ev rfl) (St.ev (v := B 4) hs rfl) (by decide)) rfl fun ac hs => ?_
      refine s_q hs (c_cvBI un5 un3 (hs.ev rfl)) rfl fun ac hs => ?_
      refine s_q hs (c_subI (hs.ev rfl) (hs.ev rfl) (by have := dgt_le m (4 * i + (3 - j)); rw [xq_dig m i j hi16 hj4]; omega) (by have := dgt_le m (4 * i + (3 - j)); rw [xq_dig m i j hi16 hj4]; omega)) rfl fun ac hs => ?_
      refine s_q hs (c_assign (hs.ev rfl)) rfl fun ac hs => ?_
      refine s_end ?_
      refine then_n ?_
      refine wp_reg ?_
      refine s_q hs (c_move (hs.ev rfl)) rfl fun ac hs => ?_
      refine s_q hs (c_quoB (hs.ev rfl) (St.ev (v := B 4) hs rfl) (by decide)) rfl fun ac hs => ?_
      refine s_q hs (c_assign (hs.ev rfl)) rfl fun ac hs => ?_
      refine s_end ?_
      refine blk_n ?_
      refine then_n ?_
      refine wp_reg ?_
      refine s_q hs (c_move (hs.ev rfl)) rfl fun ac hs => ?_
      refine s_q hs (c_subI (hs.ev rfl) (hs.ev rfl) (by omega) (by omega)) rfl fun ac hs => ?_
      refine s_q hs (c_assign (hs.ev rfl)) rfl fun ac hs => ?_
      refine s_end ?_
      refine then_n ?_
      exact ⟨4 - (j + 1), by omega, j + 1, ⟨by omega, rfl⟩, St.next hs ⟨(congrArg (fun z => some (I z)) (by have := dgt_le m (4 * i + (3 - j)); simp only [leftR, xq_dig m i j hi16 hj4]; omega)), (congrArg (fun z => some (B z)) (xq_succ m i j)), (congrArg (fun z => some (I z)) (by omega)), rfl, rfl, rfl, rfl, rfl, rfl, rfl, rfl, rfl, trivial⟩ rfl⟩
    · try simp only [decide_eq_true_eq, decide_eq_false_iff_not, Bool.not_eq_true', Bool.not_eq_false', Bool.and_eq_true, Bool.or_eq_true, Bool.or_eq_false_iff] at hc
      obtain rfl : j = 4 := by omega
      refine wp_exit ?_
      refine then_e ?_
      refine then_e ?_
      refine blk_hit ?_
      refine blk_n ?_
      refine then_n ?_
      refine wp_reg ?_
      refine s_q hs (c_move (hs.ev rfl)) rfl fun ac hs => ?_
      refine s_q hs (c_addI (hs.ev rfl) (hs.ev rfl) (by omega) (by omega)) rfl fun ac hs => ?_
      refine s_q hs (c_assign (hs.ev rfl)) rfl fun ac hs => ?_
      refine s_end ?_
      refine then_n ?_
      exact ⟨16 - (i + 1), by omega, i + 1, ⟨by omega, rfl⟩, St.next hs ⟨(congrArg (fun z : Nat => some (I z)) (leftR_four m i (by omega))), rfl, rfl, rfl, rfl, trivial⟩ (congrArg (fun z => [Ent.seg g3 (List.map B z) 23, _, _]) (dM_close m (by omega) (by omega) (by omega)))⟩
  · try simp only [decide_eq_true_eq, decide_eq_false_iff_not, Bool.not_eq_true', Bool.not_eq_false', Bool.and_eq_true, Bool.or_eq_true, Bool.or_eq_false_iff] at hc
    obtain rfl : i = 16 := by omega
    refine wp_exit ?_
    refine then_e ?_
    refine then_e ?_
    refine blk_hit ?_
    refine then_n ?_
    refine wp_seq ?_
    refine wp_seq ?_
    refine wp_reg ?_
    refine s_q hs (c_assign (hs.ev rfl)) rfl fun ac hs => ?_
    refine s_end ?_
    replace hs := hs.sub (F' := [(2, _), (3, _), (4, _), (8, _)]) ⟨rfl, rfl, rfl, rfl, trivial⟩
    refine then_n ?_
    refine wp_block ?_
    refine s_loop hs (X := Nat) (fun j => [(4, I (left m 64 / 4 ^ j : Nat)), (8, I (3 - (j : Int)))]) [(2, _), (3, _)] (fun j => [.seg g3 ((dM m 64 (64 + (4 - j)) 68).map B) 23, _, _]) (fun n j => j ≤ 4 ∧ n = 4 - j) (4) (0) (⟨by omega, rfl⟩) ⟨(congrArg (fun z : Nat => some (I z)) (by simp)), rfl, rfl, rfl, trivial⟩ (congrArg (fun z => [Ent.seg g3 (List.map B z) 23, _, _]) (dM_empty m _ _)) ?_
    rintro n j ac ww hok hs
    simp only [List.cons_append, List.nil_append] at hs
    obtain ⟨hj, rfl⟩ := hok
    have hll := left_le m 64
    have hdl : left m 64 / 4 ^ j ≤ left m 64 := Nat.div_le_self _ _
    obtain ⟨q, hq, hql⟩ : ∃ q : Nat, left m 64 / 4 ^ j = q ∧ q ≤ 192 := ⟨_, rfl, by omega⟩
    rw [hq] at hs
    refine wp_seq ?_
    refine wp_seq ?_
    refine wp_reg ?_
    refine s_q hs (c_move (hs.ev rfl)) rfl fun ac hs => ?_
    refine s_q hs (c_geqI (hs.ev rfl) (hs.ev rfl)) rfl fun ac hs => ?_
    refine s_end ?_
    refine then_n ?_
    refine s_cond hs rfl (fun hc => ?_) (fun hc => ?_)
    · try simp only [decide_eq_true_eq, decide_eq_false_iff_not, Bool.not_eq_true', Bool.not_eq_false', Bool.and_eq_true, Bool.or_eq_true, Bool.or_eq_false_iff] at hc
      have hj4 : j < 4 := by omega
      refine wp_skip ?_
      refine then_n ?_
      refine wp_seq ?_
      refine wp_block ?_
      refine wp_seq ?_
      refine wp_reg ?_
      refine s_q hs (c_move (hs.ev rfl)) rfl fun ac hs => ?_
      refine s_q hs (c_addI (hs.ev rfl) (hs.ev rfl) (by omega) (by omega)) rfl fun ac hs => ?_
      refine s_q hs (c_move (hs.ev rfl)) rfl fun ac hs => ?_
      refine s_q hs (c_remI (hs.ev rfl) (hs.ev rfl) (by omega) (by omega)) rfl fun ac hs => ?_
      refine s_q hs (c_cvIB un3 un5 (hs.ev rfl)) rfl fun ac hs => ?_
      refine s_q hs (c_idxA (j := 64 + (3 - j)) un23 ty5 (hs.ev rfl) (hs.ev rfl) (by omega) (by omega)) rfl fun ac hs => ?_
      refine s_store (i := 0) hs ty5 rfl rfl rfl rfl rfl rfl (by rw [List.length_map, dM_len]; omega) ((map_set _ (by rw [dM_len]; omega)).trans (congrArg (List.map B) (dM_set (b := 64 + (4 - (j + 1))) (by omega) (by omega) (by omega) (by omega) (((congrArg (fun z : Nat => i8 ((z : Int) % 4)) hq.symm).trans (chk_dig m j hj4)).trans (congrArg (dgt m) (by omega)))))) fun ww hs => ?_
      refine s_end ?_
      refine then_n ?_
      refine wp_reg ?_
      refine s_q hs (c_move (hs.ev rfl)) rfl fun ac hs => ?_
      refine s_q hs (c_quoI (hs.ev rfl) (hs.ev rfl) (by omega) (by omega) (by omega)) rfl fun ac hs => ?_
      refine s_q hs (c_assign (hs.ev rfl)) rfl fun ac hs => ?_
      refine s_end ?_
      refine blk_n ?_
      refine then_n ?_
      refine wp_reg ?_
      refine s_q hs (c_move (hs.ev rfl)) rfl fun ac hs => ?_
      refine s_q hs (c_subI (hs.ev rfl) (hs.ev rfl) (by omega) (by omega)) rfl fun ac hs => ?_
      refine s_q hs (c_assign (hs.ev rfl)) rfl fun ac hs => ?_
      refine s_end ?_
      refine then_n ?_
      exact ⟨4 - (j + 1), by omega, j + 1, ⟨by omega, rfl⟩, St.next hs ⟨(congrArg (fun z => some (I z)) (by rw [Nat.pow_succ, ← Nat.div_div_eq_div_mul, hq]; omega)), (congrArg (fun z => some (I z)) (by omega)), rfl, rfl, trivial⟩ rfl⟩
    · try simp only [decide_eq_true_eq, decide_eq_false_iff_not, Bool.not_eq_true', Bool.not_eq_false', Bool.and_eq_true, Bool.or_eq_true, Bool.or_eq_false_iff] at hc
      obtain rfl : j = 4 := by omega
      rw [dM_close m (d := 68) (by omega) (by omega) (by omega), dM_full] at hs
      refine wp_exit ?_
      refine then_e ?_
      refine then_e ?_
      refine blk_hit ?_
      refine then_n ?_
      refine wp_seq ?_
      refine wp_reg ?_
      refine s_q hs (c_loadW ty23 rfl (hs.ev rfl) (hs.seg (i := 0) rfl) (by simp)) rfl fun ac hs => ?_
      refine s_storeW (i := 1) hs ty23 rfl rfl rfl (by simp) (all_map_B _) rfl fun ww hs => ?_
      refine s_end ?_
      replace hs := hs.sub (F' := [(2, _)]) ⟨rfl, trivial⟩
      refine then_n ?_
      refine wp_ret ?_
      refine s_ret hs rfl (.cell (hs.tmp rfl) (run_loadA ty23 rfl (hs.seg (i := 1) rfl) (List.take_of_length_le (by simp)) (by simp)) .nil) rfl ⟨_, rfl, hs.fr, ?_⟩
      rfl

-- ots.Cost
set_option maxHeartbeats 4000000 in
theorem ots_Cost (m : List UInt8) (hm : m.length = 16) (w : World)  : Ctr Try.prog 41 [.agg (m.map B).toArray] w (fun _ => False) (fun v _ => v = I (costN m 68 + 18 : Nat)) := by
  refine fn_start (N := 19) Try.func41 rfl rfl rfl fun ac hk => ?_
  have hs := St.start hk w
  refine wp_seq ?_
  refine wp_reg ?_
  refine s_box hs rfl rfl rfl fun ac ww g1 hs => ?_
  refine s_q hs (c_assign (hs.ev rfl)) rfl fun ac hs => ?_
  refine s_end ?_
  replace hs := hs.sub (F' := [(1, _), (2, _)]) ⟨rfl, rfl, trivial⟩
  refine then_n ?_
  refine wp_seq ?_
  refine wp_reg ?_
  refine s_q hs (c_assign (hs.ev rfl)) rfl fun ac hs => ?_
  refine s_end ?_
  refine then_n ?_
  refine wp_seq ?_
  refine wp_seq ?_
  refine wp_reg ?_
  refine s_q hs (c_loadW ty54 rfl (hs.ev rfl) (hs.seg (i := 0) rfl) (by rw [List.length_map, hm])) rfl fun ac hs => ?_
  refine s_call hs fu36 (.cons (hs.ev rfl) .nil) (ots_Digits m hm _) rfl fun ac ww v7 hf hp hs => ?_
  obtain rfl := hp
  replace hs := hs [] (.nil _ _)
  refine s_q hs (c_move (hs.ev rfl)) rfl fun ac hs => ?_
  refine s_end ?_
  replace hs := hs.sub (F' := [(2, _), (3, _), (7, _), (8, _)]) ⟨rfl, rfl, rfl, rfl, trivial⟩
  refine then_n ?_
  refine wp_block ?_
  refine s_loop hs (X := Nat) (fun k => [(3, I (costN m k)), (8, I k)]) [(2, _), (7, _)] (fun _ => [_]) (fun n k => k ≤ 68 ∧ n = 68 - k) (68) (0) (⟨by omega, rfl⟩) ⟨rfl, rfl, rfl, rfl, trivial⟩ rfl ?_
  rintro n k ac ww hok hs
  simp only [List.cons_append, List.nil_append] at hs
  obtain ⟨hk, rfl⟩ := hok
  have hcl := costN_le m k
  refine wp_seq ?_
  refine wp_reg ?_
  refine s_q hs (c_lssI (hs.ev rfl) (hs.ev rfl)) rfl fun ac hs => ?_
  refine s_end ?_
  refine then_n ?_
  refine wp_seq ?_
  refine s_cond hs rfl (fun hc => ?_) (fun hc => ?_)
  · try simp only [decide_eq_true_eq, decide_eq_false_iff_not, Bool.not_eq_true', Bool.not_eq_false', Bool.and_eq_true, Bool.or_eq_true, Bool.or_eq_false_iff] at hc
    have hk68 : k < 68 := by omega
    have hdl := dgt_le m k
    refine wp_skip ?_
    refine then_n ?_
    refine wp_seq ?_
    refine wp_block ?_
    refine wp_seq ?_
    refine wp_reg ?_
    refine s_q hs (c_idxS1 (j := k) un23 ty5 rfl (hs.ev rfl) (hs.ev rfl) (by omega) (by omega) (arr_get (l := digits m) 0 (by rw [digits_length]; omega))) rfl fun ac hs => ?_
    refine s_q hs (c_assign (hs.ev rfl)) rfl fun ac hs => ?_
    refine s_end ?_
    refine then_n ?_
    refine wp_reg ?_
    refine s_q hs (c_move (hs.ev rfl)) rfl fun ac hs => ?_
    refine s_q hs (c_move (hs.ev rfl)) rfl fun ac hs => ?_
    refine s_q hs (c_cvBI un5 un3 (hs.ev rfl)) rfl fun ac hs => ?_
    refine s_q hs (c_subI (hs.ev rfl) (hs.ev rfl) (by rw [dgt_getD m k hk68]; omega) (by rw [dgt_getD m k hk68]; omega)) rfl fun ac hs => ?_
    refine s_q hs (c_addI (hs.ev rfl) (hs.ev rfl) (by rw [dgt_getD m k hk68]; omega) (by rw [dgt_getD m k hk68]; omega)) rfl fun ac hs => ?_
    refine s_q hs (c_assign (hs.ev rfl)) rfl fun ac hs => ?_
    refine s_end ?_
    refine blk_n ?_
    refine then_n ?_
    refine wp_reg ?_
    refine s_q hs (c_addI (hs.ev rfl) (hs.ev rfl) (by omega) (by omega)) rfl fun ac hs => ?_
    refine s_q hs (c_move (hs.ev rfl)) rfl fun ac hs => ?_
    refine s_end ?_
    refine then_n ?_
    exact ⟨68 - (k + 1), by omega, k + 1, ⟨by omega, rfl⟩, St.next hs ⟨(congrArg (fun z => some (I z)) (by have := dgt_le m k; simp only [costN, dgN, dgt_getD m k hk68]; omega)), rfl, rfl, rfl, trivial⟩ rfl⟩
  · try simp only [decide_eq_true_eq, decide_eq_false_iff_not, Bool.not_eq_true', Bool.not_eq_false', Bool.and_eq_true, Bool.or_eq_true, Bool.or_eq_false_iff] at hc
    obtain rfl : k = 68 := by omega
    refine wp_exit ?_
    refine then_e ?_
    refine then_e ?_
    refine blk_hit ?_
    refine then_n ?_
    refine wp_seq ?_
    refine wp_reg ?_
    refine s_q hs (c_move (hs.ev rfl)) rfl fun ac hs => ?_
    refine s_q hs (c_addI (hs.ev rfl) (hs.ev rfl) (by omega) (by omega)) rfl fun ac hs => ?_
    refine s_q hs (c_assign (hs.ev rfl)) rfl fun ac hs => ?_
    refine s_end ?_
    replace hs := hs.sub (F' := [(2, _)]) ⟨rfl, trivial⟩
    refine then_n ?_
    refine wp_ret ?_
    refine s_ret hs rfl (.tmp (hs.tmp rfl) .nil) rfl ⟨_, rfl, hs.fr, ?_⟩
    show I _ = I _
    refine congrArg I ?_
    omega

-- fingerpostref10.Cost
set_option maxHeartbeats 4000000 in
theorem ref10_Cost (m : List UInt8) (hm : m.length = 16) (w : World)  : Ctr Try.prog 42 [.agg (m.map B).toArray] w (fun _ => False) (fun v _ => v = I (costN m 68 + 18 : Nat)) := by
  refine fn_start (N := 20) Try.func42 rfl rfl rfl fun ac hk => ?_
  have hs := St.start hk w
  refine wp_seq ?_
  refine wp_reg ?_
  refine s_box hs rfl rfl rfl fun ac ww g1 hs => ?_
  refine s_q hs (c_assign (hs.ev rfl)) rfl fun ac hs => ?_
  refine s_end ?_
  replace hs := hs.sub (F' := [(1, _), (2, _)]) ⟨rfl, rfl, trivial⟩
  refine then_n ?_
  refine wp_seq ?_
  refine wp_reg ?_
  refine s_q hs (c_loadW ty22 rfl (hs.ev rfl) (hs.seg (i := 0) rfl) (by rw [List.length_map, hm])) rfl fun ac hs => ?_
  refine s_call hs fu40 (.cons (hs.ev rfl) .nil) (ref10_Digits m hm _) rfl fun ac ww v7 hf hp hs => ?_
  obtain rfl := hp
  replace hs := hs [] (.nil _ _)
  refine s_alloc hs ty23 rfl fun ac ww g3 hs => ?_
  refine s_storeW (i := 0) hs ty23 rfl rfl rfl (by simp) (all_map_B _) rfl fun ww hs => ?_
  refine s_end ?_
  replace hs := hs.sub (F' := [(2, _), (3, _)]) ⟨rfl, rfl, trivial⟩
  refine then_n ?_
  refine wp_seq ?_
  refine wp_reg ?_
  refine s_q hs (c_assign (hs.ev rfl)) rfl fun ac hs => ?_
  refine s_end ?_
  refine then_n ?_
  refine wp_seq ?_
  refine wp_seq ?_
  refine wp_reg ?_
  refine s_q hs (c_assign (hs.ev rfl)) rfl fun ac hs => ?_
  refine s_end ?_
  refine then_n ?_
  refine wp_block ?_
  refine s_loop hs (X := Nat) (fun k => [(4, I (18 + costN m k : Nat)), (5, I k)]) [(2, _), (3, _)] (fun _ => [_, _]) (fun n k => k ≤ 68 ∧ n = 68 - k) (68) (0) (⟨by omega, rfl⟩) ⟨rfl, rfl, rfl, rfl, trivial⟩ rfl ?_
  rintro n k ac ww hok hs
  simp only [List.cons_append, List.nil_append] at hs
  obtain ⟨hk, rfl⟩ := hok
  have hcl := costN_le m k
  refine wp_seq ?_
  refine wp_seq ?_
  refine wp_reg ?_
  refine s_q hs (c_move (hs.ev rfl)) rfl fun ac hs => ?_
  refine s_q hs (c_lssI (hs.ev rfl) (hs.ev rfl)) rfl fun ac hs => ?_
  refine s_end ?_
  refine then_n ?_
  refine s_cond hs rfl (fun hc => ?_) (fun hc => ?_)
  · try simp only [decide_eq_true_eq, decide_eq_false_iff_not, Bool.not_eq_true', Bool.not_eq_false', Bool.and_eq_true, Bool.or_eq_true, Bool.or_eq_false_iff] at hc
    have hk68 : k < 68 := by omega
    have hdl := dgt_le m k
    refine wp_skip ?_
    refine then_n ?_
    refine wp_seq ?_
    refine wp_block ?_
    refine wp_reg ?_
    refine s_q hs (c_move (hs.ev rfl)) rfl fun ac hs => ?_
    refine s_q hs (c_addI (hs.ev rfl) (hs.ev rfl) (by omega) (by omega)) rfl fun ac hs => ?_
    refine s_q hs (c_move (hs.ev rfl)) rfl fun ac hs => ?_
    refine s_q hs (c_idxA (j := k) un23 ty5 (hs.ev rfl) (hs.ev rfl) (by omega) (by omega)) rfl fun ac hs => ?_
    refine s_q hs (c_loadS un5 rfl (hs.ev rfl) (hs.seg (i := 0) rfl) (map_get (l := digits m) 0 (by rw [digits_length]; omega))) rfl fun ac hs => ?_
    refine s_q hs (c_cvBI un5 un3 (hs.ev rfl)) rfl fun ac hs => ?_
    refine s_q hs (c_subI (hs.ev rfl) (hs.ev rfl) (by rw [dgt_getD m k hk68]; omega) (by rw [dgt_getD m k hk68]; omega)) rfl fun ac hs => ?_
    refine s_q hs (c_assign (hs.ev rfl)) rfl fun ac hs => ?_
    refine s_end ?_
    refine blk_n ?_
    refine then_n ?_
    refine wp_reg ?_
    refine s_q hs (c_move (hs.ev rfl)) rfl fun ac hs => ?_
    refine s_q hs (c_addI (hs.ev rfl) (hs.ev rfl) (by omega) (by omega)) rfl fun ac hs => ?_
    refine s_q hs (c_assign (hs.ev rfl)) rfl fun ac hs => ?_
    refine s_end ?_
    refine then_n ?_
    exact ⟨68 - (k + 1), by omega, k + 1, ⟨by omega, rfl⟩, St.next hs ⟨(congrArg (fun z => some (I z)) (by simp only [costN, dgN, dgt_getD m k hk68]; omega)), rfl, rfl, rfl, trivial⟩ rfl⟩
  · try simp only [decide_eq_true_eq, decide_eq_false_iff_not, Bool.not_eq_true', Bool.not_eq_false', Bool.and_eq_true, Bool.or_eq_true, Bool.or_eq_false_iff] at hc
    obtain rfl : k = 68 := by omega
    refine wp_exit ?_
    refine then_e ?_
    refine then_e ?_
    refine blk_hit ?_
    refine then_n ?_
    refine wp_seq ?_
    refine wp_reg ?_
    refine s_q hs (c_move (hs.ev rfl)) rfl fun ac hs => ?_
    refine s_q hs (c_assign (hs.ev rfl)) rfl fun ac hs => ?_
    refine s_end ?_
    replace hs := hs.sub (F' := [(2, _)]) ⟨rfl, trivial⟩
    refine then_n ?_
    refine wp_ret ?_
    refine s_ret hs rfl (.tmp (hs.tmp rfl) .nil) rfl ⟨_, rfl, hs.fr, ?_⟩
    show I _ = I _
    refine congrArg I ?_
    omega

end Go.Proofs.Ytmgnnclkjkbmdaa
end

/- Runs along chains and what stands for all last links, as the document has them. -/
section
set_option linter.unusedSimpArgs false
set_option linter.unusedVariables false
set_option maxRecDepth 100000
namespace Go.Proofs.Ytmgnnclkjkbmdaa
open Go Go.Fw

open Sha Ots
-- fingerpostref10.Run
set_option maxHeartbeats 4000000 in
theorem ref10_Run (d : Int) (i : UInt32) (ch : Int) (fr to : Nat) (s : List UInt8) (hsl : s.length = 16) (hto : to ≤ 3) (w : World)  : Ctr Try.prog 63 [.agg #[I d, U i], I ch, I fr, I to, .agg (s.map B).toArray] w (fun _ => False) (outE (tupE (.agg ((linkN d i ch fr s (to - fr)).map B).toArray) (textsE 34 5 (linkTs d i ch fr s (to - fr)))) w) := by
  refine fn_start (N := 34) Try.func63 rfl rfl rfl fun ac hk => ?_
  have hs := St.start hk w
  refine wp_seq ?_
  refine wp_reg ?_
  refine s_box hs rfl rfl rfl fun ac ww g5 hs => ?_
  refine s_box hs rfl rfl rfl fun ac ww g9 hs => ?_
  refine s_alloc hs ty22 rfl fun ac ww g10 hs => ?_
  refine s_q hs (c_assign (hs.ev rfl)) rfl fun ac hs => ?_
  refine s_end ?_
  replace hs := hs.sub (F' := [(1, _), (2, _), (3, _), (5, _), (9, _), (10, _), (11, _)]) ⟨rfl, rfl, rfl, rfl, rfl, rfl, rfl, trivial⟩
  refine then_n ?_
  refine wp_seq ?_
  refine wp_reg ?_
  refine s_q hs (c_assign (hs.ev rfl)) rfl fun ac hs => ?_
  refine s_end ?_
  replace hs := hs.texts0 34 (Ent.part 5)
  refine then_n ?_
  refine wp_seq ?_
  refine wp_seq ?_
  refine wp_reg ?_
  refine s_q hs (c_move (hs.ev rfl)) rfl fun ac hs => ?_
  refine s_q hs (c_assign (hs.ev rfl)) rfl fun ac hs => ?_
  refine s_end ?_
  replace hs := hs.sub (F' := [(1, _), (3, _), (5, _), (9, _), (10, _), (11, _), (12, _), (13, _)]) ⟨rfl, rfl, rfl, rfl, rfl, rfl, rfl, rfl, trivial⟩
  refine then_n ?_
  refine wp_block ?_
  refine s_loop hs (X := Nat × Value × List (Value × List UInt8)) (fun x => [(12, x.2.1), (13, I ((fr + x.1 : Nat) : Int))]) [(1, _), (3, _), (5, _), (9, _), (10, _), (11, _)] (fun x => [.texts 34 (Ent.part 5) x.2.1 x.2.2, _, .seg g9 ((linkN d i ch fr s x.1).map B) 22, _]) (fun n x => x.1 ≤ to - fr ∧ n = to - fr - x.1 ∧ x.2.2.map (·.2) = linkTs d i ch fr s x.1) (_) ((0, _, [])) (⟨Nat.zero_le _, rfl, rfl⟩) ⟨rfl, rfl, rfl, rfl, rfl, rfl, rfl, rfl, trivial⟩ rfl ?_
  rintro n ⟨k, v, ps⟩ ac ww hok hs
  simp only [List.cons_append, List.nil_append] at hs
  obtain ⟨hk, rfl, hps⟩ := hok
  simp only at hk hps hs
  have hlk := linkN_length (d := d) (i := i) (ch := ch) (st := fr) hsl k
  have hpl : ps.length = k := by have := congrArg List.length hps; rwa [List.length_map, linkTs_length] at this
  refine wp_seq ?_
  refine wp_seq ?_
  refine wp_reg ?_
  refine s_q hs (c_move (hs.ev rfl)) rfl fun ac hs => ?_
  refine s_q hs (c_move (hs.ev rfl)) rfl fun ac hs => ?_
  refine s_q hs (c_lssI (hs.ev rfl) (hs.ev rfl)) rfl fun ac hs => ?_
  refine s_end ?_
  refine then_n ?_
  refine s_cond hs rfl (fun hc => ?_) (fun hc => ?_)
  · try simp only [decide_eq_true_eq, decide_eq_false_iff_not, Bool.not_eq_true', Bool.not_eq_false', Bool.and_eq_true, Bool.or_eq_true, Bool.or_eq_false_iff] at hc
    refine wp_skip ?_
    refine then_n ?_
    refine wp_seq ?_
    refine wp_block ?_
    refine wp_seq ?_
    refine wp_reg ?_
    refine s_q hs (c_loadW ty29 ag29 (hs.ev rfl) (hs.seg (i := 3) rfl) (by rfl)) rfl fun ac hs => ?_
    refine s_q hs (c_move (hs.ev rfl)) rfl fun ac hs => ?_
    refine s_q hs (c_move (hs.ev rfl)) rfl fun ac hs => ?_
    refine s_q hs (c_loadW ty22 rfl (hs.ev rfl) (hs.seg (i := 2) rfl) (by rw [List.length_map, hlk])) rfl fun ac hs => ?_
    refine s_call hs fu55 (.cons (hs.ev rfl) (.cons (hs.ev rfl) (.cons (hs.ev rfl) (.cons (hs.ev rfl) .nil)))) (ref10_Text d i ch ((fr + k : Nat) : Int) (linkN d i ch fr s k) hlk _) rfl fun ac ww v25 hf hp hs => ?_
    obtain ⟨L', hv, hh⟩ := hp
    subst hv
    replace hs := hs _ hh
    obtain ⟨qad, qcap, rfl, _, _⟩ := Rd.sl (RdB.row (hs.get (i := 0) rfl))
    refine s_q hs (c_assign (hs.ev rfl)) rfl fun ac hs => ?_
    refine s_end ?_
    refine then_n ?_
    refine wp_seq ?_
    refine wp_reg ?_
    refine s_q hs (c_move (hs.ev rfl)) rfl fun ac hs => ?_
    refine s_q hs (c_move (hs.ev rfl)) rfl fun ac hs => ?_
    refine s_bslice hs un30 ty34 (.cons (hs.ev rfl) .nil) rfl (by simp [Value.cells]) (by decide) rfl rfl fun ac ww g28 hs => ?_
    refine s_appT (i := 2) (j := 1) hs un30 ty34 rfl rfl rfl rfl rfl (hs.seg (i := 0) rfl) rfl (by omega) rfl fun ac ww v29 hs => ?_
    refine s_q hs (c_assign (hs.ev rfl)) rfl fun ac hs => ?_
    refine s_end ?_
    refine then_n ?_
    refine wp_reg ?_
    refine s_q hs (c_move (hs.ev rfl)) rfl fun ac hs => ?_
    refine s_call hs fu54 (.cons (hs.ev rfl) .nil) (ref06_Of 87 (linkT d i ch ((fr + k : Nat) : Int) (linkN d i ch fr s k)) _ (by simp [linkT, hlk]) _ ((RdP.texts (hs.get (i := 2) rfl)).2 (_, linkX d i ch (fr + k) (linkN d i ch fr s k)) (by simp [linkX]))) rfl fun ac ww v31 hf hp hs => ?_
    obtain rfl := hp
    replace hs := hs [] (.nil _ _)
    refine s_storeW (i := 4) hs ty22 rfl rfl rfl (by simp) (all_map_B _) (by rw [List.length_map, hlk]) fun ww hs => ?_
    refine s_end ?_
    replace hs := hs.pick (L' := [_, _, _, _]) (.cons _ (.cons _ (.refl _)))
    refine blk_n ?_
    refine then_n ?_
    refine wp_reg ?_
    refine s_q hs (c_move (hs.ev rfl)) rfl fun ac hs => ?_
    refine s_q hs (c_addI (hs.ev rfl) (hs.ev rfl) (by omega) (by omega)) rfl fun ac hs => ?_
    refine s_q hs (c_assign (hs.ev rfl)) rfl fun ac hs => ?_
    refine s_end ?_
    refine then_n ?_
    exact ⟨to - fr - (k + 1), by (try simp only); omega, (k + 1, _, _), ⟨by (try simp only); omega, rfl, by rw [List.map_append, hps, linkTs]; rfl⟩, St.next hs ⟨rfl, (congrArg (fun z => some (I z)) (by omega)), rfl, rfl, rfl, rfl, rfl, rfl, trivial⟩ rfl⟩
  · try simp only [decide_eq_true_eq, decide_eq_false_iff_not, Bool.not_eq_true', Bool.not_eq_false', Bool.and_eq_true, Bool.or_eq_true, Bool.or_eq_false_iff] at hc
    have hkf : k = to - fr := by omega
    subst hkf
    refine wp_exit ?_
    refine then_e ?_
    refine then_e ?_
    refine blk_hit ?_
    refine then_n ?_
    refine wp_seq ?_
    refine wp_reg ?_
    refine s_q hs (c_loadW ty22 rfl (hs.ev rfl) (hs.seg (i := 2) rfl) (by rw [List.length_map, hlk])) rfl fun ac hs => ?_
    refine s_q hs (c_move (hs.ev rfl)) rfl fun ac hs => ?_
    refine s_storeW (i := 1) hs ty22 rfl rfl rfl (by rw [List.length_map, hlk]) (all_map_B _) rfl fun ww hs => ?_
    refine s_q hs (c_assign (hs.ev rfl)) rfl fun ac hs => ?_
    refine s_end ?_
    replace hs := hs.sub (F' := [(10, _), (11, _)]) ⟨rfl, rfl, trivial⟩
    refine then_n ?_
    refine wp_ret ?_
    refine s_ret hs rfl (.cell (hs.tmp rfl) (run_loadA ty22 rfl (hs.seg (i := 1) rfl) (List.take_of_length_le (by simp [hlk])) (by simp [hlk])) (.tmp (hs.tmp rfl) .nil)) rfl ⟨_, rfl, hs.fr, ?_⟩
    exact ⟨_, ⟨_, rfl, ps, hps, rfl⟩, (hs.pick (L' := [_]) (.cons_cons _ (.cons _ (.cons _ (.cons _ .slnil))))).made⟩

-- fingerpostref10.Press
set_option maxHeartbeats 4000000 in
theorem ref10_Press (d : Int) (i : UInt32) (tp : List UInt8) (htl : tp.length = 1088) (w : World)  : Ctr Try.prog 153 [.agg #[I d, U i], .agg (tp.map B).toArray] w (fun _ => False) (outE (rowE (pressX d i tp)) w) := by
  refine fn_start (N := 23) Try.func153 rfl rfl rfl fun ac hk => ?_
  have hs := St.start hk w
  refine wp_seq ?_
  refine wp_reg ?_
  refine s_box hs rfl rfl rfl fun ac ww g2 hs => ?_
  refine s_box hs rfl rfl rfl fun ac ww g3 hs => ?_
  refine s_q hs (c_assign (hs.ev rfl)) rfl fun ac hs => ?_
  refine s_end ?_
  replace hs := hs.sub (F' := [(2, _), (3, _), (4, _)]) ⟨rfl, rfl, rfl, trivial⟩
  refine then_n ?_
  refine wp_seq ?_
  refine wp_reg ?_
  refine s_q hs (c_assign (hs.ev rfl)) rfl fun ac hs => ?_
  refine s_end ?_
  replace hs := hs.nilrow 5 1
  refine then_n ?_
  refine wp_seq ?_
  refine wp_seq ?_
  refine wp_reg ?_
  refine s_q hs (c_assign (hs.ev rfl)) rfl fun ac hs => ?_
  refine s_end ?_
  refine then_n ?_
  refine wp_block ?_
  refine s_loop hs (X := Nat × Value) (fun x => [(5, x.2), (6, I x.1)]) [(2, _), (3, _), (4, _)] (fun x => [.row x.2 (tp.take (16 * x.1)).length ((tp.take (16 * x.1)).map B) 5 1, _, _]) (fun n x => x.1 ≤ 68 ∧ n = 68 - x.1) (_) ((0, _)) (⟨Nat.zero_le _, rfl⟩) ⟨rfl, rfl, rfl, rfl, rfl, trivial⟩ rfl ?_
  rintro n ⟨k, v⟩ ac ww hok hs
  simp only [List.cons_append, List.nil_append] at hs
  obtain ⟨hk, rfl⟩ := hok
  simp only at hk hs
  refine wp_seq ?_
  refine wp_seq ?_
  refine wp_reg ?_
  refine s_q hs (c_move (hs.ev rfl)) rfl fun ac hs => ?_
  refine s_q hs (c_lssI (hs.ev rfl) (hs.ev rfl)) rfl fun ac hs => ?_
  refine s_end ?_
  refine then_n ?_
  refine s_cond hs rfl (fun hc => ?_) (fun hc => ?_)
  · try simp only [decide_eq_true_eq, decide_eq_false_iff_not, Bool.not_eq_true', Bool.not_eq_false', Bool.and_eq_true, Bool.or_eq_true, Bool.or_eq_false_iff] at hc
    have hk68 : k < 68 := by omega
    have hcl := chunk_length htl hk68
    refine wp_skip ?_
    refine then_n ?_
    refine wp_seq ?_
    refine wp_block ?_
    refine wp_seq ?_
    refine wp_reg ?_
    refine s_q hs (c_move (hs.ev rfl)) rfl fun ac hs => ?_
    refine s_q hs (c_idxA (j := k) un33 ty22 (hs.ev rfl) (hs.ev rfl) (by omega) (by omega)) rfl fun ac hs => ?_
    refine s_q hs (c_loadA ty22 rfl (hs.ev rfl) (hs.seg (i := 1) rfl) (chunk_at tp k) (by rw [List.length_map, hcl])) rfl fun ac hs => ?_
    refine s_alloc hs ty22 rfl fun ac ww g7 hs => ?_
    refine s_storeW (i := 0) hs ty22 rfl rfl rfl (by rw [List.length_map, hcl]) (all_map_B _) rfl fun ww hs => ?_
    refine s_end ?_
    refine then_n ?_
    refine wp_reg ?_
    refine s_q hs (c_move (hs.ev rfl)) rfl fun ac hs => ?_
    refine s_q hs (c_sliceA un22 ty5 (hs.ev rfl)) rfl fun ac hs => ?_
    refine s_appB (i := 1) hs un34 ty5 rfl rfl rfl (RdB.segn (hs.seg (i := 0) rfl) hcl (by decide)) (by rw [List.length_take]; omega) rfl fun ac ww v17 hf hnil hs => ?_
    refine s_q hs (c_assign (hs.ev rfl)) rfl fun ac hs => ?_
    refine s_end ?_
    refine blk_n ?_
    refine then_n ?_
    refine wp_reg ?_
    refine s_q hs (c_move (hs.ev rfl)) rfl fun ac hs => ?_
    refine s_q hs (c_addI (hs.ev rfl) (hs.ev rfl) (by omega) (by omega)) rfl fun ac hs => ?_
    refine s_q hs (c_assign (hs.ev rfl)) rfl fun ac hs => ?_
    refine s_end ?_
    refine then_n ?_
    replace hs := hs.pick (L' := [_, _, _]) (.cons _ (.refl _))
    exact ⟨68 - (k + 1), by (try simp only); omega, (k + 1, _), ⟨by (try simp only); omega, rfl⟩, St.next hs ⟨rfl, rfl, rfl, rfl, rfl, trivial⟩ (by rw [take_chunk])⟩
  · try simp only [decide_eq_true_eq, decide_eq_false_iff_not, Bool.not_eq_true', Bool.not_eq_false', Bool.and_eq_true, Bool.or_eq_true, Bool.or_eq_false_iff] at hc
    obtain rfl : k = 68 := by omega
    rw [List.take_of_length_le (by omega)] at hs
    obtain ⟨vad, vcap, rfl, _, _⟩ := Rd.sl (RdB.row (hs.get (i := 0) rfl))
    refine wp_exit ?_
    refine then_e ?_
    refine then_e ?_
    refine blk_hit ?_
    refine then_n ?_
    refine wp_seq ?_
    refine wp_reg ?_
    refine s_q hs (c_loadW ty29 ag29 (hs.ev rfl) (hs.seg (i := 2) rfl) (by rfl)) rfl fun ac hs => ?_
    refine s_call hs fu160 (.cons (hs.ev rfl) .nil) (ref10_Head d i _) rfl fun ac ww v19 hf hp hs => ?_
    obtain ⟨L', hv, hh⟩ := hp
    subst hv
    replace hs := hs _ hh
    obtain ⟨nad, ncap, rfl, _, _⟩ := Rd.sl (RdB.row (hs.get (i := 0) rfl))
    refine s_q hs (c_move (hs.ev rfl)) rfl fun ac hs => ?_
    refine s_bslice hs un30 ty34 (.cons (hs.ev rfl) (.cons (hs.ev rfl) .nil)) rfl (by simp [Value.cells]) (by decide) rfl rfl fun ac ww g21 hs => ?_
    refine s_call hs fu159 (.cons (hs.ev rfl) (.cons (hs.ev rfl) .nil)) (ref05_Text 80 [(_, headB d i), (_, tp)] _ (by simp [flat, htl]) _ (RdP.seg (ps := [(_, headB d i), (_, tp)]) (hs.seg (i := 0) rfl) (by show 2 ≤ maxLen; decide) (.cons (RdB.row (hs.get (i := 1) rfl)) (.cons (RdB.row (hs.get (i := 2) rfl)) .nil)))) rfl fun ac ww v22 hf hp hs => ?_
    obtain ⟨qv, rfl, hh⟩ := hp
    rw [show flat [(_, headB d i), (_, tp)] = headB d i ++ tp from by simp [flat]] at hh
    replace hs := hs _ hh
    refine s_q hs (c_assign (hs.ev rfl)) rfl fun ac hs => ?_
    refine s_end ?_
    replace hs := hs.sub (F' := [(4, _)]) ⟨rfl, trivial⟩
    refine then_n ?_
    refine wp_ret ?_
    refine s_ret hs rfl (.tmp (hs.tmp rfl) .nil) rfl ⟨_, rfl, hs.fr, ?_⟩
    exact ⟨_, rfl, (hs.pick (L' := [_]) (.cons_cons _ (.cons _ (.cons _ (.cons _ (.cons _ (.cons _ .slnil))))))).made⟩

end Go.Proofs.Ytmgnnclkjkbmdaa
end

/- What links lead to, as the document has it. -/
section
set_option linter.unusedSimpArgs false
set_option linter.unusedVariables false
set_option maxRecDepth 100000
namespace Go.Proofs.Ytmgnnclkjkbmdaa
open Go Go.Fw

open Sha Ots
-- fingerpostref10.Recover
set_option maxHeartbeats 4000000 in
theorem ref10_Recover (d : Int) (i : UInt32) (m s : List UInt8) (hm : m.length = 16) (hs1 : s.length = 1088) (w : World)  : Ctr Try.prog 38 [.agg #[I d, U i], .agg (m.map B).toArray, .agg (s.map B).toArray] w (fun _ => False) (outE (tupE (.agg ((press d i (rises d i (dgN m) s 68)).map B).toArray) (textsE 34 5 (recTs d i (dgN m) s 68 ++ [pressX d i (rises d i (dgN m) s 68)]))) w) := by
  refine fn_start (N := 48) Try.func38 rfl rfl rfl fun ac hk => ?_
  have hs := St.start hk w
  refine wp_seq ?_
  refine wp_reg ?_
  refine s_box hs rfl rfl rfl fun ac ww g3 hs => ?_
  refine s_box hs rfl rfl rfl fun ac ww g4 hs => ?_
  refine s_box hs rfl rfl rfl fun ac ww g5 hs => ?_
  refine s_alloc hs ty22 rfl fun ac ww g6 hs => ?_
  refine s_q hs (c_assign (hs.ev rfl)) rfl fun ac hs => ?_
  refine s_end ?_
  replace hs := hs.sub (F' := [(3, _), (4, _), (5, _), (6, _), (7, _)]) ⟨rfl, rfl, rfl, rfl, rfl, trivial⟩
  refine then_n ?_
  refine wp_seq ?_
  refine wp_reg ?_
  refine s_q hs (c_loadW ty22 rfl (hs.ev rfl) (hs.seg (i := 2) rfl) (by rw [List.length_map, hm])) rfl fun ac hs => ?_
  refine s_call hs fu40 (.cons (hs.ev rfl) .nil) (ref10_Digits m hm _) rfl fun ac ww v15 hf hp hs => ?_
  obtain rfl := hp
  replace hs := hs [] (.nil _ _)
  refine s_alloc hs ty23 rfl fun ac ww g8 hs => ?_
  refine s_storeW (i := 0) hs ty23 rfl rfl rfl (by simp) (all_map_B _) rfl fun ww hs => ?_
  refine s_end ?_
  replace hs := hs.sub (F' := [(3, _), (5, _), (6, _), (7, _), (8, _)]) ⟨rfl, rfl, rfl, rfl, rfl, trivial⟩
  refine then_n ?_
  refine wp_seq ?_
  refine wp_reg ?_
  refine s_q hs (c_assign (hs.ev rfl)) rfl fun ac hs => ?_
  refine s_end ?_
  replace hs := hs.texts0 34 (Ent.part 5)
  refine then_n ?_
  refine wp_seq ?_
  refine wp_seq ?_
  refine wp_reg ?_
  refine s_q hs (c_assign (hs.ev rfl)) rfl fun ac hs => ?_
  refine s_end ?_
  refine then_n ?_
  refine wp_block ?_
  refine s_loop hs (X := Nat × Value × List (Value × List UInt8)) (fun x => [(9, x.2.1), (10, I x.1)]) [(3, _), (5, _), (6, _), (7, _), (8, _)] (fun x => [.texts 34 (Ent.part 5) x.2.1 x.2.2, _, _, .seg g5 ((rises d i (dgN m) s x.1 ++ s.drop (16 * x.1)).map B) 33, _, _]) (fun n x => x.1 ≤ 68 ∧ n = 68 - x.1 ∧ x.2.2.map (·.2) = recTs d i (dgN m) s x.1) (_) ((0, _, [])) (⟨Nat.zero_le _, rfl, rfl⟩) ⟨rfl, rfl, rfl, rfl, rfl, rfl, rfl, trivial⟩ rfl ?_
  rintro n ⟨k, v, ps⟩ ac ww hok hs
  simp only [List.cons_append, List.nil_append] at hs
  obtain ⟨hk, rfl, hps⟩ := hok
  simp only at hk hps hs
  have hrl := rises_length (d := d) (i := i) (e := dgN m) hs1 hk
  have hpl : ps.length ≤ 3 * k := by have := congrArg List.length hps; rw [List.length_map] at this; rw [this]; exact recTs_length d i (dgN m) s k
  refine wp_seq ?_
  refine wp_seq ?_
  refine wp_reg ?_
  refine s_q hs (c_move (hs.ev rfl)) rfl fun ac hs => ?_
  refine s_q hs (c_lssI (hs.ev rfl) (hs.ev rfl)) rfl fun ac hs => ?_
  refine s_end ?_
  refine then_n ?_
  refine s_cond hs rfl (fun hc => ?_) (fun hc => ?_)
  · try simp only [decide_eq_true_eq, decide_eq_false_iff_not, Bool.not_eq_true', Bool.not_eq_false', Bool.and_eq_true, Bool.or_eq_true, Bool.or_eq_false_iff] at hc
    have hk68 : k < 68 := by omega
    have hcl := chunk_length hs1 hk68
    have hxl : (rise d i (dgN m) s k).length = 16 := rise_length hs1 hk68
    refine wp_skip ?_
    refine then_n ?_
    refine wp_seq ?_
    refine wp_block ?_
    refine wp_seq ?_
    refine wp_region_rgX (jl := 12) pmix 14 (by kernel_rfl) (by decide) rfl rfl rfl rfl rfl rfl (by kernel_rfl) rfl rfl hs ?_
    simp only [List.take_succ_cons, List.take_zero]
    refine rg_q (fun ac ww h => c_loadW ty29 ag29 (h.ev rfl) (h.blk (hs.seg (i := 5) rfl)) (by rfl)) rfl ?_
    refine rg_q (fun ac ww h => c_move (h.ev rfl)) rfl ?_
    refine rg_q (fun ac ww h => c_move (h.ev rfl)) rfl ?_
    refine rg_q (fun ac ww h => c_idxA (j := k) un23 ty5 (h.ev rfl) (h.ev rfl) (by omega) (by omega)) rfl ?_
    refine rg_q (fun ac ww h => c_loadS un5 rfl (h.ev rfl) (h.blk (hs.seg (i := 1) rfl)) ((map_get (l := digits m) 0 (by rw [digits_length]; omega)).trans (by rw [dgt_getD m k hk68]))) rfl ?_
    refine rg_q (fun ac ww h => c_cvBI un5 un3 (h.ev rfl)) rfl ?_
    refine rg_q (fun ac ww h => c_move (h.ev rfl)) rfl ?_
    refine rg_q (fun ac ww h => c_idxA (j := k) un33 ty22 (h.ev rfl) (h.ev rfl) (by omega) (by omega)) rfl ?_
    refine rg_q (fun ac ww h => c_loadA ty22 rfl (h.ev rfl) (h.blk (hs.seg (i := 3) rfl)) (chunk_at' hrl) (by rw [List.length_map, hcl])) rfl ?_
    refine rg_callE (tupE (.agg ((rise d i (dgN m) s k).map B).toArray) (textsE 34 5 (linkTs d i (k : Int) (dgN m k) (chunk s k) (3 - dgN m k)))) (fun _ _ _ _ _ h => h) fu63 (fun ac ww h => ?_) rfl ?_
    · exact ⟨_, .cons (h.ev rfl) (.cons (h.ev rfl) (.cons (h.ev rfl) (.cons (h.ev rfl) (.cons (h.ev rfl) .nil)))), ref10_Run d i (k : Int) (dgN m k) 3 (chunk s k) hcl (Nat.le_refl _) _⟩
    refine rg_moveT rfl rfl rfl ?_
    refine rg_ext0 rfl rfl rfl ?_
    refine rg_ext1 rfl rfl rfl ?_
    refine rg_alloc ty22 rfl ?_
    refine rg_nil fun ac ww L' hf hfe hs hlk => ?_
    simp only [List.drop_succ_cons, List.drop_zero]
    obtain ⟨v11, L11, M11, h11, e11, ⟨v32, L32, M32, h32, e32, ⟨v20, L20, M20, h20, e20, ⟨v30, L30, M30, h30, e30, rfl, rfl⟩, rfl⟩, rfl⟩, rfl⟩ := hfe
    replace hs := hs.add h11
    replace hs := hs.add h32
    replace hs := hs.add h20
    replace hs := hs.add h30
    obtain ⟨g11, rfl, rfl⟩ := e11
    obtain ⟨tv30, rfl, e30⟩ := e30
    obtain ⟨-, rfl⟩ := e20
    obtain rfl := lk_move (j := 10) hlk (by decide) rfl (by kernel_rfl) h20 h30
    obtain ⟨-, rfl⟩ := e32
    obtain rfl := lk_ext (j := 12) hlk (by decide) rfl (by kernel_rfl) h32 h20 rfl
    obtain ⟨ps30, hps30, rfl⟩ := e30
    have hpl30 : ps30.length ≤ 3 := by have := congrArg List.length hps30; rw [List.length_map, linkTs_length] at this; omega
    refine sk_storeW (i := 0) hs ty22 rfl rfl rfl (by rw [List.length_map, hxl]) (all_map_B _) rfl fun ww hs => ?_
    refine s_q hs (c_assign (hs.ev rfl)) rfl fun ac hs => ?_
    refine s_end ?_
    refine then_n ?_
    refine wp_seq ?_
    refine wp_reg ?_
    refine s_q hs (c_move (hs.ev rfl)) rfl fun ac hs => ?_
    refine s_q hs (c_loadW ty22 rfl (hs.ev rfl) (hs.seg (i := 0) rfl) (by rw [List.length_map, hxl])) rfl fun ac hs => ?_
    refine s_q hs (c_idxA (j := k) un33 ty22 (hs.ev rfl) (hs.ev rfl) (by omega) (by omega)) rfl fun ac hs => ?_
    refine s_store (i := 5) hs ty22 rfl rfl rfl rfl (show (List.map B (rise d i (dgN m) s k)).length = 16 by rw [List.length_map, hxl]) (all_map_B _) (by rw [List.length_map, List.length_append, List.length_drop]; omega) (chunk_set hrl) fun ww hs => ?_
    refine s_end ?_
    refine then_n ?_
    refine wp_reg ?_
    refine s_q hs (c_move (hs.ev rfl)) rfl fun ac hs => ?_
    refine s_q hs (c_move (hs.ev rfl)) rfl fun ac hs => ?_
    refine s_appTT (i := 2) (j := 1) hs un30 ty34 rfl rfl rfl rfl rfl (RdP.ones (RdP.texts (hs.get (i := 1) rfl))) (by omega) rfl fun ac ww v38 hs => ?_
    refine s_q hs (c_assign (hs.ev rfl)) rfl fun ac hs => ?_
    refine s_end ?_
    replace hs := hs.pick (L' := [_, _, _, _, _, _]) (.cons _ (.cons _ (.refl _)))
    refine blk_n ?_
    refine then_n ?_
    refine wp_reg ?_
    refine s_q hs (c_move (hs.ev rfl)) rfl fun ac hs => ?_
    refine s_q hs (c_addI (hs.ev rfl) (hs.ev rfl) (by omega) (by omega)) rfl fun ac hs => ?_
    refine s_q hs (c_assign (hs.ev rfl)) rfl fun ac hs => ?_
    refine s_end ?_
    refine then_n ?_
    exact ⟨68 - (k + 1), by (try simp only); omega, (k + 1, _, ps ++ ps30), ⟨by (try simp only); omega, rfl, by simp only [List.map_append]; rw [hps, hps30, recTs_succ]⟩, St.next hs ⟨rfl, rfl, rfl, rfl, rfl, rfl, rfl, trivial⟩ (by rw [rises_succ])⟩
  · try simp only [decide_eq_true_eq, decide_eq_false_iff_not, Bool.not_eq_true', Bool.not_eq_false', Bool.and_eq_true, Bool.or_eq_true, Bool.or_eq_false_iff] at hc
    obtain rfl : k = 68 := by omega
    rw [List.drop_of_length_le (by omega), List.append_nil] at hs
    refine wp_exit ?_
    refine then_e ?_
    refine then_e ?_
    refine blk_hit ?_
    refine then_n ?_
    refine wp_seq ?_
    refine wp_reg ?_
    refine s_q hs (c_loadW ty29 ag29 (hs.ev rfl) (hs.seg (i := 5) rfl) (by rfl)) rfl fun ac hs => ?_
    refine s_q hs (c_loadW ty33 rfl (hs.ev rfl) (hs.seg (i := 3) rfl) (by rw [List.length_map, hrl])) rfl fun ac hs => ?_
    refine s_call hs fu153 (.cons (hs.ev rfl) (.cons (hs.ev rfl) .nil)) (ref10_Press d i (rises d i (dgN m) s 68) hrl _) rfl fun ac ww v41 hf hp hs => ?_
    obtain ⟨L', hv, hh⟩ := hp
    subst hv
    replace hs := hs _ hh
    obtain ⟨qad, qcap, rfl, _, _⟩ := Rd.sl (RdB.row (hs.get (i := 0) rfl))
    refine s_q hs (c_assign (hs.ev rfl)) rfl fun ac hs => ?_
    refine s_end ?_
    replace hs := hs.sub (F' := [(6, _), (7, _), (9, _), (13, _)]) ⟨rfl, rfl, rfl, rfl, trivial⟩
    refine then_n ?_
    refine wp_seq ?_
    refine wp_reg ?_
    refine s_q hs (c_move (hs.ev rfl)) rfl fun ac hs => ?_
    refine s_call hs fu54 (.cons (hs.ev rfl) .nil) (ref06_Of 80 (headB d i ++ rises d i (dgN m) s 68) _ (by simp [hrl]) _ (RdB.row (hs.get (i := 0) rfl))) rfl fun ac ww v43 hf hp hs => ?_
    obtain rfl := hp
    replace hs := hs [] (.nil _ _)
    refine s_q hs (c_move (hs.ev rfl)) rfl fun ac hs => ?_
    refine s_q hs (c_move (hs.ev rfl)) rfl fun ac hs => ?_
    refine s_bslice hs un30 ty34 (.cons (hs.ev rfl) .nil) rfl (by simp [Value.cells]) (by decide) rfl rfl fun ac ww g46 hs => ?_
    refine s_appT (i := 2) (j := 1) hs un30 ty34 rfl rfl rfl rfl rfl (hs.seg (i := 0) rfl) rfl (by omega) rfl fun ac ww v47 hs => ?_
    refine s_storeW (i := 4) hs ty22 rfl rfl rfl (by simp) (all_map_B _) rfl fun ww hs => ?_
    refine s_q hs (c_assign (hs.ev rfl)) rfl fun ac hs => ?_
    refine s_end ?_
    replace hs := hs.sub (F' := [(6, _), (7, _)]) ⟨rfl, rfl, trivial⟩
    refine then_n ?_
    refine wp_ret ?_
    refine s_ret hs rfl (.cell (hs.tmp rfl) (run_loadA ty22 rfl (hs.seg (i := 4) rfl) (List.take_of_length_le (by simp)) (by simp)) (.tmp (hs.tmp rfl) .nil)) rfl ⟨_, rfl, hs.fr, ?_⟩
    exact ⟨_, ⟨_, rfl, _, by rw [List.map_append, hps]; rfl, rfl⟩, (hs.pick (L' := [_]) (.cons _ (.cons _ (.cons_cons _ (.cons _ (.cons _ (.cons _ (.cons _ (.cons _ .slnil))))))))).made⟩

end Go.Proofs.Ytmgnnclkjkbmdaa
end

/- The law of digits. -/
section
set_option linter.unusedSimpArgs false
set_option linter.unusedVariables false
set_option maxRecDepth 100000
namespace Go.Proofs.Ytmgnnclkjkbmdaa
open Go Go.Fw

open Sha Ots
-- fingerpostlaw10.OtsDigits
set_option maxHeartbeats 4000000 in
theorem law_OtsDigits (d : Int) (i : UInt32) (m : List UInt8) (hm : m.length = 16) (w : World)  : Ctr Try.prog 4 [.agg (m.map B).toArray, .agg #[I d, U i]] w (fun _ => False) (fun v _ => v = .bool true) := by
  refine fn_start (N := 55) Try.func4 rfl rfl rfl fun ac hk => ?_
  have hs := St.start hk w
  refine wp_seq ?_
  refine wp_reg ?_
  refine s_box hs rfl rfl rfl fun ac ww g2 hs => ?_
  refine s_box hs rfl rfl rfl fun ac ww g3 hs => ?_
  refine s_q hs (c_assign (hs.ev rfl)) rfl fun ac hs => ?_
  refine s_end ?_
  replace hs := hs.sub (F' := [(2, _), (3, _), (4, _)]) ⟨rfl, rfl, rfl, trivial⟩
  refine then_n ?_
  refine wp_seq ?_
  refine wp_reg ?_
  refine s_q hs (c_loadW ty29 ag29 (hs.ev rfl) (hs.seg (i := 0) rfl) (by rfl)) rfl fun ac hs => ?_
  refine s_q hs (c_loadW ty22 rfl (hs.ev rfl) (hs.seg (i := 1) rfl) (by rw [List.length_map, hm])) rfl fun ac hs => ?_
  refine s_q hs (c_buildA ty33 un33 ty22 (zc := (List.replicate 1088 (0 : UInt8)).map B) (vs := []) .nil (by simp) (by simp [flatCells]) rfl) rfl fun ac hs => ?_
  refine s_call hs fu38 (.cons (hs.ev rfl) (.cons (hs.ev rfl) (.cons (hs.ev rfl) .nil))) (ref10_Recover d i m (List.replicate 1088 (0 : UInt8)) hm (List.length_replicate) _) rfl fun ac ww v14 hf hp hs => ?_
  obtain ⟨L', ⟨tv, rfl, ps, hps, rfl⟩, hh⟩ := hp
  replace hs := hs _ hh
  have hq := RdP.texts (hs.get (i := 0) rfl)
  have hpl := hq.1.le
  obtain ⟨qad, qcap, rfl, hqc, hqm⟩ := hq.sl
  have hall : blkS (ps.map (·.2)) = costN m 68 + 18 := by rw [hps]; exact blkS_all List.length_replicate
  have hcost := costN_le m 68
  refine s_q hs (c_move (hs.ev rfl)) rfl fun ac hs => ?_
  refine s_q hs (c_extract (hs.ev rfl) rfl) rfl fun ac hs => ?_
  refine s_q hs (c_extract (hs.ev rfl) rfl) rfl fun ac hs => ?_
  refine s_alloc hs ty22 rfl fun ac ww g5 hs => ?_
  refine s_storeW (i := 0) hs ty22 rfl rfl rfl (by simp) (all_map_B _) rfl fun ww hs => ?_
  refine s_q hs (c_assign (hs.ev rfl)) rfl fun ac hs => ?_
  refine s_end ?_
  replace hs := hs.sub (F' := [(2, _), (4, _), (6, _)]) ⟨rfl, rfl, rfl, trivial⟩
  refine then_n ?_
  refine wp_seq ?_
  refine wp_reg ?_
  refine s_q hs (c_assign (hs.ev rfl)) rfl fun ac hs => ?_
  refine s_end ?_
  refine then_n ?_
  refine wp_seq ?_
  refine wp_seq ?_
  refine wp_reg ?_
  refine s_q hs (c_move (hs.ev rfl)) rfl fun ac hs => ?_
  refine s_q hs (c_lenS un30 (hs.ev rfl)) rfl fun ac hs => ?_
  refine s_q hs (c_move (hs.ev rfl)) rfl fun ac hs => ?_
  refine s_end ?_
  replace hs := hs.sub (F' := [(2, _), (4, _), (7, _), (17, _), (18, _), (19, _)]) ⟨rfl, rfl, rfl, rfl, rfl, rfl, trivial⟩
  refine then_n ?_
  refine wp_block ?_
  refine s_loop hs (X := Nat) (fun k => [(7, I (blkS ((ps.map (·.2)).take k))), (19, I k)]) [(2, _), (4, _), (17, _), (18, _)] (fun _ => [_, .texts 34 (Ent.part 5) (.slice qad ps.length qcap) ps, _, _]) (fun n k => k ≤ ps.length ∧ n = ps.length - k) (ps.length) (0) (⟨Nat.zero_le _, rfl⟩) ⟨rfl, rfl, rfl, rfl, rfl, rfl, trivial⟩ rfl ?_
  rintro n k ac ww hok hs
  simp only [List.cons_append, List.nil_append] at hs
  obtain ⟨hk, rfl⟩ := hok
  refine wp_seq ?_
  refine wp_reg ?_
  refine s_q hs (c_lssI (hs.ev rfl) (hs.ev rfl)) rfl fun ac hs => ?_
  refine s_end ?_
  refine then_n ?_
  refine wp_seq ?_
  refine s_cond hs rfl (fun hc => ?_) (fun hc => ?_)
  · try simp only [decide_eq_true_eq, decide_eq_false_iff_not, Bool.not_eq_true', Bool.not_eq_false', Bool.and_eq_true, Bool.or_eq_true, Bool.or_eq_false_iff] at hc
    have hkl : k < ps.length := by omega
    have hqw := RdP.texts (hs.get (i := 1) rfl)
    obtain ⟨pb, po, pT, pf, pall, rfl, hpb, hps2⟩ := hqw.at' (by omega)
    have hb1 := blkS_take (ps.map (·.2)) k (by simpa using hkl)
    have hb2 := blkS_take_le (ps.map (·.2)) (k + 1)
    rw [snd_getD ps k hkl] at hb1
    have hbi := blI_nat (ps.getD k (.nilIface, [])).2.length
    have hrk := hqw.get hkl
    have hrl := hrk.le
    refine wp_skip ?_
    refine then_n ?_
    refine wp_seq ?_
    refine wp_block ?_
    refine wp_seq ?_
    refine wp_reg ?_
    refine s_q hs (c_idxS (j := k) un30 ty34 (hs.ev rfl) (hs.ev rfl) (by omega) (by omega)) rfl fun ac hs => ?_
    refine s_q hs (c_loadS un34 rfl (hs.ev rfl) hpb (seg_get (.nilIface, []) hps2 (by omega))) rfl fun ac hs => ?_
    refine s_q hs (c_assign (hs.ev rfl)) rfl fun ac hs => ?_
    refine s_end ?_
    refine then_n ?_
    refine wp_reg ?_
    refine s_q hs (c_move (hs.ev rfl)) rfl fun ac hs => ?_
    refine s_q hs (c_move (hs.ev rfl)) rfl fun ac hs => ?_
    refine s_q hs (c_lenR un34 (hs.ev rfl) hrk) rfl fun ac hs => ?_
    refine s_call hs fu39 (.cons (hs.ev rfl) .nil) (sha_Blocks _ (by omega) (by omega) _) rfl fun ac ww v26 hf hp hs => ?_
    obtain rfl := hp
    replace hs := hs [] (.nil _ _)
    refine s_q hs (c_addI (hs.ev (v := I (blkS ((ps.map (·.2)).take k) : Nat)) rfl) (hs.ev (v := I (blI ((ps.getD k (.nilIface, [])).2.length : Nat))) rfl) (by omega) (by omega)) rfl fun ac hs => ?_
    refine s_q hs (c_assign (hs.ev rfl)) rfl fun ac hs => ?_
    refine s_end ?_
    refine blk_n ?_
    refine then_n ?_
    refine wp_reg ?_
    refine s_q hs (c_addI (hs.ev rfl) (hs.ev rfl) (by omega) (by omega)) rfl fun ac hs => ?_
    refine s_q hs (c_move (hs.ev rfl)) rfl fun ac hs => ?_
    refine s_end ?_
    refine then_n ?_
    exact ⟨ps.length - (k + 1), by omega, k + 1, ⟨by omega, rfl⟩, St.next hs ⟨(congrArg (fun z => some (I z)) (by rw [blI_nat] at *; omega)), rfl, rfl, rfl, rfl, rfl, trivial⟩ rfl⟩
  · try simp only [decide_eq_true_eq, decide_eq_false_iff_not, Bool.not_eq_true', Bool.not_eq_false', Bool.and_eq_true, Bool.or_eq_true, Bool.or_eq_false_iff] at hc
    obtain rfl : k = ps.length := by omega
    rw [List.take_of_length_le (by simp), hall] at hs
    refine wp_exit ?_
    refine then_e ?_
    refine then_e ?_
    refine blk_hit ?_
    refine then_n ?_
    refine wp_seq ?_
    refine wp_region_rg pmix 27 (by kernel_rfl) rfl hs ?_
    simp only [List.take_succ_cons, List.take_zero]
    refine rg_call fu37 (fun ac ww h => .nil) (fun ww hf => law10_awake _) rfl ?_
    refine rg_q (fun ac ww h => c_move (h.ev rfl)) rfl ?_
    refine rg_yes rfl rfl (fun ac ww h => c_loadW ty22 rfl (h.ev rfl) (h.blk (hs.seg (i := 3) rfl)) (by rw [List.length_map, hm])) rfl ?_
    refine rg_strip rfl rfl ?_
    refine rg_call fu36 (fun ac ww h => (.cons (h.ev rfl) .nil)) (fun ww hf => ots_Digits m hm ww) rfl ?_
    refine rg_yes rfl rfl (fun ac ww h => c_loadW ty22 rfl (h.ev rfl) (h.blk (hs.seg (i := 3) rfl)) (by rw [List.length_map, hm])) rfl ?_
    refine rg_strip rfl rfl ?_
    refine rg_call fu40 (fun ac ww h => (.cons (h.ev rfl) .nil)) (fun ww hf => ref10_Digits m hm ww) rfl ?_
    refine rg_yes rfl rfl (fun ac ww h => c_tt (c_eqlAB un23 ty5 eg23 (h.ev rfl) (h.ev rfl) (digits_length m) (digits_length m)) (by simp)) rfl ?_
    refine rg_q (fun ac ww h => c_pick (h.ev rfl) (h.ev rfl) (h.ev rfl)) rfl ?_
    refine rg_q (fun ac ww h => c_move (h.ev rfl)) rfl ?_
    refine rg_yes rfl rfl (fun ac ww h => c_loadW ty22 rfl (h.ev rfl) (h.blk (hs.seg (i := 3) rfl)) (by rw [List.length_map, hm])) rfl ?_
    refine rg_strip rfl rfl ?_
    refine rg_call fu41 (fun ac ww h => (.cons (h.ev rfl) .nil)) (fun ww hf => ots_Cost m hm ww) rfl ?_
    refine rg_yes rfl rfl (fun ac ww h => c_loadW ty22 rfl (h.ev rfl) (h.blk (hs.seg (i := 3) rfl)) (by rw [List.length_map, hm])) rfl ?_
    refine rg_strip rfl rfl ?_
    refine rg_call fu42 (fun ac ww h => (.cons (h.ev rfl) .nil)) (fun ww hf => ref10_Cost m hm ww) rfl ?_
    refine rg_yes rfl rfl (fun ac ww h => c_tt (c_eqlI (h.ev rfl) (h.ev rfl)) (by simp)) rfl ?_
    refine rg_q (fun ac ww h => c_pick (h.ev rfl) (h.ev rfl) (h.ev rfl)) rfl ?_
    refine rg_q (fun ac ww h => c_move (h.ev rfl)) rfl ?_
    refine rg_yes rfl rfl (fun ac ww h => c_loadW ty22 rfl (h.ev rfl) (h.blk (hs.seg (i := 3) rfl)) (by rw [List.length_map, hm])) rfl ?_
    refine rg_strip rfl rfl ?_
    refine rg_call fu41 (fun ac ww h => (.cons (h.ev rfl) .nil)) (fun ww hf => ots_Cost m hm ww) rfl ?_
    refine rg_yes rfl rfl (fun ac ww h => c_tt (c_leqI (h.ev rfl) (h.ev rfl)) (by simp; omega)) rfl ?_
    refine rg_q (fun ac ww h => c_pick (h.ev rfl) (h.ev rfl) (h.ev rfl)) rfl ?_
    refine rg_q (fun ac ww h => c_move (h.ev rfl)) rfl ?_
    refine rg_yes rfl rfl (fun ac ww h => c_move (h.ev rfl)) rfl ?_
    refine rg_yes rfl rfl (fun ac ww h => c_loadW ty22 rfl (h.ev rfl) (h.blk (hs.seg (i := 3) rfl)) (by rw [List.length_map, hm])) rfl ?_
    refine rg_strip rfl rfl ?_
    refine rg_call fu41 (fun ac ww h => (.cons (h.ev rfl) .nil)) (fun ww hf => ots_Cost m hm ww) rfl ?_
    refine rg_yes rfl rfl (fun ac ww h => c_tt (c_eqlI (h.ev rfl) (h.ev rfl)) (by simp)) rfl ?_
    refine rg_q (fun ac ww h => c_pick (h.ev rfl) (h.ev rfl) (h.ev rfl)) rfl ?_
    refine rg_q (fun ac ww h => c_assign (h.ev rfl)) rfl ?_
    refine rg_nil fun ac ww L' hf hfe hs => ?_
    simp only [List.drop_succ_cons, List.drop_zero]
    obtain rfl : L' = [] := hfe
    replace hs := hs.toL (List.nil_append _)
    refine s_end ?_
    replace hs := hs.sub (F' := [(4, _)]) ⟨rfl, trivial⟩
    refine then_n ?_
    refine wp_ret ?_
    refine s_ret hs rfl (.tmp (hs.tmp rfl) .nil) rfl ⟨_, rfl, hs.fr, ?_⟩
    rfl

end Go.Proofs.Ytmgnnclkjkbmdaa
end

/- Runs, what signatures lead to. -/
section
set_option linter.unusedSimpArgs false
set_option linter.unusedVariables false
set_option maxRecDepth 100000
namespace Go.Proofs.Ytmgnnclkjkbmdaa
open Go Go.Fw

open Sha Ots
-- ots.run
set_option maxHeartbeats 4000000 in
theorem ots_run (d : Int) (i : UInt32) (ch : Int) (fr to : Nat) (s : List UInt8) (hsl : s.length = 16) (hto : to ≤ 3) (w : World)  : Ctr Try.prog 162 [.agg #[I d, U i], I ch, I fr, I to, .agg (s.map B).toArray] w (fun _ => False) (fun v _ => v = .agg ((linkN d i ch fr s (to - fr)).map B).toArray) := by
  refine fn_start (N := 24) Try.func162 rfl rfl rfl fun ac hk => ?_
  have hs := St.start hk w
  refine wp_seq ?_
  refine wp_reg ?_
  refine s_box hs rfl rfl rfl fun ac ww g5 hs => ?_
  refine s_box hs rfl rfl rfl fun ac ww g9 hs => ?_
  refine s_alloc hs ty54 rfl fun ac ww g10 hs => ?_
  refine s_end ?_
  replace hs := hs.sub (F' := [(1, _), (2, _), (3, _), (5, _), (9, _), (10, _)]) ⟨rfl, rfl, rfl, rfl, rfl, rfl, trivial⟩
  refine then_n ?_
  refine wp_seq ?_
  refine wp_seq ?_
  refine wp_reg ?_
  refine s_q hs (c_move (hs.ev rfl)) rfl fun ac hs => ?_
  refine s_q hs (c_assign (hs.ev rfl)) rfl fun ac hs => ?_
  refine s_end ?_
  replace hs := hs.sub (F' := [(1, _), (3, _), (5, _), (9, _), (10, _), (11, _)]) ⟨rfl, rfl, rfl, rfl, rfl, rfl, trivial⟩
  refine then_n ?_
  refine wp_block ?_
  refine s_loop hs (X := Nat) (fun k => [(11, I ((fr + k : Nat) : Int))]) [(1, _), (3, _), (5, _), (9, _), (10, _)] (fun k => [_, .seg g9 ((linkN d i ch fr s k).map B) 54, _]) (fun n k => k ≤ to - fr ∧ n = to - fr - k) (_) (0) (⟨Nat.zero_le _, rfl⟩) ⟨rfl, rfl, rfl, rfl, rfl, rfl, trivial⟩ rfl ?_
  rintro n k ac ww hok hs
  simp only [List.cons_append, List.nil_append] at hs
  obtain ⟨hk, rfl⟩ := hok
  have hlk := linkN_length (d := d) (i := i) (ch := ch) (st := fr) hsl k
  refine wp_seq ?_
  refine wp_seq ?_
  refine wp_reg ?_
  refine s_q hs (c_move (hs.ev rfl)) rfl fun ac hs => ?_
  refine s_q hs (c_move (hs.ev rfl)) rfl fun ac hs => ?_
  refine s_q hs (c_lssI (hs.ev rfl) (hs.ev rfl)) rfl fun ac hs => ?_
  refine s_end ?_
  refine then_n ?_
  refine s_cond hs rfl (fun hc => ?_) (fun hc => ?_)
  · try simp only [decide_eq_true_eq, decide_eq_false_iff_not, Bool.not_eq_true', Bool.not_eq_false', Bool.and_eq_true, Bool.or_eq_true, Bool.or_eq_false_iff] at hc
    refine wp_skip ?_
    refine then_n ?_
    refine wp_seq ?_
    refine wp_block ?_
    refine wp_reg ?_
    refine s_q hs (c_loadW ty56 ag56 (hs.ev rfl) (hs.seg (i := 2) rfl) (by rfl)) rfl fun ac hs => ?_
    refine s_q hs (c_move (hs.ev rfl)) rfl fun ac hs => ?_
    refine s_q hs (c_move (hs.ev rfl)) rfl fun ac hs => ?_
    refine s_q hs (c_loadW ty54 rfl (hs.ev rfl) (hs.seg (i := 1) rfl) (by rw [List.length_map, hlk])) rfl fun ac hs => ?_
    refine s_call hs fu52 (.cons (hs.ev rfl) (.cons (hs.ev rfl) (.cons (hs.ev rfl) (.cons (hs.ev rfl) .nil)))) (ots_Link d i ch ((fr + k : Nat) : Int) (linkN d i ch fr s k) hlk _) rfl fun ac ww v22 hf hp hs => ?_
    obtain rfl := hp
    replace hs := hs [] (.nil _ _)
    refine s_storeW (i := 1) hs ty54 rfl rfl rfl (by simp) (all_map_B _) (by rw [List.length_map, hlk]) fun ww hs => ?_
    refine s_end ?_
    refine blk_n ?_
    refine then_n ?_
    refine wp_reg ?_
    refine s_q hs (c_move (hs.ev rfl)) rfl fun ac hs => ?_
    refine s_q hs (c_addI (hs.ev rfl) (hs.ev rfl) (by omega) (by omega)) rfl fun ac hs => ?_
    refine s_q hs (c_assign (hs.ev rfl)) rfl fun ac hs => ?_
    refine s_end ?_
    refine then_n ?_
    exact ⟨to - fr - (k + 1), by (try simp only); omega, k + 1, ⟨by (try simp only); omega, rfl⟩, St.next hs ⟨(congrArg (fun z => some (I z)) (by omega)), rfl, rfl, rfl, rfl, rfl, trivial⟩ rfl⟩
  · try simp only [decide_eq_true_eq, decide_eq_false_iff_not, Bool.not_eq_true', Bool.not_eq_false', Bool.and_eq_true, Bool.or_eq_true, Bool.or_eq_false_iff] at hc
    have hkf : k = to - fr := by omega
    subst hkf
    refine wp_exit ?_
    refine then_e ?_
    refine then_e ?_
    refine blk_hit ?_
    refine then_n ?_
    refine wp_seq ?_
    refine wp_reg ?_
    refine s_q hs (c_loadW ty54 rfl (hs.ev rfl) (hs.seg (i := 1) rfl) (by rw [List.length_map, hlk])) rfl fun ac hs => ?_
    refine s_storeW (i := 0) hs ty54 rfl rfl rfl (by rw [List.length_map, hlk]) (all_map_B _) rfl fun ww hs => ?_
    refine s_end ?_
    replace hs := hs.sub (F' := [(10, _)]) ⟨rfl, trivial⟩
    refine then_n ?_
    refine wp_ret ?_
    refine s_ret hs rfl (.cell (hs.tmp rfl) (run_loadA ty54 rfl (hs.seg (i := 0) rfl) (List.take_of_length_le (by simp [hlk])) (by simp [hlk])) .nil) rfl ⟨_, rfl, hs.fr, ?_⟩
    rfl

-- ots.press
set_option maxHeartbeats 4000000 in
theorem ots_press (d : Int) (i : UInt32) (tp : List UInt8) (htl : tp.length = 1088) (w : World)  : Ctr Try.prog 163 [.agg #[I d, U i], .agg (tp.map B).toArray] w (fun _ => False) (fun v _ => v = .agg ((press d i tp).map B).toArray) := by
  refine fn_start (N := 22) Try.func163 rfl rfl rfl fun ac hk => ?_
  have hs := St.start hk w
  refine wp_seq ?_
  refine wp_reg ?_
  refine s_box hs rfl rfl rfl fun ac ww g2 hs => ?_
  refine s_box hs rfl rfl rfl fun ac ww g3 hs => ?_
  refine s_alloc hs ty54 rfl fun ac ww g4 hs => ?_
  refine s_end ?_
  replace hs := hs.sub (F' := [(2, _), (3, _), (4, _)]) ⟨rfl, rfl, rfl, trivial⟩
  refine then_n ?_
  refine wp_seq ?_
  refine wp_reg ?_
  refine s_makeC (m := 1088) hs un34 ty5 rfl rfl rfl rfl (by decide) (by decide) rfl fun ac ww g8 hs => ?_
  refine s_q hs (c_assign (hs.ev rfl)) rfl fun ac hs => ?_
  refine s_end ?_
  replace hs := hs.sub (F' := [(2, _), (3, _), (4, _), (5, _)]) ⟨rfl, rfl, rfl, rfl, trivial⟩
  refine then_n ?_
  refine wp_seq ?_
  refine wp_seq ?_
  refine wp_reg ?_
  refine s_q hs (c_loadW ty70 rfl (hs.ev rfl) (hs.seg (i := 2) rfl) (by rw [List.length_map, htl])) rfl fun ac hs => ?_
  refine s_q hs (c_move (hs.ev rfl)) rfl fun ac hs => ?_
  refine s_end ?_
  replace hs := hs.sub (F' := [(2, _), (4, _), (5, _), (9, _), (10, _)]) ⟨rfl, rfl, rfl, rfl, rfl, trivial⟩
  refine then_n ?_
  refine wp_block ?_
  refine s_loop hs (X := Nat × Value) (fun x => [(5, x.2), (10, I x.1)]) [(2, _), (4, _), (9, _)] (fun x => [.row x.2 (tp.take (16 * x.1)).length ((tp.take (16 * x.1)).map B) 5 1, _, _, _]) (fun n x => x.1 ≤ 68 ∧ n = 68 - x.1) (_) ((0, _)) (⟨Nat.zero_le _, rfl⟩) ⟨rfl, rfl, rfl, rfl, rfl, trivial⟩ rfl ?_
  rintro n ⟨k, v⟩ ac ww hok hs
  simp only [List.cons_append, List.nil_append] at hs
  obtain ⟨hk, rfl⟩ := hok
  simp only at hk hs
  refine wp_seq ?_
  refine wp_reg ?_
  refine s_q hs (c_lssI (hs.ev rfl) (hs.ev rfl)) rfl fun ac hs => ?_
  refine s_end ?_
  refine then_n ?_
  refine wp_seq ?_
  refine s_cond hs rfl (fun hc => ?_) (fun hc => ?_)
  · try simp only [decide_eq_true_eq, decide_eq_false_iff_not, Bool.not_eq_true', Bool.not_eq_false', Bool.and_eq_true, Bool.or_eq_true, Bool.or_eq_false_iff] at hc
    have hk68 : k < 68 := by omega
    have hcl := chunk_length htl hk68
    refine wp_skip ?_
    refine then_n ?_
    refine wp_seq ?_
    refine wp_block ?_
    refine wp_seq ?_
    refine wp_reg ?_
    refine s_q hs (c_idxSA (j := k) un70 ty54 rfl (hs.ev rfl) (hs.ev rfl) (by omega) (by omega) (chunk_at tp k)) rfl fun ac hs => ?_
    refine s_alloc hs ty54 rfl fun ac ww g7 hs => ?_
    refine s_storeW (i := 0) hs ty54 rfl rfl rfl (by rw [List.length_map, hcl]) (all_map_B _) rfl fun ww hs => ?_
    refine s_end ?_
    refine then_n ?_
    refine wp_reg ?_
    refine s_q hs (c_move (hs.ev rfl)) rfl fun ac hs => ?_
    refine s_q hs (c_sliceA un54 ty5 (hs.ev rfl)) rfl fun ac hs => ?_
    refine s_appB (i := 1) hs un34 ty5 rfl rfl rfl (RdB.segn (hs.seg (i := 0) rfl) hcl (by decide)) (by rw [List.length_take]; omega) rfl fun ac ww v15 hf hnil hs => ?_
    refine s_q hs (c_assign (hs.ev rfl)) rfl fun ac hs => ?_
    refine s_end ?_
    refine blk_n ?_
    refine then_n ?_
    refine wp_reg ?_
    refine s_q hs (c_addI (hs.ev rfl) (hs.ev rfl) (by omega) (by omega)) rfl fun ac hs => ?_
    refine s_q hs (c_move (hs.ev rfl)) rfl fun ac hs => ?_
    refine s_end ?_
    refine then_n ?_
    replace hs := hs.pick (L' := [_, _, _, _]) (.cons _ (.refl _))
    exact ⟨68 - (k + 1), by (try simp only); omega, (k + 1, _), ⟨by (try simp only); omega, rfl⟩, St.next hs ⟨rfl, rfl, rfl, rfl, rfl, trivial⟩ (by rw [take_chunk])⟩
  · try simp only [decide_eq_true_eq, decide_eq_false_iff_not, Bool.not_eq_true', Bool.not_eq_false', Bool.and_eq_true, Bool.or_eq_true, Bool.or_eq_false_iff] at hc
    obtain rfl : k = 68 := by omega
    rw [List.take_of_length_le (by omega)] at hs
    obtain ⟨vad, vcap, rfl, _, _⟩ := Rd.sl (RdB.row (hs.get (i := 0) rfl))
    refine wp_exit ?_
    refine then_e ?_
    refine then_e ?_
    refine blk_hit ?_
    refine then_n ?_
    refine wp_seq ?_
    refine wp_reg ?_
    refine s_q hs (c_loadW ty56 ag56 (hs.ev rfl) (hs.seg (i := 3) rfl) (by rfl)) rfl fun ac hs => ?_
    refine s_call hs fu158 (.cons (hs.ev rfl) .nil) (ots_head d i _) rfl fun ac ww v18 hf hp hs => ?_
    obtain ⟨L', ⟨gh, rfl, rfl⟩, hh⟩ := hp
    replace hs := hs _ hh
    refine s_q hs (c_move (hs.ev rfl)) rfl fun ac hs => ?_
    refine s_bslice hs un30 ty34 (.cons (hs.ev rfl) (.cons (hs.ev rfl) .nil)) rfl (by simp [Value.cells]) (by decide) rfl rfl fun ac ww g20 hs => ?_
    refine s_call hs fu91 (.cons (hs.ev rfl) (.cons (hs.ev rfl) .nil)) (mac_Short 80 [(_, headB d i), (_, tp)] _ (by simp [flat, htl]) _ (RdP.seg (ps := [(_, headB d i), (_, tp)]) (hs.seg (i := 0) rfl) (by show 2 ≤ maxLen; decide) (.cons (RdB.seg (hs.seg (i := 1) rfl) (by rw [headB_length]; decide)) (.cons (RdB.row (hs.get (i := 2) rfl)) .nil)))) rfl fun ac ww v21 hf hp hs => ?_
    obtain rfl := hp
    replace hs := hs [] (.nil _ _)
    refine s_storeW (i := 3) hs ty54 rfl rfl rfl (by simp) (all_map_B _) (by simp) fun ww hs => ?_
    refine s_end ?_
    replace hs := hs.sub (F' := [(4, _)]) ⟨rfl, trivial⟩
    refine then_n ?_
    refine wp_ret ?_
    refine s_ret hs rfl (.cell (hs.tmp rfl) (run_loadA ty54 rfl (hs.seg (i := 3) rfl) (List.take_of_length_le (by simp)) (by simp)) .nil) rfl ⟨_, rfl, hs.fr, ?_⟩
    show Value.agg _ = Value.agg _
    rw [show flat [(_, headB d i), (_, tp)] = headB d i ++ tp from by simp [flat]]
    rfl

-- ots.Recover
set_option maxHeartbeats 4000000 in
theorem ots_Recover (d : Int) (i : UInt32) (m s : List UInt8) (hm : m.length = 16) (hs1 : s.length = 1088) (w : World)  : Ctr Try.prog 60 [.agg #[I d, U i], .agg (m.map B).toArray, .agg (s.map B).toArray] w (fun _ => False) (fun v _ => v = .agg ((press d i (rises d i (dgN m) s 68)).map B).toArray) := by
  refine fn_start (N := 29) Try.func60 rfl rfl rfl fun ac hk => ?_
  have hs := St.start hk w
  refine wp_seq ?_
  refine wp_reg ?_
  refine s_box hs rfl rfl rfl fun ac ww g3 hs => ?_
  refine s_box hs rfl rfl rfl fun ac ww g4 hs => ?_
  refine s_box hs rfl rfl rfl fun ac ww g5 hs => ?_
  refine s_alloc hs ty54 rfl fun ac ww g6 hs => ?_
  refine s_end ?_
  replace hs := hs.sub (F' := [(3, _), (4, _), (5, _), (6, _)]) ⟨rfl, rfl, rfl, rfl, trivial⟩
  refine then_n ?_
  refine wp_seq ?_
  refine wp_seq ?_
  refine wp_reg ?_
  refine s_q hs (c_loadW ty54 rfl (hs.ev rfl) (hs.seg (i := 2) rfl) (by rw [List.length_map, hm])) rfl fun ac hs => ?_
  refine s_call hs fu36 (.cons (hs.ev rfl) .nil) (ots_Digits m hm _) rfl fun ac ww v10 hf hp hs => ?_
  obtain rfl := hp
  replace hs := hs [] (.nil _ _)
  refine s_q hs (c_move (hs.ev rfl)) rfl fun ac hs => ?_
  refine s_end ?_
  replace hs := hs.sub (F' := [(3, _), (5, _), (6, _), (10, _), (11, _)]) ⟨rfl, rfl, rfl, rfl, rfl, trivial⟩
  refine then_n ?_
  refine wp_block ?_
  refine s_loop hs (X := Nat) (fun k => [(11, I k)]) [(3, _), (5, _), (6, _), (10, _)] (fun k => [_, .seg g5 ((rises d i (dgN m) s k ++ s.drop (16 * k)).map B) 70, _, _]) (fun n k => k ≤ 68 ∧ n = 68 - k) (_) (0) (⟨Nat.zero_le _, rfl⟩) ⟨rfl, rfl, rfl, rfl, rfl, trivial⟩ rfl ?_
  rintro n k ac ww hok hs
  simp only [List.cons_append, List.nil_append] at hs
  obtain ⟨hk, rfl⟩ := hok
  have hrl := rises_length (d := d) (i := i) (e := dgN m) hs1 hk
  refine wp_seq ?_
  refine wp_reg ?_
  refine s_q hs (c_lssI (hs.ev rfl) (hs.ev rfl)) rfl fun ac hs => ?_
  refine s_end ?_
  refine then_n ?_
  refine wp_seq ?_
  refine s_cond hs rfl (fun hc => ?_) (fun hc => ?_)
  · try simp only [decide_eq_true_eq, decide_eq_false_iff_not, Bool.not_eq_true', Bool.not_eq_false', Bool.and_eq_true, Bool.or_eq_true, Bool.or_eq_false_iff] at hc
    have hk68 : k < 68 := by omega
    have hcl := chunk_length hs1 hk68
    have hxl : (rise d i (dgN m) s k).length = 16 := rise_length hs1 hk68
    refine wp_skip ?_
    refine then_n ?_
    refine wp_seq ?_
    refine wp_block ?_
    refine wp_seq ?_
    refine wp_reg ?_
    refine s_q hs (c_move (hs.ev rfl)) rfl fun ac hs => ?_
    refine s_q hs (c_idxS1 (j := k) un23 ty5 rfl (hs.ev rfl) (hs.ev rfl) (by omega) (by omega) ((arr_get (l := digits m) 0 (by rw [digits_length]; omega)).trans (by rw [dgt_getD m k hk68]))) rfl fun ac hs => ?_
    refine s_q hs (c_assign (hs.ev rfl)) rfl fun ac hs => ?_
    refine s_q hs (c_assign (hs.ev rfl)) rfl fun ac hs => ?_
    refine s_end ?_
    refine then_n ?_
    refine wp_region_rg pmix 9 (by kernel_rfl) rfl hs ?_
    simp only [List.take_succ_cons, List.take_zero]
    refine rg_q (fun ac ww h => c_move (h.ev rfl)) rfl ?_
    refine rg_q (fun ac ww h => c_loadW ty56 ag56 (h.ev rfl) (h.blk (hs.seg (i := 3) rfl)) (by rfl)) rfl ?_
    refine rg_q (fun ac ww h => c_move (h.ev rfl)) rfl ?_
    refine rg_q (fun ac ww h => c_move (h.ev rfl)) rfl ?_
    refine rg_q (fun ac ww h => c_cvBI un5 un3 (h.ev rfl)) rfl ?_
    refine rg_q (fun ac ww h => c_move (h.ev rfl)) rfl ?_
    refine rg_q (fun ac ww h => c_idxA (j := k) un70 ty54 (h.ev rfl) (h.ev rfl) (by omega) (by omega)) rfl ?_
    refine rg_q (fun ac ww h => c_loadA ty54 rfl (h.ev rfl) (h.blk (hs.seg (i := 1) rfl)) (chunk_at' hrl) (by rw [List.length_map, hcl])) rfl ?_
    refine rg_call fu162 (fun ac ww h => (.cons (h.ev rfl) (.cons (h.ev rfl) (.cons (h.ev rfl) (.cons (h.ev rfl) (.cons (h.ev rfl) .nil)))))) (fun ww hf => ots_run d i (k : Int) (dgN m k) 3 (chunk s k) hcl (Nat.le_refl _) ww) rfl ?_
    refine rg_nil fun ac ww L' hf hfe hs => ?_
    simp only [List.drop_succ_cons, List.drop_zero]
    obtain rfl : L' = [] := hfe
    replace hs := hs.toL (List.nil_append _)
    refine s_q hs (c_idxA (j := k) un70 ty54 (hs.ev rfl) (hs.ev rfl) (by omega) (by omega)) rfl fun ac hs => ?_
    refine s_store (i := 1) hs ty54 rfl rfl rfl rfl (show (List.map B (rise d i (dgN m) s k)).length = 16 by rw [List.length_map, hxl]) (all_map_B _) (by rw [List.length_map, List.length_append, List.length_drop]; omega) (chunk_set hrl) fun ww hs => ?_
    refine s_end ?_
    refine blk_n ?_
    refine then_n ?_
    refine wp_reg ?_
    refine s_q hs (c_addI (hs.ev rfl) (hs.ev rfl) (by omega) (by omega)) rfl fun ac hs => ?_
    refine s_q hs (c_move (hs.ev rfl)) rfl fun ac hs => ?_
    refine s_end ?_
    refine then_n ?_
    exact ⟨68 - (k + 1), by omega, k + 1, ⟨by omega, rfl⟩, St.next hs ⟨rfl, rfl, rfl, rfl, rfl, trivial⟩ (by rw [rises_succ]; rfl)⟩
  · try simp only [decide_eq_true_eq, decide_eq_false_iff_not, Bool.not_eq_true', Bool.not_eq_false', Bool.and_eq_true, Bool.or_eq_true, Bool.or_eq_false_iff] at hc
    obtain rfl : k = 68 := by omega
    rw [List.drop_of_length_le (by omega), List.append_nil] at hs
    refine wp_exit ?_
    refine then_e ?_
    refine then_e ?_
    refine blk_hit ?_
    refine then_n ?_
    refine wp_seq ?_
    refine wp_reg ?_
    refine s_q hs (c_loadW ty56 ag56 (hs.ev rfl) (hs.seg (i := 3) rfl) (by rfl)) rfl fun ac hs => ?_
    refine s_q hs (c_loadW ty70 rfl (hs.ev rfl) (hs.seg (i := 1) rfl) (by rw [List.length_map, hrl])) rfl fun ac hs => ?_
    refine s_call hs fu163 (.cons (hs.ev rfl) (.cons (hs.ev rfl) .nil)) (ots_press d i (rises d i (dgN m) s 68) hrl _) rfl fun ac ww v28 hf hp hs => ?_
    obtain rfl := hp
    replace hs := hs [] (.nil _ _)
    refine s_storeW (i := 0) hs ty54 rfl rfl rfl (by simp) (all_map_B _) (by simp) fun ww hs => ?_
    refine s_end ?_
    replace hs := hs.sub (F' := [(6, _)]) ⟨rfl, trivial⟩
    refine then_n ?_
    refine wp_ret ?_
    refine s_ret hs rfl (.cell (hs.tmp rfl) (run_loadA ty54 rfl (hs.seg (i := 0) rfl) (List.take_of_length_le (by simp)) (by simp)) .nil) rfl ⟨_, rfl, hs.fr, ?_⟩
    rfl

-- fingerpostlaw10.ToSig
set_option maxHeartbeats 4000000 in
theorem law10_ToSig (s : List UInt8) (hs1 : s.length = 1088) (w : World)  : Ctr Try.prog 61 [.agg (s.map B).toArray] w (fun _ => False) (fun v _ => v = .agg (s.map B).toArray) := by
  refine fn_start (N := 15) Try.func61 rfl rfl rfl fun ac hk => ?_
  have hs := St.start hk w
  refine wp_seq ?_
  refine wp_reg ?_
  refine s_box hs rfl rfl rfl fun ac ww g1 hs => ?_
  refine s_alloc hs ty70 rfl fun ac ww g2 hs => ?_
  refine s_end ?_
  replace hs := hs.sub (F' := [(1, _), (2, _)]) ⟨rfl, rfl, trivial⟩
  refine then_n ?_
  refine wp_seq ?_
  refine wp_reg ?_
  refine s_alloc hs ty70 rfl fun ac ww g3 hs => ?_
  refine s_end ?_
  refine then_n ?_
  refine wp_seq ?_
  refine wp_seq ?_
  refine wp_reg ?_
  refine s_q hs (c_move (hs.ev rfl)) rfl fun ac hs => ?_
  refine s_end ?_
  refine then_n ?_
  refine wp_block ?_
  refine s_loop hs (X := Nat) (fun k => [(5, I k)]) [(1, _), (2, _), (3, _)] (fun k => [.seg g3 ((s.take (16 * k) ++ (List.replicate 1088 (0 : UInt8)).drop (16 * k)).map B) 70, _, _]) (fun n k => k ≤ 68 ∧ n = 68 - k) (_) (0) (⟨Nat.zero_le _, rfl⟩) ⟨rfl, rfl, rfl, rfl, trivial⟩ rfl ?_
  rintro n k ac ww hok hs
  simp only [List.cons_append, List.nil_append] at hs
  obtain ⟨hk, rfl⟩ := hok
  have htk : (s.take (16 * k)).length = 16 * k := by rw [List.length_take]; omega
  refine wp_seq ?_
  refine wp_reg ?_
  refine s_q hs (c_lssI (hs.ev rfl) (hs.ev rfl)) rfl fun ac hs => ?_
  refine s_end ?_
  refine then_n ?_
  refine wp_seq ?_
  refine s_cond hs rfl (fun hc => ?_) (fun hc => ?_)
  · try simp only [decide_eq_true_eq, decide_eq_false_iff_not, Bool.not_eq_true', Bool.not_eq_false', Bool.and_eq_true, Bool.or_eq_true, Bool.or_eq_false_iff] at hc
    have hk68 : k < 68 := by omega
    have hcl := chunk_length hs1 hk68
    refine wp_skip ?_
    refine then_n ?_
    refine wp_seq ?_
    refine wp_block ?_
    refine wp_seq ?_
    refine wp_reg ?_
    refine s_q hs (c_move (hs.ev rfl)) rfl fun ac hs => ?_
    refine s_q hs (c_assign (hs.ev rfl)) rfl fun ac hs => ?_
    refine s_end ?_
    refine then_n ?_
    refine wp_reg ?_
    refine s_q hs (c_move (hs.ev rfl)) rfl fun ac hs => ?_
    refine s_q hs (c_move (hs.ev rfl)) rfl fun ac hs => ?_
    refine s_q hs (c_idxA (j := k) un33 ty22 (hs.ev rfl) (hs.ev rfl) (by omega) (by omega)) rfl fun ac hs => ?_
    refine s_q hs (c_loadA ty22 rfl (hs.ev rfl) (hs.seg (i := 2) rfl) (chunk_at s k) (by rw [List.length_map, hcl])) rfl fun ac hs => ?_
    refine s_q hs (c_idxA (j := k) un70 ty54 (hs.ev rfl) (hs.ev rfl) (by omega) (by omega)) rfl fun ac hs => ?_
    refine s_store (i := 0) hs ty54 rfl rfl rfl rfl (show (List.map B (chunk s k)).length = 16 by rw [List.length_map, hcl]) (all_map_B _) (by rw [List.length_map, List.length_append, List.length_drop, List.length_replicate]; omega) (chunk_set htk) fun ww hs => ?_
    refine s_end ?_
    refine blk_n ?_
    refine then_n ?_
    refine wp_reg ?_
    refine s_q hs (c_addI (hs.ev rfl) (hs.ev rfl) (by omega) (by omega)) rfl fun ac hs => ?_
    refine s_q hs (c_move (hs.ev rfl)) rfl fun ac hs => ?_
    refine s_end ?_
    refine then_n ?_
    exact ⟨68 - (k + 1), by omega, k + 1, ⟨by omega, rfl⟩, St.next hs ⟨rfl, rfl, rfl, rfl, trivial⟩ (by rw [take_chunk]; rfl)⟩
  · try simp only [decide_eq_true_eq, decide_eq_false_iff_not, Bool.not_eq_true', Bool.not_eq_false', Bool.and_eq_true, Bool.or_eq_true, Bool.or_eq_false_iff] at hc
    obtain rfl : k = 68 := by omega
    rw [List.drop_of_length_le (by simp), List.append_nil, List.take_of_length_le (by omega)] at hs
    refine wp_exit ?_
    refine then_e ?_
    refine then_e ?_
    refine blk_hit ?_
    refine then_n ?_
    refine wp_seq ?_
    refine wp_reg ?_
    refine s_q hs (c_loadW ty70 rfl (hs.ev rfl) (hs.seg (i := 0) rfl) (by rw [List.length_map, hs1])) rfl fun ac hs => ?_
    refine s_storeW (i := 1) hs ty70 rfl rfl rfl (by rw [List.length_map, hs1]) (all_map_B _) rfl fun ww hs => ?_
    refine s_end ?_
    replace hs := hs.sub (F' := [(2, _)]) ⟨rfl, trivial⟩
    refine then_n ?_
    refine wp_ret ?_
    refine s_ret hs rfl (.cell (hs.tmp rfl) (run_loadA ty70 rfl (hs.seg (i := 1) rfl) (List.take_of_length_le (by simp [hs1])) (by simp [hs1])) .nil) rfl ⟨_, rfl, hs.fr, ?_⟩
    rfl

-- fingerpostlaw10.From
set_option maxHeartbeats 4000000 in
theorem law10_From (s : List UInt8) (hs1 : s.length = 1088) (w : World)  : Ctr Try.prog 125 [.agg (s.map B).toArray] w (fun _ => False) (fun v _ => v = .agg (s.map B).toArray) := by
  refine fn_start (N := 15) Try.func125 rfl rfl rfl fun ac hk => ?_
  have hs := St.start hk w
  refine wp_seq ?_
  refine wp_reg ?_
  refine s_box hs rfl rfl rfl fun ac ww g1 hs => ?_
  refine s_alloc hs ty33 rfl fun ac ww g2 hs => ?_
  refine s_end ?_
  replace hs := hs.sub (F' := [(1, _), (2, _)]) ⟨rfl, rfl, trivial⟩
  refine then_n ?_
  refine wp_seq ?_
  refine wp_reg ?_
  refine s_alloc hs ty33 rfl fun ac ww g3 hs => ?_
  refine s_end ?_
  refine then_n ?_
  refine wp_seq ?_
  refine wp_seq ?_
  refine wp_reg ?_
  refine s_q hs (c_move (hs.ev rfl)) rfl fun ac hs => ?_
  refine s_end ?_
  refine then_n ?_
  refine wp_block ?_
  refine s_loop hs (X := Nat) (fun k => [(5, I k)]) [(1, _), (2, _), (3, _)] (fun k => [.seg g3 ((s.take (16 * k) ++ (List.replicate 1088 (0 : UInt8)).drop (16 * k)).map B) 33, _, _]) (fun n k => k ≤ 68 ∧ n = 68 - k) (_) (0) (⟨Nat.zero_le _, rfl⟩) ⟨rfl, rfl, rfl, rfl, trivial⟩ rfl ?_
  rintro n k ac ww hok hs
  simp only [List.cons_append, List.nil_append] at hs
  obtain ⟨hk, rfl⟩ := hok
  have htk : (s.take (16 * k)).length = 16 * k := by rw [List.length_take]; omega
  refine wp_seq ?_
  refine wp_reg ?_
  refine s_q hs (c_lssI (hs.ev rfl) (hs.ev rfl)) rfl fun ac hs => ?_
  refine s_end ?_
  refine then_n ?_
  refine wp_seq ?_
  refine s_cond hs rfl (fun hc => ?_) (fun hc => ?_)
  · try simp only [decide_eq_true_eq, decide_eq_false_iff_not, Bool.not_eq_true', Bool.not_eq_false', Bool.and_eq_true, Bool.or_eq_true, Bool.or_eq_false_iff] at hc
    have hk68 : k < 68 := by omega
    have hcl := chunk_length hs1 hk68
    refine wp_skip ?_
    refine then_n ?_
    refine wp_seq ?_
    refine wp_block ?_
    refine wp_seq ?_
    refine wp_reg ?_
    refine s_q hs (c_move (hs.ev rfl)) rfl fun ac hs => ?_
    refine s_q hs (c_assign (hs.ev rfl)) rfl fun ac hs => ?_
    refine s_end ?_
    refine then_n ?_
    refine wp_reg ?_
    refine s_q hs (c_move (hs.ev rfl)) rfl fun ac hs => ?_
    refine s_q hs (c_move (hs.ev rfl)) rfl fun ac hs => ?_
    refine s_q hs (c_idxA (j := k) un70 ty54 (hs.ev rfl) (hs.ev rfl) (by omega) (by omega)) rfl fun ac hs => ?_
    refine s_q hs (c_loadA ty54 rfl (hs.ev rfl) (hs.seg (i := 2) rfl) (chunk_at s k) (by rw [List.length_map, hcl])) rfl fun ac hs => ?_
    refine s_q hs (c_idxA (j := k) un33 ty22 (hs.ev rfl) (hs.ev rfl) (by omega) (by omega)) rfl fun ac hs => ?_
    refine s_store (i := 0) hs ty22 rfl rfl rfl rfl (show (List.map B (chunk s k)).length = 16 by rw [List.length_map, hcl]) (all_map_B _) (by rw [List.length_map, List.length_append, List.length_drop, List.length_replicate]; omega) (chunk_set htk) fun ww hs => ?_
    refine s_end ?_
    refine blk_n ?_
    refine then_n ?_
    refine wp_reg ?_
    refine s_q hs (c_addI (hs.ev rfl) (hs.ev rfl) (by omega) (by omega)) rfl fun ac hs => ?_
    refine s_q hs (c_move (hs.ev rfl)) rfl fun ac hs => ?_
    refine s_end ?_
    refine then_n ?_
    exact ⟨68 - (k + 1), by omega, k + 1, ⟨by omega, rfl⟩, St.next hs ⟨rfl, rfl, rfl, rfl, trivial⟩ (by rw [take_chunk]; rfl)⟩
  · try simp only [decide_eq_true_eq, decide_eq_false_iff_not, Bool.not_eq_true', Bool.not_eq_false', Bool.and_eq_true, Bool.or_eq_true, Bool.or_eq_false_iff] at hc
    obtain rfl : k = 68 := by omega
    rw [List.drop_of_length_le (by simp), List.append_nil, List.take_of_length_le (by omega)] at hs
    refine wp_exit ?_
    refine then_e ?_
    refine then_e ?_
    refine blk_hit ?_
    refine then_n ?_
    refine wp_seq ?_
    refine wp_reg ?_
    refine s_q hs (c_loadW ty33 rfl (hs.ev rfl) (hs.seg (i := 0) rfl) (by rw [List.length_map, hs1])) rfl fun ac hs => ?_
    refine s_storeW (i := 1) hs ty33 rfl rfl rfl (by rw [List.length_map, hs1]) (all_map_B _) rfl fun ww hs => ?_
    refine s_end ?_
    replace hs := hs.sub (F' := [(2, _)]) ⟨rfl, trivial⟩
    refine then_n ?_
    refine wp_ret ?_
    refine s_ret hs rfl (.cell (hs.tmp rfl) (run_loadA ty33 rfl (hs.seg (i := 1) rfl) (List.take_of_length_le (by simp [hs1])) (by simp [hs1])) .nil) rfl ⟨_, rfl, hs.fr, ?_⟩
    rfl

end Go.Proofs.Ytmgnnclkjkbmdaa
end

/- The law of what signatures lead to. -/
section
set_option linter.unusedSimpArgs false
set_option linter.unusedVariables false
set_option maxRecDepth 100000
namespace Go.Proofs.Ytmgnnclkjkbmdaa
open Go Go.Fw

open Sha Ots
-- fingerpostlaw10.OtsRecovers
set_option maxHeartbeats 4000000 in
theorem law_OtsRecovers (d : Int) (i : UInt32) (m s : List UInt8) (hm : m.length = 16) (hs1 : s.length = 1088) (w : World)  : Ctr Try.prog 11 [.agg #[I d, U i], .agg (m.map B).toArray, .agg (s.map B).toArray] w (fun _ => False) (fun v _ => v = .bool true) := by
  refine fn_start (N := 27) Try.func11 rfl rfl rfl fun ac hk => ?_
  have hs := St.start hk w
  refine wp_seq ?_
  refine wp_reg ?_
  refine s_box hs rfl rfl rfl fun ac ww g3 hs => ?_
  refine s_box hs rfl rfl rfl fun ac ww g4 hs => ?_
  refine s_box hs rfl rfl rfl fun ac ww g5 hs => ?_
  refine s_q hs (c_assign (hs.ev rfl)) rfl fun ac hs => ?_
  refine s_end ?_
  replace hs := hs.sub (F' := [(3, _), (4, _), (5, _), (6, _)]) ⟨rfl, rfl, rfl, rfl, trivial⟩
  refine then_n ?_
  refine wp_seq ?_
  refine wp_reg ?_
  refine s_q hs (c_loadW ty29 ag29 (hs.ev rfl) (hs.seg (i := 2) rfl) (by rfl)) rfl fun ac hs => ?_
  refine s_q hs (c_loadW ty22 rfl (hs.ev rfl) (hs.seg (i := 1) rfl) (by rw [List.length_map, hm])) rfl fun ac hs => ?_
  refine s_q hs (c_loadW ty33 rfl (hs.ev rfl) (hs.seg (i := 0) rfl) (by rw [List.length_map, hs1])) rfl fun ac hs => ?_
  refine s_call hs fu38 (.cons (hs.ev rfl) (.cons (hs.ev rfl) (.cons (hs.ev rfl) .nil))) (ref10_Recover d i m s hm hs1 _) rfl fun ac ww v13 hf hp hs => ?_
  obtain ⟨L', ⟨tv, rfl, ps, hps, rfl⟩, hh⟩ := hp
  replace hs := hs _ hh
  refine s_q hs (c_move (hs.ev rfl)) rfl fun ac hs => ?_
  refine s_q hs (c_extract (hs.ev rfl) rfl) rfl fun ac hs => ?_
  refine s_q hs (c_extract (hs.ev rfl) rfl) rfl fun ac hs => ?_
  refine s_alloc hs ty22 rfl fun ac ww g7 hs => ?_
  refine s_storeW (i := 0) hs ty22 rfl rfl rfl (by simp) (all_map_B _) rfl fun ww hs => ?_
  refine s_q hs (c_assign (hs.ev rfl)) rfl fun ac hs => ?_
  refine s_end ?_
  replace hs := hs.sub (F' := [(3, _), (4, _), (5, _), (6, _), (7, _)]) ⟨rfl, rfl, rfl, rfl, rfl, trivial⟩
  refine then_n ?_
  refine wp_seq ?_
  refine wp_region_rg pmix 12 (by kernel_rfl) rfl hs ?_
  simp only [List.take_succ_cons, List.take_zero]
  refine rg_call fu37 (fun ac ww h => .nil) (fun ww hf => law10_awake _) rfl ?_
  refine rg_q (fun ac ww h => c_move (h.ev rfl)) rfl ?_
  refine rg_yes rfl rfl (fun ac ww h => c_loadW ty29 ag29 (h.ev rfl) (h.blk (hs.seg (i := 4) rfl)) (by rfl)) rfl ?_
  refine rg_strip rfl rfl ?_
  refine rg_call fu53 (fun ac ww h => (.cons (h.ev rfl) .nil)) (fun ww hf => law10_To d i ww) rfl ?_
  refine rg_yes rfl rfl (fun ac ww h => c_loadW ty22 rfl (h.ev rfl) (h.blk (hs.seg (i := 3) rfl)) (by rw [List.length_map, hm])) rfl ?_
  refine rg_yes rfl rfl (fun ac ww h => c_loadW ty33 rfl (h.ev rfl) (h.blk (hs.seg (i := 2) rfl)) (by rw [List.length_map, hs1])) rfl ?_
  refine rg_strip rfl rfl ?_
  refine rg_call fu61 (fun ac ww h => (.cons (h.ev rfl) .nil)) (fun ww hf => law10_ToSig s hs1 ww) rfl ?_
  refine rg_strip rfl rfl ?_
  refine rg_call fu60 (fun ac ww h => (.cons (h.ev rfl) (.cons (h.ev rfl) (.cons (h.ev rfl) .nil)))) (fun ww hf => ots_Recover d i m s hm hs1 ww) rfl ?_
  refine rg_yes rfl rfl (fun ac ww h => c_loadW ty22 rfl (h.ev rfl) (h.blk (hs.seg (i := 0) rfl)) (by simp)) rfl ?_
  refine rg_yes rfl rfl (fun ac ww h => c_tt (c_eqlAB un54 ty5 eg54 (h.ev rfl) (h.ev rfl) (press_length _ _ _) (press_length _ _ _)) (by simp)) rfl ?_
  refine rg_q (fun ac ww h => c_pick (h.ev rfl) (h.ev rfl) (h.ev rfl)) rfl ?_
  refine rg_q (fun ac ww h => c_assign (h.ev rfl)) rfl ?_
  refine rg_nil fun ac ww L' hf hfe hs => ?_
  simp only [List.drop_succ_cons, List.drop_zero]
  obtain rfl : L' = [] := hfe
  replace hs := hs.toL (List.nil_append _)
  refine s_end ?_
  replace hs := hs.sub (F' := [(6, _)]) ⟨rfl, trivial⟩
  refine then_n ?_
  refine wp_ret ?_
  refine s_ret hs rfl (.tmp (hs.tmp rfl) .nil) rfl ⟨_, rfl, hs.fr, ?_⟩
  rfl

end Go.Proofs.Ytmgnnclkjkbmdaa
end
