import Derived.Test.YtmgnnclkjkbmdaaFacts
import Derived.Test.YtmgnnclkjkbmdaaOtsSpec
import Derived.Test.YtmgnnclkjkbmdaaFw14
set_option linter.unusedSimpArgs false
set_option linter.unusedVariables false
set_option maxRecDepth 100000
namespace Go.Proofs.Ytmgnnclkjkbmdaa
open Go Go.Fw

open Ots
theorem filledB {f : Nat → UInt8} {n k : Nat} (h : k < n) {x : UInt8} (hx : x = f k) : ((filled f 0 n k).map B).take (0 + k * 1) ++ (B x).cells.toList ++ ((filled f 0 n k).map B).drop (0 + k * 1 + 1) = (filled f 0 n (k + 1)).map B := by
  rw [← filled_set f 0 h hx]
  exact map_set x (by rw [filled_len f 0 (by omega)]; exact h)
theorem filledB_at {f : Nat → UInt8} {n k j : Nat} (h : j < k) (hk : k ≤ n) : ((filled f 0 n k).map B)[0 + j * 1]? = some (B (f j)) := by
  have := map_get (f := B) (l := filled f 0 n k) (i := j) 0 (by rw [filled_len f 0 hk]; omega)
  rw [this, filled_get f 0 h hk]

-- ots.Digits
set_option maxHeartbeats 4000000 in
theorem ots_Digits (m : List UInt8) (hm : m.length = 16) (w : World)  : Ctr Try.prog 36 [.agg (m.map B).toArray] w (fun _ => False) (fun v _ => v = .agg ((digits m).map B).toArray) := by
  refine fn_start (N := 45) Try.func36 rfl rfl rfl fun ac hk => ?_
  have hs := St.start hk w
  refine wp_seq ?_
  refine wp_reg ?_
  refine s_box hs rfl rfl rfl fun ac ww g1 hs => ?_
  refine s_alloc hs ty23 rfl fun ac ww g2 hs => ?_
  refine s_end ?_
  replace hs := hs.sub (F' := [(1, _), (2, _)]) ⟨rfl, rfl, trivial⟩
  refine then_n ?_
  refine wp_seq ?_
  refine wp_reg ?_
  refine s_alloc hs ty23 rfl fun ac ww g3 hs => ?_
  refine s_end ?_
  refine then_n ?_
  refine wp_seq ?_
  refine wp_reg ?_
  refine s_q hs (c_assign (hs.ev rfl)) rfl fun ac hs => ?_
  refine s_end ?_
  refine then_n ?_
  refine wp_seq ?_
  refine wp_seq ?_
  refine wp_reg ?_
  refine s_q hs (c_move (hs.ev rfl)) rfl fun ac hs => ?_
  refine s_end ?_
  refine then_n ?_
  refine wp_block ?_
  refine s_loop hs (X := Nat) (fun k => [(8, I k), (4, I (left m k))]) [(1, _), (2, _), (3, _)] (fun k => [.seg g3 ((filled (dgt m) 0 68 k).map B) 23, _, _]) (fun n k => k ≤ 64 ∧ n = 64 - k) (64) (0) (⟨by omega, rfl⟩) ⟨rfl, rfl, rfl, rfl, rfl, trivial⟩ (congrArg (fun z => [Ent.seg g3 (List.map B z) 23, _, _]) (filled_zero _ _ _).symm) ?_
  rintro n k ac ww hok hs
  simp only [List.cons_append, List.nil_append] at hs
  refine wp_seq ?_
  refine wp_reg ?_
  refine s_q hs (c_lssI (hs.ev rfl) (hs.ev rfl)) rfl fun ac hs => ?_
  refine s_end ?_
  refine then_n ?_
  refine wp_seq ?_
  refine s_cond hs rfl (fun hc => ?_) (fun hc => ?_)
  · try simp only [decide_eq_true_eq, decide_eq_false_iff_not, Bool.not_eq_true', Bool.not_eq_false', Bool.and_eq_true, Bool.or_eq_true, Bool.or_eq_false_iff] at hc
    obtain ⟨hk, rfl⟩ := hok
    have hdl := dig_le m k
    have hll := left_le m k
    refine wp_skip ?_
    refine then_n ?_
    refine wp_seq ?_
    refine wp_block ?_
    refine wp_seq ?_
    refine wp_reg ?_
    refine s_q hs (c_move (hs.ev rfl)) rfl fun ac hs => ?_
    refine s_q hs (c_assign (hs.ev rfl)) rfl fun ac hs => ?_
    refine s_end ?_
    refine then_n ?_
    refine wp_seq ?_
    refine wp_reg ?_
    refine s_q hs (c_move (hs.ev rfl)) rfl fun ac hs => ?_
    refine s_q hs (c_quoI (hs.ev rfl) (hs.ev rfl) (by omega) (by omega) (by omega)) rfl fun ac hs => ?_
    refine s_q hs (c_idxA (j := k / 4) un54 ty5 (hs.ev rfl) (hs.ev rfl) (by omega) (by omega)) rfl fun ac hs => ?_
    refine s_q hs (c_loadS un5 rfl (hs.ev rfl) (hs.seg (i := 2) rfl) (map_get 0 (by omega))) rfl fun ac hs => ?_
    refine s_q hs (c_move (hs.ev rfl)) rfl fun ac hs => ?_
    refine s_q hs (c_remI (hs.ev rfl) (hs.ev rfl) (by omega) (by omega)) rfl fun ac hs => ?_
    refine s_q hs (c_mulI (hs.ev rfl) (hs.ev rfl) (by omega) (by omega)) rfl fun ac hs => ?_
    refine s_q hs (c_subI (hs.ev rfl) (hs.ev rfl) (by omega) (by omega)) rfl fun ac hs => ?_
    refine s_q hs (c_shrB (n := 6 - 2 * (k % 4)) (hs.ev rfl) ((hs.ev rfl).trans (congrArg I (by omega))) (by omega)) rfl fun ac hs => ?_
    refine s_q hs (c_andB (hs.ev rfl) (St.ev (v := B 3) hs rfl)) rfl fun ac hs => ?_
    change St 45 ((20, B (dig m k)) :: _) _ _ _ _ _ at hs
    refine s_q hs (c_assign (hs.ev rfl)) rfl fun ac hs => ?_
    refine s_end ?_
    refine then_n ?_
    refine wp_seq ?_
    refine wp_reg ?_
    refine s_q hs (c_move (hs.ev rfl)) rfl fun ac hs => ?_
    refine s_q hs (c_move (hs.ev rfl)) rfl fun ac hs => ?_
    refine s_q hs (c_idxA (j := k) un23 ty5 (hs.ev rfl) (hs.ev rfl) (by omega) (by omega)) rfl fun ac hs => ?_
    refine s_store (i := 0) hs ty5 rfl rfl rfl rfl rfl rfl (by rw [List.length_map, filled_len _ _ (by omega)]; omega) (filledB (by omega) (by simp [dgt]; intro h; omega)) fun ww hs => ?_
    refine s_end ?_
    refine then_n ?_
    refine wp_reg ?_
    refine s_q hs (c_move (hs.ev rfl)) rfl fun ac hs => ?_
    refine s_q hs (c_move (hs.ev rfl)) rfl fun ac hs => ?_
    refine s_q hs (c_cvBI un5 un3 (hs.ev rfl)) rfl fun ac hs => ?_
    refine s_q hs (c_subI (hs.ev rfl) (hs.ev rfl) (by omega) (by omega)) rfl fun ac hs => ?_
    refine s_q hs (c_addI (hs.ev rfl) (hs.ev rfl) (by omega) (by omega)) rfl fun ac hs => ?_
    refine s_q hs (c_assign (hs.ev rfl)) rfl fun ac hs => ?_
    refine s_end ?_
    refine blk_n ?_
    refine then_n ?_
    refine wp_reg ?_
    refine s_q hs (c_addI (hs.ev rfl) (hs.ev rfl) (by omega) (by omega)) rfl fun ac hs => ?_
    refine s_q hs (c_move (hs.ev rfl)) rfl fun ac hs => ?_
    refine s_end ?_
    refine then_n ?_
    exact ⟨64 - (k + 1), by omega, k + 1, ⟨by omega, rfl⟩, St.next hs ⟨rfl, (congrArg (fun z => some (I z)) (by have := dig_le m k; simp only [left]; omega)), rfl, rfl, rfl, trivial⟩ rfl⟩
  · try simp only [decide_eq_true_eq, decide_eq_false_iff_not, Bool.not_eq_true', Bool.not_eq_false', Bool.and_eq_true, Bool.or_eq_true, Bool.or_eq_false_iff] at hc
    obtain ⟨hk, rfl⟩ := hok
    obtain rfl : k = 64 := by omega
    refine wp_exit ?_
    refine then_e ?_
    refine then_e ?_
    refine blk_hit ?_
    refine then_n ?_
    refine wp_seq ?_
    refine wp_seq ?_
    refine wp_reg ?_
    refine s_q hs (c_move (hs.ev rfl)) rfl fun ac hs => ?_
    refine s_end ?_
    replace hs := hs.sub (F' := [(2, _), (3, _), (4, _), (30, _)]) ⟨rfl, rfl, rfl, rfl, trivial⟩
    refine then_n ?_
    refine wp_block ?_
    refine s_loop hs (X := Nat) (fun k => [(30, I k)]) [(2, _), (3, _), (4, _)] (fun k => [.seg g3 ((filled (dgt m) 0 68 (64 + k)).map B) 23, _, _]) (fun n k => k ≤ 4 ∧ n = 4 - k) (4) (0) (⟨by omega, rfl⟩) ⟨rfl, rfl, rfl, rfl, trivial⟩ rfl ?_
    rintro n k ac ww hok hs
    simp only [List.cons_append, List.nil_append] at hs
    refine wp_seq ?_
    refine wp_reg ?_
    refine s_q hs (c_lssI (hs.ev rfl) (hs.ev rfl)) rfl fun ac hs => ?_
    refine s_end ?_
    refine then_n ?_
    refine wp_seq ?_
    refine s_cond hs rfl (fun hc => ?_) (fun hc => ?_)
    · try simp only [decide_eq_true_eq, decide_eq_false_iff_not, Bool.not_eq_true', Bool.not_eq_false', Bool.and_eq_true, Bool.or_eq_true, Bool.or_eq_false_iff] at hc
      obtain ⟨hk, rfl⟩ := hok
      have hll := left_le m 64
      refine wp_skip ?_
      refine then_n ?_
      refine wp_seq ?_
      refine wp_block ?_
      refine wp_seq ?_
      refine wp_reg ?_
      refine s_q hs (c_move (hs.ev rfl)) rfl fun ac hs => ?_
      refine s_q hs (c_assign (hs.ev rfl)) rfl fun ac hs => ?_
      refine s_end ?_
      refine then_n ?_
      refine wp_reg ?_
      refine s_q hs (c_move (hs.ev rfl)) rfl fun ac hs => ?_
      refine s_q hs (c_addI (hs.ev rfl) (hs.ev rfl) (by omega) (by omega)) rfl fun ac hs => ?_
      refine s_q hs (c_move (hs.ev rfl)) rfl fun ac hs => ?_
      refine s_q hs (c_move (hs.ev rfl)) rfl fun ac hs => ?_
      refine s_q hs (c_mulI (hs.ev rfl) (hs.ev rfl) (by omega) (by omega)) rfl fun ac hs => ?_
      refine s_q hs (c_subI (hs.ev rfl) (hs.ev rfl) (by omega) (by omega)) rfl fun ac hs => ?_
      obtain ⟨q, hq1, hq2⟩ : ∃ q : Nat, q = left m 64 / 2 ^ (6 - 2 * k) ∧ q ≤ left m 64 := ⟨_, rfl, Nat.div_le_self _ _⟩
      have hq : (left m 64 : Int) / 2 ^ (6 - 2 * k) = (q : Int) := by rw [hq1]; simp
      refine s_q hs (c_shrI (n := 6 - 2 * k) (hs.ev rfl) ((hs.ev rfl).trans (congrArg I (by omega))) (by omega)) rfl fun ac hs => ?_
      refine s_q hs (c_and3I ((hs.ev rfl).trans (congrArg I hq)) (hs.ev rfl) (by omega) (by omega)) rfl fun ac hs => ?_
      refine s_q hs (c_cvIB un3 un5 (hs.ev rfl)) rfl fun ac hs => ?_
      refine s_q hs (c_idxA (j := 64 + k) un23 ty5 (hs.ev rfl) (hs.ev rfl) (by omega) (by omega)) rfl fun ac hs => ?_
      refine s_store (i := 0) hs ty5 rfl rfl rfl rfl rfl rfl (by rw [List.length_map, filled_len _ _ (by omega)]; omega) (filledB (by omega) (by simp only [dgt, if_neg (show ¬ 64 + k < 64 by omega), show 64 + k - 64 = k by omega, chk, i8, ← hq1]; congr 1; omega)) fun ww hs => ?_
      refine s_end ?_
      refine blk_n ?_
      refine then_n ?_
      refine wp_reg ?_
      refine s_q hs (c_addI (hs.ev rfl) (hs.ev rfl) (by omega) (by omega)) rfl fun ac hs => ?_
      refine s_q hs (c_move (hs.ev rfl)) rfl fun ac hs => ?_
      refine s_end ?_
      refine then_n ?_
      exact ⟨4 - (k + 1), by omega, k + 1, ⟨by omega, rfl⟩, St.next hs ⟨rfl, rfl, rfl, rfl, trivial⟩ rfl⟩
    · try simp only [decide_eq_true_eq, decide_eq_false_iff_not, Bool.not_eq_true', Bool.not_eq_false', Bool.and_eq_true, Bool.or_eq_true, Bool.or_eq_false_iff] at hc
      obtain ⟨hk, rfl⟩ := hok
      obtain rfl : k = 4 := by omega
      refine wp_exit ?_
      refine then_e ?_
      refine then_e ?_
      refine blk_hit ?_
      refine then_n ?_
      refine wp_seq ?_
      refine wp_reg ?_
      refine s_q hs (c_loadW ty23 rfl (hs.ev rfl) (hs.seg (i := 0) rfl) (by rw [List.length_map, filled_len _ _ (by omega)])) rfl fun ac hs => ?_
      refine s_storeW (i := 1) hs ty23 rfl rfl rfl (by rw [List.length_map, filled_len _ _ (by omega)]) (by simp [Value.oneCell']) (by simp) fun ww hs => ?_
      refine s_end ?_
      replace hs := hs.sub (F' := [(2, _)]) ⟨rfl, trivial⟩
      refine then_n ?_
      refine wp_ret ?_
      refine s_ret hs rfl (.cell (hs.tmp rfl) (run_loadA ty23 rfl (hs.seg (i := 1) rfl) (List.take_of_length_le (by simp [filled])) (by simp [filled])) .nil) rfl ⟨_, rfl, hs.fr, ?_⟩
      exact congrArg (fun z => Value.agg (List.map B z).toArray) (filled_full _ _ _)

-- fingerpostlaw10.awake
set_option maxHeartbeats 4000000 in
theorem law10_awake  (w : World)  : Ctr Try.prog 37 [] w (fun _ => False) (fun v _ => v = .bool true) := by
  refine fn_start (N := 19) Try.func37 rfl rfl rfl fun ac hk => ?_
  have hs := St.start hk w
  refine wp_seq ?_
  refine wp_reg ?_
  refine s_q hs (c_assign (hs.ev rfl)) rfl fun ac hs => ?_
  refine s_end ?_
  refine then_n ?_
  refine wp_seq ?_
  refine wp_reg ?_
  refine s_q hs (c_buildA ty54 un54 ty5 (zc := (List.replicate 16 (0 : UInt8)).map B) (vs := []) .nil (by simp) (by simp [flatCells]) rfl) rfl fun ac hs => ?_
  refine s_call hs fu36 (.cons (hs.ev rfl) .nil) (ots_Digits (List.replicate 16 0) (by simp) _) rfl fun ac ww v3 hf hp hs => ?_
  obtain rfl := hp
  replace hs := hs [] (.nil _ _)
  refine s_alloc hs ty23 rfl fun ac ww g1 hs => ?_
  refine s_storeW (i := 0) hs ty23 rfl rfl rfl (by simp) (by simp [Value.oneCell']) (by simp) fun ww hs => ?_
  refine s_end ?_
  replace hs := hs.sub (F' := [(0, _), (1, _)]) ⟨rfl, rfl, trivial⟩
  refine then_n ?_
  refine wp_seq ?_
  refine wp_reg ?_
  refine s_q hs (c_idxA un23 ty5 (hs.ev rfl) (hs.ev rfl) rfl (by decide)) rfl fun ac hs => ?_
  refine s_q hs (c_loadS un5 rfl (hs.ev rfl) (hs.seg (i := 0) rfl) (map_get 0 (by simp))) rfl fun ac hs => ?_
  refine s_q hs (c_eqlB (hs.ev rfl) (St.ev (v := B 0) hs rfl)) rfl fun ac hs => ?_
  refine s_q hs (c_move (hs.ev rfl)) rfl fun ac hs => ?_
  refine s_g hs rfl rfl (fun hg => c_idxA un23 ty5 (hs.ev rfl) (hs.ev rfl) rfl (by decide)) rfl fun ac hs => ?_
  refine s_g hs rfl rfl (fun hg => c_loadS un5 rfl (gev (hs.ev rfl) hg) (hs.seg (i := 0) rfl) (map_get 0 (by simp))) rfl fun ac hs => ?_
  refine s_g hs rfl rfl (fun hg => c_eqlB (gev (hs.ev rfl) hg) (St.ev (v := B 3) hs rfl)) rfl fun ac hs => ?_
  refine s_q hs (c_and (hs.ev rfl) (hs.ev rfl)) rfl fun ac hs => ?_
  refine s_q hs (c_move (hs.ev rfl)) rfl fun ac hs => ?_
  refine s_g hs rfl rfl (fun hg => c_idxA un23 ty5 (hs.ev rfl) (hs.ev rfl) rfl (by decide)) rfl fun ac hs => ?_
  refine s_g hs rfl rfl (fun hg => c_loadS un5 rfl (gev (hs.ev rfl) hg) (hs.seg (i := 0) rfl) (map_get 0 (by simp))) rfl fun ac hs => ?_
  refine s_g hs rfl rfl (fun hg => c_eqlB (gev (hs.ev rfl) hg) (St.ev (v := B 0) hs rfl)) rfl fun ac hs => ?_
  refine s_q hs (c_and (hs.ev rfl) (hs.ev rfl)) rfl fun ac hs => ?_
  refine s_q hs (c_move (hs.ev rfl)) rfl fun ac hs => ?_
  refine s_q hs (c_pick (hs.ev rfl) (hs.ev rfl) (hs.ev rfl)) rfl fun ac hs => ?_
  refine s_q hs (c_assign (hs.ev rfl)) rfl fun ac hs => ?_
  refine s_end ?_
  replace hs := hs.sub (F' := [(0, _)]) ⟨rfl, trivial⟩
  refine then_n ?_
  refine wp_ret ?_
  refine s_ret hs rfl (.tmp (hs.tmp rfl) .nil) rfl ⟨_, rfl, hs.fr, ?_⟩
  rfl

end Go.Proofs.Ytmgnnclkjkbmdaa
