import Derived.Test.YtmgnnclkjkbmdaaFacts
import Derived.Test.YtmgnnclkjkbmdaaShaSpec
import Derived.Test.YtmgnnclkjkbmdaaFw12
set_option linter.unusedSimpArgs false
set_option linter.unusedVariables false
set_option maxRecDepth 100000
namespace Go.Proofs.Ytmgnnclkjkbmdaa
open Go Go.Fw

open Sha
theorem sched_at (p : List UInt8) (k j : Nat) (R : List UInt32) (hj : j < k) : ((sched p k ++ R).map U)[0 + j * 1]? = some (U ((sched p k).getD j 0)) := by
  have := map_get (f := U) (l := sched p k ++ R) (i := j) 0 (by simp [sched_length]; omega)
  rw [this, sched_getD p k j R hj]
theorem sched_len (p : List UInt8) (k : Nat) (hk : k ≤ 64) : (sched p k ++ List.replicate (64 - k) (0 : UInt32)).length = 64 := by simp [sched_length]; omega

-- sha.turn
set_option maxHeartbeats 4000000 in
theorem sha_turn (x : UInt32) (n : Nat) (hn : 0 < n) (hn2 : n < 32) (w : World)  : Ctr Try.prog 182 [U x, I n] w (fun _ => False) (fun v _ => v = U (rotr x n)) := by
  refine fn_start (N := 13) Try.func182 rfl rfl rfl fun ac hk => ?_
  have hs := St.start hk w
  refine wp_seq ?_
  refine wp_reg ?_
  refine s_q hs (c_assign (St.ev (v := U 0) hs rfl)) rfl fun ac hs => ?_
  refine s_end ?_
  refine then_n ?_
  refine wp_seq ?_
  refine wp_region_rg pmix 9 (by kernel_rfl) rfl hs ?_
  simp only [List.take_succ_cons, List.take_zero]
  refine rg_q (fun ac ww h => c_move (h.ev rfl)) rfl ?_
  refine rg_q (fun ac ww h => c_move (h.ev rfl)) rfl ?_
  refine rg_q (fun ac ww h => c_shrU (h.ev rfl) (h.ev rfl) (by omega)) rfl ?_
  refine rg_q (fun ac ww h => c_move (h.ev rfl)) rfl ?_
  refine rg_q (fun ac ww h => c_move (h.ev rfl)) rfl ?_
  refine rg_q (fun ac ww h => c_subI (h.ev rfl) (h.ev rfl) (by omega) (by omega)) rfl ?_
  refine rg_q (fun ac ww h => c_shlU (n := 32 - n) (h.ev rfl) ((h.ev rfl).trans (congrArg I (by omega))) (by omega)) rfl ?_
  refine rg_q (fun ac ww h => c_orU (h.ev rfl) (h.ev rfl)) rfl ?_
  refine rg_q (fun ac ww h => c_assign (h.ev rfl)) rfl ?_
  refine rg_nil fun ac ww L' hf hfe hs => ?_
  simp only [List.drop_succ_cons, List.drop_zero]
  obtain rfl : L' = [] := hfe
  replace hs := hs.toL (List.nil_append _)
  refine s_end ?_
  replace hs := hs.sub (F' := [(4, _)]) ⟨rfl, trivial⟩
  refine then_n ?_
  refine wp_ret ?_
  refine s_ret hs rfl (.tmp (hs.tmp rfl) .nil) rfl ⟨_, rfl, hs.fr, ?_⟩
  rfl

-- sha.words
set_option maxHeartbeats 4000000 in
theorem sha_words  (w : World)  : Ctr Try.prog 183 [] w (fun _ => False) (fun v _ => v = .agg (K.map U).toArray) := by
  refine fn_start (N := 2) Try.func183 rfl rfl rfl fun ac hk => ?_
  have hs := St.start hk w
  refine wp_seq ?_
  refine wp_reg ?_
  refine s_alloc hs ty207 rfl fun ac ww g0 hs => ?_
  refine s_end ?_
  refine then_n ?_
  refine wp_seq ?_
  refine wp_reg ?_
  refine s_q hs (c_buildA ty207 un207 ty27 (vs := K.map U) (zc := K.map U) (by repeat (first | exact .nil | refine .cons rfl ?_)) (by decide) (by decide) rfl) rfl fun ac hs => ?_
  refine s_storeW (i := 0) hs ty207 rfl rfl rfl (by simp) (by simp [Value.oneCell']) (by simp) fun ww hs => ?_
  refine s_end ?_
  replace hs := hs.sub (F' := [(0, _)]) ⟨rfl, trivial⟩
  refine then_n ?_
  refine wp_ret ?_
  refine s_ret hs rfl (.cell (hs.tmp rfl) (run_loadA ty207 rfl (hs.seg (i := 0) rfl) (List.take_of_length_le (by simp)) (by simp)) .nil) rfl ⟨_, rfl, hs.fr, ?_⟩
  rfl

-- sha.mix
set_option maxHeartbeats 4000000 in
theorem sha_mix (h : R) (p : List UInt8) (vp : Value) (h64 : 64 ≤ p.length) (w : World) (hp : RdB w vp p) : Ctr Try.prog 157 [.agg (h.list.map U).toArray, vp] w (fun _ => False) (fun v _ => v = .agg ((comp h p).list.map U).toArray) := by
  obtain ⟨pb, po, pc, pT, pf, pall, rfl, hpc, hpm, hpb, hps⟩ := RdB.at_ hp (by omega)
  have hpl := hp.le
  refine fn_start (N := 221) Try.func157 rfl rfl rfl fun ac hk => ?_
  have hs := St.start hk w
  refine wp_seq ?_
  refine wp_reg ?_
  refine s_box hs rfl rfl rfl fun ac ww g2 hs => ?_
  refine s_alloc hs ty205 rfl fun ac ww g4 hs => ?_
  refine s_end ?_
  replace hs := hs.sub (F' := [(1, _), (2, _), (4, _)]) ⟨rfl, rfl, rfl, trivial⟩
  refine then_n ?_
  refine wp_seq ?_
  refine wp_reg ?_
  refine s_alloc hs ty207 rfl fun ac ww g5 hs => ?_
  refine s_end ?_
  refine then_n ?_
  refine wp_seq ?_
  refine wp_seq ?_
  refine wp_reg ?_
  refine s_q hs (c_move (hs.ev rfl)) rfl fun ac hs => ?_
  refine s_end ?_
  refine then_n ?_
  refine wp_block ?_
  refine s_loop hs (X := Nat) (fun k => [(24, I k)]) [(1, _), (2, _), (4, _), (5, _)] (fun k => [.seg g5 ((sched p k ++ List.replicate (64 - k) 0).map U) 207, _, _]) (fun n k => k ≤ 16 ∧ n = 16 - k) (16) (0) (⟨by omega, rfl⟩) ⟨rfl, rfl, rfl, rfl, rfl, trivial⟩ (congrArg (fun z => [Ent.seg g5 (List.map U z) 207, _, _]) (show List.replicate 64 0 = _ by rw [sched_zero]; rfl)) ?_
  rintro n k ac ww hok hs
  simp only [List.cons_append, List.nil_append] at hs
  refine wp_seq ?_
  refine wp_reg ?_
  refine s_q hs (c_lssI (hs.ev rfl) (hs.ev rfl)) rfl fun ac hs => ?_
  refine s_end ?_
  refine then_n ?_
  refine wp_seq ?_
  refine s_cond hs rfl (fun hc => ?_) (fun hc => ?_)
  · try simp only [decide_eq_true_eq, decide_eq_false_iff_not, Bool.not_eq_true', Bool.not_eq_false', Bool.and_eq_true, Bool.or_eq_true, Bool.or_eq_false_iff] at hc
    obtain ⟨hk, rfl⟩ := hok
    refine wp_skip ?_
    refine then_n ?_
    refine wp_seq ?_
    refine wp_block ?_
    refine wp_seq ?_
    refine wp_reg ?_
    refine s_q hs (c_move (hs.ev rfl)) rfl fun ac hs => ?_
    refine s_q hs (c_assign (hs.ev rfl)) rfl fun ac hs => ?_
    refine s_end ?_
    refine then_n ?_
    refine wp_region_rg pmix 35 (by kernel_rfl) rfl hs ?_
    simp only [List.take_succ_cons, List.take_zero]
    refine rg_q (fun ac ww h => c_move (h.ev rfl)) rfl ?_
    refine rg_q (fun ac ww h => c_move (h.ev rfl)) rfl ?_
    refine rg_q (fun ac ww h => c_move (h.ev rfl)) rfl ?_
    refine rg_q (fun ac ww h => c_mulI (h.ev rfl) (h.ev rfl) (by omega) (by omega)) rfl ?_
    refine rg_q (fun ac ww h => c_idxS (j := 4 * k) un34 ty5 (h.ev rfl) (h.ev rfl) (by omega) (by omega)) rfl ?_
    refine rg_q (fun ac ww h => c_loadS un5 rfl (h.ev rfl) (h.blk (hs.old hpb id)) (seg_get 0 hps (by omega))) rfl ?_
    refine rg_q (fun ac ww h => c_cvBU un5 un27 (h.ev rfl)) rfl ?_
    refine rg_q (fun ac ww h => c_shlU (h.ev rfl) (h.ev rfl) (by decide)) rfl ?_
    refine rg_q (fun ac ww h => c_move (h.ev rfl)) rfl ?_
    refine rg_q (fun ac ww h => c_move (h.ev rfl)) rfl ?_
    refine rg_q (fun ac ww h => c_mulI (h.ev rfl) (h.ev rfl) (by omega) (by omega)) rfl ?_
    refine rg_q (fun ac ww h => c_addI (h.ev rfl) (h.ev rfl) (by omega) (by omega)) rfl ?_
    refine rg_q (fun ac ww h => c_idxS (j := 4 * k + 1) un34 ty5 (h.ev rfl) (h.ev rfl) (by omega) (by omega)) rfl ?_
    refine rg_q (fun ac ww h => c_loadS un5 rfl (h.ev rfl) (h.blk (hs.old hpb id)) (seg_get 0 hps (by omega))) rfl ?_
    refine rg_q (fun ac ww h => c_cvBU un5 un27 (h.ev rfl)) rfl ?_
    refine rg_q (fun ac ww h => c_shlU (h.ev rfl) (h.ev rfl) (by decide)) rfl ?_
    refine rg_q (fun ac ww h => c_orU (h.ev rfl) (h.ev rfl)) rfl ?_
    refine rg_q (fun ac ww h => c_move (h.ev rfl)) rfl ?_
    refine rg_q (fun ac ww h => c_move (h.ev rfl)) rfl ?_
    refine rg_q (fun ac ww h => c_mulI (h.ev rfl) (h.ev rfl) (by omega) (by omega)) rfl ?_
    refine rg_q (fun ac ww h => c_addI (h.ev rfl) (h.ev rfl) (by omega) (by omega)) rfl ?_
    refine rg_q (fun ac ww h => c_idxS (j := 4 * k + 2) un34 ty5 (h.ev rfl) (h.ev rfl) (by omega) (by omega)) rfl ?_
    refine rg_q (fun ac ww h => c_loadS un5 rfl (h.ev rfl) (h.blk (hs.old hpb id)) (seg_get 0 hps (by omega))) rfl ?_
    refine rg_q (fun ac ww h => c_cvBU un5 un27 (h.ev rfl)) rfl ?_
    refine rg_q (fun ac ww h => c_shlU (h.ev rfl) (h.ev rfl) (by decide)) rfl ?_
    refine rg_q (fun ac ww h => c_orU (h.ev rfl) (h.ev rfl)) rfl ?_
    refine rg_q (fun ac ww h => c_move (h.ev rfl)) rfl ?_
    refine rg_q (fun ac ww h => c_move (h.ev rfl)) rfl ?_
    refine rg_q (fun ac ww h => c_mulI (h.ev rfl) (h.ev rfl) (by omega) (by omega)) rfl ?_
    refine rg_q (fun ac ww h => c_addI (h.ev rfl) (h.ev rfl) (by omega) (by omega)) rfl ?_
    refine rg_q (fun ac ww h => c_idxS (j := 4 * k + 3) un34 ty5 (h.ev rfl) (h.ev rfl) (by omega) (by omega)) rfl ?_
    refine rg_q (fun ac ww h => c_loadS un5 rfl (h.ev rfl) (h.blk (hs.old hpb id)) (seg_get 0 hps (by omega))) rfl ?_
    refine rg_q (fun ac ww h => c_cvBU un5 un27 (h.ev rfl)) rfl ?_
    refine rg_q (fun ac ww h => c_orU (h.ev rfl) (h.ev rfl)) rfl ?_
    refine rg_q (fun ac ww h => c_idxA (j := k) un207 ty27 (h.ev rfl) (h.ev rfl) (by omega) (by omega)) rfl ?_
    refine rg_nil fun ac ww L' hf hfe hs => ?_
    simp only [List.drop_succ_cons, List.drop_zero]
    obtain rfl : L' = [] := hfe
    replace hs := hs.toL (List.nil_append _)
    refine s_store (i := 0) hs ty27 rfl rfl rfl rfl rfl rfl (by rw [List.length_map, sched_len p k (by omega)]; omega) (map_set _ (by rw [sched_len p k (by omega)]; omega)) fun ww hs => ?_
    refine s_end ?_
    refine blk_n ?_
    refine then_n ?_
    refine wp_reg ?_
    refine s_q hs (c_addI (hs.ev rfl) (hs.ev rfl) (by omega) (by omega)) rfl fun ac hs => ?_
    refine s_q hs (c_move (hs.ev rfl)) rfl fun ac hs => ?_
    refine s_end ?_
    refine then_n ?_
    exact ⟨16 - (k + 1), by omega, k + 1, ⟨by omega, rfl⟩, St.next hs ⟨rfl, rfl, rfl, rfl, rfl, trivial⟩ (congrArg (fun z => [Ent.seg g5 (List.map U z) 207, _, _]) (sched_set p k (by omega) _ (sched_lo p k (by omega))))⟩
  · try simp only [decide_eq_true_eq, decide_eq_false_iff_not, Bool.not_eq_true', Bool.not_eq_false', Bool.and_eq_true, Bool.or_eq_true, Bool.or_eq_false_iff] at hc
    obtain ⟨hk, rfl⟩ := hok
    obtain rfl : k = 16 := by omega
    refine wp_exit ?_
    refine then_e ?_
    refine then_e ?_
    refine blk_hit ?_
    refine then_n ?_
    refine wp_seq ?_
    refine wp_seq ?_
    refine wp_reg ?_
    refine s_q hs (c_assign (hs.ev rfl)) rfl fun ac hs => ?_
    refine s_end ?_
    replace hs := hs.sub (F' := [(2, _), (4, _), (5, _), (7, _)]) ⟨rfl, rfl, rfl, rfl, trivial⟩
    refine then_n ?_
    refine wp_block ?_
    refine s_loop hs (X := Nat) (fun k => [(7, I k)]) [(2, _), (4, _), (5, _)] (fun k => [.seg g5 ((sched p k ++ List.replicate (64 - k) 0).map U) 207, _, _]) (fun n k => 16 ≤ k ∧ k ≤ 64 ∧ n = 64 - k) (48) (16) (⟨by omega, by omega, rfl⟩) ⟨rfl, rfl, rfl, rfl, trivial⟩ rfl ?_
    rintro n k ac ww hok hs
    simp only [List.cons_append, List.nil_append] at hs
    refine wp_seq ?_
    refine wp_seq ?_
    refine wp_reg ?_
    refine s_q hs (c_move (hs.ev rfl)) rfl fun ac hs => ?_
    refine s_q hs (c_lssI (hs.ev rfl) (hs.ev rfl)) rfl fun ac hs => ?_
    refine s_end ?_
    refine then_n ?_
    refine s_cond hs rfl (fun hc => ?_) (fun hc => ?_)
    · try simp only [decide_eq_true_eq, decide_eq_false_iff_not, Bool.not_eq_true', Bool.not_eq_false', Bool.and_eq_true, Bool.or_eq_true, Bool.or_eq_false_iff] at hc
      obtain ⟨hk, hk2, rfl⟩ := hok
      refine wp_skip ?_
      refine then_n ?_
      refine wp_seq ?_
      refine wp_block ?_
      refine wp_seq ?_
      refine wp_region_rg pmix 10 (by kernel_rfl) rfl hs ?_
      simp only [List.take_succ_cons, List.take_zero]
      refine rg_q (fun ac ww h => c_move (h.ev rfl)) rfl ?_
      refine rg_q (fun ac ww h => c_subI (h.ev rfl) (h.ev rfl) (by omega) (by omega)) rfl ?_
      refine rg_q (fun ac ww h => c_idxA (j := k - 15) un207 ty27 (h.ev rfl) (h.ev rfl) (by omega) (by omega)) rfl ?_
      refine rg_q (fun ac ww h => c_loadS un27 rfl (h.ev rfl) (h.blk (hs.seg (i := 0) rfl)) (sched_at p k (k - 15) _ (by omega))) rfl ?_
      refine rg_q (fun ac ww h => c_move (h.ev rfl)) rfl ?_
      refine rg_q (fun ac ww h => c_subI (h.ev rfl) (h.ev rfl) (by omega) (by omega)) rfl ?_
      refine rg_q (fun ac ww h => c_idxA (j := k - 2) un207 ty27 (h.ev rfl) (h.ev rfl) (by omega) (by omega)) rfl ?_
      refine rg_q (fun ac ww h => c_loadS un27 rfl (h.ev rfl) (h.blk (hs.seg (i := 0) rfl)) (sched_at p k (k - 2) _ (by omega))) rfl ?_
      refine rg_q (fun ac ww h => c_assign (h.ev rfl)) rfl ?_
      refine rg_q (fun ac ww h => c_assign (h.ev rfl)) rfl ?_
      refine rg_nil fun ac ww L' hf hfe hs => ?_
      simp only [List.drop_succ_cons, List.drop_zero]
      obtain rfl : L' = [] := hfe
      replace hs := hs.toL (List.nil_append _)
      refine s_end ?_
      refine then_n ?_
      refine wp_seq ?_
      refine wp_reg ?_
      refine s_q hs (c_move (hs.ev rfl)) rfl fun ac hs => ?_
      refine s_call hs fu182 (.cons (hs.ev rfl) (.cons (hs.ev rfl) .nil)) (sha_turn _ 7 (by omega) (by omega) _) rfl fun ac ww v76 hf hp hs => ?_
      obtain rfl := hp
      replace hs := hs [] (.nil _ _)
      refine s_q hs (c_move (hs.ev rfl)) rfl fun ac hs => ?_
      refine s_call hs fu182 (.cons (hs.ev rfl) (.cons (hs.ev rfl) .nil)) (sha_turn _ 18 (by omega) (by omega) _) rfl fun ac ww v78 hf hp hs => ?_
      obtain rfl := hp
      replace hs := hs [] (.nil _ _)
      refine s_q hs (c_xorU (hs.ev rfl) (hs.ev rfl)) rfl fun ac hs => ?_
      refine s_q hs (c_move (hs.ev rfl)) rfl fun ac hs => ?_
      refine s_q hs (c_shrU (hs.ev rfl) (hs.ev rfl) (by decide)) rfl fun ac hs => ?_
      refine s_q hs (c_xorU (hs.ev rfl) (hs.ev rfl)) rfl fun ac hs => ?_
      refine s_q hs (c_assign (hs.ev rfl)) rfl fun ac hs => ?_
      refine s_end ?_
      refine then_n ?_
      refine wp_seq ?_
      refine wp_reg ?_
      refine s_q hs (c_move (hs.ev rfl)) rfl fun ac hs => ?_
      refine s_call hs fu182 (.cons (hs.ev rfl) (.cons (hs.ev rfl) .nil)) (sha_turn _ 17 (by omega) (by omega) _) rfl fun ac ww v84 hf hp hs => ?_
      obtain rfl := hp
      replace hs := hs [] (.nil _ _)
      refine s_q hs (c_move (hs.ev rfl)) rfl fun ac hs => ?_
      refine s_call hs fu182 (.cons (hs.ev rfl) (.cons (hs.ev rfl) .nil)) (sha_turn _ 19 (by omega) (by omega) _) rfl fun ac ww v86 hf hp hs => ?_
      obtain rfl := hp
      replace hs := hs [] (.nil _ _)
      refine s_q hs (c_xorU (hs.ev rfl) (hs.ev rfl)) rfl fun ac hs => ?_
      refine s_q hs (c_move (hs.ev rfl)) rfl fun ac hs => ?_
      refine s_q hs (c_shrU (hs.ev rfl) (hs.ev rfl) (by decide)) rfl fun ac hs => ?_
      refine s_q hs (c_xorU (hs.ev rfl) (hs.ev rfl)) rfl fun ac hs => ?_
      refine s_q hs (c_assign (hs.ev rfl)) rfl fun ac hs => ?_
      refine s_end ?_
      refine then_n ?_
      refine wp_region_rg pmix 15 (by kernel_rfl) rfl hs ?_
      simp only [List.take_succ_cons, List.take_zero]
      refine rg_q (fun ac ww h => c_move (h.ev rfl)) rfl ?_
      refine rg_q (fun ac ww h => c_move (h.ev rfl)) rfl ?_
      refine rg_q (fun ac ww h => c_subI (h.ev rfl) (h.ev rfl) (by omega) (by omega)) rfl ?_
      refine rg_q (fun ac ww h => c_idxA (j := k - 16) un207 ty27 (h.ev rfl) (h.ev rfl) (by omega) (by omega)) rfl ?_
      refine rg_q (fun ac ww h => c_loadS un27 rfl (h.ev rfl) (h.blk (hs.seg (i := 0) rfl)) (sched_at p k (k - 16) _ (by omega))) rfl ?_
      refine rg_q (fun ac ww h => c_move (h.ev rfl)) rfl ?_
      refine rg_q (fun ac ww h => c_addU (h.ev rfl) (h.ev rfl)) rfl ?_
      refine rg_q (fun ac ww h => c_move (h.ev rfl)) rfl ?_
      refine rg_q (fun ac ww h => c_subI (h.ev rfl) (h.ev rfl) (by omega) (by omega)) rfl ?_
      refine rg_q (fun ac ww h => c_idxA (j := k - 7) un207 ty27 (h.ev rfl) (h.ev rfl) (by omega) (by omega)) rfl ?_
      refine rg_q (fun ac ww h => c_loadS un27 rfl (h.ev rfl) (h.blk (hs.seg (i := 0) rfl)) (sched_at p k (k - 7) _ (by omega))) rfl ?_
      refine rg_q (fun ac ww h => c_addU (h.ev rfl) (h.ev rfl)) rfl ?_
      refine rg_q (fun ac ww h => c_move (h.ev rfl)) rfl ?_
      refine rg_q (fun ac ww h => c_addU (h.ev rfl) (h.ev rfl)) rfl ?_
      refine rg_q (fun ac ww h => c_idxA (j := k) un207 ty27 (h.ev rfl) (h.ev rfl) (by omega) (by omega)) rfl ?_
      refine rg_nil fun ac ww L' hf hfe hs => ?_
      simp only [List.drop_succ_cons, List.drop_zero]
      obtain rfl : L' = [] := hfe
      replace hs := hs.toL (List.nil_append _)
      refine s_store (i := 0) hs ty27 rfl rfl rfl rfl rfl rfl (by rw [List.length_map, sched_len p k (by omega)]; omega) (map_set _ (by rw [sched_len p k (by omega)]; omega)) fun ww hs => ?_
      refine s_end ?_
      refine blk_n ?_
      refine then_n ?_
      refine wp_reg ?_
      refine s_q hs (c_move (hs.ev rfl)) rfl fun ac hs => ?_
      refine s_q hs (c_addI (hs.ev rfl) (hs.ev rfl) (by omega) (by omega)) rfl fun ac hs => ?_
      refine s_q hs (c_assign (hs.ev rfl)) rfl fun ac hs => ?_
      refine s_end ?_
      refine then_n ?_
      exact ⟨64 - (k + 1), by omega, k + 1, ⟨by omega, by omega, rfl⟩, St.next hs ⟨rfl, rfl, rfl, rfl, trivial⟩ (congrArg (fun z => [Ent.seg g5 (List.map U z) 207, _, _]) (sched_set p k (by omega) _ (sched_hi p k (by omega))))⟩
    · try simp only [decide_eq_true_eq, decide_eq_false_iff_not, Bool.not_eq_true', Bool.not_eq_false', Bool.and_eq_true, Bool.or_eq_true, Bool.or_eq_false_iff] at hc
      obtain ⟨hk, hk2, rfl⟩ := hok
      obtain rfl : k = 64 := by omega
      refine wp_exit ?_
      refine then_e ?_
      refine then_e ?_
      refine blk_hit ?_
      refine then_n ?_
      refine wp_seq ?_
      refine wp_reg ?_
      refine s_call hs fu183 .nil (sha_words _) rfl fun ac ww v106 hf hp hs => ?_
      obtain rfl := hp
      replace hs := hs [] (.nil _ _)
      refine s_alloc hs ty207 rfl fun ac ww g10 hs => ?_
      refine s_storeW (i := 0) hs ty207 rfl rfl rfl (by simp) (by simp [Value.oneCell']) (by simp) fun ww hs => ?_
      refine s_end ?_
      replace hs := hs.sub (F' := [(2, _), (4, _), (5, _), (10, _)]) ⟨rfl, rfl, rfl, rfl, trivial⟩
      refine then_n ?_
      refine wp_seq ?_
      refine wp_region_rg pmix 24 (by kernel_rfl) rfl hs ?_
      simp only [List.take_succ_cons, List.take_zero]
      refine rg_q (fun ac ww h => c_idxA un205 ty27 (h.ev rfl) (h.ev rfl) rfl (by decide)) rfl ?_
      refine rg_q (fun ac ww h => c_loadS un27 rfl (h.ev rfl) (h.blk (hs.seg (i := 3) rfl)) rfl) rfl ?_
      refine rg_q (fun ac ww h => c_idxA un205 ty27 (h.ev rfl) (h.ev rfl) rfl (by decide)) rfl ?_
      refine rg_q (fun ac ww h => c_loadS un27 rfl (h.ev rfl) (h.blk (hs.seg (i := 3) rfl)) rfl) rfl ?_
      refine rg_q (fun ac ww h => c_idxA un205 ty27 (h.ev rfl) (h.ev rfl) rfl (by decide)) rfl ?_
      refine rg_q (fun ac ww h => c_loadS un27 rfl (h.ev rfl) (h.blk (hs.seg (i := 3) rfl)) rfl) rfl ?_
      refine rg_q (fun ac ww h => c_idxA un205 ty27 (h.ev rfl) (h.ev rfl) rfl (by decide)) rfl ?_
      refine rg_q (fun ac ww h => c_loadS un27 rfl (h.ev rfl) (h.blk (hs.seg (i := 3) rfl)) rfl) rfl ?_
      refine rg_q (fun ac ww h => c_idxA un205 ty27 (h.ev rfl) (h.ev rfl) rfl (by decide)) rfl ?_
      refine rg_q (fun ac ww h => c_loadS un27 rfl (h.ev rfl) (h.blk (hs.seg (i := 3) rfl)) rfl) rfl ?_
      refine rg_q (fun ac ww h => c_idxA un205 ty27 (h.ev rfl) (h.ev rfl) rfl (by decide)) rfl ?_
      refine rg_q (fun ac ww h => c_loadS un27 rfl (h.ev rfl) (h.blk (hs.seg (i := 3) rfl)) rfl) rfl ?_
      refine rg_q (fun ac ww h => c_idxA un205 ty27 (h.ev rfl) (h.ev rfl) rfl (by decide)) rfl ?_
      refine rg_q (fun ac ww h => c_loadS un27 rfl (h.ev rfl) (h.blk (hs.seg (i := 3) rfl)) rfl) rfl ?_
      refine rg_q (fun ac ww h => c_idxA un205 ty27 (h.ev rfl) (h.ev rfl) rfl (by decide)) rfl ?_
      refine rg_q (fun ac ww h => c_loadS un27 rfl (h.ev rfl) (h.blk (hs.seg (i := 3) rfl)) rfl) rfl ?_
      refine rg_q (fun ac ww h => c_assign (h.ev rfl)) rfl ?_
      refine rg_q (fun ac ww h => c_assign (h.ev rfl)) rfl ?_
      refine rg_q (fun ac ww h => c_assign (h.ev rfl)) rfl ?_
      refine rg_q (fun ac ww h => c_assign (h.ev rfl)) rfl ?_
      refine rg_q (fun ac ww h => c_assign (h.ev rfl)) rfl ?_
      refine rg_q (fun ac ww h => c_assign (h.ev rfl)) rfl ?_
      refine rg_q (fun ac ww h => c_assign (h.ev rfl)) rfl ?_
      refine rg_q (fun ac ww h => c_assign (h.ev rfl)) rfl ?_
      refine rg_nil fun ac ww L' hf hfe hs => ?_
      simp only [List.drop_succ_cons, List.drop_zero]
      obtain rfl : L' = [] := hfe
      replace hs := hs.toL (List.nil_append _)
      refine s_end ?_
      replace hs := hs.sub (F' := [(2, _), (4, _), (5, _), (10, _), (11, _), (12, _), (13, _), (14, _), (15, _), (16, _), (17, _), (18, _)]) ⟨rfl, rfl, rfl, rfl, rfl, rfl, rfl, rfl, rfl, rfl, rfl, rfl, trivial⟩
      refine then_n ?_
      refine wp_seq ?_
      refine wp_seq ?_
      refine wp_reg ?_
      refine s_q hs (c_move (hs.ev rfl)) rfl fun ac hs => ?_
      refine s_end ?_
      refine then_n ?_
      refine wp_block ?_
      refine s_loop hs (X := Nat) (fun k => [(123, I k), (11, U (rounds p h k).a), (12, U (rounds p h k).b), (13, U (rounds p h k).c), (14, U (rounds p h k).d), (15, U (rounds p h k).e), (16, U (rounds p h k).f), (17, U (rounds p h k).g), (18, U (rounds p h k).h)]) [(2, _), (4, _), (5, _), (10, _)] (fun _ => [_, _, _, _]) (fun n k => k ≤ 64 ∧ n = 64 - k) (64) (0) (⟨by omega, rfl⟩) ⟨rfl, rfl, rfl, rfl, rfl, rfl, rfl, rfl, rfl, rfl, rfl, rfl, rfl, trivial⟩ rfl ?_
      rintro n k ac ww hok hs
      simp only [List.cons_append, List.nil_append] at hs
      refine wp_seq ?_
      refine wp_reg ?_
      refine s_q hs (c_lssI (hs.ev rfl) (hs.ev rfl)) rfl fun ac hs => ?_
      refine s_end ?_
      refine then_n ?_
      refine wp_seq ?_
      refine s_cond hs rfl (fun hc => ?_) (fun hc => ?_)
      · try simp only [decide_eq_true_eq, decide_eq_false_iff_not, Bool.not_eq_true', Bool.not_eq_false', Bool.and_eq_true, Bool.or_eq_true, Bool.or_eq_false_iff] at hc
        obtain ⟨hk, rfl⟩ := hok
        refine wp_skip ?_
        refine then_n ?_
        refine wp_seq ?_
        refine wp_block ?_
        refine wp_seq ?_
        refine wp_reg ?_
        refine s_q hs (c_move (hs.ev rfl)) rfl fun ac hs => ?_
        refine s_q hs (c_assign (hs.ev rfl)) rfl fun ac hs => ?_
        refine s_end ?_
        refine then_n ?_
        refine wp_seq ?_
        refine wp_reg ?_
        refine s_q hs (c_move (hs.ev rfl)) rfl fun ac hs => ?_
        refine s_call hs fu182 (.cons (hs.ev rfl) (.cons (hs.ev rfl) .nil)) (sha_turn _ 6 (by omega) (by omega) _) rfl fun ac ww v127 hf hp hs => ?_
        obtain rfl := hp
        replace hs := hs [] (.nil _ _)
        refine s_q hs (c_move (hs.ev rfl)) rfl fun ac hs => ?_
        refine s_call hs fu182 (.cons (hs.ev rfl) (.cons (hs.ev rfl) .nil)) (sha_turn _ 11 (by omega) (by omega) _) rfl fun ac ww v129 hf hp hs => ?_
        obtain rfl := hp
        replace hs := hs [] (.nil _ _)
        refine s_q hs (c_xorU (hs.ev rfl) (hs.ev rfl)) rfl fun ac hs => ?_
        refine s_q hs (c_move (hs.ev rfl)) rfl fun ac hs => ?_
        refine s_call hs fu182 (.cons (hs.ev rfl) (.cons (hs.ev rfl) .nil)) (sha_turn _ 25 (by omega) (by omega) _) rfl fun ac ww v132 hf hp hs => ?_
        obtain rfl := hp
        replace hs := hs [] (.nil _ _)
        refine s_q hs (c_xorU (hs.ev rfl) (hs.ev rfl)) rfl fun ac hs => ?_
        refine s_q hs (c_assign (hs.ev rfl)) rfl fun ac hs => ?_
        refine s_end ?_
        refine then_n ?_
        refine wp_seq ?_
        refine wp_region_rg pmix 21 (by kernel_rfl) rfl hs ?_
        simp only [List.take_succ_cons, List.take_zero]
        refine rg_q (fun ac ww h => c_move (h.ev rfl)) rfl ?_
        refine rg_q (fun ac ww h => c_move (h.ev rfl)) rfl ?_
        refine rg_q (fun ac ww h => c_addU (h.ev rfl) (h.ev rfl)) rfl ?_
        refine rg_q (fun ac ww h => c_move (h.ev rfl)) rfl ?_
        refine rg_q (fun ac ww h => c_move (h.ev rfl)) rfl ?_
        refine rg_q (fun ac ww h => c_andU (h.ev rfl) (h.ev rfl)) rfl ?_
        refine rg_q (fun ac ww h => c_move (h.ev rfl)) rfl ?_
        refine rg_q (fun ac ww h => c_notU (h.ev rfl)) rfl ?_
        refine rg_q (fun ac ww h => c_move (h.ev rfl)) rfl ?_
        refine rg_q (fun ac ww h => c_andU (h.ev rfl) (h.ev rfl)) rfl ?_
        refine rg_q (fun ac ww h => c_xorU (h.ev rfl) (h.ev rfl)) rfl ?_
        refine rg_q (fun ac ww h => c_addU (h.ev rfl) (h.ev rfl)) rfl ?_
        refine rg_q (fun ac ww h => c_move (h.ev rfl)) rfl ?_
        refine rg_q (fun ac ww h => c_idxA (j := k) un207 ty27 (h.ev rfl) (h.ev rfl) (by omega) (by omega)) rfl ?_
        refine rg_q (fun ac ww h => c_loadS un27 rfl (h.ev rfl) (h.blk (hs.seg (i := 0) rfl)) (map_get 0 (by simp; omega))) rfl ?_
        refine rg_q (fun ac ww h => c_addU (h.ev rfl) (h.ev rfl)) rfl ?_
        refine rg_q (fun ac ww h => c_move (h.ev rfl)) rfl ?_
        refine rg_q (fun ac ww h => c_idxA (j := k) un207 ty27 (h.ev rfl) (h.ev rfl) (by omega) (by omega)) rfl ?_
        refine rg_q (fun ac ww h => c_loadS un27 rfl (h.ev rfl) (h.blk (hs.seg (i := 1) rfl)) (sched_at p 64 k _ (by omega))) rfl ?_
        refine rg_q (fun ac ww h => c_addU (h.ev rfl) (h.ev rfl)) rfl ?_
        refine rg_q (fun ac ww h => c_assign (h.ev rfl)) rfl ?_
        refine rg_nil fun ac ww L' hf hfe hs => ?_
        simp only [List.drop_succ_cons, List.drop_zero]
        obtain rfl : L' = [] := hfe
        replace hs := hs.toL (List.nil_append _)
        refine s_end ?_
        refine then_n ?_
        refine wp_seq ?_
        refine wp_reg ?_
        refine s_q hs (c_move (hs.ev rfl)) rfl fun ac hs => ?_
        refine s_call hs fu182 (.cons (hs.ev rfl) (.cons (hs.ev rfl) .nil)) (sha_turn _ 2 (by omega) (by omega) _) rfl fun ac ww v155 hf hp hs => ?_
        obtain rfl := hp
        replace hs := hs [] (.nil _ _)
        refine s_q hs (c_move (hs.ev rfl)) rfl fun ac hs => ?_
        refine s_call hs fu182 (.cons (hs.ev rfl) (.cons (hs.ev rfl) .nil)) (sha_turn _ 13 (by omega) (by omega) _) rfl fun ac ww v157 hf hp hs => ?_
        obtain rfl := hp
        replace hs := hs [] (.nil _ _)
        refine s_q hs (c_xorU (hs.ev rfl) (hs.ev rfl)) rfl fun ac hs => ?_
        refine s_q hs (c_move (hs.ev rfl)) rfl fun ac hs => ?_
        refine s_call hs fu182 (.cons (hs.ev rfl) (.cons (hs.ev rfl) .nil)) (sha_turn _ 22 (by omega) (by omega) _) rfl fun ac ww v160 hf hp hs => ?_
        obtain rfl := hp
        replace hs := hs [] (.nil _ _)
        refine s_q hs (c_xorU (hs.ev rfl) (hs.ev rfl)) rfl fun ac hs => ?_
        refine s_q hs (c_assign (hs.ev rfl)) rfl fun ac hs => ?_
        refine s_end ?_
        refine then_n ?_
        refine wp_seq ?_
        refine wp_reg ?_
        refine s_q hs (c_move (hs.ev rfl)) rfl fun ac hs => ?_
        refine s_q hs (c_move (hs.ev rfl)) rfl fun ac hs => ?_
        refine s_q hs (c_move (hs.ev rfl)) rfl fun ac hs => ?_
        refine s_q hs (c_andU (hs.ev rfl) (hs.ev rfl)) rfl fun ac hs => ?_
        refine s_q hs (c_move (hs.ev rfl)) rfl fun ac hs => ?_
        refine s_q hs (c_move (hs.ev rfl)) rfl fun ac hs => ?_
        refine s_q hs (c_andU (hs.ev rfl) (hs.ev rfl)) rfl fun ac hs => ?_
        refine s_q hs (c_xorU (hs.ev rfl) (hs.ev rfl)) rfl fun ac hs => ?_
        refine s_q hs (c_move (hs.ev rfl)) rfl fun ac hs => ?_
        refine s_q hs (c_move (hs.ev rfl)) rfl fun ac hs => ?_
        refine s_q hs (c_andU (hs.ev rfl) (hs.ev rfl)) rfl fun ac hs => ?_
        refine s_q hs (c_xorU (hs.ev rfl) (hs.ev rfl)) rfl fun ac hs => ?_
        refine s_q hs (c_addU (hs.ev rfl) (hs.ev rfl)) rfl fun ac hs => ?_
        refine s_q hs (c_assign (hs.ev rfl)) rfl fun ac hs => ?_
        refine s_end ?_
        refine then_n ?_
        refine wp_reg ?_
        refine s_q hs (c_move (hs.ev rfl)) rfl fun ac hs => ?_
        refine s_q hs (c_move (hs.ev rfl)) rfl fun ac hs => ?_
        refine s_q hs (c_addU (hs.ev rfl) (hs.ev rfl)) rfl fun ac hs => ?_
        refine s_q hs (c_move (hs.ev rfl)) rfl fun ac hs => ?_
        refine s_q hs (c_move (hs.ev rfl)) rfl fun ac hs => ?_
        refine s_q hs (c_move (hs.ev rfl)) rfl fun ac hs => ?_
        refine s_q hs (c_move (hs.ev rfl)) rfl fun ac hs => ?_
        refine s_q hs (c_move (hs.ev rfl)) rfl fun ac hs => ?_
        refine s_q hs (c_addU (hs.ev rfl) (hs.ev rfl)) rfl fun ac hs => ?_
        refine s_q hs (c_move (hs.ev rfl)) rfl fun ac hs => ?_
        refine s_q hs (c_move (hs.ev rfl)) rfl fun ac hs => ?_
        refine s_q hs (c_move (hs.ev rfl)) rfl fun ac hs => ?_
        refine s_q hs (c_assign (hs.ev rfl)) rfl fun ac hs => ?_
        refine s_q hs (c_assign (hs.ev rfl)) rfl fun ac hs => ?_
        refine s_q hs (c_assign (hs.ev rfl)) rfl fun ac hs => ?_
        refine s_q hs (c_assign (hs.ev rfl)) rfl fun ac hs => ?_
        refine s_q hs (c_assign (hs.ev rfl)) rfl fun ac hs => ?_
        refine s_q hs (c_assign (hs.ev rfl)) rfl fun ac hs => ?_
        refine s_q hs (c_assign (hs.ev rfl)) rfl fun ac hs => ?_
        refine s_q hs (c_assign (hs.ev rfl)) rfl fun ac hs => ?_
        refine s_end ?_
        refine blk_n ?_
        refine then_n ?_
        refine wp_reg ?_
        refine s_q hs (c_addI (hs.ev rfl) (hs.ev rfl) (by omega) (by omega)) rfl fun ac hs => ?_
        refine s_q hs (c_move (hs.ev rfl)) rfl fun ac hs => ?_
        refine s_end ?_
        refine then_n ?_
        exact ⟨64 - (k + 1), by omega, k + 1, ⟨by omega, rfl⟩, St.next hs ⟨rfl, rfl, rfl, rfl, rfl, rfl, rfl, rfl, rfl, rfl, rfl, rfl, rfl, trivial⟩ rfl⟩
      · try simp only [decide_eq_true_eq, decide_eq_false_iff_not, Bool.not_eq_true', Bool.not_eq_false', Bool.and_eq_true, Bool.or_eq_true, Bool.or_eq_false_iff] at hc
        obtain ⟨hk, rfl⟩ := hok
        obtain rfl : k = 64 := by omega
        refine wp_exit ?_
        refine then_e ?_
        refine then_e ?_
        refine blk_hit ?_
        refine then_n ?_
        refine wp_seq ?_
        refine wp_reg ?_
        refine s_q hs (c_idxA un205 ty27 (hs.ev rfl) (hs.ev rfl) rfl (by decide)) rfl fun ac hs => ?_
        refine s_q hs (c_loadS un27 rfl (hs.ev rfl) (hs.seg (i := 3) rfl) rfl) rfl fun ac hs => ?_
        refine s_q hs (c_move (hs.ev rfl)) rfl fun ac hs => ?_
        refine s_q hs (c_addU (hs.ev rfl) (hs.ev rfl)) rfl fun ac hs => ?_
        refine s_q hs (c_idxA un205 ty27 (hs.ev rfl) (hs.ev rfl) rfl (by decide)) rfl fun ac hs => ?_
        refine s_q hs (c_loadS un27 rfl (hs.ev rfl) (hs.seg (i := 3) rfl) rfl) rfl fun ac hs => ?_
        refine s_q hs (c_move (hs.ev rfl)) rfl fun ac hs => ?_
        refine s_q hs (c_addU (hs.ev rfl) (hs.ev rfl)) rfl fun ac hs => ?_
        refine s_q hs (c_idxA un205 ty27 (hs.ev rfl) (hs.ev rfl) rfl (by decide)) rfl fun ac hs => ?_
        refine s_q hs (c_loadS un27 rfl (hs.ev rfl) (hs.seg (i := 3) rfl) rfl) rfl fun ac hs => ?_
        refine s_q hs (c_move (hs.ev rfl)) rfl fun ac hs => ?_
        refine s_q hs (c_addU (hs.ev rfl) (hs.ev rfl)) rfl fun ac hs => ?_
        refine s_q hs (c_idxA un205 ty27 (hs.ev rfl) (hs.ev rfl) rfl (by decide)) rfl fun ac hs => ?_
        refine s_q hs (c_loadS un27 rfl (hs.ev rfl) (hs.seg (i := 3) rfl) rfl) rfl fun ac hs => ?_
        refine s_q hs (c_move (hs.ev rfl)) rfl fun ac hs => ?_
        refine s_q hs (c_addU (hs.ev rfl) (hs.ev rfl)) rfl fun ac hs => ?_
        refine s_q hs (c_idxA un205 ty27 (hs.ev rfl) (hs.ev rfl) rfl (by decide)) rfl fun ac hs => ?_
        refine s_q hs (c_loadS un27 rfl (hs.ev rfl) (hs.seg (i := 3) rfl) rfl) rfl fun ac hs => ?_
        refine s_q hs (c_move (hs.ev rfl)) rfl fun ac hs => ?_
        refine s_q hs (c_addU (hs.ev rfl) (hs.ev rfl)) rfl fun ac hs => ?_
        refine s_q hs (c_idxA un205 ty27 (hs.ev rfl) (hs.ev rfl) rfl (by decide)) rfl fun ac hs => ?_
        refine s_q hs (c_loadS un27 rfl (hs.ev rfl) (hs.seg (i := 3) rfl) rfl) rfl fun ac hs => ?_
        refine s_q hs (c_move (hs.ev rfl)) rfl fun ac hs => ?_
        refine s_q hs (c_addU (hs.ev rfl) (hs.ev rfl)) rfl fun ac hs => ?_
        refine s_q hs (c_idxA un205 ty27 (hs.ev rfl) (hs.ev rfl) rfl (by decide)) rfl fun ac hs => ?_
        refine s_q hs (c_loadS un27 rfl (hs.ev rfl) (hs.seg (i := 3) rfl) rfl) rfl fun ac hs => ?_
        refine s_q hs (c_move (hs.ev rfl)) rfl fun ac hs => ?_
        refine s_q hs (c_addU (hs.ev rfl) (hs.ev rfl)) rfl fun ac hs => ?_
        refine s_q hs (c_idxA un205 ty27 (hs.ev rfl) (hs.ev rfl) rfl (by decide)) rfl fun ac hs => ?_
        refine s_q hs (c_loadS un27 rfl (hs.ev rfl) (hs.seg (i := 3) rfl) rfl) rfl fun ac hs => ?_
        refine s_q hs (c_move (hs.ev rfl)) rfl fun ac hs => ?_
        refine s_q hs (c_addU (hs.ev rfl) (hs.ev rfl)) rfl fun ac hs => ?_
        refine s_q hs (c_buildA ty205 un205 ty27 (zc := (comp h p).list.map U) (.cons (hs.ev rfl) (.cons (hs.ev rfl) (.cons (hs.ev rfl) (.cons (hs.ev rfl) (.cons (hs.ev rfl) (.cons (hs.ev rfl) (.cons (hs.ev rfl) (.cons (hs.ev rfl) .nil)))))))) (by simp [Value.cells]) (by simp [flatCells, Value.cells]) rfl) rfl fun ac hs => ?_
        refine s_storeW (i := 2) hs ty205 rfl rfl rfl (by simp) (by simp [Value.oneCell']) (by simp) fun ww hs => ?_
        refine s_end ?_
        replace hs := hs.sub (F' := [(4, _)]) ⟨rfl, trivial⟩
        refine then_n ?_
        refine wp_ret ?_
        refine s_ret hs rfl (.cell (hs.tmp rfl) (run_loadA ty205 rfl (hs.seg (i := 2) rfl) (List.take_of_length_le (by simp)) (by simp)) .nil) rfl ⟨_, rfl, hs.fr, ?_⟩
        rfl

end Go.Proofs.Ytmgnnclkjkbmdaa
