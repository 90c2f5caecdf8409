/- Own texts of this seat, laid together for one claim (with what its proof uses alone). -/
import Derived.Test.YtmgnnclkjkbmdaaGroveSetKa
section
set_option linter.unusedSimpArgs false
set_option linter.unusedVariables false
set_option maxRecDepth 100000
namespace Go.Proofs.Ytmgnnclkjkbmdaa
open Go Go.Fw
open Sha
theorem sched_at (p : List UInt8) (k j : Nat) (R : List UInt32) (hj : j < k) : ((sched p k ++ R).map U)[0 + j * 1]? = some (U ((sched p k).getD j 0)) := by
  have := map_get (f := U) (l := sched p k ++ R) (i := j) 0 (by simp [sched_length]; omega)
  rw [this, sched_getD p k j R hj]
theorem sched_len (p : List UInt8) (k : Nat) (hk : k ≤ 64) : (sched p k ++ List.replicate (64 - k) (0 : UInt32)).length = 64 := by simp [sched_length]; omega
set_option maxHeartbeats 4000000 in
theorem sha_turn (x : UInt32) (n : Nat) (hn : 0 < n) (hn2 : n < 32) (w : World)  : Ctr Try.prog 182 [U x, I n] w (fun _ => False) (fun v _ => v = U (rotr x n)) := by
  refine fn_start (N := 13) Try.func182 rfl rfl rfl fun ac hk => ?_
  have hs := St.start hk w
  refine wp_seq ?_
  refine wp_reg ?_
  refine s_q hs (c_assign (St.ev (v := U 0) hs rfl)) rfl fun ac hs => ?_
  refine s_end ?_
  refine then_n ?_
  refine wp_seq ?_
  refine wp_region_rg pmix 9 (by kernel_rfl) rfl hs ?_
  simp only [List.take_succ_cons, List.take_zero]
  refine rg_q (fun ac ww h => c_move (h.ev rfl)) rfl ?_
  refine rg_q (fun ac ww h => c_move (h.ev rfl)) rfl ?_
  refine rg_q (fun ac ww h => c_shrU (h.ev rfl) (h.ev rfl) (by omega)) rfl ?_
  refine rg_q (fun ac ww h => c_move (h.ev rfl)) rfl ?_
  refine rg_q (fun ac ww h => c_move (h.ev rfl)) rfl ?_
  refine rg_q (fun ac ww h => c_subI (h.ev rfl) (h.ev rfl) (by omega) (by omega)) rfl ?_
  refine rg_q (fun ac ww h => c_shlU (n := 32 - n) (h.ev rfl) ((h.ev rfl).trans (congrArg I (by omega))) (by omega)) rfl ?_
  refine rg_q (fun ac ww h => c_orU (h.ev rfl) (h.ev rfl)) rfl ?_
  refine rg_q (fun ac ww h => c_assign (h.ev rfl)) rfl ?_
  refine rg_nil fun ac ww L' hf hfe hs => ?_
  simp only [List.drop_succ_cons, List.drop_zero]
  obtain rfl : L' = [] := hfe
  replace hs := hs.toL (List.nil_append _)
  refine s_end ?_
  replace hs := hs.sub (F' := [(4, _)]) ⟨rfl, trivial⟩
  refine then_n ?_
  refine wp_ret ?_
  refine s_ret hs rfl (.tmp (hs.tmp rfl) .nil) rfl ⟨_, rfl, hs.fr, ?_⟩
  rfl
set_option maxHeartbeats 4000000 in
theorem sha_words  (w : World)  : Ctr Try.prog 183 [] w (fun _ => False) (fun v _ => v = .agg (K.map U).toArray) := by
  refine fn_start (N := 2) Try.func183 rfl rfl rfl fun ac hk => ?_
  have hs := St.start hk w
  refine wp_seq ?_
  refine wp_reg ?_
  refine s_alloc hs ty207 rfl fun ac ww g0 hs => ?_
  refine s_end ?_
  refine then_n ?_
  refine wp_seq ?_
  refine wp_reg ?_
  refine s_q hs (c_buildA ty207 un207 ty27 (vs := K.map U) (zc := K.map U) (by repeat (first | exact .nil | refine .cons rfl ?_)) (by decide) (by decide) rfl) rfl fun ac hs => ?_
  refine s_storeW (i := 0) hs ty207 rfl rfl rfl (by simp) (by simp [Value.oneCell']) (by simp) fun ww hs => ?_
  refine s_end ?_
  replace hs := hs.sub (F' := [(0, _)]) ⟨rfl, trivial⟩
  refine then_n ?_
  refine wp_ret ?_
  refine s_ret hs rfl (.cell (hs.tmp rfl) (run_loadA ty207 rfl (hs.seg (i := 0) rfl) (List.take_of_length_le (by simp)) (by simp)) .nil) rfl ⟨_, rfl, hs.fr, ?_⟩
  rfl
set_option maxHeartbeats 4000000 in
theorem sha_mix (h : R) (p : List UInt8) (vp : Value) (h64 : 64 ≤ p.length) (w : World) (hp : RdB w vp p) : Ctr Try.prog 157 [.agg (h.list.map U).toArray, vp] w (fun _ => False) (fun v _ => v = .agg ((comp h p).list.map U).toArray) := by
  obtain ⟨pb, po, pc, pT, pf, pall, rfl, hpc, hpm, hpb, hps⟩ := RdB.at_ hp (by omega)
  have hpl := hp.le
  refine fn_start (N := 221) Try.func157 rfl rfl rfl fun ac hk => ?_
  have hs := St.start hk w
  refine wp_seq ?_
  refine wp_reg ?_
  refine s_box hs rfl rfl rfl fun ac ww g2 hs => ?_
  refine s_alloc hs ty205 rfl fun ac ww g4 hs => ?_
  refine s_end ?_
  replace hs := hs.sub (F' := [(1, _), (2, _), (4, _)]) ⟨rfl, rfl, rfl, trivial⟩
  refine then_n ?_
  refine wp_seq ?_
  refine wp_reg ?_
  refine s_alloc hs ty207 rfl fun ac ww g5 hs => ?_
  refine s_end ?_
  refine then_n ?_
  refine wp_seq ?_
  refine wp_seq ?_
  refine wp_reg ?_
  refine s_q hs (c_move (hs.ev rfl)) rfl fun ac hs => ?_
  refine s_end ?_
  refine then_n ?_
  refine wp_block ?_
  refine s_loop hs (X := Nat) (fun k => [(24, I k)]) [(1, _), (2, _), (4, _), (5, _)] (fun k => [.seg g5 ((sched p k ++ List.replicate (64 - k) 0).map U) 207, _, _]) (fun n k => k ≤ 16 ∧ n = 16 - k) (16) (0) (⟨by omega, rfl⟩) ⟨rfl, rfl, rfl, rfl, rfl, trivial⟩ (congrArg (fun z => [Ent.seg g5 (List.map U z) 207, _, _]) (show List.replicate 64 0 = _ by rw [sched_zero]; rfl)) ?_
  rintro n k ac ww hok hs
  simp only [List.cons_append, List.nil_append] at hs
  refine wp_seq ?_
  refine wp_reg ?_
  refine s_q hs (c_lssI (hs.ev rfl) (hs.ev rfl)) rfl fun ac hs => ?_
  refine s_end ?_
  refine then_n ?_
  refine wp_seq ?_
  refine s_cond hs rfl (fun hc => ?_) (fun hc => ?_)
  · try simp only [decide_eq_true_eq, decide_eq_false_iff_not, Bool.not_eq_true', Bool.not_eq_false', Bool.and_eq_true, Bool.or_eq_true, Bool.or_eq_false_iff] at hc
    obtain ⟨hk, rfl⟩ := hok
    refine wp_skip ?_
    refine then_n ?_
    refine wp_seq ?_
    refine wp_block ?_
    refine wp_seq ?_
    refine wp_reg ?_
    refine s_q hs (c_move (hs.ev rfl)) rfl fun ac hs => ?_
    refine s_q hs (c_assign (hs.ev rfl)) rfl fun ac hs => ?_
    refine s_end ?_
    refine then_n ?_
    refine wp_region_rg pmix 35 (by kernel_rfl) rfl hs ?_
    simp only [List.take_succ_cons, List.take_zero]
    refine rg_q (fun ac ww h => c_move (h.ev rfl)) rfl ?_
    refine rg_q (fun ac ww h => c_move (h.ev rfl)) rfl ?_
    refine rg_q (fun ac ww h => c_move (h.ev rfl)) rfl ?_
    refine rg_q (fun ac ww h => c_mulI (h.ev rfl) (h.ev rfl) (by omega) (by omega)) rfl ?_
    refine rg_q (fun ac ww h => c_idxS (j := 4 * k) un34 ty5 (h.ev rfl) (h.ev rfl) (by omega) (by omega)) rfl ?_
    refine rg_q (fun ac ww h => c_loadS un5 rfl (h.ev rfl) (h.blk (hs.old hpb id)) (seg_get 0 hps (by omega))) rfl ?_
    refine rg_q (fun ac ww h => c_cvBU un5 un27 (h.ev rfl)) rfl ?_
    refine rg_q (fun ac ww h => c_shlU (h.ev rfl) (h.ev rfl) (by decide)) rfl ?_
    refine rg_q (fun ac ww h => c_move (h.ev rfl)) rfl ?_
    refine rg_q (fun ac ww h => c_move (h.ev rfl)) rfl ?_
    refine rg_q (fun ac ww h => c_mulI (h.ev rfl) (h.ev rfl) (by omega) (by omega)) rfl ?_
    refine rg_q (fun ac ww h => c_addI (h.ev rfl) (h.ev rfl) (by omega) (by omega)) rfl ?_
    refine rg_q (fun ac ww h => c_idxS (j := 4 * k + 1) un34 ty5 (h.ev rfl) (h.ev rfl) (by omega) (by omega)) rfl ?_
    refine rg_q (fun ac ww h => c_loadS un5 rfl (h.ev rfl) (h.blk (hs.old hpb id)) (seg_get 0 hps (by omega))) rfl ?_
    refine rg_q (fun ac ww h => c_cvBU un5 un27 (h.ev rfl)) rfl ?_
    refine rg_q (fun ac ww h => c_shlU (h.ev rfl) (h.ev rfl) (by decide)) rfl ?_
    refine rg_q (fun ac ww h => c_orU (h.ev rfl) (h.ev rfl)) rfl ?_
    refine rg_q (fun ac ww h => c_move (h.ev rfl)) rfl ?_
    refine rg_q (fun ac ww h => c_move (h.ev rfl)) rfl ?_
    refine rg_q (fun ac ww h => c_mulI (h.ev rfl) (h.ev rfl) (by omega) (by omega)) rfl ?_
    refine rg_q (fun ac ww h => c_addI (h.ev rfl) (h.ev rfl) (by omega) (by omega)) rfl ?_
    refine rg_q (fun ac ww h => c_idxS (j := 4 * k + 2) un34 ty5 (h.ev rfl) (h.ev rfl) (by omega) (by omega)) rfl ?_
    refine rg_q (fun ac ww h => c_loadS un5 rfl (h.ev rfl) (h.blk (hs.old hpb id)) (seg_get 0 hps (by omega))) rfl ?_
    refine rg_q (fun ac ww h => c_cvBU un5 un27 (h.ev rfl)) rfl ?_
    refine rg_q (fun ac ww h => c_shlU (h.ev rfl) (h.ev rfl) (by decide)) rfl ?_
    refine rg_q (fun ac ww h => c_orU (h.ev rfl) (h.ev rfl)) rfl ?_
    refine rg_q (fun ac ww h => c_move (h.ev rfl)) rfl ?_
    refine rg_q (fun ac ww h => c_move (h.ev rfl)) rfl ?_
    refine rg_q (fun ac ww h => c_mulI (h.ev rfl) (h.ev rfl) (by omega) (by omega)) rfl ?_
    refine rg_q (fun ac ww h => c_addI (h.ev rfl) (h.ev rfl) (by omega) (by omega)) rfl ?_
    refine rg_q (fun ac ww h => c_idxS (j := 4 * k + 3) un34 ty5 (h.ev rfl) (h.ev rfl) (by omega) (by omega)) rfl ?_
    refine rg_q (fun ac ww h => c_loadS un5 rfl (h.ev rfl) (h.blk (hs.old hpb id)) (seg_get 0 hps (by omega))) rfl ?_
    refine rg_q (fun ac ww h => c_cvBU un5 un27 (h.ev rfl)) rfl ?_
    refine rg_q (fun ac ww h => c_orU (h.ev rfl) (h.ev rfl)) rfl ?_
    refine rg_q (fun ac ww h => c_idxA (j := k) un207 ty27 (h.ev rfl) (h.ev rfl) (by omega) (by omega)) rfl ?_
    refine rg_nil fun ac ww L' hf hfe hs => ?_
    simp only [List.drop_succ_cons, List.drop_zero]
    obtain rfl : L' = [] := hfe
    replace hs := hs.toL (List.nil_append _)
    refine s_store (i := 0) hs ty27 rfl rfl rfl rfl rfl rfl (by rw [List.length_map, sched_len p k (by omega)]; omega) (map_set _ (by rw [sched_len p k (by omega)]; omega)) fun ww hs => ?_
    refine s_end ?_
    refine blk_n ?_
    refine then_n ?_
    refine wp_reg ?_
    refine s_q hs (c_addI (hs.ev rfl) (hs.ev rfl) (by omega) (by omega)) rfl fun ac hs => ?_
    refine s_q hs (c_move (hs.ev rfl)) rfl fun ac hs => ?_
    refine s_end ?_
    refine then_n ?_
    exact ⟨16 - (k + 1), by omega, k + 1, ⟨by omega, rfl⟩, St.next hs ⟨rfl, rfl, rfl, rfl, rfl, trivial⟩ (congrArg (fun z => [Ent.seg g5 (List.map U z) 207, _, _]) (sched_set p k (by omega) _ (sched_lo p k (by omega))))⟩
  · try simp only [decide_eq_true_eq, decide_eq_false_iff_not, Bool.not_eq_true', Bool.not_eq_false', Bool.and_eq_true, Bool.or_eq_true, Bool.or_eq_false_iff] at hc
    obtain ⟨hk, rfl⟩ := hok
    obtain rfl : k = 16 := by omega
    refine wp_exit ?_
    refine then_e ?_
    refine then_e ?_
    refine blk_hit ?_
    refine then_n ?_
    refine wp_seq ?_
    refine wp_seq ?_
    refine wp_reg ?_
    refine s_q hs (c_assign (hs.ev rfl)) rfl fun ac hs => ?_
    refine s_end ?_
    replace hs := hs.sub (F' := [(2, _), (4, _), (5, _), (7, _)]) ⟨rfl, rfl, rfl, rfl, trivial⟩
    refine then_n ?_
    refine wp_block ?_
    refine s_loop hs (X := Nat) (fun k => [(7, I k)]) [(2, _), (4, _), (5, _)] (fun k => [.seg g5 ((sched p k ++ List.replicate (64 - k) 0).map U) 207, _, _]) (fun n k => 16 ≤ k ∧ k ≤ 64 ∧ n = 64 - k) (48) (16) (⟨by omega, by omega, rfl⟩) ⟨rfl, rfl, rfl, rfl, trivial⟩ rfl ?_
    rintro n k ac ww hok hs
    simp only [List.cons_append, List.nil_append] at hs
    refine wp_seq ?_
    refine wp_seq ?_
    refine wp_reg ?_
    refine s_q hs (c_move (hs.ev rfl)) rfl fun ac hs => ?_
    refine s_q hs (c_lssI (hs.ev rfl) (hs.ev rfl)) rfl fun ac hs => ?_
    refine s_end ?_
    refine then_n ?_
    refine s_cond hs rfl (fun hc => ?_) (fun hc => ?_)
    · try simp only [decide_eq_true_eq, decide_eq_false_iff_not, Bool.not_eq_true', Bool.not_eq_false', Bool.and_eq_true, Bool.or_eq_true, Bool.or_eq_false_iff] at hc
      obtain ⟨hk, hk2, rfl⟩ := hok
      refine wp_skip ?_
      refine then_n ?_
      refine wp_seq ?_
      refine wp_block ?_
      refine wp_seq ?_
      refine wp_region_rg pmix 10 (by kernel_rfl) rfl hs ?_
      simp only [List.take_succ_cons, List.take_zero]
      refine rg_q (fun ac ww h => c_move (h.ev rfl)) rfl ?_
      refine rg_q (fun ac ww h => c_subI (h.ev rfl) (h.ev rfl) (by omega) (by omega)) rfl ?_
      refine rg_q (fun ac ww h => c_idxA (j := k - 15) un207 ty27 (h.ev rfl) (h.ev rfl) (by omega) (by omega)) rfl ?_
      refine rg_q (fun ac ww h => c_loadS un27 rfl (h.ev rfl) (h.blk (hs.seg (i := 0) rfl)) (sched_at p k (k - 15) _ (by omega))) rfl ?_
      refine rg_q (fun ac ww h => c_move (h.ev rfl)) rfl ?_
      refine rg_q (fun ac ww h => c_subI (h.ev rfl) (h.ev rfl) (by omega) (by omega)) rfl ?_
      refine rg_q (fun ac ww h => c_idxA (j := k - 2) un207 ty27 (h.ev rfl) (h.ev rfl) (by omega) (by omega)) rfl ?_
      refine rg_q (fun ac ww h => c_loadS un27 rfl (h.ev rfl) (h.blk (hs.seg (i := 0) rfl)) (sched_at p k (k - 2) _ (by omega))) rfl ?_
      refine rg_q (fun ac ww h => c_assign (h.ev rfl)) rfl ?_
      refine rg_q (fun ac ww h => c_assign (h.ev rfl)) rfl ?_
      refine rg_nil fun ac ww L' hf hfe hs => ?_
      simp only [List.drop_succ_cons, List.drop_zero]
      obtain rfl : L' = [] := hfe
      replace hs := hs.toL (List.nil_append _)
      refine s_end ?_
      refine then_n ?_
      refine wp_seq ?_
      refine wp_reg ?_
      refine s_q hs (c_move (hs.ev rfl)) rfl fun ac hs => ?_
      refine s_call hs fu182 (.cons (hs.ev rfl) (.cons (hs.ev rfl) .nil)) (sha_turn _ 7 (by omega) (by omega) _) rfl fun ac ww v76 hf hp hs => ?_
      obtain rfl := hp
      replace hs := hs [] (.nil _ _)
      refine s_q hs (c_move (hs.ev rfl)) rfl fun ac hs => ?_
      refine s_call hs fu182 (.cons (hs.ev rfl) (.cons (hs.ev rfl) .nil)) (sha_turn _ 18 (by omega) (by omega) _) rfl fun ac ww v78 hf hp hs => ?_
      obtain rfl := hp
      replace hs := hs [] (.nil _ _)
      refine s_q hs (c_xorU (hs.ev rfl) (hs.ev rfl)) rfl fun ac hs => ?_
      refine s_q hs (c_move (hs.ev rfl)) rfl fun ac hs => ?_
      refine s_q hs (c_shrU (hs.ev rfl) (hs.ev rfl) (by decide)) rfl fun ac hs => ?_
      refine s_q hs (c_xorU (hs.ev rfl) (hs.ev rfl)) rfl fun ac hs => ?_
      refine s_q hs (c_assign (hs.ev rfl)) rfl fun ac hs => ?_
      refine s_end ?_
      refine then_n ?_
      refine wp_seq ?_
      refine wp_reg ?_
      refine s_q hs (c_move (hs.ev rfl)) rfl fun ac hs => ?_
      refine s_call hs fu182 (.cons (hs.ev rfl) (.cons (hs.ev rfl) .nil)) (sha_turn _ 17 (by omega) (by omega) _) rfl fun ac ww v84 hf hp hs => ?_
      obtain rfl := hp
      replace hs := hs [] (.nil _ _)
      refine s_q hs (c_move (hs.ev rfl)) rfl fun ac hs => ?_
      refine s_call hs fu182 (.cons (hs.ev rfl) (.cons (hs.ev rfl) .nil)) (sha_turn _ 19 (by omega) (by omega) _) rfl fun ac ww v86 hf hp hs => ?_
      obtain rfl := hp
      replace hs := hs [] (.nil _ _)
      refine s_q hs (c_xorU (hs.ev rfl) (hs.ev rfl)) rfl fun ac hs => ?_
      refine s_q hs (c_move (hs.ev rfl)) rfl fun ac hs => ?_
      refine s_q hs (c_shrU (hs.ev rfl) (hs.ev rfl) (by decide)) rfl fun ac hs => ?_
      refine s_q hs (c_xorU (hs.ev rfl) (hs.ev rfl)) rfl fun ac hs => ?_
      refine s_q hs (c_assign (hs.ev rfl)) rfl fun ac hs => ?_
      refine s_end ?_
      refine then_n ?_
      refine wp_region_rg pmix 15 (by kernel_rfl) rfl hs ?_
      simp only [List.take_succ_cons, List.take_zero]
      refine rg_q (fun ac ww h => c_move (h.ev rfl)) rfl ?_
      refine rg_q (fun ac ww h => c_move (h.ev rfl)) rfl ?_
      refine rg_q (fun ac ww h => c_subI (h.ev rfl) (h.ev rfl) (by omega) (by omega)) rfl ?_
      refine rg_q (fun ac ww h => c_idxA (j := k - 16) un207 ty27 (h.ev rfl) (h.ev rfl) (by omega) (by omega)) rfl ?_
      refine rg_q (fun ac ww h => c_loadS un27 rfl (h.ev rfl) (h.blk (hs.seg (i := 0) rfl)) (sched_at p k (k - 16) _ (by omega))) rfl ?_
      refine rg_q (fun ac ww h => c_move (h.ev rfl)) rfl ?_
      refine rg_q (fun ac ww h => c_addU (h.ev rfl) (h.ev rfl)) rfl ?_
      refine rg_q (fun ac ww h => c_move (h.ev rfl)) rfl ?_
      refine rg_q (fun ac ww h => c_subI (h.ev rfl) (h.ev rfl) (by omega) (by omega)) rfl ?_
      refine rg_q (fun ac ww h => c_idxA (j := k - 7) un207 ty27 (h.ev rfl) (h.ev rfl) (by omega) (by omega)) rfl ?_
      refine rg_q (fun ac ww h => c_loadS un27 rfl (h.ev rfl) (h.blk (hs.seg (i := 0) rfl)) (sched_at p k (k - 7) _ (by omega))) rfl ?_
      refine rg_q (fun ac ww h => c_addU (h.ev rfl) (h.ev rfl)) rfl ?_
      refine rg_q (fun ac ww h => c_move (h.ev rfl)) rfl ?_
      refine rg_q (fun ac ww h => c_addU (h.ev rfl) (h.ev rfl)) rfl ?_
      refine rg_q (fun ac ww h => c_idxA (j := k) un207 ty27 (h.ev rfl) (h.ev rfl) (by omega) (by omega)) rfl ?_
      refine rg_nil fun ac ww L' hf hfe hs => ?_
      simp only [List.drop_succ_cons, List.drop_zero]
      obtain rfl : L' = [] := hfe
      replace hs := hs.toL (List.nil_append _)
      refine s_store (i := 0) hs ty27 rfl rfl rfl rfl rfl rfl (by rw [List.length_map, sched_len p k (by omega)]; omega) (map_set _ (by rw [sched_len p k (by omega)]; omega)) fun ww hs => ?_
      refine s_end ?_
      refine blk_n ?_
      refine then_n ?_
      refine wp_reg ?_
      refine s_q hs (c_move (hs.ev rfl)) rfl fun ac hs => ?_
      refine s_q hs (c_addI (hs.ev rfl) (hs.ev rfl) (by omega) (by omega)) rfl fun ac hs => ?_
      refine s_q hs (c_assign (hs.ev rfl)) rfl fun ac hs => ?_
      refine s_end ?_
      refine then_n ?_
      exact ⟨64 - (k + 1), by omega, k + 1, ⟨by omega, by omega, rfl⟩, St.next hs ⟨rfl, rfl, rfl, rfl, trivial⟩ (congrArg (fun z => [Ent.seg g5 (List.map U z) 207, _, _]) (sched_set p k (by omega) _ (sched_hi p k (by omega))))⟩
    · try simp only [decide_eq_true_eq, decide_eq_false_iff_not, Bool.not_eq_true', Bool.not_eq_false', Bool.and_eq_true, Bool.or_eq_true, Bool.or_eq_false_iff] at hc
      obtain ⟨hk, hk2, rfl⟩ := hok
      obtain rfl : k = 64 := by omega
      refine wp_exit ?_
      refine then_e ?_
      refine then_e ?_
      refine blk_hit ?_
      refine then_n ?_
      refine wp_seq ?_
      refine wp_reg ?_
      refine s_call hs fu183 .nil (sha_words _) rfl fun ac ww v106 hf hp hs => ?_
      obtain rfl := hp
      replace hs := hs [] (.nil _ _)
      refine s_alloc hs ty207 rfl fun ac ww g10 hs => ?_
      refine s_storeW (i := 0) hs ty207 rfl rfl rfl (by simp) (by simp [Value.oneCell']) (by simp) fun ww hs => ?_
      refine s_end ?_
      replace hs := hs.sub (F' := [(2, _), (4, _), (5, _), (10, _)]) ⟨rfl, rfl, rfl, rfl, trivial⟩
      refine then_n ?_
      refine wp_seq ?_
      refine wp_region_rg pmix 24 (by kernel_rfl) rfl hs ?_
      simp only [List.take_succ_cons, List.take_zero]
      refine rg_q (fun ac ww h => c_idxA un205 ty27 (h.ev rfl) (h.ev rfl) rfl (by decide)) rfl ?_
      refine rg_q (fun ac ww h => c_loadS un27 rfl (h.ev rfl) (h.blk (hs.seg (i := 3) rfl)) rfl) rfl ?_
      refine rg_q (fun ac ww h => c_idxA un205 ty27 (h.ev rfl) (h.ev rfl) rfl (by decide)) rfl ?_
      refine rg_q (fun ac ww h => c_loadS un27 rfl (h.ev rfl) (h.blk (hs.seg (i := 3) rfl)) rfl) rfl ?_
      refine rg_q (fun ac ww h => c_idxA un205 ty27 (h.ev rfl) (h.ev rfl) rfl (by decide)) rfl ?_
      refine rg_q (fun ac ww h => c_loadS un27 rfl (h.ev rfl) (h.blk (hs.seg (i := 3) rfl)) rfl) rfl ?_
      refine rg_q (fun ac ww h => c_idxA un205 ty27 (h.ev rfl) (h.ev rfl) rfl (by decide)) rfl ?_
      refine rg_q (fun ac ww h => c_loadS un27 rfl (h.ev rfl) (h.blk (hs.seg (i := 3) rfl)) rfl) rfl ?_
      refine rg_q (fun ac ww h => c_idxA un205 ty27 (h.ev rfl) (h.ev rfl) rfl (by decide)) rfl ?_
      refine rg_q (fun ac ww h => c_loadS un27 rfl (h.ev rfl) (h.blk (hs.seg (i := 3) rfl)) rfl) rfl ?_
      refine rg_q (fun ac ww h => c_idxA un205 ty27 (h.ev rfl) (h.ev rfl) rfl (by decide)) rfl ?_
      refine rg_q (fun ac ww h => c_loadS un27 rfl (h.ev rfl) (h.blk (hs.seg (i := 3) rfl)) rfl) rfl ?_
      refine rg_q (fun ac ww h => c_idxA un205 ty27 (h.ev rfl) (h.ev rfl) rfl (by decide)) rfl ?_
      refine rg_q (fun ac ww h => c_loadS un27 rfl (h.ev rfl) (h.blk (hs.seg (i := 3) rfl)) rfl) rfl ?_
      refine rg_q (fun ac ww h => c_idxA un205 ty27 (h.ev rfl) (h.ev rfl) rfl (by decide)) rfl ?_
      refine rg_q (fun ac ww h => c_loadS un27 rfl (h.ev rfl) (h.blk (hs.seg (i := 3) rfl)) rfl) rfl ?_
      refine rg_q (fun ac ww h => c_assign (h.ev rfl)) rfl ?_
      refine rg_q (fun ac ww h => c_assign (h.ev rfl)) rfl ?_
      refine rg_q (fun ac ww h => c_assign (h.ev rfl)) rfl ?_
      refine rg_q (fun ac ww h => c_assign (h.ev rfl)) rfl ?_
      refine rg_q (fun ac ww h => c_assign (h.ev rfl)) rfl ?_
      refine rg_q (fun ac ww h => c_assign (h.ev rfl)) rfl ?_
      refine rg_q (fun ac ww h => c_assign (h.ev rfl)) rfl ?_
      refine rg_q (fun ac ww h => c_assign (h.ev rfl)) rfl ?_
      refine rg_nil fun ac ww L' hf hfe hs => ?_
      simp only [List.drop_succ_cons, List.drop_zero]
      obtain rfl : L' = [] := hfe
      replace hs := hs.toL (List.nil_append _)
      refine s_end ?_
      replace hs := hs.sub (F' := [(2, _), (4, _), (5, _), (10, _), (11, _), (12, _), (13, _), (14, _), (15, _), (16, _), (17, _), (18, _)]) ⟨rfl, rfl, rfl, rfl, rfl, rfl, rfl, rfl, rfl, rfl, rfl, rfl, trivial⟩
      refine then_n ?_
      refine wp_seq ?_
      refine wp_seq ?_
      refine wp_reg ?_
      refine s_q hs (c_move (hs.ev rfl)) rfl fun ac hs => ?_
      refine s_end ?_
      refine then_n ?_
      refine wp_block ?_
      refine s_loop hs (X := Nat) (fun k => [(123, I k), (11, U (rounds p h k).a), (12, U (rounds p h k).b), (13, U (rounds p h k).c), (14, U (rounds p h k).d), (15, U (rounds p h k).e), (16, U (rounds p h k).f), (17, U (rounds p h k).g), (18, U (rounds p h k).h)]) [(2, _), (4, _), (5, _), (10, _)] (fun _ => [_, _, _, _]) (fun n k => k ≤ 64 ∧ n = 64 - k) (64) (0) (⟨by omega, rfl⟩) ⟨rfl, rfl, rfl, rfl, rfl, rfl, rfl, rfl, rfl, rfl, rfl, rfl, rfl, trivial⟩ rfl ?_
      rintro n k ac ww hok hs
      simp only [List.cons_append, List.nil_append] at hs
      refine wp_seq ?_
      refine wp_reg ?_
      refine s_q hs (c_lssI (hs.ev rfl) (hs.ev rfl)) rfl fun ac hs => ?_
      refine s_end ?_
      refine then_n ?_
      refine wp_seq ?_
      refine s_cond hs rfl (fun hc => ?_) (fun hc => ?_)
      · try simp only [decide_eq_true_eq, decide_eq_false_iff_not, Bool.not_eq_true', Bool.not_eq_false', Bool.and_eq_true, Bool.or_eq_true, Bool.or_eq_false_iff] at hc
        obtain ⟨hk, rfl⟩ := hok
        refine wp_skip ?_
        refine then_n ?_
        refine wp_seq ?_
        refine wp_block ?_
        refine wp_seq ?_
        refine wp_reg ?_
        refine s_q hs (c_move (hs.ev rfl)) rfl fun ac hs => ?_
        refine s_q hs (c_assign (hs.ev rfl)) rfl fun ac hs => ?_
        refine s_end ?_
        refine then_n ?_
        refine wp_seq ?_
        refine wp_reg ?_
        refine s_q hs (c_move (hs.ev rfl)) rfl fun ac hs => ?_
        refine s_call hs fu182 (.cons (hs.ev rfl) (.cons (hs.ev rfl) .nil)) (sha_turn _ 6 (by omega) (by omega) _) rfl fun ac ww v127 hf hp hs => ?_
        obtain rfl := hp
        replace hs := hs [] (.nil _ _)
        refine s_q hs (c_move (hs.ev rfl)) rfl fun ac hs => ?_
        refine s_call hs fu182 (.cons (hs.ev rfl) (.cons (hs.ev rfl) .nil)) (sha_turn _ 11 (by omega) (by omega) _) rfl fun ac ww v129 hf hp hs => ?_
        obtain rfl := hp
        replace hs := hs [] (.nil _ _)
        refine s_q hs (c_xorU (hs.ev rfl) (hs.ev rfl)) rfl fun ac hs => ?_
        refine s_q hs (c_move (hs.ev rfl)) rfl fun ac hs => ?_
        refine s_call hs fu182 (.cons (hs.ev rfl) (.cons (hs.ev rfl) .nil)) (sha_turn _ 25 (by omega) (by omega) _) rfl fun ac ww v132 hf hp hs => ?_
        obtain rfl := hp
        replace hs := hs [] (.nil _ _)
        refine s_q hs (c_xorU (hs.ev rfl) (hs.ev rfl)) rfl fun ac hs => ?_
        refine s_q hs (c_assign (hs.ev rfl)) rfl fun ac hs => ?_
        refine s_end ?_
        refine then_n ?_
        refine wp_seq ?_
        refine wp_region_rg pmix 21 (by kernel_rfl) rfl hs ?_
        simp only [List.take_succ_cons, List.take_zero]
        refine rg_q (fun ac ww h => c_move (h.ev rfl)) rfl ?_
        refine rg_q (fun ac ww h => c_move (h.ev rfl)) rfl ?_
        refine rg_q (fun ac ww h => c_addU (h.ev rfl) (h.ev rfl)) rfl ?_
        refine rg_q (fun ac ww h => c_move (h.ev rfl)) rfl ?_
        refine rg_q (fun ac ww h => c_move (h.ev rfl)) rfl ?_
        refine rg_q (fun ac ww h => c_andU (h.ev rfl) (h.ev rfl)) rfl ?_
        refine rg_q (fun ac ww h => c_move (h.ev rfl)) rfl ?_
        refine rg_q (fun ac ww h => c_notU (h.ev rfl)) rfl ?_
        refine rg_q (fun ac ww h => c_move (h.ev rfl)) rfl ?_
        refine rg_q (fun ac ww h => c_andU (h.ev rfl) (h.ev rfl)) rfl ?_
        refine rg_q (fun ac ww h => c_xorU (h.ev rfl) (h.ev rfl)) rfl ?_
        refine rg_q (fun ac ww h => c_addU (h.ev rfl) (h.ev rfl)) rfl ?_
        refine rg_q (fun ac ww h => c_move (h.ev rfl)) rfl ?_
        refine rg_q (fun ac ww h => c_idxA (j := k) un207 ty27 (h.ev rfl) (h.ev rfl) (by omega) (by omega)) rfl ?_
        refine rg_q (fun ac ww h => c_loadS un27 rfl (h.ev rfl) (h.blk (hs.seg (i := 0) rfl)) (map_get 0 (by simp; omega))) rfl ?_
        refine rg_q (fun ac ww h => c_addU (h.ev rfl) (h.ev rfl)) rfl ?_
        refine rg_q (fun ac ww h => c_move (h.ev rfl)) rfl ?_
        refine rg_q (fun ac ww h => c_idxA (j := k) un207 ty27 (h.ev rfl) (h.ev rfl) (by omega) (by omega)) rfl ?_
        refine rg_q (fun ac ww h => c_loadS un27 rfl (h.ev rfl) (h.blk (hs.seg (i := 1) rfl)) (sched_at p 64 k _ (by omega))) rfl ?_
        refine rg_q (fun ac ww h => c_addU (h.ev rfl) (h.ev rfl)) rfl ?_
        refine rg_q (fun ac ww h => c_assign (h.ev rfl)) rfl ?_
        refine rg_nil fun ac ww L' hf hfe hs => ?_
        simp only [List.drop_succ_cons, List.drop_zero]
        obtain rfl : L' = [] := hfe
        replace hs := hs.toL (List.nil_append _)
        refine s_end ?_
        refine then_n ?_
        refine wp_seq ?_
        refine wp_reg ?_
        refine s_q hs (c_move (hs.ev rfl)) rfl fun ac hs => ?_
        refine s_call hs fu182 (.cons (hs.ev rfl) (.cons (hs.ev rfl) .nil)) (sha_turn _ 2 (by omega) (by omega) _) rfl fun ac ww v155 hf hp hs => ?_
        obtain rfl := hp
        replace hs := hs [] (.nil _ _)
        refine s_q hs (c_move (hs.ev rfl)) rfl fun ac hs => ?_
        refine s_call hs fu182 (.cons (hs.ev rfl) (.cons (hs.ev rfl) .nil)) (sha_turn _ 13 (by omega) (by omega) _) rfl fun ac ww v157 hf hp hs => ?_
        obtain rfl := hp
        replace hs := hs [] (.nil _ _)
        refine s_q hs (c_xorU (hs.ev rfl) (hs.ev rfl)) rfl fun ac hs => ?_
        refine s_q hs (c_move (hs.ev rfl)) rfl fun ac hs => ?_
        refine s_call hs fu182 (.cons (hs.ev rfl) (.cons (hs.ev rfl) .nil)) (sha_turn _ 22 (by omega) (by omega) _) rfl fun ac ww v160 hf hp hs => ?_
        obtain rfl := hp
        replace hs := hs [] (.nil _ _)
        refine s_q hs (c_xorU (hs.ev rfl) (hs.ev rfl)) rfl fun ac hs => ?_
        refine s_q hs (c_assign (hs.ev rfl)) rfl fun ac hs => ?_
        refine s_end ?_
        refine then_n ?_
        refine wp_seq ?_
        refine wp_reg ?_
        refine s_q hs (c_move (hs.ev rfl)) rfl fun ac hs => ?_
        refine s_q hs (c_move (hs.ev rfl)) rfl fun ac hs => ?_
        refine s_q hs (c_move (hs.ev rfl)) rfl fun ac hs => ?_
        refine s_q hs (c_andU (hs.ev rfl) (hs.ev rfl)) rfl fun ac hs => ?_
        refine s_q hs (c_move (hs.ev rfl)) rfl fun ac hs => ?_
        refine s_q hs (c_move (hs.ev rfl)) rfl fun ac hs => ?_
        refine s_q hs (c_andU (hs.ev rfl) (hs.ev rfl)) rfl fun ac hs => ?_
        refine s_q hs (c_xorU (hs.ev rfl) (hs.ev rfl)) rfl fun ac hs => ?_
        refine s_q hs (c_move (hs.ev rfl)) rfl fun ac hs => ?_
        refine s_q hs (c_move (hs.ev rfl)) rfl fun ac hs => ?_
        refine s_q hs (c_andU (hs.ev rfl) (hs.ev rfl)) rfl fun ac hs => ?_
        refine s_q hs (c_xorU (hs.ev rfl) (hs.ev rfl)) rfl fun ac hs => ?_
        refine s_q hs (c_addU (hs.ev rfl) (hs.ev rfl)) rfl fun ac hs => ?_
        refine s_q hs (c_assign (hs.ev rfl)) rfl fun ac hs => ?_
        refine s_end ?_
        refine then_n ?_
        refine wp_reg ?_
        refine s_q hs (c_move (hs.ev rfl)) rfl fun ac hs => ?_
        refine s_q hs (c_move (hs.ev rfl)) rfl fun ac hs => ?_
        refine s_q hs (c_addU (hs.ev rfl) (hs.ev rfl)) rfl fun ac hs => ?_
        refine s_q hs (c_move (hs.ev rfl)) rfl fun ac hs => ?_
        refine s_q hs (c_move (hs.ev rfl)) rfl fun ac hs => ?_
        refine s_q hs (c_move (hs.ev rfl)) rfl fun ac hs => ?_
        refine s_q hs (c_move (hs.ev rfl)) rfl fun ac hs => ?_
        refine s_q hs (c_move (hs.ev rfl)) rfl fun ac hs => ?_
        refine s_q hs (c_addU (hs.ev rfl) (hs.ev rfl)) rfl fun ac hs => ?_
        refine s_q hs (c_move (hs.ev rfl)) rfl fun ac hs => ?_
        refine s_q hs (c_move (hs.ev rfl)) rfl fun ac hs => ?_
        refine s_q hs (c_move (hs.ev rfl)) rfl fun ac hs => ?_
        refine s_q hs (c_assign (hs.ev rfl)) rfl fun ac hs => ?_
        refine s_q hs (c_assign (hs.ev rfl)) rfl fun ac hs => ?_
        refine s_q hs (c_assign (hs.ev rfl)) rfl fun ac hs => ?_
        refine s_q hs (c_assign (hs.ev rfl)) rfl fun ac hs => ?_
        refine s_q hs (c_assign (hs.ev rfl)) rfl fun ac hs => ?_
        refine s_q hs (c_assign (hs.ev rfl)) rfl fun ac hs => ?_
        refine s_q hs (c_assign (hs.ev rfl)) rfl fun ac hs => ?_
        refine s_q hs (c_assign (hs.ev rfl)) rfl fun ac hs => ?_
        refine s_end ?_
        refine blk_n ?_
        refine then_n ?_
        refine wp_reg ?_
        refine s_q hs (c_addI (hs.ev rfl) (hs.ev rfl) (by omega) (by omega)) rfl fun ac hs => ?_
        refine s_q hs (c_move (hs.ev rfl)) rfl fun ac hs => ?_
        refine s_end ?_
        refine then_n ?_
        exact ⟨64 - (k + 1), by omega, k + 1, ⟨by omega, rfl⟩, St.next hs ⟨rfl, rfl, rfl, rfl, rfl, rfl, rfl, rfl, rfl, rfl, rfl, rfl, rfl, trivial⟩ rfl⟩
      · try simp only [decide_eq_true_eq, decide_eq_false_iff_not, Bool.not_eq_true', Bool.not_eq_false', Bool.and_eq_true, Bool.or_eq_true, Bool.or_eq_false_iff] at hc
        obtain ⟨hk, rfl⟩ := hok
        obtain rfl : k = 64 := by omega
        refine wp_exit ?_
        refine then_e ?_
        refine then_e ?_
        refine blk_hit ?_
        refine then_n ?_
        refine wp_seq ?_
        refine wp_reg ?_
        refine s_q hs (c_idxA un205 ty27 (hs.ev rfl) (hs.ev rfl) rfl (by decide)) rfl fun ac hs => ?_
        refine s_q hs (c_loadS un27 rfl (hs.ev rfl) (hs.seg (i := 3) rfl) rfl) rfl fun ac hs => ?_
        refine s_q hs (c_move (hs.ev rfl)) rfl fun ac hs => ?_
        refine s_q hs (c_addU (hs.ev rfl) (hs.ev rfl)) rfl fun ac hs => ?_
        refine s_q hs (c_idxA un205 ty27 (hs.ev rfl) (hs.ev rfl) rfl (by decide)) rfl fun ac hs => ?_
        refine s_q hs (c_loadS un27 rfl (hs.ev rfl) (hs.seg (i := 3) rfl) rfl) rfl fun ac hs => ?_
        refine s_q hs (c_move (hs.ev rfl)) rfl fun ac hs => ?_
        refine s_q hs (c_addU (hs.ev rfl) (hs.ev rfl)) rfl fun ac hs => ?_
        refine s_q hs (c_idxA un205 ty27 (hs.ev rfl) (hs.ev rfl) rfl (by decide)) rfl fun ac hs => ?_
        refine s_q hs (c_loadS un27 rfl (hs.ev rfl) (hs.seg (i := 3) rfl) rfl) rfl fun ac hs => ?_
        refine s_q hs (c_move (hs.ev rfl)) rfl fun ac hs => ?_
        refine s_q hs (c_addU (hs.ev rfl) (hs.ev rfl)) rfl fun ac hs => ?_
        refine s_q hs (c_idxA un205 ty27 (hs.ev rfl) (hs.ev rfl) rfl (by decide)) rfl fun ac hs => ?_
        refine s_q hs (c_loadS un27 rfl (hs.ev rfl) (hs.seg (i := 3) rfl) rfl) rfl fun ac hs => ?_
        refine s_q hs (c_move (hs.ev rfl)) rfl fun ac hs => ?_
        refine s_q hs (c_addU (hs.ev rfl) (hs.ev rfl)) rfl fun ac hs => ?_
        refine s_q hs (c_idxA un205 ty27 (hs.ev rfl) (hs.ev rfl) rfl (by decide)) rfl fun ac hs => ?_
        refine s_q hs (c_loadS un27 rfl (hs.ev rfl) (hs.seg (i := 3) rfl) rfl) rfl fun ac hs => ?_
        refine s_q hs (c_move (hs.ev rfl)) rfl fun ac hs => ?_
        refine s_q hs (c_addU (hs.ev rfl) (hs.ev rfl)) rfl fun ac hs => ?_
        refine s_q hs (c_idxA un205 ty27 (hs.ev rfl) (hs.ev rfl) rfl (by decide)) rfl fun ac hs => ?_
        refine s_q hs (c_loadS un27 rfl (hs.ev rfl) (hs.seg (i := 3) rfl) rfl) rfl fun ac hs => ?_
        refine s_q hs (c_move (hs.ev rfl)) rfl fun ac hs => ?_
        refine s_q hs (c_addU (hs.ev rfl) (hs.ev rfl)) rfl fun ac hs => ?_
        refine s_q hs (c_idxA un205 ty27 (hs.ev rfl) (hs.ev rfl) rfl (by decide)) rfl fun ac hs => ?_
        refine s_q hs (c_loadS un27 rfl (hs.ev rfl) (hs.seg (i := 3) rfl) rfl) rfl fun ac hs => ?_
        refine s_q hs (c_move (hs.ev rfl)) rfl fun ac hs => ?_
        refine s_q hs (c_addU (hs.ev rfl) (hs.ev rfl)) rfl fun ac hs => ?_
        refine s_q hs (c_idxA un205 ty27 (hs.ev rfl) (hs.ev rfl) rfl (by decide)) rfl fun ac hs => ?_
        refine s_q hs (c_loadS un27 rfl (hs.ev rfl) (hs.seg (i := 3) rfl) rfl) rfl fun ac hs => ?_
        refine s_q hs (c_move (hs.ev rfl)) rfl fun ac hs => ?_
        refine s_q hs (c_addU (hs.ev rfl) (hs.ev rfl)) rfl fun ac hs => ?_
        refine s_q hs (c_buildA ty205 un205 ty27 (zc := (comp h p).list.map U) (.cons (hs.ev rfl) (.cons (hs.ev rfl) (.cons (hs.ev rfl) (.cons (hs.ev rfl) (.cons (hs.ev rfl) (.cons (hs.ev rfl) (.cons (hs.ev rfl) (.cons (hs.ev rfl) .nil)))))))) (by simp [Value.cells]) (by simp [flatCells, Value.cells]) rfl) rfl fun ac hs => ?_
        refine s_storeW (i := 2) hs ty205 rfl rfl rfl (by simp) (by simp [Value.oneCell']) (by simp) fun ww hs => ?_
        refine s_end ?_
        replace hs := hs.sub (F' := [(4, _)]) ⟨rfl, trivial⟩
        refine then_n ?_
        refine wp_ret ?_
        refine s_ret hs rfl (.cell (hs.tmp rfl) (run_loadA ty205 rfl (hs.seg (i := 2) rfl) (List.take_of_length_le (by simp)) (by simp)) .nil) rfl ⟨_, rfl, hs.fr, ?_⟩
        rfl
end Go.Proofs.Ytmgnnclkjkbmdaa
end

section
/- Strings. -/
set_option linter.unusedSimpArgs false
set_option linter.unusedVariables false
namespace Go.Fw
open Go
/-- A string of bytes. -/
abbrev T (l : List UInt8) : Value := .string ⟨l.toArray⟩
theorem push_all : ∀ (l : List UInt8) (s : ByteArray), (l.map fun b => (b.toNat : Int)).foldl (fun r n => r.push (UInt8.ofNat n.toNat)) s = ⟨(s.data.toList ++ l).toArray⟩
  | [], s => by simp
  | b :: l, s => by
    simp only [List.map_cons, List.foldl_cons]
    rw [push_all l]
    simp [ByteArray.push]
theorem Rd.cells {w : World} {u : Value} {m : Nat} {news : List Value} (hr : Rd w u m news) : (∃ cap, u = .slice none m cap ∧ m = 0 ∧ news = []) ∨ ∃ ad cap, u = .slice (some ad) m cap ∧ ∀ j v, news[j]? = some v → w.cell? (ad.add j) = some v := by
  rcases hr.src with ⟨h1, h2, h3⟩ | ⟨ad, cap, h1, h2⟩
  · exact .inl ⟨0, by rw [h1, h2], h2, h3⟩
  · exact .inr ⟨ad, cap, h1, h2⟩
section
variable {P : Program} {a : Act} {w : World} {d : Option Tmp} {ty : TypeId} {pos : String} {aft : Array Edge} {g : Option (Nat × Bool)} {x y z : Operand} {t u : TypeId}
/-- Bytes as a string. -/
theorem c_cvST {E : TypeId} {v : Value} {l : List UInt8} (hu : P.underlying t = some (.slice E)) (hE : P.underlying E = some (.int .u8)) (hd : P.underlying u = some .string) (hx : a.eval x = v) (hr : RdB w v l) :
    (execOp a.eval ⟨d, .convert t u x, ty, pos, aft, g⟩).run P w = .ok (.value (T l)) w := by
  rcases Rd.cells hr with ⟨cap, rfl, _, h0⟩ | ⟨ad, cap, rfl, hc⟩
  · have hl : l = [] := by simpa using h0
    subst hl
    simp [execOp, hx, run_convert_bytes_string w t u E none _ cap hu hE hd, Conv.bytesToString]
    rfl
  · have hm : l.map B = (l.map fun b => (b.toNat : Int)).map (Value.int .u8) := by simp [B]
    have h1 : (loadCells ad l.length).run P w = .ok ((l.map fun b => (b.toNat : Int)).map (Value.int .u8)).toArray w := by
      have := run_loadCells_list (P := P) (w := w) ad (l.map B) hc
      rw [List.length_map, hm] at this
      exact this
    have h2 := run_bytesToString w ad l.length cap _ h1
    rw [push_all] at h2
    simp [execOp, hx, run_convert_bytes_string w t u E (some ad) l.length cap hu hE hd, h2]
theorem c_neqTT {l m : List UInt8} (hx : a.eval x = T l) (hy : a.eval y = T m) : (execOp a.eval ⟨d, .binOp .neq t x y u, ty, pos, aft, g⟩).run P w = .ok (.value (.bool (l != m))) w := by
  rw [c_neqT hx hy]; simp [bne]
end
section
variable {P : Program} {ops : Array Oper} {Q : Exit → Act → World → Prop} {rest : List Oper} {N : Nat} {F F' : List (Nat × Value)} {L L' : List Ent} {M : Nat → Prop} {w0 w : World} {a : Act}
variable {d : Tmp} {op : Op} {ty : TypeId} {pos : String} {aft : Array Edge} {x y z : Operand} {t u : TypeId}
end
theorem RdB.at' {w : World} {ad : Option Addr} {cap : Nat} {l : List UInt8} (h : RdB w (.slice ad l.length cap) l) (hne : 0 < l.length) :
    ∃ b o T fr all, ad = some ⟨b, o, none⟩ ∧ w.heap[b]? = some (.cells all T fr) ∧ (all.toList.drop o).take (l.map B).length = l.map B := by
  obtain ⟨b, o, cap', T, fr, all, e, _, _, hb, hc⟩ := RdB.at_ h hne
  cases e
  exact ⟨b, o, T, fr, all, rfl, hb, hc⟩
theorem RdB.take {w : World} {ad : Option Addr} {cap m : Nat} {l : List UInt8} (h : RdB w (.slice ad l.length cap) l) (hm : m ≤ l.length) : RdB w (.slice ad m cap) (l.take m) := by
  obtain ⟨ad', cap', hv, h1, h2, h0, h3⟩ := h
  cases hv
  have hl : (l.take m).length = m := by simp; omega
  unfold RdB
  rw [hl]
  refine ⟨ad, cap, rfl, by omega, h2, h0, ?_⟩
  rcases h3 with h3 | ⟨b, o, T, fr, all, rfl, hb, hc⟩
  · left; simp at h3; subst h3; simp
  · right
    refine ⟨b, o, T, fr, all, rfl, hb, ?_⟩
    rw [List.map_take, ← hc]
    simp only [List.length_take, List.length_map, List.take_take]
    have h5 : l.length ≤ all.toList.length - o := by
      have := congrArg List.length hc
      simp only [List.length_take, List.length_map, List.length_drop] at this
      omega
    congr 1
    simp only [List.length_drop]
    omega
theorem RdB.mid {w : World} {ad : Option Addr} {cap i j : Nat} {l : List UInt8} (h : RdB w (.slice ad l.length cap) l) (hij : i ≤ j) (hj : j ≤ l.length) :
    RdB w (.slice (if cap = i then ad else ad.map (·.add (i * 1))) (j - i) (cap - i)) ((l.drop i).take (j - i)) := by
  have h1 := RdB.cut (i := i) h (by omega)
  have h2 : (l.drop i).length = l.length - i := List.length_drop
  rw [← h2] at h1
  exact RdB.take h1 (by omega)
theorem RdB.fr' {M : Nat → Prop} {w w' : World} {v : Value} {l : List UInt8} (h : RdB w v l) (hf : Fr M w w') (hm : l ≠ [] → ∀ k, v.ownBlock = some k → ¬ M k) : RdB w' v l := by
  by_cases e : l = []
  · subst e
    obtain ⟨ad, cap, h1, h2, h3, h4, _⟩ := h
    exact ⟨ad, cap, h1, h2, h3, h4, .inl rfl⟩
  · exact h.fr hf (hm e)
theorem St.far {N : Nat} {F : List (Nat × Value)} {L : List Ent} {w0 w : World} {a : Act} {i : Nat} {e : Ent} {v : Value} {l : List UInt8} (hs : St N F L (fun _ => False) w0 a w) (hi : L[i]? = some e) (h : RdB w0 v l) :
    l ≠ [] → ∀ k, v.ownBlock = some k → ¬ e.keys k := fun hl k hk he => by
  have h1 := h.key hk hl
  rcases hs.own e (List.mem_of_getElem? hi) k he with h2 | h2
  · omega
  · exact h2
end Go.Fw
end

section
/- A sum under way. -/
set_option linter.unusedSimpArgs false
set_option linter.unusedVariables false
set_option maxRecDepth 100000
namespace Go.Proofs.Ytmgnnclkjkbmdaa
open Go Go.Fw
open Sha
/-- The cells of a sum under way, of the bytes a. -/
def ws (r : R) (rv : Value) (n : UInt64) (b : Int) : List Value := r.list.map U ++ [rv, V n, I b]
@[simp] theorem ws_length (r : R) (rv : Value) (n : UInt64) (b : Int) : (ws r rv n b).length = 11 := rfl
def hcells (a : List UInt8) (rv : Value) : List Value := ws (foldB first a (a.length / 64)) rv (UInt64.ofNat a.length) ((a.length / 64 : Nat) : Int)
def hash (g : Nat) (rv : Value) (a : List UInt8) : List Ent := [.seg g (hcells a rv) 213, .row rv (rest a).length ((rest a).map B) 5 1]
@[simp] theorem hcells_length (a : List UInt8) (rv : Value) : (hcells a rv).length = 11 := by simp [hcells, ws]
set_option maxHeartbeats 4000000 in
theorem sha_New  (w : World)  : Ctr Try.prog 48 [] w (fun _ => False) (fun v w' => ∃ g, v = .pointer (some ⟨g, 0, none⟩) ∧ Has w.heap.size w' (hash g (.slice none 0 0) [])) := by
  refine fn_start (N := 4) Try.func48 rfl rfl rfl fun ac hk => ?_
  have hs := St.start hk w
  refine wp_seq ?_
  refine wp_reg ?_
  refine s_q hs (c_assign (hs.ev rfl)) rfl fun ac hs => ?_
  refine s_end ?_
  refine then_n ?_
  refine wp_seq ?_
  refine wp_reg ?_
  refine s_q hs (c_buildA (zc := first.list.map U) ty205 un205 ty27 (.cons (St.ev (v := U 1779033703) hs rfl) (.cons (St.ev (v := U 3144134277) hs rfl) (.cons (St.ev (v := U 1013904242) hs rfl) (.cons (St.ev (v := U 2773480762) hs rfl) (.cons (St.ev (v := U 1359893119) hs rfl) (.cons (St.ev (v := U 2600822924) hs rfl) (.cons (St.ev (v := U 528734635) hs rfl) (.cons (St.ev (v := U 1541459225) hs rfl) .nil)))))))) (by simp [Value.cells]) (by simp [flatCells, Value.cells]) rfl) rfl fun ac hs => ?_
  refine s_q hs (c_buildS (zc := hcells [] (.slice none 0 0)) ty213 bp213 (.cons (hs.ev rfl) .nil) ⟨rfl, trivial⟩ (by simp [flatCells, Value.cells]) rfl) rfl fun ac hs => ?_
  refine s_box hs rfl rfl rfl fun ac ww g3 hs => ?_
  refine s_q hs (c_assign (hs.ev rfl)) rfl fun ac hs => ?_
  refine s_end ?_
  replace hs := hs.sub (F' := [(0, _)]) ⟨rfl, trivial⟩
  refine then_n ?_
  refine wp_ret ?_
  replace hs := (hs.nilrow 5 1).perm (L' := hash g3 (.slice none 0 0) []) (by unfold hash; exact List.Perm.swap _ _ _)
  refine s_ret hs rfl (.tmp (hs.tmp rfl) .nil) rfl ⟨_, rfl, hs.fr, ?_⟩
  exact ⟨g3, rfl, hs.made⟩
theorem w_start {g : Nat} {v : Value} {a p : List UInt8} (h : a.length + p.length ≤ 140737488355328) {b : Int} : [Ent.seg g (ws (foldB first a (a.length / 64)) v (UInt64.ofNat a.length + i64 (p.length : Int)) b) 213, .row v (rest a ++ p).length ((rest a ++ p).map B) 5 1] =
    [Ent.seg g (ws (foldB first (a ++ p) (a.length / 64)) v (UInt64.ofNat (a ++ p).length) b) 213, .row v ((a ++ p).drop (64 * (a.length / 64))).length (((a ++ p).drop (64 * (a.length / 64))).map B) 5 1] := by
  rw [u64_app a p (by omega), foldB_app _ _ _ _ (by omega), List.drop_append_of_le_length (by omega), rest]
theorem w_next {g : Nat} {ad : Option Addr} {cap : Nat} {l : List UInt8} {k : Nat} : [Ent.seg g (ws (comp (foldB first l k) (l.drop (64 * k))) (.slice ad ([] ++ (l.drop (64 * k)).drop 64).length cap) (UInt64.ofNat l.length) ((k : Int) + 1)) 213, .row (.slice ad ([] ++ (l.drop (64 * k)).drop 64).length cap) ([] ++ (l.drop (64 * k)).drop 64).length (([] ++ (l.drop (64 * k)).drop 64).map B) 5 1] =
    [Ent.seg g (ws (foldB first l (k + 1)) (.slice ad ([] ++ (l.drop (64 * k)).drop 64).length cap) (UInt64.ofNat l.length) ((k + 1 : Nat) : Int)) 213, .row (.slice ad ([] ++ (l.drop (64 * k)).drop 64).length cap) (l.drop (64 * (k + 1))).length ((l.drop (64 * (k + 1))).map B) 5 1] := by
  rw [show l.drop (64 * (k + 1)) = [] ++ (l.drop (64 * k)).drop 64 from by rw [List.nil_append, List.drop_drop]; rfl]
  rfl
theorem w_end {g : Nat} {v : Value} {l : List UInt8} {k : Nat} (h : k = l.length / 64) : [Ent.seg g (ws (foldB first l k) v (UInt64.ofNat l.length) (k : Int)) 213, .row v (l.drop (64 * k)).length ((l.drop (64 * k)).map B) 5 1] = hash g v l := by
  subst h; rfl
theorem hash_get {w : World} {g : Nat} {rv : Value} {a : List UInt8} (h : Has 0 w (hash g rv a)) : w.heap[g]? = some (.cells (hcells a rv).toArray 213 (0, 0)) ∧ RdB w rv (rest a) :=
  ⟨h.holds _ (by simp [hash] : Ent.seg g (hcells a rv) 213 ∈ hash g rv a), RdB.row (h.holds _ (by simp [hash] : Ent.row rv (rest a).length ((rest a).map B) 5 1 ∈ hash g rv a))⟩
set_option maxHeartbeats 4000000 in
theorem sha_Write (a p : List UInt8) (g : Nat) (rv pv : Value) (hle : a.length + p.length ≤ 140737488355328) (w : World) (hh : Has 0 w (hash g rv a)) (hq : RdB w pv p) (hpM : p ≠ [] → ∀ k, pv.ownBlock = some k → ¬ (Ent.grp (hash g rv a)).keys k) : Ctr Try.prog 49 [.pointer (some ⟨g, 0, none⟩), pv] w (Ent.grp (hash g rv a)).keys (fun _ w' => ∃ rv', Has 0 w' (hash g rv' (a ++ p)) ∧ ∀ k, (Ent.grp (hash g rv' (a ++ p))).keys k → (Ent.grp (hash g rv a)).keys k ∨ w.heap.size ≤ k) := by
  obtain ⟨pad, pcap, rfl, hpc, hpm⟩ := Rd.sl hq
  refine fn_start (N := 60) Try.func49 rfl rfl rfl fun ac hk => ?_
  have hs := St.startG hk hh
  refine wp_seq ?_
  refine wp_seq ?_
  refine wp_reg ?_
  refine s_q hs (c_move (hs.ev rfl)) rfl fun ac hs => ?_
  refine s_q hs (c_eqlNil un48 (hs.ev rfl) (hs.ev rfl)) rfl fun ac hs => ?_
  refine s_end ?_
  replace hs := hs.sub (F' := [(0, _), (1, _), (5, _)]) ⟨rfl, rfl, rfl, trivial⟩
  refine then_n ?_
  refine wp_cond_false (hs.ev rfl) ?_
  refine wp_skip ?_
  refine then_n ?_
  refine wp_seq ?_
  refine wp_reg ?_
  refine s_q hs (c_move (hs.ev rfl)) rfl fun ac hs => ?_
  refine s_q hs (c_nil (hs.ev rfl)) rfl fun ac hs => ?_
  refine s_q hs (c_fld fl213_2 (hs.ev rfl)) rfl fun ac hs => ?_
  refine s_q hs (c_loadS un210 rfl (hs.ev rfl) (hs.seg (i := 0) rfl) rfl) rfl fun ac hs => ?_
  refine s_q hs (c_move (hs.ev rfl)) rfl fun ac hs => ?_
  refine s_q hs (c_lenS un34 (hs.ev rfl)) rfl fun ac hs => ?_
  refine s_q hs (c_cvIV un3 un210 (hs.ev rfl)) rfl fun ac hs => ?_
  refine s_q hs (c_addV (hs.ev rfl) (hs.ev rfl)) rfl fun ac hs => ?_
  refine s_q hs (c_nil (hs.ev rfl)) rfl fun ac hs => ?_
  refine s_q hs (c_fld fl213_2 (hs.ev rfl)) rfl fun ac hs => ?_
  refine s_store (i := 0) hs ty210 rfl rfl rfl rfl rfl rfl (by simp) (show _ = ws (foldB first a (a.length / 64)) (rv) (UInt64.ofNat a.length + i64 (p.length : Int)) (((a.length / 64 : Nat) : Int)) from rfl) fun ww hs => ?_
  refine s_end ?_
  replace hs := hs.sub (F' := [(0, _), (1, _)]) ⟨rfl, rfl, trivial⟩
  refine then_n ?_
  refine wp_seq ?_
  refine wp_reg ?_
  refine s_q hs (c_move (hs.ev rfl)) rfl fun ac hs => ?_
  refine s_q hs (c_move (hs.ev rfl)) rfl fun ac hs => ?_
  refine s_q hs (c_nil (hs.ev rfl)) rfl fun ac hs => ?_
  refine s_q hs (c_fld fl213_1 (hs.ev rfl)) rfl fun ac hs => ?_
  refine s_q hs (c_loadS un34 rfl (hs.ev rfl) (hs.seg (i := 0) rfl) rfl) rfl fun ac hs => ?_
  refine s_q hs (c_move (hs.ev rfl)) rfl fun ac hs => ?_
  refine s_appB (i := 1) hs un34 ty5 rfl rfl rfl (hq.fr' hs.fr hpM) (by rw [rest_length]; omega) rfl fun ac ww v22 hf hnil hs => ?_
  obtain ⟨ad22, cap22, rfl, _, _⟩ := Rd.sl (RdB.row (hs.get (i := 1) rfl))
  refine s_q hs (c_nil (hs.ev rfl)) rfl fun ac hs => ?_
  refine s_q hs (c_fld fl213_1 (hs.ev rfl)) rfl fun ac hs => ?_
  refine s_store (i := 0) hs ty34 rfl rfl rfl rfl rfl rfl (by simp) (show _ = ws (foldB first a (a.length / 64)) (_) (UInt64.ofNat a.length + i64 (p.length : Int)) (((a.length / 64 : Nat) : Int)) from rfl) fun ww hs => ?_
  refine s_end ?_
  replace hs := hs.sub (F' := [(0, _)]) ⟨rfl, trivial⟩
  refine then_n ?_
  refine wp_block ?_
  refine s_loop hs (X := Nat × Value) (fun _ => []) [(0, _)] (fun x => [.seg g (ws (foldB first (a ++ p) x.1) x.2 (UInt64.ofNat (a ++ p).length) (x.1 : Int)) 213, .row x.2 ((a ++ p).drop (64 * x.1)).length (((a ++ p).drop (64 * x.1)).map B) 5 1]) (fun n x => 64 * x.1 ≤ (a ++ p).length ∧ n = (a ++ p).length / 64 - x.1) (_) ((a.length / 64, _)) (⟨by simp only [List.length_append]; omega, rfl⟩) ⟨rfl, trivial⟩ (w_start hle) ?_
  rintro n ⟨k, rv⟩ ac ww hok hs
  simp only [List.cons_append, List.nil_append] at hs
  obtain ⟨hk, rfl⟩ := hok
  simp only at hk hs
  obtain ⟨rad, rcap, rfl, hrc, hrm⟩ := Rd.sl (RdB.row (hs.get (i := 1) rfl))
  have hll : (a ++ p).length ≤ 140737488355328 := by simp only [List.length_append]; omega
  have hdl : ((a ++ p).drop (64 * k)).length = (a ++ p).length - 64 * k := List.length_drop
  refine wp_seq ?_
  refine wp_seq ?_
  refine wp_reg ?_
  refine s_q hs (c_move (hs.ev rfl)) rfl fun ac hs => ?_
  refine s_q hs (c_nil (hs.ev rfl)) rfl fun ac hs => ?_
  refine s_q hs (c_fld fl213_1 (hs.ev rfl)) rfl fun ac hs => ?_
  refine s_q hs (c_loadS un34 rfl (hs.ev rfl) (hs.seg (i := 0) rfl) rfl) rfl fun ac hs => ?_
  refine s_q hs (c_lenS un34 (hs.ev rfl)) rfl fun ac hs => ?_
  refine s_q hs (c_geqI (hs.ev rfl) (hs.ev rfl)) rfl fun ac hs => ?_
  refine s_end ?_
  refine then_n ?_
  refine s_cond hs rfl (fun hc => ?_) (fun hc => ?_)
  · try simp only [decide_eq_true_eq, decide_eq_false_iff_not, Bool.not_eq_true', Bool.not_eq_false', Bool.and_eq_true, Bool.or_eq_true, Bool.or_eq_false_iff] at hc
    refine wp_skip ?_
    refine then_n ?_
    refine wp_block ?_
    refine wp_seq ?_
    refine wp_region_rg pmix 12 (by kernel_rfl) rfl hs ?_
    simp only [List.take_succ_cons, List.take_zero]
    refine rg_q (fun ac ww h => c_move (h.ev rfl)) rfl ?_
    refine rg_q (fun ac ww h => c_move (h.ev rfl)) rfl ?_
    refine rg_q (fun ac ww h => c_nil (h.ev rfl)) rfl ?_
    refine rg_q (fun ac ww h => c_fld fl213_0 (h.ev rfl)) rfl ?_
    refine rg_q (fun ac ww h => c_loadA ty205 rfl (h.ev rfl) (h.blk (hs.seg (i := 0) rfl)) rfl (by simp)) rfl ?_
    refine rg_q (fun ac ww h => c_move (h.ev rfl)) rfl ?_
    refine rg_q (fun ac ww h => c_nil (h.ev rfl)) rfl ?_
    refine rg_q (fun ac ww h => c_fld fl213_1 (h.ev rfl)) rfl ?_
    refine rg_q (fun ac ww h => c_loadS un34 rfl (h.ev rfl) (h.blk (hs.seg (i := 0) rfl)) rfl) rfl ?_
    refine rg_call fu157 (fun ac ww h => (.cons (h.ev rfl) (.cons (h.ev rfl) .nil))) (fun ww hf => sha_mix (foldB first (a ++ p) k) ((a ++ p).drop (64 * k)) _ (by omega) ww ((RdB.row (hs.get (i := 1) rfl)).fr0 hf)) rfl ?_
    refine rg_q (fun ac ww h => c_nil (h.ev rfl)) rfl ?_
    refine rg_q (fun ac ww h => c_fld fl213_0 (h.ev rfl)) rfl ?_
    refine rg_nil fun ac ww L' hf hfe hs => ?_
    simp only [List.drop_succ_cons, List.drop_zero]
    obtain rfl : L' = [] := hfe
    replace hs := hs.toL (List.nil_append _)
    refine s_store (i := 0) hs ty205 rfl rfl rfl (show _ = (comp (foldB first (a ++ p) k) ((a ++ p).drop (64 * k))).list.map U from rfl) (by simp) (all_map_U _) (by simp) (show _ = ws (comp (foldB first (a ++ p) k) ((a ++ p).drop (64 * k))) (_) (UInt64.ofNat (a ++ p).length) ((k : Int)) from rfl) fun ww hs => ?_
    refine s_end ?_
    refine then_n ?_
    refine wp_seq ?_
    refine wp_reg ?_
    refine s_q hs (c_move (hs.ev rfl)) rfl fun ac hs => ?_
    refine s_bslice hs un34 ty5 .nil rfl (by simp [Value.cells]) (by decide) rfl rfl fun ac ww g44 hs => ?_
    refine s_q hs (c_move (hs.ev rfl)) rfl fun ac hs => ?_
    refine s_q hs (c_nil (hs.ev rfl)) rfl fun ac hs => ?_
    refine s_q hs (c_fld fl213_1 (hs.ev rfl)) rfl fun ac hs => ?_
    refine s_q hs (c_loadS un34 rfl (hs.ev rfl) (hs.seg (i := 1) rfl) rfl) rfl fun ac hs => ?_
    refine s_q hs (c_sliceL (i := 64) un34 ty5 (hs.ev rfl) (hs.ev rfl) (by omega) (by omega)) rfl fun ac hs => ?_
    replace hs := hs.segrow (i := 0) (n := 0) (sz := 1) rfl rfl (by decide)
    refine s_appB (i := 0) (l := []) hs un34 ty5 rfl rfl rfl (RdB.cut (i := 64) (RdB.row (hs.get (i := 2) rfl)) (by omega)) (by simp; omega) rfl fun ac ww v50 hf hnil hs => ?_
    obtain ⟨ad50, cap50, rfl, _, _⟩ := Rd.sl (RdB.row (hs.get (i := 0) rfl))
    refine s_q hs (c_nil (hs.ev rfl)) rfl fun ac hs => ?_
    refine s_q hs (c_fld fl213_1 (hs.ev rfl)) rfl fun ac hs => ?_
    refine s_store (i := 1) hs ty34 rfl rfl rfl rfl rfl rfl (by simp) (show _ = ws (comp (foldB first (a ++ p) k) ((a ++ p).drop (64 * k))) (_) (UInt64.ofNat (a ++ p).length) ((k : Int)) from rfl) fun ww hs => ?_
    refine s_end ?_
    refine then_n ?_
    refine wp_reg ?_
    refine s_q hs (c_move (hs.ev rfl)) rfl fun ac hs => ?_
    refine s_q hs (c_nil (hs.ev rfl)) rfl fun ac hs => ?_
    refine s_q hs (c_fld fl213_3 (hs.ev rfl)) rfl fun ac hs => ?_
    refine s_q hs (c_loadS un3 rfl (hs.ev rfl) (hs.seg (i := 1) rfl) rfl) rfl fun ac hs => ?_
    refine s_q hs (c_addI (hs.ev rfl) (hs.ev rfl) (by omega) (by omega)) rfl fun ac hs => ?_
    refine s_q hs (c_nil (hs.ev rfl)) rfl fun ac hs => ?_
    refine s_q hs (c_fld fl213_3 (hs.ev rfl)) rfl fun ac hs => ?_
    refine s_store (i := 1) hs ty3 rfl rfl rfl rfl rfl rfl (by simp) (show _ = ws (comp (foldB first (a ++ p) k) ((a ++ p).drop (64 * k))) (_) (UInt64.ofNat (a ++ p).length) ((k : Int) + 1) from rfl) fun ww hs => ?_
    refine s_end ?_
    refine blk_n ?_
    refine then_n ?_
    replace hs := (hs.pick (L' := [_, _]) (.cons_cons _ (.cons_cons _ (.cons _ .slnil)))).perm (List.Perm.swap _ _ _)
    exact ⟨(a ++ p).length / 64 - (k + 1), by rw [hdl] at hc; omega, (k + 1, _), ⟨by rw [hdl] at hc; simp only; omega, rfl⟩, St.next hs ⟨rfl, trivial⟩ w_next⟩
  · try simp only [decide_eq_true_eq, decide_eq_false_iff_not, Bool.not_eq_true', Bool.not_eq_false', Bool.and_eq_true, Bool.or_eq_true, Bool.or_eq_false_iff] at hc
    have hkk : k = (a ++ p).length / 64 := by rw [hdl] at hc; omega
    refine wp_exit ?_
    refine then_e ?_
    refine then_e ?_
    refine blk_hit ?_
    refine s_ret_end hs rfl .nil rfl ⟨_, rfl, hs.fr, ?_⟩
    exact ⟨_, (hs.toL (w_end hkk)).grp⟩
end Go.Proofs.Ytmgnnclkjkbmdaa
end

section
/- The sum of what was taken in. -/
set_option linter.unusedSimpArgs false
set_option linter.unusedVariables false
set_option maxRecDepth 100000
namespace Go.Proofs.Ytmgnnclkjkbmdaa
open Go Go.Fw
open Sha
theorem be64_take (x : UInt64) : ∀ k, k < 8 → (be64 x).take (k + 1) = (be64 x).take k ++ [(x >>> UInt64.ofNat (56 - 8 * k)).toUInt8]
  | 0, _ => rfl | 1, _ => rfl | 2, _ => rfl | 3, _ => rfl | 4, _ => rfl | 5, _ => rfl | 6, _ => rfl
  | 7, _ => by simp [be64]
  | k + 8, h => absurd h (by omega)
theorem out_take (r : R) : ∀ k, k < 8 → (out r).take (4 * (k + 1)) = (out r).take (4 * k) ++ be32 (r.list.getD k 0)
  | 0, _ => rfl | 1, _ => rfl | 2, _ => rfl | 3, _ => rfl | 4, _ => rfl | 5, _ => rfl | 6, _ => rfl | 7, _ => rfl
  | k + 8, h => absurd h (by omega)
/-- Four bytes, set one by one. -/
theorem set4 (P : List UInt8) (m : Nat) (a b c d : UInt8) (k : Nat) (hk : P.length = 4 * k) :
    ((((P ++ List.replicate (m + 4) (0 : UInt8)).set (4 * k) a).set (4 * k + 1) b).set (4 * k + 2) c).set (4 * k + 3) d = P ++ [a, b, c, d] ++ List.replicate m 0 := by
  have e : List.replicate (m + 4) (0 : UInt8) = 0 :: 0 :: 0 :: 0 :: List.replicate m 0 := rfl
  rw [← hk, e]
  simp [List.set_append_right, List.set]
theorem arr_get {α : Type} {f : α → Value} {l : List α} {i : Nat} (d : α) (hi : i < l.length) : (l.map f).toArray[i]? = some (f (l.getD i d)) := by simp [List.getD, hi]
def outZ (r : R) (k : Nat) : List UInt8 := (out r).take (4 * k) ++ List.replicate (32 - 4 * k) 0
theorem outZ_len (r : R) (k : Nat) (h : k ≤ 8) : (outZ r k).length = 32 := by simp [outZ]; omega
theorem outZ_set (r : R) (k : Nat) (h : k < 8) (a b c d : UInt8) (he : be32 (r.list.getD k 0) = [a, b, c, d]) :
    ((((outZ r k).set (4 * k) a).set (4 * k + 1) b).set (4 * k + 2) c).set (4 * k + 3) d = outZ r (k + 1) := by
  have h4 := set4 ((out r).take (4 * k)) (32 - 4 * (k + 1)) a b c d k (by simp; omega)
  rw [show 32 - 4 * (k + 1) + 4 = 32 - 4 * k from by omega] at h4
  rw [outZ, h4, outZ, out_take r k h, he]
set_option maxHeartbeats 4000000 in
theorem sha_HSum (a : List UInt8) (g : Nat) (rv : Value) (hle : a.length ≤ 140737488355328) (w : World) (hg : w.heap[g]? = some (.cells (hcells a rv).toArray 213 (0, 0))) (hr : RdB w rv (rest a)) : Ctr Try.prog 50 [.pointer (some ⟨g, 0, none⟩)] w (fun _ => False) (fun v _ => v = .agg ((sum a).map B).toArray) := by
  obtain ⟨rad, rcap, rfl, hrc, hrm⟩ := Rd.sl hr
  have hrl := rest_length a
  refine fn_start (N := 87) Try.func50 rfl rfl rfl fun ac hk => ?_
  have hs := St.start hk w
  refine wp_seq ?_
  refine wp_reg ?_
  refine s_alloc hs ty41 rfl fun ac ww g2 hs => ?_
  refine s_end ?_
  refine then_n ?_
  refine wp_seq ?_
  refine wp_reg ?_
  refine s_alloc hs ty41 rfl fun ac ww g3 hs => ?_
  refine s_end ?_
  refine then_n ?_
  refine wp_seq ?_
  refine wp_seq ?_
  refine wp_reg ?_
  refine s_q hs (c_move (hs.ev rfl)) rfl fun ac hs => ?_
  refine s_q hs (c_eqlNil un48 (hs.ev rfl) (hs.ev rfl)) rfl fun ac hs => ?_
  refine s_end ?_
  replace hs := hs.sub (F' := [(0, _), (2, _), (3, _), (10, _)]) ⟨rfl, rfl, rfl, rfl, trivial⟩
  refine then_n ?_
  refine wp_cond_false (hs.ev rfl) ?_
  refine wp_skip ?_
  refine then_n ?_
  refine wp_seq ?_
  refine wp_reg ?_
  refine s_bslice hs un34 ty5 .nil rfl (by simp [Value.cells]) (by decide) rfl rfl fun ac ww g12 hs => ?_
  refine s_q hs (c_move (hs.ev rfl)) rfl fun ac hs => ?_
  refine s_q hs (c_nil (hs.ev rfl)) rfl fun ac hs => ?_
  refine s_q hs (c_fld fl213_1 (hs.ev rfl)) rfl fun ac hs => ?_
  refine s_q hs (c_loadS un34 rfl (hs.ev rfl) (hs.old hg id) rfl) rfl fun ac hs => ?_
  replace hs := hs.segrow (i := 0) (n := 0) (sz := 1) rfl rfl (by decide)
  refine s_appB (i := 0) (l := []) hs un34 ty5 rfl rfl rfl (hr.fr0 hs.fr) (by simp; omega) rfl fun ac ww v17 hf hnil hs => ?_
  refine s_bslice hs un34 ty5 (.cons (hs.ev rfl) .nil) rfl (by simp [Value.cells]) (by decide) rfl rfl fun ac ww g18 hs => ?_
  refine s_appB (i := 1) hs un34 ty5 rfl rfl rfl (RdB.seg (l := [0x80]) (hs.seg (i := 0) rfl) (by decide)) (by simp; omega) rfl fun ac ww v19 hf hnil hs => ?_
  refine s_q hs (c_assign (hs.ev rfl)) rfl fun ac hs => ?_
  refine s_end ?_
  replace hs := hs.pick (L' := [_, _, _]) (.cons _ (.refl _))
  replace hs := hs.sub (F' := [(0, _), (2, _), (3, _), (4, _)]) ⟨rfl, rfl, rfl, rfl, trivial⟩
  refine then_n ?_
  refine wp_seq ?_
  refine wp_block ?_
  refine s_loop hs (X := Nat × Value) (fun x => [(4, x.2)]) [(0, _), (2, _), (3, _)] (fun x => [.row x.2 ((rest a ++ [0x80]) ++ List.replicate x.1 0).length (((rest a ++ [0x80]) ++ List.replicate x.1 0).map B) 5 1, .seg g3 ((List.replicate 32 (0 : UInt8)).map B) 41, .seg g2 ((List.replicate 32 (0 : UInt8)).map B) 41]) (fun n x => x.1 ≤ zc (rest a).length ∧ n = zc (rest a).length - x.1) (_) ((0, _)) (⟨Nat.zero_le _, rfl⟩) ⟨rfl, rfl, rfl, rfl, trivial⟩ (by simp only [List.replicate_zero, List.take_zero, List.append_nil]; try rfl) ?_
  rintro n ⟨j, v⟩ ac ww hok hs
  simp only [List.cons_append, List.nil_append] at hs
  obtain ⟨hj, rfl⟩ := hok
  simp only at hj hs
  obtain ⟨ad, cap, rfl, _, _⟩ := Rd.sl (RdB.row (hs.get (i := 0) rfl))
  have hll : ((rest a ++ [0x80]) ++ List.replicate j (0 : UInt8)).length = (rest a).length + 1 + j := by simp; omega
  simp only [zc, hrl] at hj
  refine wp_seq ?_
  refine wp_seq ?_
  refine wp_reg ?_
  refine s_q hs (c_move (hs.ev rfl)) rfl fun ac hs => ?_
  refine s_q hs (c_lenS un34 (hs.ev rfl)) rfl fun ac hs => ?_
  refine s_q hs (c_remI (hs.ev rfl) (hs.ev rfl) (by omega) (by omega)) rfl fun ac hs => ?_
  refine s_q hs (c_neqI (hs.ev rfl) (hs.ev rfl)) rfl fun ac hs => ?_
  refine s_end ?_
  refine then_n ?_
  refine s_cond hs rfl (fun hc => ?_) (fun hc => ?_)
  · try simp only [decide_eq_true_eq, decide_eq_false_iff_not, Bool.not_eq_true', Bool.not_eq_false', Bool.and_eq_true, Bool.or_eq_true, Bool.or_eq_false_iff] at hc
    refine wp_skip ?_
    refine then_n ?_
    refine wp_block ?_
    refine wp_reg ?_
    refine s_q hs (c_move (hs.ev rfl)) rfl fun ac hs => ?_
    refine s_bslice hs un34 ty5 (.cons (hs.ev rfl) .nil) rfl (by simp [Value.cells]) (by decide) rfl rfl fun ac ww g25 hs => ?_
    refine s_appB (i := 1) hs un34 ty5 rfl rfl rfl (RdB.seg (l := [0]) (hs.seg (i := 0) rfl) (by decide)) (by rw [hll]; simp; omega) rfl fun ac ww v26 hf hnil hs => ?_
    refine s_q hs (c_assign (hs.ev rfl)) rfl fun ac hs => ?_
    refine s_end ?_
    refine blk_n ?_
    refine then_n ?_
    replace hs := hs.pick (L' := [_, _, _]) (.cons _ (.refl _))
    exact ⟨zc (rest a).length - (j + 1), by rw [hll] at hc; simp only [zc, hrl]; omega, (j + 1, _), ⟨by rw [hll] at hc; simp only [zc, hrl]; omega, rfl⟩, St.next hs ⟨rfl, rfl, rfl, rfl, trivial⟩ (by simp [List.replicate_succ', ← List.append_assoc])⟩
  · try simp only [decide_eq_true_eq, decide_eq_false_iff_not, Bool.not_eq_true', Bool.not_eq_false', Bool.and_eq_true, Bool.or_eq_true, Bool.or_eq_false_iff] at hc
    have hjj : j = zc (rest a).length := by rw [hll] at hc; simp only [zc, hrl]; omega
    subst hjj
    refine wp_exit ?_
    refine then_e ?_
    refine then_e ?_
    refine blk_hit ?_
    refine then_n ?_
    refine wp_seq ?_
    refine wp_seq ?_
    refine wp_reg ?_
    refine s_q hs (c_assign (hs.ev rfl)) rfl fun ac hs => ?_
    refine s_end ?_
    replace hs := hs.sub (F' := [(0, _), (2, _), (3, _), (4, _), (5, _)]) ⟨rfl, rfl, rfl, rfl, rfl, trivial⟩
    refine then_n ?_
    refine wp_block ?_
    refine s_loop hs (X := Nat × Value) (fun x => [(4, x.2), (5, I (56 - 8 * (x.1 : Int)))]) [(0, _), (2, _), (3, _)] (fun x => [.row x.2 ((rest a ++ [0x80]) ++ List.replicate (zc (rest a).length) 0 ++ (be64 (UInt64.ofNat a.length * 8)).take x.1).length (((rest a ++ [0x80]) ++ List.replicate (zc (rest a).length) 0 ++ (be64 (UInt64.ofNat a.length * 8)).take x.1).map B) 5 1, .seg g3 ((List.replicate 32 (0 : UInt8)).map B) 41, .seg g2 ((List.replicate 32 (0 : UInt8)).map B) 41]) (fun n x => x.1 ≤ 8 ∧ n = 8 - x.1) (8) ((0, _)) (⟨Nat.zero_le _, rfl⟩) ⟨rfl, rfl, rfl, rfl, rfl, trivial⟩ (by simp only [List.replicate_zero, List.take_zero, List.append_nil]; try rfl) ?_
    rintro n ⟨k, v⟩ ac ww hok hs
    simp only [List.cons_append, List.nil_append] at hs
    obtain ⟨hk, rfl⟩ := hok
    simp only at hk hs
    obtain ⟨ad, cap, rfl, _, _⟩ := Rd.sl (RdB.row (hs.get (i := 0) rfl))
    refine wp_seq ?_
    refine wp_seq ?_
    refine wp_reg ?_
    refine s_q hs (c_move (hs.ev rfl)) rfl fun ac hs => ?_
    refine s_q hs (c_geqI (hs.ev rfl) (hs.ev rfl)) rfl fun ac hs => ?_
    refine s_end ?_
    refine then_n ?_
    refine s_cond hs rfl (fun hc => ?_) (fun hc => ?_)
    · try simp only [decide_eq_true_eq, decide_eq_false_iff_not, Bool.not_eq_true', Bool.not_eq_false', Bool.and_eq_true, Bool.or_eq_true, Bool.or_eq_false_iff] at hc
      refine wp_skip ?_
      refine then_n ?_
      refine wp_seq ?_
      refine wp_block ?_
      refine wp_reg ?_
      refine s_q hs (c_move (hs.ev rfl)) rfl fun ac hs => ?_
      refine s_q hs (c_move (hs.ev rfl)) rfl fun ac hs => ?_
      refine s_q hs (c_nil (hs.ev rfl)) rfl fun ac hs => ?_
      refine s_q hs (c_fld fl213_2 (hs.ev rfl)) rfl fun ac hs => ?_
      refine s_q hs (c_loadS un210 rfl (hs.ev rfl) (hs.old hg id) rfl) rfl fun ac hs => ?_
      refine s_q hs (c_mulV (hs.ev rfl) (St.ev (v := V 8) hs rfl)) rfl fun ac hs => ?_
      refine s_q hs (c_move (hs.ev rfl)) rfl fun ac hs => ?_
      refine s_q hs (c_shrV (n := 56 - 8 * k) (hs.ev rfl) ((hs.ev rfl).trans (congrArg I (by omega))) (by omega)) rfl fun ac hs => ?_
      refine s_q hs (c_cvVB un210 un5 (hs.ev rfl)) rfl fun ac hs => ?_
      refine s_bslice hs un34 ty5 (.cons (hs.ev rfl) .nil) rfl (by simp [Value.cells]) (by decide) rfl rfl fun ac ww g40 hs => ?_
      refine s_appB (i := 1) hs un34 ty5 rfl rfl rfl (RdB.seg (l := [_]) (hs.seg (i := 0) rfl) (by show 1 ≤ maxLen; decide)) (by simp only [List.length_append, List.length_replicate, List.length_take, be64_length, zc]; simp; omega) rfl fun ac ww v41 hf hnil hs => ?_
      refine s_q hs (c_assign (hs.ev rfl)) rfl fun ac hs => ?_
      refine s_end ?_
      refine blk_n ?_
      refine then_n ?_
      refine wp_reg ?_
      refine s_q hs (c_move (hs.ev rfl)) rfl fun ac hs => ?_
      refine s_q hs (c_subI (hs.ev rfl) (hs.ev rfl) (by omega) (by omega)) rfl fun ac hs => ?_
      refine s_q hs (c_assign (hs.ev rfl)) rfl fun ac hs => ?_
      refine s_end ?_
      refine then_n ?_
      replace hs := hs.pick (L' := [_, _, _]) (.cons _ (.refl _))
      exact ⟨8 - (k + 1), by omega, (k + 1, _), ⟨by (try simp only); omega, rfl⟩, St.next hs ⟨rfl, (congrArg (fun z => some (I z)) (by omega)), rfl, rfl, rfl, trivial⟩ (by rw [be64_take _ k (by omega)]; simp only [List.append_assoc, List.set])⟩
    · try simp only [decide_eq_true_eq, decide_eq_false_iff_not, Bool.not_eq_true', Bool.not_eq_false', Bool.and_eq_true, Bool.or_eq_true, Bool.or_eq_false_iff] at hc
      obtain rfl : k = 8 := by omega
      refine wp_exit ?_
      refine then_e ?_
      refine then_e ?_
      refine blk_hit ?_
      refine then_n ?_
      refine wp_seq ?_
      refine wp_reg ?_
      refine s_q hs (c_move (hs.ev rfl)) rfl fun ac hs => ?_
      refine s_q hs (c_nil (hs.ev rfl)) rfl fun ac hs => ?_
      refine s_q hs (c_fld fl213_0 (hs.ev rfl)) rfl fun ac hs => ?_
      refine s_q hs (c_loadA ty205 rfl (hs.ev rfl) (hs.old hg id) (show _ = (foldB first a (a.length / 64)).list.map U from rfl) (by simp)) rfl fun ac hs => ?_
      refine s_alloc hs ty205 rfl fun ac ww g6 hs => ?_
      refine s_storeW (i := 0) hs ty205 rfl rfl rfl (by simp) (all_map_U _) (by simp) fun ww hs => ?_
      refine s_end ?_
      replace hs := hs.sub (F' := [(2, _), (3, _), (4, _), (6, _)]) ⟨rfl, rfl, rfl, rfl, trivial⟩
      refine then_n ?_
      refine wp_seq ?_
      refine wp_block ?_
      replace hs := (hs.rowrd (i := 1) rfl).toL (show _ = [_, Ent.rd _ ((fill (rest a) (UInt64.ofNat a.length)).drop (64 * 0)), _, _] from rfl)
      refine s_loop hs (X := Nat × Value) (fun x => [(4, x.2)]) [(2, _), (3, _), (6, _)] (fun x => [.seg g6 ((foldB (foldB first a (a.length / 64)) (fill (rest a) (UInt64.ofNat a.length)) x.1).list.map U) 205, .rd x.2 ((fill (rest a) (UInt64.ofNat a.length)).drop (64 * x.1)), .seg g3 ((List.replicate 32 (0 : UInt8)).map B) 41, .seg g2 ((List.replicate 32 (0 : UInt8)).map B) 41]) (fun n x => x.1 ≤ blocks (rest a).length ∧ n = blocks (rest a).length - x.1) (_) ((0, _)) (⟨Nat.zero_le _, rfl⟩) ⟨rfl, rfl, rfl, rfl, trivial⟩ rfl ?_
      rintro n ⟨k, v⟩ ac ww hok hs
      simp only [List.cons_append, List.nil_append] at hs
      obtain ⟨hk, rfl⟩ := hok
      simp only at hk hs
      obtain ⟨ad, cap, rfl, _, _⟩ := Rd.sl (hs.get (i := 1) rfl)
      have hdl : ((fill (rest a) (UInt64.ofNat a.length)).drop (64 * k)).length = 64 * blocks (rest a).length - 64 * k := by rw [List.length_drop, fill_length]
      refine wp_seq ?_
      refine wp_seq ?_
      refine wp_reg ?_
      refine s_q hs (c_move (hs.ev rfl)) rfl fun ac hs => ?_
      refine s_q hs (c_lenS un34 (hs.ev rfl)) rfl fun ac hs => ?_
      refine s_q hs (c_gtrI (hs.ev rfl) (hs.ev rfl)) rfl fun ac hs => ?_
      refine s_end ?_
      refine then_n ?_
      refine s_cond hs rfl (fun hc => ?_) (fun hc => ?_)
      · try simp only [decide_eq_true_eq, decide_eq_false_iff_not, Bool.not_eq_true', Bool.not_eq_false', Bool.and_eq_true, Bool.or_eq_true, Bool.or_eq_false_iff] at hc
        rw [hdl] at hc
        refine wp_skip ?_
        refine then_n ?_
        refine wp_seq ?_
        refine wp_block ?_
        refine wp_reg ?_
        refine s_q hs (c_loadW ty205 rfl (hs.ev rfl) (hs.seg (i := 0) rfl) (by simp)) rfl fun ac hs => ?_
        refine s_q hs (c_move (hs.ev rfl)) rfl fun ac hs => ?_
        refine s_call hs fu157 (.cons (hs.ev rfl) (.cons (hs.ev rfl) .nil)) (sha_mix _ ((fill (rest a) (UInt64.ofNat a.length)).drop (64 * k)) _ (by omega) _ (hs.get (i := 1) rfl)) rfl fun ac ww v53 hf hp hs => ?_
        obtain rfl := hp
        replace hs := hs [] (.nil _ _)
        refine s_storeW (i := 0) hs ty205 rfl rfl rfl (by simp) (all_map_U _) rfl fun ww hs => ?_
        refine s_end ?_
        refine blk_n ?_
        refine then_n ?_
        refine wp_reg ?_
        refine s_q hs (c_move (hs.ev rfl)) rfl fun ac hs => ?_
        refine s_q hs (c_sliceL (i := 64) un34 ty5 (hs.ev rfl) (hs.ev rfl) (by omega) (by omega)) rfl fun ac hs => ?_
        refine s_q hs (c_assign (hs.ev rfl)) rfl fun ac hs => ?_
        refine s_end ?_
        refine then_n ?_
        replace hs := hs.rdcut (i := 1) (j := 64) rfl (by omega)
        exact ⟨blocks (rest a).length - (k + 1), by (try simp only); omega, (k + 1, _), ⟨by (try simp only); omega, rfl⟩, St.next hs ⟨rfl, rfl, rfl, rfl, trivial⟩ (by simp only [List.set, foldB, List.drop_drop]; rfl)⟩
      · try simp only [decide_eq_true_eq, decide_eq_false_iff_not, Bool.not_eq_true', Bool.not_eq_false', Bool.and_eq_true, Bool.or_eq_true, Bool.or_eq_false_iff] at hc
        have hkk : k = blocks (rest a).length := by rw [hdl] at hc; omega
        subst hkk
        refine wp_exit ?_
        refine then_e ?_
        refine then_e ?_
        refine blk_hit ?_
        refine then_n ?_
        refine wp_seq ?_
        refine wp_seq ?_
        refine wp_reg ?_
        refine s_q hs (c_loadW ty205 rfl (hs.ev rfl) (hs.seg (i := 0) rfl) (by simp)) rfl fun ac hs => ?_
        refine s_q hs (c_move (hs.ev rfl)) rfl fun ac hs => ?_
        refine s_end ?_
        replace hs := hs.pick (L' := [_, _, _]) (.cons_cons _ (.cons _ (.refl _)))
        replace hs := hs.sub (F' := [(2, _), (3, _), (54, _), (55, _)]) ⟨rfl, rfl, rfl, rfl, trivial⟩
        refine then_n ?_
        refine wp_block ?_
        refine s_loop hs (X := Nat) (fun k => [(55, I k)]) [(2, _), (3, _), (54, _)] (fun k => [.seg g6 ((foldB (foldB first a (a.length / 64)) (fill (rest a) (UInt64.ofNat a.length)) (blocks (rest a).length)).list.map U) 205, .seg g3 ((outZ (foldB (foldB first a (a.length / 64)) (fill (rest a) (UInt64.ofNat a.length)) (blocks (rest a).length)) k).map B) 41, .seg g2 ((List.replicate 32 (0 : UInt8)).map B) 41]) (fun n k => k ≤ 8 ∧ n = 8 - k) (8) (0) (⟨Nat.zero_le _, rfl⟩) ⟨rfl, rfl, rfl, rfl, trivial⟩ rfl ?_
        rintro n k ac ww hok hs
        simp only [List.cons_append, List.nil_append] at hs
        obtain ⟨hk, rfl⟩ := hok
        have hzl := outZ_len (foldB (foldB first a (a.length / 64)) (fill (rest a) (UInt64.ofNat a.length)) (blocks (rest a).length)) k hk
        refine wp_seq ?_
        refine wp_reg ?_
        refine s_q hs (c_lssI (hs.ev rfl) (hs.ev rfl)) rfl fun ac hs => ?_
        refine s_end ?_
        refine then_n ?_
        refine wp_seq ?_
        refine s_cond hs rfl (fun hc => ?_) (fun hc => ?_)
        · try simp only [decide_eq_true_eq, decide_eq_false_iff_not, Bool.not_eq_true', Bool.not_eq_false', Bool.and_eq_true, Bool.or_eq_true, Bool.or_eq_false_iff] at hc
          obtain hk8 : k < 8 := by omega
          refine wp_skip ?_
          refine then_n ?_
          refine wp_seq ?_
          refine wp_block ?_
          refine wp_seq ?_
          refine wp_reg ?_
          refine s_q hs (c_move (hs.ev rfl)) rfl fun ac hs => ?_
          refine s_q hs (c_idxS1 (j := k) un205 ty27 rfl (hs.ev rfl) (hs.ev rfl) (by omega) (by omega) (arr_get 0 (by simp; omega))) rfl fun ac hs => ?_
          refine s_q hs (c_assign (hs.ev rfl)) rfl fun ac hs => ?_
          refine s_q hs (c_assign (hs.ev rfl)) rfl fun ac hs => ?_
          refine s_end ?_
          refine then_n ?_
          refine wp_reg ?_
          refine s_q hs (c_move (hs.ev rfl)) rfl fun ac hs => ?_
          refine s_q hs (c_mulI (hs.ev rfl) (hs.ev rfl) (by omega) (by omega)) rfl fun ac hs => ?_
          refine s_q hs (c_move (hs.ev rfl)) rfl fun ac hs => ?_
          refine s_q hs (c_mulI (hs.ev rfl) (hs.ev rfl) (by omega) (by omega)) rfl fun ac hs => ?_
          refine s_q hs (c_addI (hs.ev rfl) (hs.ev rfl) (by omega) (by omega)) rfl fun ac hs => ?_
          refine s_q hs (c_move (hs.ev rfl)) rfl fun ac hs => ?_
          refine s_q hs (c_mulI (hs.ev rfl) (hs.ev rfl) (by omega) (by omega)) rfl fun ac hs => ?_
          refine s_q hs (c_addI (hs.ev rfl) (hs.ev rfl) (by omega) (by omega)) rfl fun ac hs => ?_
          refine s_q hs (c_move (hs.ev rfl)) rfl fun ac hs => ?_
          refine s_q hs (c_mulI (hs.ev rfl) (hs.ev rfl) (by omega) (by omega)) rfl fun ac hs => ?_
          refine s_q hs (c_addI (hs.ev rfl) (hs.ev rfl) (by omega) (by omega)) rfl fun ac hs => ?_
          refine s_q hs (c_move (hs.ev rfl)) rfl fun ac hs => ?_
          refine s_q hs (c_shrU (hs.ev rfl) (hs.ev rfl) (by decide)) rfl fun ac hs => ?_
          refine s_q hs (c_cvUB un27 un5 (hs.ev rfl)) rfl fun ac hs => ?_
          refine s_q hs (c_move (hs.ev rfl)) rfl fun ac hs => ?_
          refine s_q hs (c_shrU (hs.ev rfl) (hs.ev rfl) (by decide)) rfl fun ac hs => ?_
          refine s_q hs (c_cvUB un27 un5 (hs.ev rfl)) rfl fun ac hs => ?_
          refine s_q hs (c_move (hs.ev rfl)) rfl fun ac hs => ?_
          refine s_q hs (c_shrU (hs.ev rfl) (hs.ev rfl) (by decide)) rfl fun ac hs => ?_
          refine s_q hs (c_cvUB un27 un5 (hs.ev rfl)) rfl fun ac hs => ?_
          refine s_q hs (c_move (hs.ev rfl)) rfl fun ac hs => ?_
          refine s_q hs (c_cvUB un27 un5 (hs.ev rfl)) rfl fun ac hs => ?_
          refine s_q hs (c_idxA (j := 4 * k) un41 ty5 (hs.ev rfl) (hs.ev rfl) (by omega) (by omega)) rfl fun ac hs => ?_
          refine s_store (i := 1) hs ty5 rfl rfl rfl rfl rfl rfl (by simp only [List.length_map]; first | omega | (simp only [List.length_set]; omega)) (map_set _ (by first | omega | (simp only [List.length_set]; omega))) fun ww hs => ?_
          refine s_q hs (c_idxA (j := 4 * k + 1) un41 ty5 (hs.ev rfl) (hs.ev rfl) (by omega) (by omega)) rfl fun ac hs => ?_
          refine s_store (i := 1) hs ty5 rfl rfl rfl rfl rfl rfl (by simp only [List.length_map]; first | omega | (simp only [List.length_set]; omega)) (map_set _ (by first | omega | (simp only [List.length_set]; omega))) fun ww hs => ?_
          refine s_q hs (c_idxA (j := 4 * k + 2) un41 ty5 (hs.ev rfl) (hs.ev rfl) (by omega) (by omega)) rfl fun ac hs => ?_
          refine s_store (i := 1) hs ty5 rfl rfl rfl rfl rfl rfl (by simp only [List.length_map]; first | omega | (simp only [List.length_set]; omega)) (map_set _ (by first | omega | (simp only [List.length_set]; omega))) fun ww hs => ?_
          refine s_q hs (c_idxA (j := 4 * k + 3) un41 ty5 (hs.ev rfl) (hs.ev rfl) (by omega) (by omega)) rfl fun ac hs => ?_
          refine s_store (i := 1) hs ty5 rfl rfl rfl rfl rfl rfl (by simp only [List.length_map]; first | omega | (simp only [List.length_set]; omega)) (map_set _ (by first | omega | (simp only [List.length_set]; omega))) fun ww hs => ?_
          refine s_end ?_
          refine blk_n ?_
          refine then_n ?_
          refine wp_reg ?_
          refine s_q hs (c_addI (hs.ev rfl) (hs.ev rfl) (by omega) (by omega)) rfl fun ac hs => ?_
          refine s_q hs (c_move (hs.ev rfl)) rfl fun ac hs => ?_
          refine s_end ?_
          refine then_n ?_
          exact ⟨8 - (k + 1), by omega, k + 1, ⟨by omega, rfl⟩, St.next hs ⟨rfl, rfl, rfl, rfl, trivial⟩ (congrArg (fun z => [_, Ent.seg g3 (List.map B z) 41, _]) (outZ_set _ k (by omega) _ _ _ _ rfl))⟩
        · try simp only [decide_eq_true_eq, decide_eq_false_iff_not, Bool.not_eq_true', Bool.not_eq_false', Bool.and_eq_true, Bool.or_eq_true, Bool.or_eq_false_iff] at hc
          obtain rfl : k = 8 := by omega
          refine wp_exit ?_
          refine then_e ?_
          refine then_e ?_
          refine blk_hit ?_
          refine then_n ?_
          refine wp_seq ?_
          refine wp_reg ?_
          refine s_q hs (c_loadW ty41 rfl (hs.ev rfl) (hs.seg (i := 1) rfl) (by simpa using hzl)) rfl fun ac hs => ?_
          refine s_storeW (i := 2) hs ty41 rfl rfl rfl (by simpa using hzl) (all_map_B _) rfl fun ww hs => ?_
          refine s_end ?_
          replace hs := hs.sub (F' := [(2, _)]) ⟨rfl, trivial⟩
          refine then_n ?_
          refine wp_ret ?_
          refine s_ret hs rfl (.cell (hs.tmp rfl) (run_loadA ty41 rfl (hs.seg (i := 2) rfl) (List.take_of_length_le (by simp [hzl])) (by simpa using hzl)) .nil) rfl ⟨_, rfl, hs.fr, ?_⟩
          show _ = _
          rw [← sum_rest a, ← hrl]
          rfl
end Go.Proofs.Ytmgnnclkjkbmdaa
end

section
/- Sums, counts, digits. -/
set_option linter.unusedSimpArgs false
set_option linter.unusedVariables false
set_option maxRecDepth 100000
namespace Go.Proofs.Ytmgnnclkjkbmdaa
open Go Go.Fw
open Sha
set_option maxHeartbeats 4000000 in
theorem sha_Sum (p : List UInt8) (pv : Value) (hle : p.length ≤ 140737488355328) (w : World) (hq : RdB w pv p) : Ctr Try.prog 44 [pv] w (fun _ => False) (fun v _ => v = .agg ((sum p).map B).toArray) := by
  refine fn_start (N := 10) Try.func44 rfl rfl rfl fun ac hk => ?_
  have hs := St.start hk w
  refine wp_seq ?_
  refine wp_reg ?_
  refine s_alloc hs ty41 rfl fun ac ww g2 hs => ?_
  refine s_end ?_
  refine then_n ?_
  refine wp_seq ?_
  refine wp_reg ?_
  refine s_call hs fu48 .nil (sha_New _) rfl fun ac ww v4 hf hp hs => ?_
  obtain ⟨g, rfl, hh⟩ := hp
  replace hs := hs _ (Has.grp' hh)
  refine s_q hs (c_assign (hs.ev rfl)) rfl fun ac hs => ?_
  refine s_end ?_
  replace hs := hs.sub (F' := [(0, _), (2, _), (3, _)]) ⟨rfl, rfl, rfl, trivial⟩
  refine then_n ?_
  refine wp_seq ?_
  refine wp_reg ?_
  refine s_q hs (c_move (hs.ev rfl)) rfl fun ac hs => ?_
  refine s_q hs (c_move (hs.ev rfl)) rfl fun ac hs => ?_
  refine s_callM (i := 0) hs fu49 (.cons (hs.ev rfl) (.cons (hs.ev rfl) .nil)) rfl (sha_Write [] p g _ pv (by simp; omega) _ (hs.get (i := 0) rfl) (hq.fr0 hs.fr) (hs.far (i := 0) rfl hq)) rfl fun ac ww v7 hf hp hs => ?_
  obtain ⟨rv, h1, h2⟩ := hp
  replace hs := hs (Ent.grp (hash g rv ([] ++ p))) h1 (fun k hk => ⟨h2 k hk, grp_lt h1 k hk⟩)
  obtain ⟨hg, hr⟩ := hash_get h1
  refine s_end ?_
  replace hs := hs.sub (F' := [(2, _), (3, _)]) ⟨rfl, rfl, trivial⟩
  refine then_n ?_
  refine wp_seq ?_
  refine wp_reg ?_
  refine s_q hs (c_move (hs.ev rfl)) rfl fun ac hs => ?_
  refine s_call hs fu50 (.cons (hs.ev rfl) .nil) (sha_HSum p g rv hle _ hg hr) rfl fun ac ww v9 hf hp hs => ?_
  obtain rfl := hp
  replace hs := hs [] (.nil _ _)
  refine s_storeW (i := 1) hs ty41 rfl rfl rfl (by simp) (all_map_B _) (by simp) fun ww hs => ?_
  refine s_end ?_
  replace hs := hs.sub (F' := [(2, _)]) ⟨rfl, trivial⟩
  refine then_n ?_
  refine wp_ret ?_
  refine s_ret hs rfl (.cell (hs.tmp rfl) (run_loadA ty41 rfl (hs.seg (i := 1) rfl) (List.take_of_length_le (by simp)) (by simp)) .nil) rfl ⟨_, rfl, hs.fr, ?_⟩
  rfl
end Go.Proofs.Ytmgnnclkjkbmdaa
end

section
/- The sum as the document has it. -/
set_option linter.unusedSimpArgs false
set_option linter.unusedVariables false
set_option maxRecDepth 100000
namespace Go.Proofs.Ytmgnnclkjkbmdaa
open Go Go.Fw
open Sha
theorem v_sub32 (n : Nat) (h : n ≤ 32) : V (32 - UInt64.ofNat n) = Value.int .u64 ((32 - n : Nat) : Int) := by
  unfold V
  congr 1
  have h2 : (UInt64.ofNat n) ≤ 32 := by rw [UInt64.le_iff_toNat_le, UInt64.toNat_ofNat']; show n % 2 ^ 64 ≤ 32; omega
  rw [UInt64.toNat_sub_of_le _ _ h2, UInt64.toNat_ofNat']
  have h3 : (32 : UInt64).toNat = 32 := rfl
  rw [h3]
  omega
theorem v_of (n : Nat) (h : n ≤ 32) : V (UInt64.ofNat n) = Value.int .u64 (n : Int) := by
  unfold V
  rw [UInt64.toNat_ofNat']
  congr 2
  omega
theorem word_sum (a b c d : UInt8) : a.toUInt32 * (16777216 : UInt32) + b.toUInt32 * (65536 : UInt32) + c.toUInt32 * (256 : UInt32) + d.toUInt32 = a.toUInt32 <<< 24 ||| b.toUInt32 <<< 16 ||| c.toUInt32 <<< 8 ||| d.toUInt32 := by
  have ha := a.toNat_lt; have hb := b.toNat_lt; have hc := c.toNat_lt; have hd := d.toNat_lt
  apply UInt32.toNat_inj.1
  have e1 : (a.toNat <<< 24 + b.toNat <<< 16) = a.toNat <<< 24 ||| b.toNat <<< 16 := Nat.shiftLeft_add_eq_or_of_lt (by rw [Nat.shiftLeft_eq]; omega) _
  have e2 : ((a.toNat <<< 8 + b.toNat) <<< 16 + c.toNat <<< 8) = (a.toNat <<< 8 + b.toNat) <<< 16 ||| c.toNat <<< 8 := Nat.shiftLeft_add_eq_or_of_lt (by rw [Nat.shiftLeft_eq]; omega) _
  have e3 : (((a.toNat <<< 8 + b.toNat) <<< 8 + c.toNat) <<< 8 + d.toNat) = ((a.toNat <<< 8 + b.toNat) <<< 8 + c.toNat) <<< 8 ||| d.toNat := Nat.shiftLeft_add_eq_or_of_lt (by omega) _
  have f1 : (a.toNat <<< 8 + b.toNat) <<< 16 = a.toNat <<< 24 + b.toNat <<< 16 := by simp only [Nat.shiftLeft_eq]; omega
  have f2 : ((a.toNat <<< 8 + b.toNat) <<< 8 + c.toNat) <<< 8 = (a.toNat <<< 8 + b.toNat) <<< 16 + c.toNat <<< 8 := by simp only [Nat.shiftLeft_eq]; omega
  have g1 : (a.toUInt32 <<< 24).toNat = a.toNat <<< 24 := by simp [UInt32.toNat_shiftLeft]; rw [Nat.shiftLeft_eq]; omega
  have g2 : (b.toUInt32 <<< 16).toNat = b.toNat <<< 16 := by simp [UInt32.toNat_shiftLeft]; rw [Nat.shiftLeft_eq]; omega
  have g3 : (c.toUInt32 <<< 8).toNat = c.toNat <<< 8 := by simp [UInt32.toNat_shiftLeft]; rw [Nat.shiftLeft_eq]; omega
  simp only [UInt32.toNat_or, g1, g2, g3, UInt8.toNat_toUInt32]
  rw [← e1, ← f1, ← e2, ← f2, ← e3]
  simp only [UInt32.toNat_add, UInt32.toNat_mul, UInt8.toNat_toUInt32, Nat.shiftLeft_eq]
  have h1 : (16777216 : UInt32).toNat = 16777216 := rfl
  have h2 : (65536 : UInt32).toNat = 65536 := rfl
  have h3 : (256 : UInt32).toNat = 256 := rfl
  rw [h1, h2, h3]
  omega
theorem add_set (r s : R) : ∀ k, k < 8 → ((r.add s).list.take k ++ r.list.drop k).set k (r.list.getD k 0 + s.list.getD k 0) = (r.add s).list.take (k + 1) ++ r.list.drop (k + 1)
  | 0, _ => rfl | 1, _ => rfl | 2, _ => rfl | 3, _ => rfl | 4, _ => rfl | 5, _ => rfl | 6, _ => rfl | 7, _ => rfl
  | k + 8, h => absurd h (by omega)
theorem add_get (r s : R) : ∀ k, k < 8 → (((r.add s).list.take k ++ r.list.drop k).map U)[0 + k * 1]? = some (U (r.list.getD k 0))
  | 0, _ => rfl | 1, _ => rfl | 2, _ => rfl | 3, _ => rfl | 4, _ => rfl | 5, _ => rfl | 6, _ => rfl | 7, _ => rfl
  | k + 8, h => absurd h (by omega)
theorem add_len (r s : R) (k : Nat) (h : k ≤ 8) : ((r.add s).list.take k ++ r.list.drop k).length = 8 := by simp; omega
theorem add4 (a b c d : UInt32) : a + b + c + d = d + c + b + a := by
  rw [UInt32.add_comm (a + b + c) d, UInt32.add_comm (a + b) c, UInt32.add_comm a b, ← UInt32.add_assoc, ← UInt32.add_assoc]
theorem lo_eq (p : List UInt8) (k : Nat) (hk : k < 16) : sched p (k + 1) = sched p k ++ [(p.getD (4 * k) 0).toUInt32 * (16777216 : UInt32) + (p.getD (4 * k + 1) 0).toUInt32 * (65536 : UInt32) + (p.getD (4 * k + 2) 0).toUInt32 * (256 : UInt32) + (p.getD (4 * k + 3) 0).toUInt32] := by
  rw [sched_lo p k hk, word, word_sum]
theorem hi_eq (p : List UInt8) (k : Nat) (hk : 16 ≤ k) : sched p (k + 1) = sched p k ++ [s1 ((sched p k).getD (k - 2) 0) + (sched p k).getD (k - 7) 0 + s0 ((sched p k).getD (k - 15) 0) + (sched p k).getD (k - 16) 0] := by
  rw [sched_hi p k hk, add4]
set_option maxHeartbeats 4000000 in
theorem ref04_rotr (x : UInt32) (n : Nat) (h0 : 0 < n) (h32 : n < 32) (w : World)  : Ctr Try.prog 181 [U x, .int .u64 (n : Int)] w (fun _ => False) (fun v _ => v = U (rotr x n)) := by
  refine fn_start (N := 13) Try.func181 rfl rfl rfl fun ac hk => ?_
  have hs := St.start hk w
  refine wp_seq ?_
  refine wp_reg ?_
  refine s_q hs (c_assign (St.ev (v := U 0) hs rfl)) rfl fun ac hs => ?_
  refine s_end ?_
  refine then_n ?_
  refine wp_seq ?_
  refine wp_reg ?_
  refine s_q hs (c_move (hs.ev rfl)) rfl fun ac hs => ?_
  refine s_q hs (c_move (hs.ev rfl)) rfl fun ac hs => ?_
  refine s_q hs (c_shrU (n := n) (hs.ev rfl) (hs.ev rfl) (by omega)) rfl fun ac hs => ?_
  refine s_q hs (c_move (hs.ev rfl)) rfl fun ac hs => ?_
  refine s_q hs (c_move (hs.ev rfl)) rfl fun ac hs => ?_
  refine s_q hs (c_subV (St.ev (v := V 32) hs rfl) ((hs.ev rfl).trans (v_of n (by omega)).symm)) rfl fun ac hs => ?_
  refine s_q hs (c_shlU (n := 32 - n) (hs.ev rfl) ((hs.ev rfl).trans (v_sub32 n (by omega))) (by omega)) rfl fun ac hs => ?_
  refine s_q hs (c_orU (hs.ev rfl) (hs.ev rfl)) rfl fun ac hs => ?_
  refine s_q hs (c_assign (hs.ev rfl)) rfl fun ac hs => ?_
  refine s_end ?_
  replace hs := hs.sub (F' := [(4, _)]) ⟨rfl, trivial⟩
  refine then_n ?_
  refine wp_ret ?_
  refine s_ret hs rfl (.tmp (hs.tmp rfl) .nil) rfl ⟨_, rfl, hs.fr, ?_⟩
  rfl
set_option maxHeartbeats 4000000 in
theorem ref04_K  (w : World)  : Ctr Try.prog 155 [] w (fun _ => False) (fun v _ => v = .agg (K.map U).toArray) := by
  refine fn_start (N := 2) Try.func155 rfl rfl rfl fun ac hk => ?_
  have hs := St.start hk w
  refine wp_seq ?_
  refine wp_reg ?_
  refine s_alloc hs ty207 rfl fun ac ww g0 hs => ?_
  refine s_end ?_
  refine then_n ?_
  refine wp_seq ?_
  refine wp_reg ?_
  refine s_q hs (c_buildA ty207 un207 ty27 (vs := K.map U) (zc := K.map U) (by repeat (first | exact .nil | refine .cons rfl ?_)) (by decide) (by decide) rfl) rfl fun ac hs => ?_
  refine s_storeW (i := 0) hs ty207 rfl rfl rfl (by simp) (all_map_U _) (by simp) fun ww hs => ?_
  refine s_end ?_
  replace hs := hs.sub (F' := [(0, _)]) ⟨rfl, trivial⟩
  refine then_n ?_
  refine wp_ret ?_
  refine s_ret hs rfl (.cell (hs.tmp rfl) (run_loadA ty207 rfl (hs.seg (i := 0) rfl) (List.take_of_length_le (by simp)) (by simp)) .nil) rfl ⟨_, rfl, hs.fr, ?_⟩
  rfl
set_option maxHeartbeats 4000000 in
theorem ref04_First  (w : World)  : Ctr Try.prog 154 [] w (fun _ => False) (fun v _ => v = .agg (first.list.map U).toArray) := by
  refine fn_start (N := 2) Try.func154 rfl rfl rfl fun ac hk => ?_
  have hs := St.start hk w
  refine wp_seq ?_
  refine wp_reg ?_
  refine s_alloc hs ty205 rfl fun ac ww g0 hs => ?_
  refine s_end ?_
  refine then_n ?_
  refine wp_seq ?_
  refine wp_reg ?_
  refine s_q hs (c_buildA (zc := first.list.map U) ty205 un205 ty27 (.cons (St.ev (v := U 1779033703) hs rfl) (.cons (St.ev (v := U 3144134277) hs rfl) (.cons (St.ev (v := U 1013904242) hs rfl) (.cons (St.ev (v := U 2773480762) hs rfl) (.cons (St.ev (v := U 1359893119) hs rfl) (.cons (St.ev (v := U 2600822924) hs rfl) (.cons (St.ev (v := U 528734635) hs rfl) (.cons (St.ev (v := U 1541459225) hs rfl) .nil)))))))) (by simp [Value.cells]) (by simp [flatCells, Value.cells]) rfl) rfl fun ac hs => ?_
  refine s_storeW (i := 0) hs ty205 rfl rfl rfl (by simp) (all_map_U _) (by simp) fun ww hs => ?_
  refine s_end ?_
  replace hs := hs.sub (F' := [(0, _)]) ⟨rfl, trivial⟩
  refine then_n ?_
  refine wp_ret ?_
  refine s_ret hs rfl (.cell (hs.tmp rfl) (run_loadA ty205 rfl (hs.seg (i := 0) rfl) (List.take_of_length_le (by simp)) (by simp)) .nil) rfl ⟨_, rfl, hs.fr, ?_⟩
  rfl
set_option maxHeartbeats 4000000 in
theorem ref04_Block (r0 : R) (p : List UInt8) (vp : Value) (h64 : 64 ≤ p.length) (w : World) (hp : RdB w vp p) : Ctr Try.prog 156 [.agg (r0.list.map U).toArray, vp, .agg (K.map U).toArray] w (fun _ => False) (fun v _ => v = .agg ((comp r0 p).list.map U).toArray) := by
  obtain ⟨pb, po, pc, pT, pf, pall, rfl, hpc, hpm, hpb, hps⟩ := RdB.at_ hp (by omega)
  have hpl := hp.le
  refine fn_start (N := 213) Try.func156 rfl rfl rfl fun ac hk => ?_
  have hs := St.start hk w
  refine wp_seq ?_
  refine wp_reg ?_
  refine s_box hs rfl rfl rfl fun ac ww g3 hs => ?_
  refine s_box hs rfl rfl rfl fun ac ww g5 hs => ?_
  refine s_alloc hs ty205 rfl fun ac ww g6 hs => ?_
  refine s_end ?_
  replace hs := hs.sub (F' := [(1, _), (3, _), (5, _), (6, _)]) ⟨rfl, rfl, rfl, rfl, trivial⟩
  refine then_n ?_
  refine wp_seq ?_
  refine wp_reg ?_
  refine s_alloc hs ty207 rfl fun ac ww g7 hs => ?_
  refine s_end ?_
  refine then_n ?_
  refine wp_seq ?_
  refine wp_seq ?_
  refine wp_reg ?_
  refine s_q hs (c_assign (hs.ev rfl)) rfl fun ac hs => ?_
  refine s_end ?_
  refine then_n ?_
  refine wp_block ?_
  refine s_loop hs (X := Nat) (fun k => [(8, I k)]) [(1, _), (3, _), (5, _), (6, _), (7, _)] (fun k => [.seg g7 ((sched p k ++ List.replicate (64 - k) 0).map U) 207, .seg g6 ((List.replicate 8 (0 : UInt32)).map U) 205, .seg g5 (K.map U) 207, .seg g3 (r0.list.map U) 205]) (fun n k => k ≤ 64 ∧ n = 64 - k) (64) (0) (⟨by omega, rfl⟩) ⟨rfl, rfl, rfl, rfl, rfl, rfl, trivial⟩ (by rw [sched_zero]; rfl) ?_
  rintro n k ac ww hok hs
  simp only [List.cons_append, List.nil_append] at hs
  refine wp_seq ?_
  refine wp_seq ?_
  refine wp_reg ?_
  refine s_q hs (c_move (hs.ev rfl)) rfl fun ac hs => ?_
  refine s_q hs (c_lssI (hs.ev rfl) (hs.ev rfl)) rfl fun ac hs => ?_
  refine s_end ?_
  refine then_n ?_
  refine s_cond hs rfl (fun hc => ?_) (fun hc => ?_)
  · try simp only [decide_eq_true_eq, decide_eq_false_iff_not, Bool.not_eq_true', Bool.not_eq_false', Bool.and_eq_true, Bool.or_eq_true, Bool.or_eq_false_iff] at hc
    obtain ⟨hk, rfl⟩ := hok
    refine wp_skip ?_
    refine then_n ?_
    refine wp_seq ?_
    refine wp_block ?_
    refine wp_seq ?_
    refine wp_seq ?_
    refine wp_reg ?_
    refine s_q hs (c_move (hs.ev rfl)) rfl fun ac hs => ?_
    refine s_q hs (c_lssI (hs.ev rfl) (hs.ev rfl)) rfl fun ac hs => ?_
    refine s_end ?_
    refine then_n ?_
    refine s_cond hs rfl (fun hc => ?_) (fun hc => ?_)
    · try simp only [decide_eq_true_eq, decide_eq_false_iff_not, Bool.not_eq_true', Bool.not_eq_false', Bool.and_eq_true, Bool.or_eq_true, Bool.or_eq_false_iff] at hc
      refine wp_seq ?_
      refine wp_region_rg pmix 35 (by kernel_rfl) rfl hs ?_
      simp only [List.take_succ_cons, List.take_zero]
      refine rg_q (fun ac ww h => c_move (h.ev rfl)) rfl ?_
      refine rg_q (fun ac ww h => c_move (h.ev rfl)) rfl ?_
      refine rg_q (fun ac ww h => c_move (h.ev rfl)) rfl ?_
      refine rg_q (fun ac ww h => c_mulI (h.ev rfl) (h.ev rfl) (by omega) (by omega)) rfl ?_
      refine rg_q (fun ac ww h => c_idxS (j := 4 * k) un34 ty5 (h.ev rfl) (h.ev rfl) (by omega) (by omega)) rfl ?_
      refine rg_q (fun ac ww h => c_loadS un5 rfl (h.ev rfl) (h.blk (hs.old hpb id)) (seg_get 0 hps (by omega))) rfl ?_
      refine rg_q (fun ac ww h => c_cvBU un5 un27 (h.ev rfl)) rfl ?_
      refine rg_q (fun ac ww h => c_mulU (h.ev rfl) (RC.ev (v := U 16777216) h rfl)) rfl ?_
      refine rg_q (fun ac ww h => c_move (h.ev rfl)) rfl ?_
      refine rg_q (fun ac ww h => c_move (h.ev rfl)) rfl ?_
      refine rg_q (fun ac ww h => c_mulI (h.ev rfl) (h.ev rfl) (by omega) (by omega)) rfl ?_
      refine rg_q (fun ac ww h => c_addI (h.ev rfl) (h.ev rfl) (by omega) (by omega)) rfl ?_
      refine rg_q (fun ac ww h => c_idxS (j := 4 * k + 1) un34 ty5 (h.ev rfl) (h.ev rfl) (by omega) (by omega)) rfl ?_
      refine rg_q (fun ac ww h => c_loadS un5 rfl (h.ev rfl) (h.blk (hs.old hpb id)) (seg_get 0 hps (by omega))) rfl ?_
      refine rg_q (fun ac ww h => c_cvBU un5 un27 (h.ev rfl)) rfl ?_
      refine rg_q (fun ac ww h => c_mulU (h.ev rfl) (RC.ev (v := U 65536) h rfl)) rfl ?_
      refine rg_q (fun ac ww h => c_addU (h.ev rfl) (h.ev rfl)) rfl ?_
      refine rg_q (fun ac ww h => c_move (h.ev rfl)) rfl ?_
      refine rg_q (fun ac ww h => c_move (h.ev rfl)) rfl ?_
      refine rg_q (fun ac ww h => c_mulI (h.ev rfl) (h.ev rfl) (by omega) (by omega)) rfl ?_
      refine rg_q (fun ac ww h => c_addI (h.ev rfl) (h.ev rfl) (by omega) (by omega)) rfl ?_
      refine rg_q (fun ac ww h => c_idxS (j := 4 * k + 2) un34 ty5 (h.ev rfl) (h.ev rfl) (by omega) (by omega)) rfl ?_
      refine rg_q (fun ac ww h => c_loadS un5 rfl (h.ev rfl) (h.blk (hs.old hpb id)) (seg_get 0 hps (by omega))) rfl ?_
      refine rg_q (fun ac ww h => c_cvBU un5 un27 (h.ev rfl)) rfl ?_
      refine rg_q (fun ac ww h => c_mulU (h.ev rfl) (RC.ev (v := U 256) h rfl)) rfl ?_
      refine rg_q (fun ac ww h => c_addU (h.ev rfl) (h.ev rfl)) rfl ?_
      refine rg_q (fun ac ww h => c_move (h.ev rfl)) rfl ?_
      refine rg_q (fun ac ww h => c_move (h.ev rfl)) rfl ?_
      refine rg_q (fun ac ww h => c_mulI (h.ev rfl) (h.ev rfl) (by omega) (by omega)) rfl ?_
      refine rg_q (fun ac ww h => c_addI (h.ev rfl) (h.ev rfl) (by omega) (by omega)) rfl ?_
      refine rg_q (fun ac ww h => c_idxS (j := 4 * k + 3) un34 ty5 (h.ev rfl) (h.ev rfl) (by omega) (by omega)) rfl ?_
      refine rg_q (fun ac ww h => c_loadS un5 rfl (h.ev rfl) (h.blk (hs.old hpb id)) (seg_get 0 hps (by omega))) rfl ?_
      refine rg_q (fun ac ww h => c_cvBU un5 un27 (h.ev rfl)) rfl ?_
      refine rg_q (fun ac ww h => c_addU (h.ev rfl) (h.ev rfl)) rfl ?_
      refine rg_q (fun ac ww h => c_idxA (j := k) un207 ty27 (h.ev rfl) (h.ev rfl) (by omega) (by omega)) rfl ?_
      refine rg_nil fun ac ww L' hf hfe hs => ?_
      simp only [List.drop_succ_cons, List.drop_zero]
      obtain rfl : L' = [] := hfe
      replace hs := hs.toL (List.nil_append _)
      refine s_store (i := 0) hs ty27 rfl rfl rfl rfl rfl rfl (by rw [List.length_map, sched_len p k (by omega)]; omega) (map_set _ (by rw [sched_len p k (by omega)]; omega)) fun ww hs => ?_
      refine s_end ?_
      refine then_n ?_
      refine wp_exit ?_
      refine then_e ?_
      refine blk_hit ?_
      refine then_n ?_
      refine wp_reg ?_
      refine s_q hs (c_move (hs.ev rfl)) rfl fun ac hs => ?_
      refine s_q hs (c_addI (hs.ev rfl) (hs.ev rfl) (by omega) (by omega)) rfl fun ac hs => ?_
      refine s_q hs (c_assign (hs.ev rfl)) rfl fun ac hs => ?_
      refine s_end ?_
      refine then_n ?_
      exact ⟨64 - (k + 1), by omega, k + 1, ⟨by omega, rfl⟩, St.next hs ⟨rfl, rfl, rfl, rfl, rfl, rfl, trivial⟩ (by first | exact congrArg (fun z => [Ent.seg g7 (List.map U z) 207, _, _, _]) (sched_set p k (by omega) _ (lo_eq p k (by omega))) | exact congrArg (fun z => [Ent.seg g7 (List.map U z) 207, _, _, _]) (sched_set p k (by omega) _ (hi_eq p k (by omega))))⟩
    · try simp only [decide_eq_true_eq, decide_eq_false_iff_not, Bool.not_eq_true', Bool.not_eq_false', Bool.and_eq_true, Bool.or_eq_true, Bool.or_eq_false_iff] at hc
      refine wp_skip ?_
      refine then_n ?_
      refine wp_seq ?_
      refine wp_region_rg pmix 18 (by kernel_rfl) rfl hs ?_
      simp only [List.take_succ_cons, List.take_zero]
      refine rg_q (fun ac ww h => c_move (h.ev rfl)) rfl ?_
      refine rg_q (fun ac ww h => c_subI (h.ev rfl) (h.ev rfl) (by omega) (by omega)) rfl ?_
      refine rg_q (fun ac ww h => c_idxA (j := k - 15) un207 ty27 (h.ev rfl) (h.ev rfl) (by omega) (by omega)) rfl ?_
      refine rg_q (fun ac ww h => c_loadS un27 rfl (h.ev rfl) (h.blk (hs.seg (i := 0) rfl)) (sched_at p k (k - 15) _ (by omega))) rfl ?_
      refine rg_call fu181 (fun ac ww h => (.cons (h.ev rfl) (.cons (h.ev rfl) .nil))) (fun ww hf => ref04_rotr _ 7 (by omega) (by omega) _) rfl ?_
      refine rg_q (fun ac ww h => c_move (h.ev rfl)) rfl ?_
      refine rg_q (fun ac ww h => c_subI (h.ev rfl) (h.ev rfl) (by omega) (by omega)) rfl ?_
      refine rg_q (fun ac ww h => c_idxA (j := k - 15) un207 ty27 (h.ev rfl) (h.ev rfl) (by omega) (by omega)) rfl ?_
      refine rg_q (fun ac ww h => c_loadS un27 rfl (h.ev rfl) (h.blk (hs.seg (i := 0) rfl)) (sched_at p k (k - 15) _ (by omega))) rfl ?_
      refine rg_call fu181 (fun ac ww h => (.cons (h.ev rfl) (.cons (h.ev rfl) .nil))) (fun ww hf => ref04_rotr _ 18 (by omega) (by omega) _) rfl ?_
      refine rg_q (fun ac ww h => c_xorU (h.ev rfl) (h.ev rfl)) rfl ?_
      refine rg_q (fun ac ww h => c_move (h.ev rfl)) rfl ?_
      refine rg_q (fun ac ww h => c_subI (h.ev rfl) (h.ev rfl) (by omega) (by omega)) rfl ?_
      refine rg_q (fun ac ww h => c_idxA (j := k - 15) un207 ty27 (h.ev rfl) (h.ev rfl) (by omega) (by omega)) rfl ?_
      refine rg_q (fun ac ww h => c_loadS un27 rfl (h.ev rfl) (h.blk (hs.seg (i := 0) rfl)) (sched_at p k (k - 15) _ (by omega))) rfl ?_
      refine rg_q (fun ac ww h => c_shrU (h.ev rfl) (h.ev rfl) (by decide)) rfl ?_
      refine rg_q (fun ac ww h => c_xorU (h.ev rfl) (h.ev rfl)) rfl ?_
      refine rg_q (fun ac ww h => c_assign (h.ev rfl)) rfl ?_
      refine rg_nil fun ac ww L' hf hfe hs => ?_
      simp only [List.drop_succ_cons, List.drop_zero]
      obtain rfl : L' = [] := hfe
      replace hs := hs.toL (List.nil_append _)
      refine s_end ?_
      refine then_n ?_
      refine wp_seq ?_
      refine wp_region_rg pmix 18 (by kernel_rfl) rfl hs ?_
      simp only [List.take_succ_cons, List.take_zero]
      refine rg_q (fun ac ww h => c_move (h.ev rfl)) rfl ?_
      refine rg_q (fun ac ww h => c_subI (h.ev rfl) (h.ev rfl) (by omega) (by omega)) rfl ?_
      refine rg_q (fun ac ww h => c_idxA (j := k - 2) un207 ty27 (h.ev rfl) (h.ev rfl) (by omega) (by omega)) rfl ?_
      refine rg_q (fun ac ww h => c_loadS un27 rfl (h.ev rfl) (h.blk (hs.seg (i := 0) rfl)) (sched_at p k (k - 2) _ (by omega))) rfl ?_
      refine rg_call fu181 (fun ac ww h => (.cons (h.ev rfl) (.cons (h.ev rfl) .nil))) (fun ww hf => ref04_rotr _ 17 (by omega) (by omega) _) rfl ?_
      refine rg_q (fun ac ww h => c_move (h.ev rfl)) rfl ?_
      refine rg_q (fun ac ww h => c_subI (h.ev rfl) (h.ev rfl) (by omega) (by omega)) rfl ?_
      refine rg_q (fun ac ww h => c_idxA (j := k - 2) un207 ty27 (h.ev rfl) (h.ev rfl) (by omega) (by omega)) rfl ?_
      refine rg_q (fun ac ww h => c_loadS un27 rfl (h.ev rfl) (h.blk (hs.seg (i := 0) rfl)) (sched_at p k (k - 2) _ (by omega))) rfl ?_
      refine rg_call fu181 (fun ac ww h => (.cons (h.ev rfl) (.cons (h.ev rfl) .nil))) (fun ww hf => ref04_rotr _ 19 (by omega) (by omega) _) rfl ?_
      refine rg_q (fun ac ww h => c_xorU (h.ev rfl) (h.ev rfl)) rfl ?_
      refine rg_q (fun ac ww h => c_move (h.ev rfl)) rfl ?_
      refine rg_q (fun ac ww h => c_subI (h.ev rfl) (h.ev rfl) (by omega) (by omega)) rfl ?_
      refine rg_q (fun ac ww h => c_idxA (j := k - 2) un207 ty27 (h.ev rfl) (h.ev rfl) (by omega) (by omega)) rfl ?_
      refine rg_q (fun ac ww h => c_loadS un27 rfl (h.ev rfl) (h.blk (hs.seg (i := 0) rfl)) (sched_at p k (k - 2) _ (by omega))) rfl ?_
      refine rg_q (fun ac ww h => c_shrU (h.ev rfl) (h.ev rfl) (by decide)) rfl ?_
      refine rg_q (fun ac ww h => c_xorU (h.ev rfl) (h.ev rfl)) rfl ?_
      refine rg_q (fun ac ww h => c_assign (h.ev rfl)) rfl ?_
      refine rg_nil fun ac ww L' hf hfe hs => ?_
      simp only [List.drop_succ_cons, List.drop_zero]
      obtain rfl : L' = [] := hfe
      replace hs := hs.toL (List.nil_append _)
      refine s_end ?_
      refine then_n ?_
      refine wp_region_rg pmix 15 (by kernel_rfl) rfl hs ?_
      simp only [List.take_succ_cons, List.take_zero]
      refine rg_q (fun ac ww h => c_move (h.ev rfl)) rfl ?_
      refine rg_q (fun ac ww h => c_move (h.ev rfl)) rfl ?_
      refine rg_q (fun ac ww h => c_move (h.ev rfl)) rfl ?_
      refine rg_q (fun ac ww h => c_subI (h.ev rfl) (h.ev rfl) (by omega) (by omega)) rfl ?_
      refine rg_q (fun ac ww h => c_idxA (j := k - 7) un207 ty27 (h.ev rfl) (h.ev rfl) (by omega) (by omega)) rfl ?_
      refine rg_q (fun ac ww h => c_loadS un27 rfl (h.ev rfl) (h.blk (hs.seg (i := 0) rfl)) (sched_at p k (k - 7) _ (by omega))) rfl ?_
      refine rg_q (fun ac ww h => c_addU (h.ev rfl) (h.ev rfl)) rfl ?_
      refine rg_q (fun ac ww h => c_move (h.ev rfl)) rfl ?_
      refine rg_q (fun ac ww h => c_addU (h.ev rfl) (h.ev rfl)) rfl ?_
      refine rg_q (fun ac ww h => c_move (h.ev rfl)) rfl ?_
      refine rg_q (fun ac ww h => c_subI (h.ev rfl) (h.ev rfl) (by omega) (by omega)) rfl ?_
      refine rg_q (fun ac ww h => c_idxA (j := k - 16) un207 ty27 (h.ev rfl) (h.ev rfl) (by omega) (by omega)) rfl ?_
      refine rg_q (fun ac ww h => c_loadS un27 rfl (h.ev rfl) (h.blk (hs.seg (i := 0) rfl)) (sched_at p k (k - 16) _ (by omega))) rfl ?_
      refine rg_q (fun ac ww h => c_addU (h.ev rfl) (h.ev rfl)) rfl ?_
      refine rg_q (fun ac ww h => c_idxA (j := k) un207 ty27 (h.ev rfl) (h.ev rfl) (by omega) (by omega)) rfl ?_
      refine rg_nil fun ac ww L' hf hfe hs => ?_
      simp only [List.drop_succ_cons, List.drop_zero]
      obtain rfl : L' = [] := hfe
      replace hs := hs.toL (List.nil_append _)
      refine s_store (i := 0) hs ty27 rfl rfl rfl rfl rfl rfl (by rw [List.length_map, sched_len p k (by omega)]; omega) (map_set _ (by rw [sched_len p k (by omega)]; omega)) fun ww hs => ?_
      refine s_end ?_
      refine blk_n ?_
      refine then_n ?_
      refine wp_reg ?_
      refine s_q hs (c_move (hs.ev rfl)) rfl fun ac hs => ?_
      refine s_q hs (c_addI (hs.ev rfl) (hs.ev rfl) (by omega) (by omega)) rfl fun ac hs => ?_
      refine s_q hs (c_assign (hs.ev rfl)) rfl fun ac hs => ?_
      refine s_end ?_
      refine then_n ?_
      exact ⟨64 - (k + 1), by omega, k + 1, ⟨by omega, rfl⟩, St.next hs ⟨rfl, rfl, rfl, rfl, rfl, rfl, trivial⟩ (by first | exact congrArg (fun z => [Ent.seg g7 (List.map U z) 207, _, _, _]) (sched_set p k (by omega) _ (lo_eq p k (by omega))) | exact congrArg (fun z => [Ent.seg g7 (List.map U z) 207, _, _, _]) (sched_set p k (by omega) _ (hi_eq p k (by omega))))⟩
  · try simp only [decide_eq_true_eq, decide_eq_false_iff_not, Bool.not_eq_true', Bool.not_eq_false', Bool.and_eq_true, Bool.or_eq_true, Bool.or_eq_false_iff] at hc
    obtain ⟨hk, rfl⟩ := hok
    obtain rfl : k = 64 := by omega
    refine wp_exit ?_
    refine then_e ?_
    refine then_e ?_
    refine blk_hit ?_
    refine then_n ?_
    refine wp_seq ?_
    refine wp_reg ?_
    refine s_q hs (c_loadW ty205 rfl (hs.ev rfl) (hs.seg (i := 3) rfl) (by simp)) rfl fun ac hs => ?_
    refine s_alloc hs ty205 rfl fun ac ww g11 hs => ?_
    refine s_storeW (i := 0) hs ty205 rfl rfl rfl (by simp) (all_map_U _) (by simp) fun ww hs => ?_
    refine s_end ?_
    replace hs := hs.sub (F' := [(3, _), (5, _), (6, _), (7, _), (11, _)]) ⟨rfl, rfl, rfl, rfl, rfl, trivial⟩
    refine then_n ?_
    refine wp_seq ?_
    refine wp_seq ?_
    refine wp_reg ?_
    refine s_q hs (c_assign (hs.ev rfl)) rfl fun ac hs => ?_
    refine s_end ?_
    refine then_n ?_
    refine wp_block ?_
    refine s_loop hs (X := Nat) (fun k => [(12, I k)]) [(3, _), (5, _), (6, _), (7, _), (11, _)] (fun k => [.seg g11 ((rounds p r0 k).list.map U) 205, .seg g7 ((sched p 64 ++ List.replicate (64 - 64) 0).map U) 207, .seg g6 ((List.replicate 8 (0 : UInt32)).map U) 205, .seg g5 (K.map U) 207, .seg g3 (r0.list.map U) 205]) (fun n k => k ≤ 64 ∧ n = 64 - k) (64) (0) (⟨by omega, rfl⟩) ⟨rfl, rfl, rfl, rfl, rfl, rfl, trivial⟩ rfl ?_
    rintro n k ac ww hok hs
    simp only [List.cons_append, List.nil_append] at hs
    refine wp_seq ?_
    refine wp_seq ?_
    refine wp_reg ?_
    refine s_q hs (c_move (hs.ev rfl)) rfl fun ac hs => ?_
    refine s_q hs (c_lssI (hs.ev rfl) (hs.ev rfl)) rfl fun ac hs => ?_
    refine s_end ?_
    refine then_n ?_
    refine s_cond hs rfl (fun hc => ?_) (fun hc => ?_)
    · try simp only [decide_eq_true_eq, decide_eq_false_iff_not, Bool.not_eq_true', Bool.not_eq_false', Bool.and_eq_true, Bool.or_eq_true, Bool.or_eq_false_iff] at hc
      obtain ⟨hk, rfl⟩ := hok
      refine wp_skip ?_
      refine then_n ?_
      refine wp_seq ?_
      refine wp_block ?_
      refine wp_seq ?_
      refine wp_reg ?_
      refine s_q hs (c_idxA un205 ty27 (hs.ev rfl) (hs.ev rfl) rfl (by decide)) rfl fun ac hs => ?_
      refine s_q hs (c_loadS un27 rfl (hs.ev rfl) (hs.seg (i := 0) rfl) rfl) rfl fun ac hs => ?_
      refine s_q hs (c_idxA un205 ty27 (hs.ev rfl) (hs.ev rfl) rfl (by decide)) rfl fun ac hs => ?_
      refine s_q hs (c_loadS un27 rfl (hs.ev rfl) (hs.seg (i := 0) rfl) rfl) rfl fun ac hs => ?_
      refine s_q hs (c_andU (hs.ev rfl) (hs.ev rfl)) rfl fun ac hs => ?_
      refine s_q hs (c_idxA un205 ty27 (hs.ev rfl) (hs.ev rfl) rfl (by decide)) rfl fun ac hs => ?_
      refine s_q hs (c_loadS un27 rfl (hs.ev rfl) (hs.seg (i := 0) rfl) rfl) rfl fun ac hs => ?_
      refine s_q hs (c_notU (hs.ev rfl)) rfl fun ac hs => ?_
      refine s_q hs (c_idxA un205 ty27 (hs.ev rfl) (hs.ev rfl) rfl (by decide)) rfl fun ac hs => ?_
      refine s_q hs (c_loadS un27 rfl (hs.ev rfl) (hs.seg (i := 0) rfl) rfl) rfl fun ac hs => ?_
      refine s_q hs (c_andU (hs.ev rfl) (hs.ev rfl)) rfl fun ac hs => ?_
      refine s_q hs (c_xorU (hs.ev rfl) (hs.ev rfl)) rfl fun ac hs => ?_
      refine s_q hs (c_assign (hs.ev rfl)) rfl fun ac hs => ?_
      refine s_end ?_
      refine then_n ?_
      refine wp_seq ?_
      refine wp_reg ?_
      refine s_q hs (c_idxA un205 ty27 (hs.ev rfl) (hs.ev rfl) rfl (by decide)) rfl fun ac hs => ?_
      refine s_q hs (c_loadS un27 rfl (hs.ev rfl) (hs.seg (i := 0) rfl) rfl) rfl fun ac hs => ?_
      refine s_q hs (c_idxA un205 ty27 (hs.ev rfl) (hs.ev rfl) rfl (by decide)) rfl fun ac hs => ?_
      refine s_q hs (c_loadS un27 rfl (hs.ev rfl) (hs.seg (i := 0) rfl) rfl) rfl fun ac hs => ?_
      refine s_q hs (c_andU (hs.ev rfl) (hs.ev rfl)) rfl fun ac hs => ?_
      refine s_q hs (c_idxA un205 ty27 (hs.ev rfl) (hs.ev rfl) rfl (by decide)) rfl fun ac hs => ?_
      refine s_q hs (c_loadS un27 rfl (hs.ev rfl) (hs.seg (i := 0) rfl) rfl) rfl fun ac hs => ?_
      refine s_q hs (c_idxA un205 ty27 (hs.ev rfl) (hs.ev rfl) rfl (by decide)) rfl fun ac hs => ?_
      refine s_q hs (c_loadS un27 rfl (hs.ev rfl) (hs.seg (i := 0) rfl) rfl) rfl fun ac hs => ?_
      refine s_q hs (c_andU (hs.ev rfl) (hs.ev rfl)) rfl fun ac hs => ?_
      refine s_q hs (c_xorU (hs.ev rfl) (hs.ev rfl)) rfl fun ac hs => ?_
      refine s_q hs (c_idxA un205 ty27 (hs.ev rfl) (hs.ev rfl) rfl (by decide)) rfl fun ac hs => ?_
      refine s_q hs (c_loadS un27 rfl (hs.ev rfl) (hs.seg (i := 0) rfl) rfl) rfl fun ac hs => ?_
      refine s_q hs (c_idxA un205 ty27 (hs.ev rfl) (hs.ev rfl) rfl (by decide)) rfl fun ac hs => ?_
      refine s_q hs (c_loadS un27 rfl (hs.ev rfl) (hs.seg (i := 0) rfl) rfl) rfl fun ac hs => ?_
      refine s_q hs (c_andU (hs.ev rfl) (hs.ev rfl)) rfl fun ac hs => ?_
      refine s_q hs (c_xorU (hs.ev rfl) (hs.ev rfl)) rfl fun ac hs => ?_
      refine s_q hs (c_assign (hs.ev rfl)) rfl fun ac hs => ?_
      refine s_end ?_
      refine then_n ?_
      refine wp_seq ?_
      refine wp_region_rg pmix 25 (by kernel_rfl) rfl hs ?_
      simp only [List.take_succ_cons, List.take_zero]
      refine rg_q (fun ac ww h => c_idxA un205 ty27 (h.ev rfl) (h.ev rfl) rfl (by decide)) rfl ?_
      refine rg_q (fun ac ww h => c_loadS un27 rfl (h.ev rfl) (h.blk (hs.seg (i := 0) rfl)) rfl) rfl ?_
      refine rg_q (fun ac ww h => c_idxA un205 ty27 (h.ev rfl) (h.ev rfl) rfl (by decide)) rfl ?_
      refine rg_q (fun ac ww h => c_loadS un27 rfl (h.ev rfl) (h.blk (hs.seg (i := 0) rfl)) rfl) rfl ?_
      refine rg_call fu181 (fun ac ww h => (.cons (h.ev rfl) (.cons (h.ev rfl) .nil))) (fun ww hf => ref04_rotr _ 6 (by omega) (by omega) _) rfl ?_
      refine rg_q (fun ac ww h => c_idxA un205 ty27 (h.ev rfl) (h.ev rfl) rfl (by decide)) rfl ?_
      refine rg_q (fun ac ww h => c_loadS un27 rfl (h.ev rfl) (h.blk (hs.seg (i := 0) rfl)) rfl) rfl ?_
      refine rg_call fu181 (fun ac ww h => (.cons (h.ev rfl) (.cons (h.ev rfl) .nil))) (fun ww hf => ref04_rotr _ 11 (by omega) (by omega) _) rfl ?_
      refine rg_q (fun ac ww h => c_xorU (h.ev rfl) (h.ev rfl)) rfl ?_
      refine rg_q (fun ac ww h => c_idxA un205 ty27 (h.ev rfl) (h.ev rfl) rfl (by decide)) rfl ?_
      refine rg_q (fun ac ww h => c_loadS un27 rfl (h.ev rfl) (h.blk (hs.seg (i := 0) rfl)) rfl) rfl ?_
      refine rg_call fu181 (fun ac ww h => (.cons (h.ev rfl) (.cons (h.ev rfl) .nil))) (fun ww hf => ref04_rotr _ 25 (by omega) (by omega) _) rfl ?_
      refine rg_q (fun ac ww h => c_xorU (h.ev rfl) (h.ev rfl)) rfl ?_
      refine rg_q (fun ac ww h => c_addU (h.ev rfl) (h.ev rfl)) rfl ?_
      refine rg_q (fun ac ww h => c_move (h.ev rfl)) rfl ?_
      refine rg_q (fun ac ww h => c_addU (h.ev rfl) (h.ev rfl)) rfl ?_
      refine rg_q (fun ac ww h => c_move (h.ev rfl)) rfl ?_
      refine rg_q (fun ac ww h => c_idxA (j := k) un207 ty27 (h.ev rfl) (h.ev rfl) (by omega) (by omega)) rfl ?_
      refine rg_q (fun ac ww h => c_loadS un27 rfl (h.ev rfl) (h.blk (hs.seg (i := 3) rfl)) (map_get 0 (by simp; omega))) rfl ?_
      refine rg_q (fun ac ww h => c_addU (h.ev rfl) (h.ev rfl)) rfl ?_
      refine rg_q (fun ac ww h => c_move (h.ev rfl)) rfl ?_
      refine rg_q (fun ac ww h => c_idxA (j := k) un207 ty27 (h.ev rfl) (h.ev rfl) (by omega) (by omega)) rfl ?_
      refine rg_q (fun ac ww h => c_loadS un27 rfl (h.ev rfl) (h.blk (hs.seg (i := 1) rfl)) (sched_at p 64 k _ (by omega))) rfl ?_
      refine rg_q (fun ac ww h => c_addU (h.ev rfl) (h.ev rfl)) rfl ?_
      refine rg_q (fun ac ww h => c_assign (h.ev rfl)) rfl ?_
      refine rg_nil fun ac ww L' hf hfe hs => ?_
      simp only [List.drop_succ_cons, List.drop_zero]
      obtain rfl : L' = [] := hfe
      replace hs := hs.toL (List.nil_append _)
      refine s_end ?_
      refine then_n ?_
      refine wp_seq ?_
      refine wp_region_rg pmix 14 (by kernel_rfl) rfl hs ?_
      simp only [List.take_succ_cons, List.take_zero]
      refine rg_q (fun ac ww h => c_idxA un205 ty27 (h.ev rfl) (h.ev rfl) rfl (by decide)) rfl ?_
      refine rg_q (fun ac ww h => c_loadS un27 rfl (h.ev rfl) (h.blk (hs.seg (i := 0) rfl)) rfl) rfl ?_
      refine rg_call fu181 (fun ac ww h => (.cons (h.ev rfl) (.cons (h.ev rfl) .nil))) (fun ww hf => ref04_rotr _ 2 (by omega) (by omega) _) rfl ?_
      refine rg_q (fun ac ww h => c_idxA un205 ty27 (h.ev rfl) (h.ev rfl) rfl (by decide)) rfl ?_
      refine rg_q (fun ac ww h => c_loadS un27 rfl (h.ev rfl) (h.blk (hs.seg (i := 0) rfl)) rfl) rfl ?_
      refine rg_call fu181 (fun ac ww h => (.cons (h.ev rfl) (.cons (h.ev rfl) .nil))) (fun ww hf => ref04_rotr _ 13 (by omega) (by omega) _) rfl ?_
      refine rg_q (fun ac ww h => c_xorU (h.ev rfl) (h.ev rfl)) rfl ?_
      refine rg_q (fun ac ww h => c_idxA un205 ty27 (h.ev rfl) (h.ev rfl) rfl (by decide)) rfl ?_
      refine rg_q (fun ac ww h => c_loadS un27 rfl (h.ev rfl) (h.blk (hs.seg (i := 0) rfl)) rfl) rfl ?_
      refine rg_call fu181 (fun ac ww h => (.cons (h.ev rfl) (.cons (h.ev rfl) .nil))) (fun ww hf => ref04_rotr _ 22 (by omega) (by omega) _) rfl ?_
      refine rg_q (fun ac ww h => c_xorU (h.ev rfl) (h.ev rfl)) rfl ?_
      refine rg_q (fun ac ww h => c_move (h.ev rfl)) rfl ?_
      refine rg_q (fun ac ww h => c_addU (h.ev rfl) (h.ev rfl)) rfl ?_
      refine rg_q (fun ac ww h => c_assign (h.ev rfl)) rfl ?_
      refine rg_nil fun ac ww L' hf hfe hs => ?_
      simp only [List.drop_succ_cons, List.drop_zero]
      obtain rfl : L' = [] := hfe
      replace hs := hs.toL (List.nil_append _)
      refine s_end ?_
      refine then_n ?_
      refine wp_reg ?_
      refine s_q hs (c_move (hs.ev rfl)) rfl fun ac hs => ?_
      refine s_q hs (c_move (hs.ev rfl)) rfl fun ac hs => ?_
      refine s_q hs (c_addU (hs.ev rfl) (hs.ev rfl)) rfl fun ac hs => ?_
      refine s_q hs (c_idxA un205 ty27 (hs.ev rfl) (hs.ev rfl) rfl (by decide)) rfl fun ac hs => ?_
      refine s_q hs (c_loadS un27 rfl (hs.ev rfl) (hs.seg (i := 0) rfl) rfl) rfl fun ac hs => ?_
      refine s_q hs (c_idxA un205 ty27 (hs.ev rfl) (hs.ev rfl) rfl (by decide)) rfl fun ac hs => ?_
      refine s_q hs (c_loadS un27 rfl (hs.ev rfl) (hs.seg (i := 0) rfl) rfl) rfl fun ac hs => ?_
      refine s_q hs (c_idxA un205 ty27 (hs.ev rfl) (hs.ev rfl) rfl (by decide)) rfl fun ac hs => ?_
      refine s_q hs (c_loadS un27 rfl (hs.ev rfl) (hs.seg (i := 0) rfl) rfl) rfl fun ac hs => ?_
      refine s_q hs (c_idxA un205 ty27 (hs.ev rfl) (hs.ev rfl) rfl (by decide)) rfl fun ac hs => ?_
      refine s_q hs (c_loadS un27 rfl (hs.ev rfl) (hs.seg (i := 0) rfl) rfl) rfl fun ac hs => ?_
      refine s_q hs (c_move (hs.ev rfl)) rfl fun ac hs => ?_
      refine s_q hs (c_addU (hs.ev rfl) (hs.ev rfl)) rfl fun ac hs => ?_
      refine s_q hs (c_idxA un205 ty27 (hs.ev rfl) (hs.ev rfl) rfl (by decide)) rfl fun ac hs => ?_
      refine s_q hs (c_loadS un27 rfl (hs.ev rfl) (hs.seg (i := 0) rfl) rfl) rfl fun ac hs => ?_
      refine s_q hs (c_idxA un205 ty27 (hs.ev rfl) (hs.ev rfl) rfl (by decide)) rfl fun ac hs => ?_
      refine s_q hs (c_loadS un27 rfl (hs.ev rfl) (hs.seg (i := 0) rfl) rfl) rfl fun ac hs => ?_
      refine s_q hs (c_idxA un205 ty27 (hs.ev rfl) (hs.ev rfl) rfl (by decide)) rfl fun ac hs => ?_
      refine s_q hs (c_loadS un27 rfl (hs.ev rfl) (hs.seg (i := 0) rfl) rfl) rfl fun ac hs => ?_
      refine s_q hs (c_buildA (zc := (rounds p r0 (k + 1)).list.map U) ty205 un205 ty27 (.cons (hs.ev rfl) (.cons (hs.ev rfl) (.cons (hs.ev rfl) (.cons (hs.ev rfl) (.cons (hs.ev rfl) (.cons (hs.ev rfl) (.cons (hs.ev rfl) (.cons (hs.ev rfl) .nil)))))))) (by simp [Value.cells]) (by simp [flatCells, Value.cells]) rfl) rfl fun ac hs => ?_
      refine s_storeW (i := 0) hs ty205 rfl rfl rfl (by simp) (all_map_U _) (by simp) fun ww hs => ?_
      refine s_end ?_
      refine blk_n ?_
      refine then_n ?_
      refine wp_reg ?_
      refine s_q hs (c_move (hs.ev rfl)) rfl fun ac hs => ?_
      refine s_q hs (c_addI (hs.ev rfl) (hs.ev rfl) (by omega) (by omega)) rfl fun ac hs => ?_
      refine s_q hs (c_assign (hs.ev rfl)) rfl fun ac hs => ?_
      refine s_end ?_
      refine then_n ?_
      exact ⟨64 - (k + 1), by omega, k + 1, ⟨by omega, rfl⟩, St.next hs ⟨rfl, rfl, rfl, rfl, rfl, rfl, trivial⟩ rfl⟩
    · try simp only [decide_eq_true_eq, decide_eq_false_iff_not, Bool.not_eq_true', Bool.not_eq_false', Bool.and_eq_true, Bool.or_eq_true, Bool.or_eq_false_iff] at hc
      obtain ⟨hk, rfl⟩ := hok
      obtain rfl : k = 64 := by omega
      refine wp_exit ?_
      refine then_e ?_
      refine then_e ?_
      refine blk_hit ?_
      refine then_n ?_
      refine wp_seq ?_
      refine wp_seq ?_
      refine wp_reg ?_
      refine s_q hs (c_assign (hs.ev rfl)) rfl fun ac hs => ?_
      refine s_end ?_
      replace hs := hs.sub (F' := [(3, _), (6, _), (11, _), (17, _)]) ⟨rfl, rfl, rfl, rfl, trivial⟩
      refine then_n ?_
      refine wp_block ?_
      refine s_loop hs (X := Nat) (fun k => [(17, I k)]) [(3, _), (6, _), (11, _)] (fun k => [.seg g11 ((rounds p r0 64).list.map U) 205, .seg g7 ((sched p 64 ++ List.replicate (64 - 64) 0).map U) 207, .seg g6 ((List.replicate 8 (0 : UInt32)).map U) 205, .seg g5 (K.map U) 207, .seg g3 (((r0.add (rounds p r0 64)).list.take k ++ r0.list.drop k).map U) 205]) (fun n k => k ≤ 8 ∧ n = 8 - k) (8) (0) (⟨by omega, rfl⟩) ⟨rfl, rfl, rfl, rfl, trivial⟩ rfl ?_
      rintro n k ac ww hok hs
      simp only [List.cons_append, List.nil_append] at hs
      refine wp_seq ?_
      refine wp_seq ?_
      refine wp_reg ?_
      refine s_q hs (c_move (hs.ev rfl)) rfl fun ac hs => ?_
      refine s_q hs (c_lssI (hs.ev rfl) (hs.ev rfl)) rfl fun ac hs => ?_
      refine s_end ?_
      refine then_n ?_
      refine s_cond hs rfl (fun hc => ?_) (fun hc => ?_)
      · try simp only [decide_eq_true_eq, decide_eq_false_iff_not, Bool.not_eq_true', Bool.not_eq_false', Bool.and_eq_true, Bool.or_eq_true, Bool.or_eq_false_iff] at hc
        obtain ⟨hk, rfl⟩ := hok
        have hzl := add_len r0 (rounds p r0 64) k hk
        refine wp_skip ?_
        refine then_n ?_
        refine wp_seq ?_
        refine wp_block ?_
        refine wp_region_rg pmix 9 (by kernel_rfl) rfl hs ?_
        simp only [List.take_succ_cons, List.take_zero]
        refine rg_q (fun ac ww h => c_move (h.ev rfl)) rfl ?_
        refine rg_q (fun ac ww h => c_move (h.ev rfl)) rfl ?_
        refine rg_q (fun ac ww h => c_idxA (j := k) un205 ty27 (h.ev rfl) (h.ev rfl) (by omega) (by omega)) rfl ?_
        refine rg_q (fun ac ww h => c_loadS un27 rfl (h.ev rfl) (h.blk (hs.seg (i := 4) rfl)) (add_get r0 _ k (by omega))) rfl ?_
        refine rg_q (fun ac ww h => c_move (h.ev rfl)) rfl ?_
        refine rg_q (fun ac ww h => c_idxA (j := k) un205 ty27 (h.ev rfl) (h.ev rfl) (by omega) (by omega)) rfl ?_
        refine rg_q (fun ac ww h => c_loadS un27 rfl (h.ev rfl) (h.blk (hs.seg (i := 0) rfl)) (map_get 0 (by simp; omega))) rfl ?_
        refine rg_q (fun ac ww h => c_addU (h.ev rfl) (h.ev rfl)) rfl ?_
        refine rg_q (fun ac ww h => c_idxA (j := k) un205 ty27 (h.ev rfl) (h.ev rfl) (by omega) (by omega)) rfl ?_
        refine rg_nil fun ac ww L' hf hfe hs => ?_
        simp only [List.drop_succ_cons, List.drop_zero]
        obtain rfl : L' = [] := hfe
        replace hs := hs.toL (List.nil_append _)
        refine s_store (i := 4) hs ty27 rfl rfl rfl rfl rfl rfl (by rw [List.length_map]; omega) (map_set _ (by omega)) fun ww hs => ?_
        refine s_end ?_
        refine blk_n ?_
        refine then_n ?_
        refine wp_reg ?_
        refine s_q hs (c_move (hs.ev rfl)) rfl fun ac hs => ?_
        refine s_q hs (c_addI (hs.ev rfl) (hs.ev rfl) (by omega) (by omega)) rfl fun ac hs => ?_
        refine s_q hs (c_assign (hs.ev rfl)) rfl fun ac hs => ?_
        refine s_end ?_
        refine then_n ?_
        exact ⟨8 - (k + 1), by omega, k + 1, ⟨by omega, rfl⟩, St.next hs ⟨rfl, rfl, rfl, rfl, trivial⟩ (congrArg (fun z => [_, _, _, _, Ent.seg g3 (List.map U z) 205]) (add_set r0 (rounds p r0 64) k (by omega)))⟩
      · try simp only [decide_eq_true_eq, decide_eq_false_iff_not, Bool.not_eq_true', Bool.not_eq_false', Bool.and_eq_true, Bool.or_eq_true, Bool.or_eq_false_iff] at hc
        obtain ⟨hk, rfl⟩ := hok
        obtain rfl : k = 8 := by omega
        refine wp_exit ?_
        refine then_e ?_
        refine then_e ?_
        refine blk_hit ?_
        refine then_n ?_
        refine wp_seq ?_
        refine wp_reg ?_
        refine s_q hs (c_loadW ty205 rfl (hs.ev rfl) (hs.seg (i := 4) rfl) (by simp)) rfl fun ac hs => ?_
        refine s_storeW (i := 2) hs ty205 rfl rfl rfl (by simp) (all_map_U _) (by simp) fun ww hs => ?_
        refine s_end ?_
        replace hs := hs.sub (F' := [(6, _)]) ⟨rfl, trivial⟩
        refine then_n ?_
        refine wp_ret ?_
        refine s_ret hs rfl (.cell (hs.tmp rfl) (run_loadA ty205 rfl (hs.seg (i := 2) rfl) (List.take_of_length_le (by simp)) (by simp)) .nil) rfl ⟨_, rfl, hs.fr, ?_⟩
        rfl
end Go.Proofs.Ytmgnnclkjkbmdaa
end

section
/- Bytes from behind; digits as the document has them. -/
set_option linter.unusedSimpArgs false
set_option linter.unusedVariables false
set_option maxRecDepth 100000
namespace Go.Proofs.Ytmgnnclkjkbmdaa
namespace Sha
def qd (x : UInt64) : Nat → UInt64
  | 0 => x
  | k + 1 => qd x k / 256
def qd32 (x : UInt32) : Nat → UInt32
  | 0 => x
  | k + 1 => qd32 x k / 256
theorem qd_byte (x : UInt64) : ∀ k, k < 8 → (qd x k % 256).toUInt8 = (be64 x).getD (7 - k) 0 := by
  have h256 : (256 : UInt64).toNat = 256 := rfl
  have hx := x.toNat_lt
  have key : ∀ k, (qd x k).toNat = x.toNat / 256 ^ k := by
    intro k
    induction k with
    | zero => simp [qd]
    | succ k ih => rw [qd, UInt64.toNat_div, ih, h256, Nat.div_div_eq_div_mul, Nat.pow_succ]
  intro k hk
  apply UInt8.toNat_inj.1
  rw [UInt64.toNat_toUInt8, UInt64.toNat_mod, key, h256]
  rcases k with _ | _ | _ | _ | _ | _ | _ | _ | k
  · simp [be64, List.getD]
  · simp [be64, List.getD, UInt64.toNat_shiftRight, Nat.shiftRight_eq_div_pow]
  · simp [be64, List.getD, UInt64.toNat_shiftRight, Nat.shiftRight_eq_div_pow]
  · simp [be64, List.getD, UInt64.toNat_shiftRight, Nat.shiftRight_eq_div_pow]
  · simp [be64, List.getD, UInt64.toNat_shiftRight, Nat.shiftRight_eq_div_pow]
  · simp [be64, List.getD, UInt64.toNat_shiftRight, Nat.shiftRight_eq_div_pow]
  · simp [be64, List.getD, UInt64.toNat_shiftRight, Nat.shiftRight_eq_div_pow]
  · simp [be64, List.getD, UInt64.toNat_shiftRight, Nat.shiftRight_eq_div_pow]
  · omega
theorem qd32_byte (x : UInt32) : ∀ k, k < 4 → (qd32 x k % 256).toUInt8 = (be32 x).getD (3 - k) 0 := by
  have h256 : (256 : UInt32).toNat = 256 := rfl
  have hx := x.toNat_lt
  have key : ∀ k, (qd32 x k).toNat = x.toNat / 256 ^ k := by
    intro k
    induction k with
    | zero => simp [qd32]
    | succ k ih => rw [qd32, UInt32.toNat_div, ih, h256, Nat.div_div_eq_div_mul, Nat.pow_succ]
  intro k hk
  apply UInt8.toNat_inj.1
  rw [UInt32.toNat_toUInt8, UInt32.toNat_mod, key, h256]
  rcases k with _ | _ | _ | _ | k
  · simp [be32, List.getD]
  · simp [be32, List.getD, UInt32.toNat_shiftRight, Nat.shiftRight_eq_div_pow]
  · simp [be32, List.getD, UInt32.toNat_shiftRight, Nat.shiftRight_eq_div_pow]
  · simp [be32, List.getD, UInt32.toNat_shiftRight, Nat.shiftRight_eq_div_pow]
  · omega
/-- Bytes from behind. -/
def lo64 (x : UInt64) (k : Nat) : List UInt8 := List.replicate (8 - k) 0 ++ (be64 x).drop (8 - k)
theorem lo64_set (x : UInt64) : ∀ k, k < 8 → (lo64 x k).set (7 - k) ((be64 x).getD (7 - k) 0) = lo64 x (k + 1)
  | 0, _ => rfl | 1, _ => rfl | 2, _ => rfl | 3, _ => rfl | 4, _ => rfl | 5, _ => rfl | 6, _ => rfl | 7, _ => rfl
  | k + 8, h => absurd h (by omega)
theorem lo64_len (x : UInt64) (k : Nat) (h : k ≤ 8) : (lo64 x k).length = 8 := by simp [lo64]
def lo32 (x : UInt32) (k : Nat) : List UInt8 := List.replicate (4 - k) 0 ++ (be32 x).drop (4 - k)
theorem lo32_set (x : UInt32) : ∀ k, k < 4 → (lo32 x k).set (3 - k) ((be32 x).getD (3 - k) 0) = lo32 x (k + 1)
  | 0, _ => rfl | 1, _ => rfl | 2, _ => rfl | 3, _ => rfl
  | k + 4, h => absurd h (by omega)
theorem lo32_len (x : UInt32) (k : Nat) (h : k ≤ 4) : (lo32 x k).length = 4 := by simp [lo32]
end Sha
end Go.Proofs.Ytmgnnclkjkbmdaa
end

section
/- Padding, counts and digits as the document has them. -/
set_option linter.unusedSimpArgs false
set_option linter.unusedVariables false
set_option maxRecDepth 100000
namespace Go.Proofs.Ytmgnnclkjkbmdaa
open Go Go.Fw
open Sha
theorem i64_nat (n : Nat) (h : n < 18446744073709551616) : i64 (n : Int) = UInt64.ofNat n := by
  apply UInt64.toNat_inj.1
  have h1 := i64_toNat (n : Int)
  rw [UInt64.toNat_ofNat']
  omega
set_option maxHeartbeats 4000000 in
theorem ref04_Pad (p : List UInt8) (pv : Value) (hle : p.length ≤ 140737488355200) (w : World) (hq : RdB w pv p) : Ctr Try.prog 46 [pv] w (fun _ => False) (fun v w' => ∃ v', v = v' ∧ Has w.heap.size w' [.row v' (pad p).length ((pad p).map B) 5 1]) := by
  obtain ⟨pad_, pcap, rfl, hpc, hpm⟩ := Rd.sl hq
  refine fn_start (N := 38) Try.func46 rfl rfl rfl fun ac hk => ?_
  have hs := St.start hk w
  refine wp_seq ?_
  refine wp_reg ?_
  refine s_q hs (c_assign (hs.ev rfl)) rfl fun ac hs => ?_
  refine s_end ?_
  refine then_n ?_
  refine wp_seq ?_
  refine wp_reg ?_
  refine s_bslice hs un34 ty5 .nil rfl (by simp [Value.cells]) (by decide) rfl rfl fun ac ww g7 hs => ?_
  refine s_q hs (c_move (hs.ev rfl)) rfl fun ac hs => ?_
  replace hs := hs.segrow (i := 0) (n := 0) (sz := 1) rfl rfl (by decide)
  refine s_appB (i := 0) (l := []) hs un34 ty5 rfl rfl rfl (hq.fr0 hs.fr) (by simp; omega) rfl fun ac ww v9 hf hnil hs => ?_
  refine s_q hs (c_assign (hs.ev rfl)) rfl fun ac hs => ?_
  refine s_end ?_
  replace hs := hs.sub (F' := [(0, _), (2, _), (3, _)]) ⟨rfl, rfl, rfl, trivial⟩
  refine then_n ?_
  refine wp_seq ?_
  refine wp_reg ?_
  refine s_q hs (c_move (hs.ev rfl)) rfl fun ac hs => ?_
  refine s_bslice hs un34 ty5 (.cons (hs.ev rfl) .nil) rfl (by simp [Value.cells]) (by decide) rfl rfl fun ac ww g11 hs => ?_
  refine s_appB (i := 1) hs un34 ty5 rfl rfl rfl (RdB.seg (l := [0x80]) (hs.seg (i := 0) rfl) (by decide)) (by simp; omega) rfl fun ac ww v12 hf hnil hs => ?_
  refine s_q hs (c_assign (hs.ev rfl)) rfl fun ac hs => ?_
  refine s_end ?_
  replace hs := hs.pick (L' := [_]) (.cons _ (.refl _))
  replace hs := hs.sub (F' := [(0, _), (2, _), (3, _)]) ⟨rfl, rfl, rfl, trivial⟩
  refine then_n ?_
  refine wp_seq ?_
  refine wp_block ?_
  refine s_loop hs (X := Nat × Value) (fun x => [(3, x.2)]) [(0, _), (2, _)] (fun x => [.row x.2 ((p ++ [0x80]) ++ List.replicate x.1 0).length (((p ++ [0x80]) ++ List.replicate x.1 0).map B) 5 1]) (fun n x => x.1 ≤ zc p.length ∧ n = zc p.length - x.1) (_) ((0, _)) (⟨Nat.zero_le _, rfl⟩) ⟨rfl, rfl, rfl, trivial⟩ (by simp only [List.replicate_zero, List.append_nil]; try rfl) ?_
  rintro n ⟨j, v⟩ ac ww hok hs
  simp only [List.cons_append, List.nil_append] at hs
  obtain ⟨hj, rfl⟩ := hok
  simp only at hj hs
  obtain ⟨ad, cap, rfl, _, _⟩ := Rd.sl (RdB.row (hs.get (i := 0) rfl))
  have hll : ((p ++ [0x80]) ++ List.replicate j (0 : UInt8)).length = p.length + 1 + j := by simp; omega
  simp only [zc] at hj
  refine wp_seq ?_
  refine wp_seq ?_
  refine wp_reg ?_
  refine s_q hs (c_move (hs.ev rfl)) rfl fun ac hs => ?_
  refine s_q hs (c_lenS un34 (hs.ev rfl)) rfl fun ac hs => ?_
  refine s_q hs (c_remI (hs.ev rfl) (hs.ev rfl) (by omega) (by omega)) rfl fun ac hs => ?_
  refine s_q hs (c_neqI (hs.ev rfl) (hs.ev rfl)) rfl fun ac hs => ?_
  refine s_end ?_
  refine then_n ?_
  refine s_cond hs rfl (fun hc => ?_) (fun hc => ?_)
  · try simp only [decide_eq_true_eq, decide_eq_false_iff_not, Bool.not_eq_true', Bool.not_eq_false', Bool.and_eq_true, Bool.or_eq_true, Bool.or_eq_false_iff] at hc
    refine wp_skip ?_
    refine then_n ?_
    refine wp_block ?_
    refine wp_reg ?_
    refine s_q hs (c_move (hs.ev rfl)) rfl fun ac hs => ?_
    refine s_bslice hs un34 ty5 (.cons (hs.ev rfl) .nil) rfl (by simp [Value.cells]) (by decide) rfl rfl fun ac ww g18 hs => ?_
    refine s_appB (i := 1) hs un34 ty5 rfl rfl rfl (RdB.seg (l := [0]) (hs.seg (i := 0) rfl) (by decide)) (by rw [hll]; simp; omega) rfl fun ac ww v19 hf hnil hs => ?_
    refine s_q hs (c_assign (hs.ev rfl)) rfl fun ac hs => ?_
    refine s_end ?_
    refine blk_n ?_
    refine then_n ?_
    replace hs := hs.pick (L' := [_]) (.cons _ (.refl _))
    exact ⟨zc p.length - (j + 1), by rw [hll] at hc; simp only [zc]; omega, (j + 1, _), ⟨by rw [hll] at hc; simp only [zc]; omega, rfl⟩, St.next hs ⟨rfl, rfl, rfl, trivial⟩ (by simp [List.replicate_succ', ← List.append_assoc])⟩
  · try simp only [decide_eq_true_eq, decide_eq_false_iff_not, Bool.not_eq_true', Bool.not_eq_false', Bool.and_eq_true, Bool.or_eq_true, Bool.or_eq_false_iff] at hc
    have hjj : j = zc p.length := by rw [hll] at hc; simp only [zc]; omega
    subst hjj
    have hi := i64_nat p.length (by omega)
    refine wp_exit ?_
    refine then_e ?_
    refine then_e ?_
    refine blk_hit ?_
    refine then_n ?_
    refine wp_seq ?_
    refine wp_reg ?_
    refine s_q hs (c_move (hs.ev rfl)) rfl fun ac hs => ?_
    refine s_q hs (c_lenS un34 (hs.ev rfl)) rfl fun ac hs => ?_
    refine s_q hs (c_cvIV un3 un210 (hs.ev rfl)) rfl fun ac hs => ?_
    refine s_q hs (c_mulV (hs.ev rfl) (St.ev (v := V 8) hs rfl)) rfl fun ac hs => ?_
    refine s_q hs (c_assign (hs.ev rfl)) rfl fun ac hs => ?_
    refine s_end ?_
    replace hs := hs.sub (F' := [(2, _), (3, _), (4, _)]) ⟨rfl, rfl, rfl, trivial⟩
    refine then_n ?_
    refine wp_seq ?_
    refine wp_reg ?_
    refine s_alloc hs ty211 rfl fun ac ww g5 hs => ?_
    refine s_end ?_
    refine then_n ?_
    refine wp_seq ?_
    refine wp_seq ?_
    refine wp_reg ?_
    refine s_q hs (c_assign (hs.ev rfl)) rfl fun ac hs => ?_
    refine s_end ?_
    refine then_n ?_
    refine wp_block ?_
    refine s_loop hs (X := Nat) (fun k => [(4, V (qd (UInt64.ofNat p.length * 8) k)), (6, I (7 - (k : Int)))]) [(2, _), (3, _), (5, _)] (fun k => [.seg g5 ((lo64 (UInt64.ofNat p.length * 8) k).map B) 211, .row _ ((p ++ [0x80]) ++ List.replicate (zc p.length) 0).length (((p ++ [0x80]) ++ List.replicate (zc p.length) 0).map B) 5 1]) (fun n k => k ≤ 8 ∧ n = 8 - k) (8) (0) (⟨by omega, rfl⟩) ⟨(by rw [hi]; rfl), rfl, rfl, rfl, rfl, trivial⟩ rfl ?_
    rintro n k ac ww hok hs
    simp only [List.cons_append, List.nil_append] at hs
    obtain ⟨hk, rfl⟩ := hok
    have hzl := lo64_len (UInt64.ofNat p.length * 8) k hk
    refine wp_seq ?_
    refine wp_seq ?_
    refine wp_reg ?_
    refine s_q hs (c_move (hs.ev rfl)) rfl fun ac hs => ?_
    refine s_q hs (c_geqI (hs.ev rfl) (hs.ev rfl)) rfl fun ac hs => ?_
    refine s_end ?_
    refine then_n ?_
    refine s_cond hs rfl (fun hc => ?_) (fun hc => ?_)
    · try simp only [decide_eq_true_eq, decide_eq_false_iff_not, Bool.not_eq_true', Bool.not_eq_false', Bool.and_eq_true, Bool.or_eq_true, Bool.or_eq_false_iff] at hc
      refine wp_skip ?_
      refine then_n ?_
      refine wp_seq ?_
      refine wp_block ?_
      refine wp_seq ?_
      refine wp_reg ?_
      refine s_q hs (c_move (hs.ev rfl)) rfl fun ac hs => ?_
      refine s_q hs (c_move (hs.ev rfl)) rfl fun ac hs => ?_
      refine s_q hs (c_remV (hs.ev rfl) (St.ev (v := V 256) hs rfl) (by decide)) rfl fun ac hs => ?_
      refine s_q hs (c_cvVB un210 un5 (hs.ev rfl)) rfl fun ac hs => ?_
      refine s_q hs (c_idxA (j := 7 - k) un211 ty5 (hs.ev rfl) (hs.ev rfl) (by omega) (by omega)) rfl fun ac hs => ?_
      refine s_store (i := 0) hs ty5 rfl rfl rfl rfl rfl rfl (by rw [List.length_map]; omega) ((map_set _ (by omega)).trans (congrArg (List.map B) ((congrArg (fun z => List.set _ _ z) (qd_byte _ k (by omega))).trans (lo64_set _ k (by omega))))) fun ww hs => ?_
      refine s_end ?_
      refine then_n ?_
      refine wp_reg ?_
      refine s_q hs (c_move (hs.ev rfl)) rfl fun ac hs => ?_
      refine s_q hs (c_quoV (hs.ev rfl) (St.ev (v := V 256) hs rfl) (by decide)) rfl fun ac hs => ?_
      refine s_q hs (c_assign (hs.ev rfl)) rfl fun ac hs => ?_
      refine s_end ?_
      refine blk_n ?_
      refine then_n ?_
      refine wp_reg ?_
      refine s_q hs (c_move (hs.ev rfl)) rfl fun ac hs => ?_
      refine s_q hs (c_subI (hs.ev rfl) (hs.ev rfl) (by omega) (by omega)) rfl fun ac hs => ?_
      refine s_q hs (c_assign (hs.ev rfl)) rfl fun ac hs => ?_
      refine s_end ?_
      refine then_n ?_
      exact ⟨8 - (k + 1), by omega, k + 1, ⟨by omega, rfl⟩, St.next hs ⟨rfl, (congrArg (fun z => some (I z)) (by omega)), rfl, rfl, rfl, trivial⟩ rfl⟩
    · try simp only [decide_eq_true_eq, decide_eq_false_iff_not, Bool.not_eq_true', Bool.not_eq_false', Bool.and_eq_true, Bool.or_eq_true, Bool.or_eq_false_iff] at hc
      obtain rfl : k = 8 := by omega
      refine wp_exit ?_
      refine then_e ?_
      refine then_e ?_
      refine blk_hit ?_
      refine then_n ?_
      refine wp_seq ?_
      refine wp_reg ?_
      refine s_q hs (c_move (hs.ev rfl)) rfl fun ac hs => ?_
      refine s_q hs (c_sliceA un211 ty5 (hs.ev rfl)) rfl fun ac hs => ?_
      refine s_appB (i := 1) hs un34 ty5 rfl rfl rfl (RdB.seg (l := be64 (UInt64.ofNat p.length * 8)) (hs.seg (i := 0) rfl) (by rw [be64_length]; decide)) (by simp only [List.length_append, List.length_replicate, List.length_cons, List.length_nil, be64_length, zc]; omega) rfl fun ac ww v37 hf hnil hs => ?_
      refine s_q hs (c_assign (hs.ev rfl)) rfl fun ac hs => ?_
      refine s_end ?_
      replace hs := hs.sub (F' := [(2, _)]) ⟨rfl, trivial⟩
      refine then_n ?_
      refine wp_ret ?_
      refine s_ret hs rfl (.tmp (hs.tmp rfl) .nil) rfl ⟨_, rfl, hs.fr, ?_⟩
      exact ⟨_, rfl, (hs.pick (L' := [_]) (.cons _ (.refl _))).made⟩
end Go.Proofs.Ytmgnnclkjkbmdaa
end

section
/- The sum as the document has it. -/
set_option linter.unusedSimpArgs false
set_option linter.unusedVariables false
set_option maxRecDepth 100000
namespace Go.Proofs.Ytmgnnclkjkbmdaa
open Go Go.Fw
open Sha
theorem comp_take (r : R) (l : List UInt8) : comp r (l.take 64) = comp r l := comp_congr (fun j hj => by simp [List.getD, List.getElem?_take_of_lt hj]) r
def mid (r : R) (k j : Nat) : List UInt8 := (out r).take (4 * k) ++ lo32 (r.list.getD k 0) j ++ List.replicate (32 - 4 * (k + 1)) 0
theorem mid_len (r : R) (k j : Nat) (h : k < 8) (hj : j ≤ 4) : (mid r k j).length = 32 := by simp only [mid, List.length_append, List.length_take, out_length, lo32_len _ _ hj, List.length_replicate]; omega
theorem mid_set (r : R) (k j : Nat) (h : k < 8) (hj : j < 4) : (mid r k j).set (4 * k + (3 - j)) ((be32 (r.list.getD k 0)).getD (3 - j) 0) = mid r k (j + 1) := by
  have e : ((out r).take (4 * k)).length = 4 * k := by simp; omega
  rw [mid, mid, List.append_assoc, List.append_assoc, List.set_append_right _ _ (by omega), e, Nat.add_sub_cancel_left, List.set_append_left _ _ (by rw [lo32_len _ _ (by omega)]; omega), lo32_set _ _ hj]
theorem mid_zero (r : R) (k : Nat) (h : k < 8) : outZ r k = mid r k 0 := by
  rw [outZ, mid, List.append_assoc]
  congr 1
  rw [show lo32 (r.list.getD k 0) 0 = List.replicate 4 0 from rfl, List.replicate_append_replicate]
  congr 1
  omega
theorem mid_full (r : R) (k : Nat) (h : k < 8) : mid r k 4 = outZ r (k + 1) := by
  rw [outZ, mid, out_take r k h]
  rfl
set_option maxHeartbeats 4000000 in
theorem ref04_Sum (p : List UInt8) (pv : Value) (hle : p.length ≤ 140737488355200) (w : World) (hq : RdB w pv p) : Ctr Try.prog 45 [pv] w (fun _ => False) (fun v _ => v = .agg ((sum p).map B).toArray) := by
  refine fn_start (N := 51) Try.func45 rfl rfl rfl fun ac hk => ?_
  have hs := St.start hk w
  refine wp_seq ?_
  refine wp_reg ?_
  refine s_alloc hs ty40 rfl fun ac ww g2 hs => ?_
  refine s_end ?_
  refine then_n ?_
  refine wp_seq ?_
  refine wp_reg ?_
  refine s_q hs (c_move (hs.ev rfl)) rfl fun ac hs => ?_
  refine s_call hs fu46 (.cons (hs.ev rfl) .nil) (ref04_Pad p _ hle _ (hq.fr0 hs.fr)) rfl fun ac ww v12 hf hp hs => ?_
  obtain ⟨qv, rfl, hh⟩ := hp
  replace hs := hs _ hh
  obtain ⟨qad, qcap, rfl, hqc, hqm⟩ := Rd.sl (RdB.row (hs.get (i := 0) rfl))
  have hpl := pad_length p
  refine s_q hs (c_assign (hs.ev rfl)) rfl fun ac hs => ?_
  refine s_end ?_
  replace hs := hs.sub (F' := [(2, _), (3, _)]) ⟨rfl, rfl, trivial⟩
  refine then_n ?_
  refine wp_seq ?_
  refine wp_reg ?_
  refine s_call hs fu154 .nil (ref04_First _) rfl fun ac ww v13 hf hp hs => ?_
  obtain rfl := hp
  replace hs := hs [] (.nil _ _)
  refine s_alloc hs ty205 rfl fun ac ww g4 hs => ?_
  refine s_storeW (i := 0) hs ty205 rfl rfl rfl (by simp) (all_map_U _) (by simp) fun ww hs => ?_
  refine s_end ?_
  replace hs := hs.sub (F' := [(2, _), (3, _), (4, _)]) ⟨rfl, rfl, rfl, trivial⟩
  refine then_n ?_
  refine wp_seq ?_
  refine wp_reg ?_
  refine s_call hs fu155 .nil (ref04_K _) rfl fun ac ww v14 hf hp hs => ?_
  obtain rfl := hp
  replace hs := hs [] (.nil _ _)
  refine s_alloc hs ty207 rfl fun ac ww g5 hs => ?_
  refine s_storeW (i := 0) hs ty207 rfl rfl rfl (by simp) (all_map_U _) (by simp) fun ww hs => ?_
  refine s_end ?_
  replace hs := hs.sub (F' := [(2, _), (3, _), (4, _), (5, _)]) ⟨rfl, rfl, rfl, rfl, trivial⟩
  refine then_n ?_
  refine wp_seq ?_
  refine wp_seq ?_
  refine wp_reg ?_
  refine s_q hs (c_assign (hs.ev rfl)) rfl fun ac hs => ?_
  refine s_end ?_
  refine then_n ?_
  refine wp_block ?_
  refine s_loop hs (X := Nat) (fun k => [(6, I (64 * (k : Int)))]) [(2, _), (3, _), (4, _), (5, _)] (fun k => [.seg g5 (K.map U) 207, .seg g4 ((foldB first (pad p) k).list.map U) 205, .row _ (pad p).length ((pad p).map B) 5 1, .seg g2 ((List.replicate 32 (0 : UInt8)).map B) 40]) (fun n k => k ≤ blocks p.length ∧ n = blocks p.length - k) (_) (0) (⟨Nat.zero_le _, rfl⟩) ⟨rfl, rfl, rfl, rfl, rfl, trivial⟩ rfl ?_
  rintro n k ac ww hok hs
  simp only [List.cons_append, List.nil_append] at hs
  obtain ⟨hk, rfl⟩ := hok
  have hbl : blocks p.length ≤ p.length + 2 := by simp only [blocks]; split <;> omega
  refine wp_seq ?_
  refine wp_seq ?_
  refine wp_reg ?_
  refine s_q hs (c_move (hs.ev rfl)) rfl fun ac hs => ?_
  refine s_q hs (c_move (hs.ev rfl)) rfl fun ac hs => ?_
  refine s_q hs (c_lenS un34 (hs.ev rfl)) rfl fun ac hs => ?_
  refine s_q hs (c_lssI (hs.ev rfl) (hs.ev rfl)) rfl fun ac hs => ?_
  refine s_end ?_
  refine then_n ?_
  refine s_cond hs rfl (fun hc => ?_) (fun hc => ?_)
  · try simp only [decide_eq_true_eq, decide_eq_false_iff_not, Bool.not_eq_true', Bool.not_eq_false', Bool.and_eq_true, Bool.or_eq_true, Bool.or_eq_false_iff] at hc
    have hk2 : k < blocks p.length := by omega
    refine wp_skip ?_
    refine then_n ?_
    refine wp_seq ?_
    refine wp_block ?_
    refine wp_region_rg pmix 8 (by kernel_rfl) rfl hs ?_
    simp only [List.take_succ_cons, List.take_zero]
    refine rg_q (fun ac ww h => c_loadW ty205 rfl (h.ev rfl) (h.blk (hs.seg (i := 1) rfl)) (by simp)) rfl ?_
    refine rg_q (fun ac ww h => c_move (h.ev rfl)) rfl ?_
    refine rg_q (fun ac ww h => c_move (h.ev rfl)) rfl ?_
    refine rg_q (fun ac ww h => c_move (h.ev rfl)) rfl ?_
    refine rg_q (fun ac ww h => c_addI (h.ev rfl) (h.ev rfl) (by omega) (by omega)) rfl ?_
    refine rg_q (fun ac ww h => c_sliceS (i := 64 * k) (j := 64 * k + 64) un34 ty5 (h.ev rfl) (h.ev rfl) (h.ev rfl) (by omega) (by omega) (by omega) (by omega)) rfl ?_
    refine rg_q (fun ac ww h => c_loadW ty207 rfl (h.ev rfl) (h.blk (hs.seg (i := 0) rfl)) (by simp)) rfl ?_
    refine rg_call fu156 (fun ac ww h => (.cons (h.ev rfl) (.cons (h.ev rfl) (.cons (h.ev rfl) .nil)))) (fun ww hf => ref04_Block _ (((pad p).drop (64 * k)).take (64 * k + 64 - 64 * k)) _ (by rw [List.length_take, List.length_drop]; omega) ww ((RdB.mid (RdB.row (hs.get (i := 2) rfl)) (by omega) (by omega)).fr0 hf)) rfl ?_
    refine rg_nil fun ac ww L' hf hfe hs => ?_
    simp only [List.drop_succ_cons, List.drop_zero]
    obtain rfl : L' = [] := hfe
    replace hs := hs.toL (List.nil_append _)
    refine s_storeW (i := 1) hs ty205 rfl rfl rfl (by simp) (all_map_U _) (by simp) fun ww hs => ?_
    rw [show 64 * k + 64 - 64 * k = 64 from by omega, comp_take] at hs
    refine s_end ?_
    refine blk_n ?_
    refine then_n ?_
    refine wp_reg ?_
    refine s_q hs (c_move (hs.ev rfl)) rfl fun ac hs => ?_
    refine s_q hs (c_addI (hs.ev rfl) (hs.ev rfl) (by omega) (by omega)) rfl fun ac hs => ?_
    refine s_q hs (c_assign (hs.ev rfl)) rfl fun ac hs => ?_
    refine s_end ?_
    refine then_n ?_
    exact ⟨blocks p.length - (k + 1), by omega, k + 1, ⟨by omega, rfl⟩, St.next hs ⟨(congrArg (fun z => some (I z)) (by omega)), rfl, rfl, rfl, rfl, trivial⟩ rfl⟩
  · try simp only [decide_eq_true_eq, decide_eq_false_iff_not, Bool.not_eq_true', Bool.not_eq_false', Bool.and_eq_true, Bool.or_eq_true, Bool.or_eq_false_iff] at hc
    obtain rfl : k = blocks p.length := by omega
    refine wp_exit ?_
    refine then_e ?_
    refine then_e ?_
    refine blk_hit ?_
    refine then_n ?_
    refine wp_seq ?_
    refine wp_reg ?_
    refine s_alloc hs ty40 rfl fun ac ww g7 hs => ?_
    refine s_end ?_
    replace hs := hs.sub (F' := [(2, _), (4, _), (7, _)]) ⟨rfl, rfl, rfl, trivial⟩
    refine then_n ?_
    refine wp_seq ?_
    refine wp_seq ?_
    refine wp_reg ?_
    refine s_q hs (c_assign (hs.ev rfl)) rfl fun ac hs => ?_
    refine s_end ?_
    refine then_n ?_
    refine wp_block ?_
    refine s_loop hs (X := Nat) (fun k => [(8, I k)]) [(2, _), (4, _), (7, _)] (fun k => [.seg g7 ((outZ (foldB first (pad p) (blocks p.length)) k).map B) 40, .seg g5 (K.map U) 207, .seg g4 ((foldB first (pad p) (blocks p.length)).list.map U) 205, .row _ (pad p).length ((pad p).map B) 5 1, .seg g2 ((List.replicate 32 (0 : UInt8)).map B) 40]) (fun n k => k ≤ 8 ∧ n = 8 - k) (8) (0) (⟨Nat.zero_le _, rfl⟩) ⟨rfl, rfl, rfl, rfl, trivial⟩ rfl ?_
    rintro n k ac ww hok hs
    simp only [List.cons_append, List.nil_append] at hs
    obtain ⟨hk, rfl⟩ := hok
    have hzl := outZ_len (foldB first (pad p) (blocks p.length)) k hk
    refine wp_seq ?_
    refine wp_seq ?_
    refine wp_reg ?_
    refine s_q hs (c_move (hs.ev rfl)) rfl fun ac hs => ?_
    refine s_q hs (c_lssI (hs.ev rfl) (hs.ev rfl)) rfl fun ac hs => ?_
    refine s_end ?_
    refine then_n ?_
    refine s_cond hs rfl (fun hc => ?_) (fun hc => ?_)
    · try simp only [decide_eq_true_eq, decide_eq_false_iff_not, Bool.not_eq_true', Bool.not_eq_false', Bool.and_eq_true, Bool.or_eq_true, Bool.or_eq_false_iff] at hc
      have hk8 : k < 8 := by omega
      refine wp_skip ?_
      refine then_n ?_
      refine wp_seq ?_
      refine wp_block ?_
      refine wp_seq ?_
      refine wp_reg ?_
      refine s_q hs (c_move (hs.ev rfl)) rfl fun ac hs => ?_
      refine s_q hs (c_idxA (j := k) un205 ty27 (hs.ev rfl) (hs.ev rfl) (by omega) (by omega)) rfl fun ac hs => ?_
      refine s_q hs (c_loadS un27 rfl (hs.ev rfl) (hs.seg (i := 2) rfl) (map_get 0 (by simp; omega))) rfl fun ac hs => ?_
      refine s_q hs (c_assign (hs.ev rfl)) rfl fun ac hs => ?_
      refine s_end ?_
      refine then_n ?_
      refine wp_seq ?_
      refine wp_reg ?_
      refine s_q hs (c_assign (hs.ev rfl)) rfl fun ac hs => ?_
      refine s_end ?_
      refine then_n ?_
      refine wp_block ?_
      refine s_loop hs (X := Nat) (fun j => [(9, U (qd32 ((foldB first (pad p) (blocks p.length)).list.getD k 0) j)), (10, I (3 - (j : Int)))]) [(2, _), (4, _), (7, _), (8, _), (29, _), (30, _), (33, _), (34, _), (35, _)] (fun j => [.seg g7 ((mid (foldB first (pad p) (blocks p.length)) k j).map B) 40, .seg g5 (K.map U) 207, .seg g4 ((foldB first (pad p) (blocks p.length)).list.map U) 205, .row _ (pad p).length ((pad p).map B) 5 1, .seg g2 ((List.replicate 32 (0 : UInt8)).map B) 40]) (fun n j => j ≤ 4 ∧ n = 4 - j) (4) (0) (⟨Nat.zero_le _, rfl⟩) ⟨rfl, rfl, rfl, rfl, rfl, rfl, rfl, rfl, rfl, rfl, rfl, trivial⟩ (by rw [mid_zero _ k hk8]) ?_
      rintro n j ac ww hok hs
      simp only [List.cons_append, List.nil_append] at hs
      obtain ⟨hj, rfl⟩ := hok
      have hml := mid_len (foldB first (pad p) (blocks p.length)) k j hk8 hj
      refine wp_seq ?_
      refine wp_seq ?_
      refine wp_reg ?_
      refine s_q hs (c_move (hs.ev rfl)) rfl fun ac hs => ?_
      refine s_q hs (c_geqI (hs.ev rfl) (hs.ev rfl)) rfl fun ac hs => ?_
      refine s_end ?_
      refine then_n ?_
      refine s_cond hs rfl (fun hc => ?_) (fun hc => ?_)
      · try simp only [decide_eq_true_eq, decide_eq_false_iff_not, Bool.not_eq_true', Bool.not_eq_false', Bool.and_eq_true, Bool.or_eq_true, Bool.or_eq_false_iff] at hc
        have hj4 : j < 4 := by omega
        refine wp_skip ?_
        refine then_n ?_
        refine wp_seq ?_
        refine wp_block ?_
        refine wp_seq ?_
        refine wp_reg ?_
        refine s_q hs (c_move (hs.ev rfl)) rfl fun ac hs => ?_
        refine s_q hs (c_mulI (hs.ev rfl) (hs.ev rfl) (by omega) (by omega)) rfl fun ac hs => ?_
        refine s_q hs (c_move (hs.ev rfl)) rfl fun ac hs => ?_
        refine s_q hs (c_addI (hs.ev rfl) (hs.ev rfl) (by omega) (by omega)) rfl fun ac hs => ?_
        refine s_q hs (c_move (hs.ev rfl)) rfl fun ac hs => ?_
        refine s_q hs (c_remU (hs.ev rfl) (St.ev (v := U 256) hs rfl) (by decide)) rfl fun ac hs => ?_
        refine s_q hs (c_cvUB un27 un5 (hs.ev rfl)) rfl fun ac hs => ?_
        refine s_q hs (c_idxA (j := 4 * k + (3 - j)) un40 ty5 (hs.ev rfl) (hs.ev rfl) (by omega) (by omega)) rfl fun ac hs => ?_
        refine s_store (i := 0) hs ty5 rfl rfl rfl rfl rfl rfl (by rw [List.length_map]; omega) ((map_set _ (by omega)).trans (congrArg (List.map B) ((congrArg (fun z => List.set _ _ z) (qd32_byte _ j (by omega))).trans (mid_set _ k j hk8 hj4)))) fun ww hs => ?_
        refine s_end ?_
        refine then_n ?_
        refine wp_reg ?_
        refine s_q hs (c_move (hs.ev rfl)) rfl fun ac hs => ?_
        refine s_q hs (c_quoU (hs.ev rfl) (St.ev (v := U 256) hs rfl) (by decide)) rfl fun ac hs => ?_
        refine s_q hs (c_assign (hs.ev rfl)) rfl fun ac hs => ?_
        refine s_end ?_
        refine blk_n ?_
        refine then_n ?_
        refine wp_reg ?_
        refine s_q hs (c_move (hs.ev rfl)) rfl fun ac hs => ?_
        refine s_q hs (c_subI (hs.ev rfl) (hs.ev rfl) (by omega) (by omega)) rfl fun ac hs => ?_
        refine s_q hs (c_assign (hs.ev rfl)) rfl fun ac hs => ?_
        refine s_end ?_
        refine then_n ?_
        exact ⟨4 - (j + 1), by omega, j + 1, ⟨by omega, rfl⟩, St.next hs ⟨rfl, (congrArg (fun z => some (I z)) (by omega)), rfl, rfl, rfl, rfl, rfl, rfl, rfl, rfl, rfl, trivial⟩ rfl⟩
      · try simp only [decide_eq_true_eq, decide_eq_false_iff_not, Bool.not_eq_true', Bool.not_eq_false', Bool.and_eq_true, Bool.or_eq_true, Bool.or_eq_false_iff] at hc
        obtain rfl : j = 4 := by omega
        refine wp_exit ?_
        refine then_e ?_
        refine then_e ?_
        refine blk_hit ?_
        refine blk_n ?_
        refine then_n ?_
        refine wp_reg ?_
        refine s_q hs (c_move (hs.ev rfl)) rfl fun ac hs => ?_
        refine s_q hs (c_addI (hs.ev rfl) (hs.ev rfl) (by omega) (by omega)) rfl fun ac hs => ?_
        refine s_q hs (c_assign (hs.ev rfl)) rfl fun ac hs => ?_
        refine s_end ?_
        refine then_n ?_
        exact ⟨8 - (k + 1), by omega, k + 1, ⟨by omega, rfl⟩, St.next hs ⟨rfl, rfl, rfl, rfl, trivial⟩ (by rw [← mid_full _ k (by omega)]; try rfl)⟩
    · try simp only [decide_eq_true_eq, decide_eq_false_iff_not, Bool.not_eq_true', Bool.not_eq_false', Bool.and_eq_true, Bool.or_eq_true, Bool.or_eq_false_iff] at hc
      obtain rfl : k = 8 := by omega
      refine wp_exit ?_
      refine then_e ?_
      refine then_e ?_
      refine blk_hit ?_
      refine then_n ?_
      refine wp_seq ?_
      refine wp_reg ?_
      refine s_q hs (c_loadW ty40 rfl (hs.ev rfl) (hs.seg (i := 0) rfl) (by simpa using hzl)) rfl fun ac hs => ?_
      refine s_storeW (i := 4) hs ty40 rfl rfl rfl (by simpa using hzl) (all_map_B _) rfl fun ww hs => ?_
      refine s_end ?_
      replace hs := hs.sub (F' := [(2, _)]) ⟨rfl, trivial⟩
      refine then_n ?_
      refine wp_ret ?_
      refine s_ret hs rfl (.cell (hs.tmp rfl) (run_loadA ty40 rfl (hs.seg (i := 4) rfl) (List.take_of_length_le (by simp [hzl])) (by simpa using hzl)) .nil) rfl ⟨_, rfl, hs.fr, ?_⟩
      show _ = _
      rw [sum_eq]
      rfl
end Go.Proofs.Ytmgnnclkjkbmdaa
end

section
/- Copying; rows of rows of bytes. -/
set_option linter.unusedSimpArgs false
set_option linter.unusedVariables false
namespace Go.Fw
open Go
section
variable {P : Program} {ops : Array Oper} {Q : Exit → Act → World → Prop} {rest : List Oper} {N : Nat} {F F' : List (Nat × Value)} {L L' : List Ent} {M : Nat → Prop} {w0 w : World} {a : Act}
variable {d : Tmp} {op : Op} {ty : TypeId} {pos : String} {aft : Array Edge} {x y z : Operand} {t u : TypeId}
/-- Bytes are copied into a literal's or a variable's place. -/
theorem s_copy {i g n : Nat} {l p : List UInt8} {T dT sT E : TypeId} {ed : TypeDesc} {zs : List Value} {v : Value} (hs : St N F L M w0 a w) (hu : P.underlying dT = some (.slice E)) (hE : Ty P E ed 1 1 zs)
    (hx : ev F x = some (.slice (some ⟨g, 0, none⟩) n n)) (hl : l.length = n) (hy : ev F y = some v) (hi : L[i]? = some (.seg g (l.map B) T)) (hr : RdB w v p) (hd : Nat.blt d N = true)
    (k : ∀ a w, St N ((d, I (min p.length n : Nat)) :: F) (L.set i (.seg g ((p.take n ++ l.drop p.length).map B) T)) M w0 a w → wpList P ops Q rest a w) :
    wpList P ops Q (⟨some d, .call { callee := .builtin .copy, args := #[x, y], argTypes := #[dT, sT] }, ty, pos, aft, none⟩ :: rest) a w := by
  subst hl
  have hg := hs.seg hi
  obtain ⟨inf, hi1, hi2, _⟩ := hE.info
  have hsz : (P.info? E).map (·.size) = some 1 := by rw [hi1]; simp [hi2]
  have key : ∃ w', (Builtin.copy_ #[dT, sT] ty #[.slice (some ⟨g, 0, none⟩) l.length l.length, v]).run P w = .ok (I (min p.length l.length : Nat)) w' ∧ Fr (· = g) w w' ∧
      w'.heap[g]? = some (.cells ((p.take l.length ++ l.drop p.length).map B).toArray T (0, 0)) := by
    rcases hr.src with ⟨rfl, h2, _⟩ | ⟨ad, cap, rfl, hc⟩
    · refine ⟨w, ?_, .refl _ _, ?_⟩
      · rw [run_copy_nil P w dT sT ty E _ _ _ hu (by rw [hsz]; rfl)]
        simp [h2, goInt]
      · have hp : p = [] := List.eq_nil_of_length_eq_zero h2
        subst hp
        simpa using hg
    · have hlen : ((p.take l.length).map B).length = Nat.min p.length l.length := by simp [Nat.min_comm]
      have hrun := run_copy_row (P := P) w dT sT ty E g 0 l.length l.length ad p.length cap (l.map B).toArray T ((p.take l.length).map B) hu hsz hg hlen (fun j v hj => hc j v (by
        rw [List.map_take, List.getElem?_take] at hj
        split at hj
        · exact hj
        · cases hj)) (by simp; omega) (by intro v hv; obtain ⟨b, _, rfl⟩ := List.mem_map.1 hv; rfl)
      have hres : ((l.map B).toArray.toList.take 0 ++ (p.take l.length).map B ++ (l.map B).toArray.toList.drop (0 + ((p.take l.length).map B).length)) = (p.take l.length ++ l.drop p.length).map B := by
        rw [hlen]
        simp only [List.take_zero, List.nil_append, Nat.zero_add, List.map_append, ← List.map_drop]
        congr 2
        rcases Nat.le_total p.length l.length with h | h
        · rw [show Nat.min p.length l.length = p.length from Nat.min_eq_left h]
        · rw [show Nat.min p.length l.length = l.length from Nat.min_eq_right h, List.drop_of_length_le (Nat.le_refl _), List.drop_of_length_le h]
      rw [hres, hlen] at hrun
      exact ⟨_, hrun, .setRow _ _ _, setRow_heap w g _ _ T (0, 0) hg⟩
  obtain ⟨w', hrun, hf, hg'⟩ := key
  have hrun' : (execOp a.eval ⟨some d, .call { callee := .builtin .copy, args := #[x, y], argTypes := #[dT, sT] }, ty, pos, aft, none⟩).run P w = .ok (.value (I (min p.length l.length : Nat))) w' := by
    simp [execOp, resolve, invoke, builtin, hs.ev hx, hs.ev hy, hrun]
  refine wpList_plain rfl fun K hK => upon_value hrun' (hK _ _ (k _ _ ?_))
  refine (hs.mod (e' := .seg g ((p.take l.length ++ l.drop p.length).map B) T) hi hf hg' fun k hk => ⟨.inl hk, ?_⟩).put (lt_of_blt hd) _
  simp only [Ent.keys] at hk
  subst hk
  exact heap_lt hg'
end
/-! ### Rows of rows -/
/-- A slice of slices of bytes. -/
def RdP (w : World) (v : Value) (ps : List (Value × List UInt8)) : Prop := Rd w v ps.length (ps.map (·.1)) ∧ ∀ q ∈ ps, RdB w q.1 q.2
theorem RdP.fr0 {w w' : World} {v : Value} {ps : List (Value × List UInt8)} (h : RdP w v ps) (hf : Fr0 w w') : RdP w' v ps := ⟨h.1.fr0 hf, fun q hq => (h.2 q hq).fr0 hf⟩
theorem RdP.sl {w : World} {v : Value} {ps : List (Value × List UInt8)} (h : RdP w v ps) : ∃ ad cap, v = .slice ad ps.length cap ∧ ps.length ≤ cap ∧ cap ≤ maxLen := h.1.sl
theorem RdP.at' {w : World} {ad : Option Addr} {cap : Nat} {ps : List (Value × List UInt8)} (h : RdP w (.slice ad ps.length cap) ps) (hne : 0 < ps.length) :
    ∃ b o T fr all, ad = some ⟨b, o, none⟩ ∧ w.heap[b]? = some (.cells all T fr) ∧ (all.toList.drop o).take (ps.map (·.1)).length = ps.map (·.1) := by
  obtain ⟨b, o, cap', T, fr, all, e, _, _, hb, hc⟩ := Rd.at_ h.1 (by intro e; simp at e; subst e; simp at hne)
  cases e
  exact ⟨b, o, T, fr, all, rfl, hb, hc⟩
theorem RdP.get {w : World} {v : Value} {ps : List (Value × List UInt8)} (h : RdP w v ps) {k : Nat} (hk : k < ps.length) : RdB w (ps.getD k (.nilIface, [])).1 (ps.getD k (.nilIface, [])).2 := by
  have : ps.getD k (.nilIface, []) ∈ ps := by simp [List.getD, hk]
  exact h.2 _ this
/-- The bytes of all parts. -/
def flat (ps : List (Value × List UInt8)) : List UInt8 := ps.flatMap (·.2)
theorem flat_take (ps : List (Value × List UInt8)) (k : Nat) (hk : k < ps.length) : flat (ps.take (k + 1)) = flat (ps.take k) ++ (ps.getD k (.nilIface, [])).2 := by
  have : ps.take (k + 1) = ps.take k ++ [ps.getD k (.nilIface, [])] := by
    rw [List.take_succ_eq_append_getElem hk]
    simp [List.getD, hk]
  rw [this, flat, List.flatMap_append]
  simp [flat]
theorem flat_take_le (ps : List (Value × List UInt8)) (k : Nat) (hk : k < ps.length) : (flat (ps.take k)).length + (ps.getD k (.nilIface, [])).2.length ≤ (flat ps).length := by
  rw [← List.length_append, ← flat_take ps k hk]
  conv => rhs; rw [← List.take_append_drop (k + 1) ps]
  rw [flat, flat, List.flatMap_append, List.length_append]
  omega
theorem flat_full (ps : List (Value × List UInt8)) : flat (ps.take ps.length) = flat ps := by rw [List.take_length]
end Go.Fw
end

section
/- Things that lie apart. -/
set_option linter.unusedSimpArgs false
set_option linter.unusedVariables false
namespace Go.Fw
open Go
section
variable {N : Nat} {F F' : List (Nat × Value)} {L L' : List Ent} {M : Nat → Prop} {w0 w w' : World} {a : Act}
theorem pairwise_at {R : Ent → Ent → Prop} : ∀ {L : List Ent} {i j : Nat} {a b : Ent}, L.Pairwise R → L[i]? = some a → L[j]? = some b → i < j → R a b
  | [], i, j, a, b, _, hi, _, _ => by simp at hi
  | x :: t, 0, j + 1, a, b, h, hi, hj, _ => by
    simp at hi hj
    subst hi
    exact (List.pairwise_cons.1 h).1 b (List.mem_of_getElem? hj)
  | x :: t, i + 1, j + 1, a, b, h, hi, hj, hij => by
    simp at hi hj
    exact pairwise_at (List.pairwise_cons.1 h).2 hi hj (by omega)
  | x :: t, i, 0, _, _, _, _, _, hij => by omega
theorem St.seg_apart {i j g n m : Nat} {e : Ent} {cs : List Value} {T : TypeId} (hs : St N F L M w0 a w) (hi : L[i]? = some (.seg g cs T)) (hj : L[j]? = some e) (hij : i < j) :
    ∀ k, (Value.slice (some ⟨g, 0, none⟩) n m).ownBlock = some k → ¬ e.keys k := fun k hk he => by
  simp [Value.ownBlock] at hk
  subst hk
  exact pairwise_at hs.has.apart hi hj hij _ rfl he
end
theorem RdB.segn {w : World} {g n : Nat} {T : TypeId} {l : List UInt8} (h : w.heap[g]? = some (.cells (l.map B).toArray T (0, 0))) (hl : l.length = n) (hn : n ≤ maxLen) : RdB w (.slice (some ⟨g, 0, none⟩) n n) l := by
  subst hl; exact RdB.seg h hn
end Go.Fw
namespace Go.Fw
open Go
/-- Each part reads. -/
inductive Alls (w : World) : List (Value × List UInt8) → Prop
  | nil : Alls w []
  | cons {v : Value} {l : List UInt8} {ps : List (Value × List UInt8)} (h : RdB w v l) (t : Alls w ps) : Alls w ((v, l) :: ps)
theorem Alls.all {w : World} {ps : List (Value × List UInt8)} (h : Alls w ps) : ∀ q ∈ ps, RdB w q.1 q.2 := by
  induction h with
  | nil => simp
  | cons h _ ih =>
    intro q hq
    rcases List.mem_cons.1 hq with rfl | hq
    · exact h
    · exact ih q hq
theorem RdP.seg {w : World} {g : Nat} {T : TypeId} {ps : List (Value × List UInt8)} (h : w.heap[g]? = some (.cells (ps.map (·.1)).toArray T (0, 0))) (hn : ps.length ≤ maxLen) (ha : Alls w ps) : RdP w (.slice (some ⟨g, 0, none⟩) ps.length ps.length) ps :=
  ⟨Rd.of_seg h (Nat.le_refl _) hn (List.take_of_length_le (by simp)), ha.all⟩
section
variable {P : Program} {a : Act} {w : World} {d : Option Tmp} {ty : TypeId} {pos : String} {aft : Array Edge} {g : Option (Nat × Bool)} {x y z : Operand} {t u : TypeId}
end
end Go.Fw
end

section
/- Keyed sums and short sums. -/
set_option linter.unusedSimpArgs false
set_option linter.unusedVariables false
set_option maxRecDepth 100000
namespace Go.Proofs.Ytmgnnclkjkbmdaa
open Go Go.Fw
open Sha
set_option maxHeartbeats 4000000 in
theorem mac_key (k : List UInt8) (kv : Value) (hle : k.length ≤ 140737488355328) (w : World) (hq : RdB w kv k) : Ctr Try.prog 169 [kv] w (fun _ => False) (fun v _ => v = .agg ((keyB k).map B).toArray) := by
  obtain ⟨kad, kcap, rfl, hkc, hkm⟩ := Rd.sl hq
  refine fn_start (N := 17) Try.func169 rfl rfl rfl fun ac hk => ?_
  have hs := St.start hk w
  refine wp_seq ?_
  refine wp_reg ?_
  refine s_alloc hs ty226 rfl fun ac ww g2 hs => ?_
  refine s_end ?_
  refine then_n ?_
  refine wp_seq ?_
  refine wp_reg ?_
  refine s_alloc hs ty226 rfl fun ac ww g3 hs => ?_
  refine s_end ?_
  refine then_n ?_
  refine wp_seq ?_
  refine wp_seq ?_
  refine wp_reg ?_
  refine s_q hs (c_move (hs.ev rfl)) rfl fun ac hs => ?_
  refine s_q hs (c_lenS un34 (hs.ev rfl)) rfl fun ac hs => ?_
  refine s_q hs (c_gtrI (hs.ev rfl) (hs.ev rfl)) rfl fun ac hs => ?_
  refine s_end ?_
  replace hs := hs.sub (F' := [(0, _), (2, _), (3, _), (7, _)]) ⟨rfl, rfl, rfl, rfl, trivial⟩
  refine then_n ?_
  refine s_cond hs rfl (fun hc => ?_) (fun hc => ?_)
  · try simp only [decide_eq_true_eq, decide_eq_false_iff_not, Bool.not_eq_true', Bool.not_eq_false', Bool.and_eq_true, Bool.or_eq_true, Bool.or_eq_false_iff] at hc
    refine wp_seq ?_
    refine wp_reg ?_
    refine s_q hs (c_move (hs.ev rfl)) rfl fun ac hs => ?_
    refine s_call hs fu44 (.cons (hs.ev rfl) .nil) (sha_Sum k _ hle _ (hq.fr0 hs.fr)) rfl fun ac ww v9 hf hp hs => ?_
    obtain rfl := hp
    replace hs := hs [] (.nil _ _)
    refine s_alloc hs ty41 rfl fun ac ww g4 hs => ?_
    refine s_storeW (i := 0) hs ty41 rfl rfl rfl (by simp) (all_map_B _) (by simp) fun ww hs => ?_
    refine s_end ?_
    replace hs := hs.sub (F' := [(0, _), (2, _), (3, _), (4, _)]) ⟨rfl, rfl, rfl, rfl, trivial⟩
    refine then_n ?_
    refine wp_region_rg pmix 2 (by kernel_rfl) rfl hs ?_
    simp only [List.take_succ_cons, List.take_zero]
    refine rg_q (fun ac ww h => c_sliceA un226 ty5 (h.ev rfl)) rfl ?_
    refine rg_q (fun ac ww h => c_sliceA un41 ty5 (h.ev rfl)) rfl ?_
    refine rg_nil fun ac ww L' hf hfe hs => ?_
    simp only [List.drop_succ_cons, List.drop_zero]
    obtain rfl : L' = [] := hfe
    replace hs := hs.toL (List.nil_append _)
    refine s_copy (i := 1) (n := 64) hs un34 ty5 rfl (by simp) rfl rfl (RdB.seg (l := sum k) (hs.seg (i := 0) rfl) (by rw [sum_length]; decide)) rfl fun ac ww hs => ?_
    rw [keyB_long k (by omega)] at hs
    refine s_end ?_
    replace hs := hs.sub (F' := [(0, _), (2, _), (3, _)]) ⟨rfl, rfl, rfl, trivial⟩
    refine then_n ?_
    refine wp_seq ?_
    refine wp_reg ?_
    refine s_q hs (c_loadW ty226 rfl (hs.ev rfl) (hs.seg (i := 1) rfl) (by rw [List.length_map, keyB_length])) rfl fun ac hs => ?_
    refine s_storeW (i := 2) hs ty226 rfl rfl rfl (by rw [List.length_map, keyB_length]) (all_map_B _) rfl fun ww hs => ?_
    refine s_end ?_
    replace hs := hs.sub (F' := [(2, _)]) ⟨rfl, trivial⟩
    refine then_n ?_
    refine wp_ret ?_
    refine s_ret hs rfl (.cell (hs.tmp rfl) (run_loadA ty226 rfl (hs.seg (i := 2) rfl) (List.take_of_length_le (by simp [keyB_length])) (by simp [keyB_length])) .nil) rfl ⟨_, rfl, hs.fr, ?_⟩
    rfl
  · try simp only [decide_eq_true_eq, decide_eq_false_iff_not, Bool.not_eq_true', Bool.not_eq_false', Bool.and_eq_true, Bool.or_eq_true, Bool.or_eq_false_iff] at hc
    refine wp_reg ?_
    refine s_q hs (c_sliceA un226 ty5 (hs.ev rfl)) rfl fun ac hs => ?_
    refine s_q hs (c_move (hs.ev rfl)) rfl fun ac hs => ?_
    refine s_copy (i := 0) (n := 64) hs un34 ty5 rfl (by simp) rfl rfl (hq.fr0 hs.fr) rfl fun ac ww hs => ?_
    rw [keyB_small k (by omega)] at hs
    refine s_end ?_
    replace hs := hs.sub (F' := [(2, _), (3, _)]) ⟨rfl, rfl, trivial⟩
    refine then_n ?_
    refine wp_seq ?_
    refine wp_reg ?_
    refine s_q hs (c_loadW ty226 rfl (hs.ev rfl) (hs.seg (i := 0) rfl) (by rw [List.length_map, keyB_length])) rfl fun ac hs => ?_
    refine s_storeW (i := 1) hs ty226 rfl rfl rfl (by rw [List.length_map, keyB_length]) (all_map_B _) rfl fun ww hs => ?_
    refine s_end ?_
    replace hs := hs.sub (F' := [(2, _)]) ⟨rfl, trivial⟩
    refine then_n ?_
    refine wp_ret ?_
    refine s_ret hs rfl (.cell (hs.tmp rfl) (run_loadA ty226 rfl (hs.seg (i := 1) rfl) (List.take_of_length_le (by simp [keyB_length])) (by simp [keyB_length])) .nil) rfl ⟨_, rfl, hs.fr, ?_⟩
    rfl
set_option maxHeartbeats 4000000 in
theorem mac_first (d : List UInt8) (hd : d.length = 32) (w : World)  : Ctr Try.prog 170 [.agg (d.map B).toArray] w (fun _ => False) (fun v _ => v = .agg ((d.take 16).map B).toArray) := by
  refine fn_start (N := 8) Try.func170 rfl rfl rfl fun ac hk => ?_
  have hs := St.start hk w
  refine wp_seq ?_
  refine wp_reg ?_
  refine s_box hs rfl rfl rfl fun ac ww g1 hs => ?_
  refine s_alloc hs ty54 rfl fun ac ww g2 hs => ?_
  refine s_end ?_
  replace hs := hs.sub (F' := [(1, _), (2, _)]) ⟨rfl, rfl, trivial⟩
  refine then_n ?_
  refine wp_seq ?_
  refine wp_reg ?_
  refine s_alloc hs ty54 rfl fun ac ww g3 hs => ?_
  refine s_end ?_
  refine then_n ?_
  refine wp_seq ?_
  refine wp_region_rg pmix 2 (by kernel_rfl) rfl hs ?_
  simp only [List.take_succ_cons, List.take_zero]
  refine rg_q (fun ac ww h => c_sliceA un54 ty5 (h.ev rfl)) rfl ?_
  refine rg_q (fun ac ww h => c_sliceA un41 ty5 (h.ev rfl)) rfl ?_
  refine rg_nil fun ac ww L' hf hfe hs => ?_
  simp only [List.drop_succ_cons, List.drop_zero]
  obtain rfl : L' = [] := hfe
  replace hs := hs.toL (List.nil_append _)
  refine s_copy (i := 0) (n := 16) hs un34 ty5 rfl (by simp) rfl rfl (RdB.segn (l := d) (hs.seg (i := 2) rfl) hd (by decide)) rfl fun ac ww hs => ?_
  rw [show d.take 16 ++ (List.replicate 16 (0 : UInt8)).drop d.length = d.take 16 from by rw [hd]; simp] at hs
  refine s_end ?_
  replace hs := hs.sub (F' := [(2, _), (3, _)]) ⟨rfl, rfl, trivial⟩
  refine then_n ?_
  refine wp_seq ?_
  refine wp_reg ?_
  refine s_q hs (c_loadW ty54 rfl (hs.ev rfl) (hs.seg (i := 0) rfl) (by simp [hd])) rfl fun ac hs => ?_
  refine s_storeW (i := 1) hs ty54 rfl rfl rfl (by simp [hd]) (all_map_B _) rfl fun ww hs => ?_
  refine s_end ?_
  replace hs := hs.sub (F' := [(2, _)]) ⟨rfl, trivial⟩
  refine then_n ?_
  refine wp_ret ?_
  refine s_ret hs rfl (.cell (hs.tmp rfl) (run_loadA ty54 rfl (hs.seg (i := 1) rfl) (List.take_of_length_le (by simp [hd])) (by simp [hd])) .nil) rfl ⟨_, rfl, hs.fr, ?_⟩
  rfl
set_option maxHeartbeats 4000000 in
theorem mac_Short (k : UInt8) (ps : List (Value × List UInt8)) (pv : Value) (hle : (flat ps).length ≤ 140737488355200) (w : World) (hq : RdP w pv ps) : Ctr Try.prog 91 [B k, pv] w (fun _ => False) (fun v _ => v = .agg ((short k (flat ps)).map B).toArray) := by
  have hpl := hq.1.le
  obtain ⟨pad_, pcap, rfl, hpc, hpm⟩ := hq.sl
  refine fn_start (N := 26) Try.func91 rfl rfl rfl fun ac hk => ?_
  have hs := St.start hk w
  refine wp_seq ?_
  refine wp_reg ?_
  refine s_alloc hs ty54 rfl fun ac ww g4 hs => ?_
  refine s_end ?_
  refine then_n ?_
  refine wp_seq ?_
  refine wp_reg ?_
  refine s_call hs fu48 .nil (sha_New _) rfl fun ac ww v8 hf hp hs => ?_
  obtain ⟨ga, rfl, hh⟩ := hp
  replace hs := hs _ (Has.grp' hh)
  refine s_q hs (c_assign (hs.ev rfl)) rfl fun ac hs => ?_
  refine s_end ?_
  replace hs := hs.sub (F' := [(0, _), (1, _), (4, _), (5, _)]) ⟨rfl, rfl, rfl, rfl, trivial⟩
  refine then_n ?_
  refine wp_seq ?_
  refine wp_reg ?_
  refine s_q hs (c_move (hs.ev rfl)) rfl fun ac hs => ?_
  refine s_q hs (c_move (hs.ev rfl)) rfl fun ac hs => ?_
  refine s_bslice hs un34 ty5 (.cons (hs.ev rfl) .nil) rfl (by simp [Value.cells]) (by decide) rfl rfl fun ac ww g11 hs => ?_
  refine s_callM (i := 1) hs fu49 (.cons (hs.ev rfl) (.cons (hs.ev rfl) .nil)) rfl (sha_Write ([]) ([k]) ga _ _ (by simp) _ (hs.get (i := 1) rfl) (RdB.seg (l := [k]) (hs.seg (i := 0) rfl) (by show 1 ≤ maxLen; decide)) (fun _ => hs.seg_apart (i := 0) (j := 1) rfl rfl (by decide))) rfl fun ac ww v12 hf hp hs => ?_
  obtain ⟨rv, h1, h2⟩ := hp
  replace hs := hs (Ent.grp (hash ga rv (([]) ++ ([k])))) h1 (fun k hk => ⟨h2 k hk, grp_lt h1 k hk⟩)
  refine s_end ?_
  replace hs := hs.pick (L' := [_, _]) (.cons _ (.refl _))
  replace hs := hs.sub (F' := [(1, _), (4, _), (5, _)]) ⟨rfl, rfl, rfl, trivial⟩
  refine then_n ?_
  refine wp_seq ?_
  refine wp_seq ?_
  refine wp_reg ?_
  refine s_q hs (c_move (hs.ev rfl)) rfl fun ac hs => ?_
  refine s_q hs (c_lenS un30 (hs.ev rfl)) rfl fun ac hs => ?_
  refine s_q hs (c_move (hs.ev rfl)) rfl fun ac hs => ?_
  refine s_end ?_
  replace hs := hs.sub (F' := [(4, _), (5, _), (13, _), (14, _), (15, _)]) ⟨rfl, rfl, rfl, rfl, rfl, trivial⟩
  refine then_n ?_
  refine wp_block ?_
  refine s_loop hs (X := Nat × Value) (fun x => [(15, I x.1)]) [(4, _), (5, _), (13, _), (14, _)] (fun x => [Ent.grp (hash ga x.2 (k :: flat (ps.take x.1))), .seg g4 ((List.replicate 16 (0 : UInt8)).map B) 54]) (fun n x => x.1 ≤ ps.length ∧ n = ps.length - x.1) (ps.length) ((0, rv)) (⟨Nat.zero_le _, rfl⟩) ⟨rfl, rfl, rfl, rfl, rfl, trivial⟩ rfl ?_
  rintro n ⟨i, rv⟩ ac ww hok hs
  simp only [List.cons_append, List.nil_append] at hs
  obtain ⟨hi, rfl⟩ := hok
  simp only at hi hs
  refine wp_seq ?_
  refine wp_reg ?_
  refine s_q hs (c_lssI (hs.ev rfl) (hs.ev rfl)) rfl fun ac hs => ?_
  refine s_end ?_
  refine then_n ?_
  refine wp_seq ?_
  refine s_cond hs rfl (fun hc => ?_) (fun hc => ?_)
  · try simp only [decide_eq_true_eq, decide_eq_false_iff_not, Bool.not_eq_true', Bool.not_eq_false', Bool.and_eq_true, Bool.or_eq_true, Bool.or_eq_false_iff] at hc
    have hips : i < ps.length := by omega
    obtain ⟨pb, po, pT, pf, pall, rfl, hpb, hps⟩ := hq.at' (by omega)
    have hfl := flat_take_le ps i hips
    refine wp_skip ?_
    refine then_n ?_
    refine wp_seq ?_
    refine wp_block ?_
    refine wp_seq ?_
    refine wp_reg ?_
    refine s_q hs (c_idxS (j := i) un30 ty34 (hs.ev rfl) (hs.ev rfl) (by omega) (by omega)) rfl fun ac hs => ?_
    refine s_q hs (c_loadS un34 rfl (hs.ev rfl) (hs.old hpb id) (seg_get (.nilIface, []) hps (by omega))) rfl fun ac hs => ?_
    refine s_q hs (c_assign (hs.ev rfl)) rfl fun ac hs => ?_
    refine s_end ?_
    refine then_n ?_
    refine wp_reg ?_
    refine s_q hs (c_move (hs.ev rfl)) rfl fun ac hs => ?_
    refine s_q hs (c_move (hs.ev rfl)) rfl fun ac hs => ?_
    refine s_callM (i := 0) hs fu49 (.cons (hs.ev rfl) (.cons (hs.ev rfl) .nil)) rfl (sha_Write (k :: flat (ps.take i)) ((ps.getD i (.nilIface, [])).2) ga rv _ (by simp only [List.length_cons]; omega) _ (hs.get (i := 0) rfl) ((hq.get hips).fr0 hs.fr) (hs.far (i := 0) rfl (hq.get hips))) rfl fun ac ww v21 hf hp hs => ?_
    obtain ⟨rv, h1, h2⟩ := hp
    replace hs := hs (Ent.grp (hash ga rv ((k :: flat (ps.take i)) ++ ((ps.getD i (.nilIface, [])).2)))) h1 (fun k hk => ⟨h2 k hk, grp_lt h1 k hk⟩)
    refine s_end ?_
    replace hs := hs.sub (F' := [(4, _), (5, _), (7, _), (13, _), (14, _), (15, _), (16, _), (17, _), (18, _), (19, _), (20, _)]) ⟨rfl, rfl, rfl, rfl, rfl, rfl, rfl, rfl, rfl, rfl, rfl, trivial⟩
    refine blk_n ?_
    refine then_n ?_
    refine wp_reg ?_
    refine s_q hs (c_addI (hs.ev rfl) (hs.ev rfl) (by omega) (by omega)) rfl fun ac hs => ?_
    refine s_q hs (c_move (hs.ev rfl)) rfl fun ac hs => ?_
    refine s_end ?_
    refine then_n ?_
    exact ⟨ps.length - (i + 1), by (try simp only); omega, (i + 1, rv), ⟨by (try simp only); omega, rfl⟩, St.next hs ⟨rfl, rfl, rfl, rfl, rfl, trivial⟩ (by rw [flat_take ps i (by omega)]; rfl)⟩
  · try simp only [decide_eq_true_eq, decide_eq_false_iff_not, Bool.not_eq_true', Bool.not_eq_false', Bool.and_eq_true, Bool.or_eq_true, Bool.or_eq_false_iff] at hc
    obtain rfl : i = ps.length := by omega
    rw [flat_full] at hs
    refine wp_exit ?_
    refine then_e ?_
    refine then_e ?_
    refine blk_hit ?_
    refine then_n ?_
    refine wp_seq ?_
    refine wp_reg ?_
    refine s_q hs (c_move (hs.ev rfl)) rfl fun ac hs => ?_
    refine s_call hs fu50 (.cons (hs.ev rfl) .nil) (sha_HSum (k :: flat ps) ga rv (by simp only [List.length_cons]; omega) _ (hash_get (hs.get (i := 0) rfl)).1 (hash_get (hs.get (i := 0) rfl)).2) rfl fun ac ww v24 hf hp hs => ?_
    obtain rfl := hp
    replace hs := hs [] (.nil _ _)
    refine s_call hs fu170 (.cons (hs.ev rfl) .nil) (mac_first _ (sum_length _) _) rfl fun ac ww v25 hf hp hs => ?_
    obtain rfl := hp
    replace hs := hs [] (.nil _ _)
    refine s_storeW (i := 1) hs ty54 rfl rfl rfl (by simp) (all_map_B _) (by simp) fun ww hs => ?_
    refine s_end ?_
    replace hs := hs.sub (F' := [(4, _)]) ⟨rfl, trivial⟩
    refine then_n ?_
    refine wp_ret ?_
    refine s_ret hs rfl (.cell (hs.tmp rfl) (run_loadA ty54 rfl (hs.seg (i := 1) rfl) (List.take_of_length_le (by simp)) (by simp)) .nil) rfl ⟨_, rfl, hs.fr, ?_⟩
    rfl
end Go.Proofs.Ytmgnnclkjkbmdaa
end

section
/- Numbers as bytes. -/
set_option linter.unusedSimpArgs false
set_option linter.unusedVariables false
set_option maxRecDepth 100000
namespace Go.Proofs.Ytmgnnclkjkbmdaa
namespace Sha
def num (x : UInt64) (s k : Nat) : List UInt8 := List.replicate (s - k) 0 ++ (be64 x).drop (8 - k)
theorem num_len (x : UInt64) (s k : Nat) (h : k ≤ s) (hs : s ≤ 8) : (num x s k).length = s := by simp [num]; omega
theorem drop_back (x : UInt64) : ∀ k, k < 8 → (be64 x).drop (8 - (k + 1)) = (be64 x).getD (7 - k) 0 :: (be64 x).drop (8 - k)
  | 0, _ => rfl | 1, _ => rfl | 2, _ => rfl | 3, _ => rfl | 4, _ => rfl | 5, _ => rfl | 6, _ => rfl | 7, _ => rfl
  | k + 8, h => absurd h (by omega)
theorem num_set (x : UInt64) (s k : Nat) (h : k < s) (hs : s ≤ 8) : (num x s k).set (s - 1 - k) ((be64 x).getD (7 - k) 0) = num x s (k + 1) := by
  have e : List.replicate (s - k) (0 : UInt8) = List.replicate (s - 1 - k) 0 ++ [0] := by
    rw [show s - k = (s - 1 - k) + 1 from by omega, List.replicate_succ']
  rw [num, num, e, List.append_assoc, List.set_append_right _ _ (by simp), List.length_replicate, Nat.sub_self, drop_back x k (by omega), show s - (k + 1) = s - 1 - k from by omega]
  rfl
theorem num_zero (x : UInt64) (s : Nat) (hs : s ≤ 8) : num x s 0 = List.replicate s 0 := by rw [num, List.drop_of_length_le (by simp)]; simp
theorem upto_zero (l : List UInt8) (n : Nat) : upto l n 0 = List.replicate n 0 := by simp [upto]
theorem upto_half (d : List UInt8) : upto d 16 16 = d.take 16 := by simp [upto]
end Sha
end Go.Proofs.Ytmgnnclkjkbmdaa
end

section
/- Short sums and numbers as the document has them. -/
set_option linter.unusedSimpArgs false
set_option linter.unusedVariables false
set_option maxRecDepth 100000
namespace Go.Proofs.Ytmgnnclkjkbmdaa
open Go Go.Fw
open Sha
theorem flat1' (n : Nat) : (List.replicate n [B 0]).flatten = (List.replicate n (0 : UInt8)).map B := by
  induction n with
  | zero => rfl
  | succ n ih => rw [List.replicate_succ, List.flatten_cons, ih, List.replicate_succ]; rfl
set_option maxHeartbeats 4000000 in
theorem ref05_Half (d : List UInt8) (hd : d.length = 32) (w : World)  : Ctr Try.prog 171 [.agg (d.map B).toArray] w (fun _ => False) (fun v _ => v = .agg ((d.take 16).map B).toArray) := by
  refine fn_start (N := 15) Try.func171 rfl rfl rfl fun ac hk => ?_
  have hs := St.start hk w
  refine wp_seq ?_
  refine wp_reg ?_
  refine s_box hs rfl rfl rfl fun ac ww g1 hs => ?_
  refine s_alloc hs ty22 rfl fun ac ww g2 hs => ?_
  refine s_end ?_
  replace hs := hs.sub (F' := [(1, _), (2, _)]) ⟨rfl, rfl, trivial⟩
  refine then_n ?_
  refine wp_seq ?_
  refine wp_reg ?_
  refine s_alloc hs ty22 rfl fun ac ww g3 hs => ?_
  refine s_end ?_
  refine then_n ?_
  refine wp_seq ?_
  refine wp_seq ?_
  refine wp_reg ?_
  refine s_q hs (c_assign (hs.ev rfl)) rfl fun ac hs => ?_
  refine s_end ?_
  refine then_n ?_
  refine wp_block ?_
  refine s_loop hs (X := Nat) (fun k => [(4, I k)]) [(1, _), (2, _), (3, _)] (fun k => [.seg g3 ((upto d 16 k).map B) 22, .seg g2 ((List.replicate 16 (0 : UInt8)).map B) 22, .seg g1 (d.map B) 40]) (fun n k => k ≤ 16 ∧ n = 16 - k) (16) (0) (⟨Nat.zero_le _, rfl⟩) ⟨rfl, rfl, rfl, rfl, trivial⟩ (by rw [upto_zero]; try rfl) ?_
  rintro n k ac ww hok hs
  simp only [List.cons_append, List.nil_append] at hs
  obtain ⟨hk, rfl⟩ := hok
  have hz := upto_len d 16 k hk (by omega)
  refine wp_seq ?_
  refine wp_seq ?_
  refine wp_reg ?_
  refine s_q hs (c_move (hs.ev rfl)) rfl fun ac hs => ?_
  refine s_q hs (c_lssI (hs.ev rfl) (hs.ev rfl)) rfl fun ac hs => ?_
  refine s_end ?_
  refine then_n ?_
  refine s_cond hs rfl (fun hc => ?_) (fun hc => ?_)
  · try simp only [decide_eq_true_eq, decide_eq_false_iff_not, Bool.not_eq_true', Bool.not_eq_false', Bool.and_eq_true, Bool.or_eq_true, Bool.or_eq_false_iff] at hc
    refine wp_skip ?_
    refine then_n ?_
    refine wp_seq ?_
    refine wp_block ?_
    refine wp_reg ?_
    refine s_q hs (c_move (hs.ev rfl)) rfl fun ac hs => ?_
    refine s_q hs (c_move (hs.ev rfl)) rfl fun ac hs => ?_
    refine s_q hs (c_idxA (j := k) un40 ty5 (hs.ev rfl) (hs.ev rfl) (by omega) (by omega)) rfl fun ac hs => ?_
    refine s_q hs (c_loadS un5 rfl (hs.ev rfl) (hs.seg (i := 2) rfl) (map_get 0 (by omega))) rfl fun ac hs => ?_
    refine s_q hs (c_idxA (j := k) un22 ty5 (hs.ev rfl) (hs.ev rfl) (by omega) (by omega)) rfl fun ac hs => ?_
    refine s_store (i := 0) hs ty5 rfl rfl rfl rfl rfl rfl (by rw [List.length_map]; omega) ((map_set _ (by omega)).trans (congrArg (List.map B) (upto_set _ _ k (by omega) (by omega)))) fun ww hs => ?_
    refine s_end ?_
    refine blk_n ?_
    refine then_n ?_
    refine wp_reg ?_
    refine s_q hs (c_move (hs.ev rfl)) rfl fun ac hs => ?_
    refine s_q hs (c_addI (hs.ev rfl) (hs.ev rfl) (by omega) (by omega)) rfl fun ac hs => ?_
    refine s_q hs (c_assign (hs.ev rfl)) rfl fun ac hs => ?_
    refine s_end ?_
    refine then_n ?_
    exact ⟨16 - (k + 1), by omega, k + 1, ⟨by omega, rfl⟩, St.next hs ⟨rfl, rfl, rfl, rfl, trivial⟩ rfl⟩
  · try simp only [decide_eq_true_eq, decide_eq_false_iff_not, Bool.not_eq_true', Bool.not_eq_false', Bool.and_eq_true, Bool.or_eq_true, Bool.or_eq_false_iff] at hc
    obtain rfl : k = 16 := by omega
    rw [upto_half] at hs
    refine wp_exit ?_
    refine then_e ?_
    refine then_e ?_
    refine blk_hit ?_
    refine then_n ?_
    refine wp_seq ?_
    refine wp_reg ?_
    refine s_q hs (c_loadW ty22 rfl (hs.ev rfl) (hs.seg (i := 0) rfl) (by simp [hd])) rfl fun ac hs => ?_
    refine s_storeW (i := 1) hs ty22 rfl rfl rfl (by simp [hd]) (all_map_B _) rfl fun ww hs => ?_
    refine s_end ?_
    replace hs := hs.sub (F' := [(2, _)]) ⟨rfl, trivial⟩
    refine then_n ?_
    refine wp_ret ?_
    refine s_ret hs rfl (.cell (hs.tmp rfl) (run_loadA ty22 rfl (hs.seg (i := 1) rfl) (List.take_of_length_le (by simp [hd])) (by simp [hd])) .nil) rfl ⟨_, rfl, hs.fr, ?_⟩
    rfl
set_option maxHeartbeats 4000000 in
theorem ref05_Text (k : UInt8) (ps : List (Value × List UInt8)) (pv : Value) (hle : (flat ps).length ≤ 140737488355200) (w : World) (hq : RdP w pv ps) : Ctr Try.prog 159 [B k, pv] w (fun _ => False) (fun v w' => ∃ v', v = v' ∧ Has w.heap.size w' [.row v' (k :: flat ps).length ((k :: flat ps).map B) 5 1]) := by
  have hpl := hq.1.le
  obtain ⟨pad_, pcap, rfl, hpc, hpm⟩ := hq.sl
  refine fn_start (N := 22) Try.func159 rfl rfl rfl fun ac hk => ?_
  have hs := St.start hk w
  refine wp_seq ?_
  refine wp_reg ?_
  refine s_q hs (c_assign (hs.ev rfl)) rfl fun ac hs => ?_
  refine s_end ?_
  refine then_n ?_
  refine wp_seq ?_
  refine wp_reg ?_
  refine s_q hs (c_move (hs.ev rfl)) rfl fun ac hs => ?_
  refine s_bslice hs un34 ty5 (.cons (hs.ev rfl) .nil) rfl (by simp [Value.cells]) (by decide) rfl rfl fun ac ww g8 hs => ?_
  refine s_q hs (c_assign (hs.ev rfl)) rfl fun ac hs => ?_
  refine s_end ?_
  replace hs := hs.segrow (i := 0) (n := 1) (sz := 1) rfl rfl (by decide)
  replace hs := hs.sub (F' := [(1, _), (4, _), (5, _)]) ⟨rfl, rfl, rfl, trivial⟩
  refine then_n ?_
  refine wp_seq ?_
  refine wp_seq ?_
  refine wp_reg ?_
  refine s_q hs (c_assign (hs.ev rfl)) rfl fun ac hs => ?_
  refine s_end ?_
  refine then_n ?_
  refine wp_block ?_
  refine s_loop hs (X := Nat × Value) (fun x => [(5, x.2), (6, I x.1)]) [(1, _), (4, _)] (fun x => [.row x.2 (k :: flat (ps.take x.1)).length ((k :: flat (ps.take x.1)).map B) 5 1]) (fun n x => x.1 ≤ ps.length ∧ n = ps.length - x.1) (ps.length) ((0, _)) (⟨Nat.zero_le _, rfl⟩) ⟨rfl, rfl, rfl, rfl, trivial⟩ rfl ?_
  rintro n ⟨i, v⟩ ac ww hok hs
  simp only [List.cons_append, List.nil_append] at hs
  obtain ⟨hi, rfl⟩ := hok
  simp only at hi hs
  refine wp_seq ?_
  refine wp_seq ?_
  refine wp_reg ?_
  refine s_q hs (c_move (hs.ev rfl)) rfl fun ac hs => ?_
  refine s_q hs (c_move (hs.ev rfl)) rfl fun ac hs => ?_
  refine s_q hs (c_lenS un30 (hs.ev rfl)) rfl fun ac hs => ?_
  refine s_q hs (c_lssI (hs.ev rfl) (hs.ev rfl)) rfl fun ac hs => ?_
  refine s_end ?_
  refine then_n ?_
  refine s_cond hs rfl (fun hc => ?_) (fun hc => ?_)
  · try simp only [decide_eq_true_eq, decide_eq_false_iff_not, Bool.not_eq_true', Bool.not_eq_false', Bool.and_eq_true, Bool.or_eq_true, Bool.or_eq_false_iff] at hc
    have hips : i < ps.length := by omega
    obtain ⟨pb, po, pT, pf, pall, rfl, hpb, hps⟩ := hq.at' (by omega)
    have hfl := flat_take_le ps i hips
    refine wp_skip ?_
    refine then_n ?_
    refine wp_seq ?_
    refine wp_block ?_
    refine wp_reg ?_
    refine s_q hs (c_move (hs.ev rfl)) rfl fun ac hs => ?_
    refine s_q hs (c_move (hs.ev rfl)) rfl fun ac hs => ?_
    refine s_q hs (c_move (hs.ev rfl)) rfl fun ac hs => ?_
    refine s_q hs (c_idxS (j := i) un30 ty34 (hs.ev rfl) (hs.ev rfl) (by omega) (by omega)) rfl fun ac hs => ?_
    refine s_q hs (c_loadS un34 rfl (hs.ev rfl) (hs.old hpb id) (seg_get (.nilIface, []) hps (by omega))) rfl fun ac hs => ?_
    refine s_appB (i := 0) hs un34 ty5 rfl rfl rfl ((hq.get hips).fr0 hs.fr) (by simp only [List.length_cons]; omega) rfl fun ac ww v20 hf hnil hs => ?_
    refine s_q hs (c_assign (hs.ev rfl)) rfl fun ac hs => ?_
    refine s_end ?_
    refine blk_n ?_
    refine then_n ?_
    refine wp_reg ?_
    refine s_q hs (c_move (hs.ev rfl)) rfl fun ac hs => ?_
    refine s_q hs (c_addI (hs.ev rfl) (hs.ev rfl) (by omega) (by omega)) rfl fun ac hs => ?_
    refine s_q hs (c_assign (hs.ev rfl)) rfl fun ac hs => ?_
    refine s_end ?_
    refine then_n ?_
    exact ⟨ps.length - (i + 1), by (try simp only); omega, (i + 1, _), ⟨by (try simp only); omega, rfl⟩, St.next hs ⟨rfl, rfl, rfl, rfl, trivial⟩ (by rw [flat_take ps i (by omega)]; rfl)⟩
  · try simp only [decide_eq_true_eq, decide_eq_false_iff_not, Bool.not_eq_true', Bool.not_eq_false', Bool.and_eq_true, Bool.or_eq_true, Bool.or_eq_false_iff] at hc
    obtain rfl : i = ps.length := by omega
    rw [flat_full] at hs
    refine wp_exit ?_
    refine then_e ?_
    refine then_e ?_
    refine blk_hit ?_
    refine then_n ?_
    refine wp_seq ?_
    refine wp_reg ?_
    refine s_q hs (c_move (hs.ev rfl)) rfl fun ac hs => ?_
    refine s_q hs (c_assign (hs.ev rfl)) rfl fun ac hs => ?_
    refine s_end ?_
    replace hs := hs.sub (F' := [(4, _)]) ⟨rfl, trivial⟩
    refine then_n ?_
    refine wp_ret ?_
    refine s_ret hs rfl (.tmp (hs.tmp rfl) .nil) rfl ⟨_, rfl, hs.fr, ?_⟩
    exact ⟨_, rfl, hs.made⟩
set_option maxHeartbeats 4000000 in
theorem ref05_Short (k : UInt8) (ps : List (Value × List UInt8)) (pv : Value) (hle : (flat ps).length ≤ 140737488355199) (w : World) (hq : RdP w pv ps) : Ctr Try.prog 92 [B k, pv] w (fun _ => False) (fun v _ => v = .agg ((short k (flat ps)).map B).toArray) := by
  refine fn_start (N := 10) Try.func92 rfl rfl rfl fun ac hk => ?_
  have hs := St.start hk w
  refine wp_seq ?_
  refine wp_reg ?_
  refine s_alloc hs ty22 rfl fun ac ww g4 hs => ?_
  refine s_end ?_
  refine then_n ?_
  refine wp_seq ?_
  refine wp_reg ?_
  refine s_q hs (c_move (hs.ev rfl)) rfl fun ac hs => ?_
  refine s_q hs (c_move (hs.ev rfl)) rfl fun ac hs => ?_
  refine s_call hs fu159 (.cons (hs.ev rfl) (.cons (hs.ev rfl) .nil)) (ref05_Text k ps _ (by omega) _ (hq.fr0 hs.fr)) rfl fun ac ww v7 hf hp hs => ?_
  obtain ⟨qv, rfl, hh⟩ := hp
  replace hs := hs _ hh
  refine s_call hs fu45 (.cons (hs.ev rfl) .nil) (ref04_Sum (k :: flat ps) _ (by simp only [List.length_cons]; omega) _ (RdB.row (hs.get (i := 0) rfl))) rfl fun ac ww v8 hf hp hs => ?_
  obtain rfl := hp
  replace hs := hs [] (.nil _ _)
  refine s_call hs fu171 (.cons (hs.ev rfl) .nil) (ref05_Half _ (sum_length _) _) rfl fun ac ww v9 hf hp hs => ?_
  obtain rfl := hp
  replace hs := hs [] (.nil _ _)
  refine s_storeW (i := 1) hs ty22 rfl rfl rfl (by simp) (all_map_B _) (by simp) fun ww hs => ?_
  refine s_end ?_
  replace hs := hs.sub (F' := [(4, _)]) ⟨rfl, trivial⟩
  refine then_n ?_
  refine wp_ret ?_
  refine s_ret hs rfl (.cell (hs.tmp rfl) (run_loadA ty22 rfl (hs.seg (i := 1) rfl) (List.take_of_length_le (by simp)) (by simp)) .nil) rfl ⟨_, rfl, hs.fr, ?_⟩
  rfl
set_option maxHeartbeats 4000000 in
theorem ref06_Of (k : UInt8) (p : List UInt8) (pv : Value) (hle : p.length ≤ 140737488355199) (w : World) (hq : RdB w pv (k :: p)) : Ctr Try.prog 54 [pv] w (fun _ => False) (fun v _ => v = .agg ((short k p).map B).toArray) := by
  obtain ⟨pad_, pcap, rfl, hpc, hpm⟩ := hq.sl
  obtain ⟨pb, po, pT, pf, pall, rfl, hpb, hps⟩ := hq.at' (by simp)
  refine fn_start (N := 10) Try.func54 rfl rfl rfl fun ac hk => ?_
  have hs := St.start hk w
  refine wp_seq ?_
  refine wp_reg ?_
  refine s_alloc hs ty22 rfl fun ac ww g2 hs => ?_
  refine s_end ?_
  refine then_n ?_
  refine wp_seq ?_
  refine wp_region_rg pmix 6 (by kernel_rfl) rfl hs ?_
  simp only [List.take_succ_cons, List.take_zero]
  refine rg_q (fun ac ww h => c_move (h.ev rfl)) rfl ?_
  refine rg_q (fun ac ww h => c_idxS un34 ty5 (h.ev rfl) (h.ev rfl) rfl (by simp)) rfl ?_
  refine rg_q (fun ac ww h => c_loadS un5 rfl (h.ev rfl) (h.blk (hs.old hpb id)) (seg_get 0 hps (by simp))) rfl ?_
  refine rg_q (fun ac ww h => c_move (h.ev rfl)) rfl ?_
  refine rg_q (fun ac ww h => c_sliceL (i := 1) un34 ty5 (h.ev rfl) (h.ev rfl) (by omega) (by simp)) rfl ?_
  refine rg_bslice un30 ty34 (fun ac ww h => (.cons (h.ev rfl) .nil)) rfl (by simp [Value.cells]) (by decide) rfl rfl ?_
  refine rg_nil fun ac ww L' hf hfe hs => ?_
  simp only [List.drop_succ_cons, List.drop_zero]
  obtain ⟨v8, L8, M8, h8, e8, rfl, rfl⟩ := hfe
  replace hs := hs.add h8
  obtain ⟨g8, rfl, rfl⟩ := e8
  refine s_call hs fu92 (.cons (hs.ev rfl) (.cons (hs.ev rfl) .nil)) (ref05_Short k [(_, p)] _ (by simpa [flat] using hle) _ (RdP.seg (ps := [(_, p)]) (hs.seg (i := 0) rfl) (by show 1 ≤ maxLen; decide) (.cons ((RdB.cut (i := 1) hq (by simp)).fr0 hs.fr) .nil))) rfl fun ac ww v9 hf hp hs => ?_
  obtain rfl := hp
  replace hs := hs [] (.nil _ _)
  rw [show flat [(_, p)] = p from List.append_nil p] at hs
  refine s_storeW (i := 1) hs ty22 rfl rfl rfl (by simp) (all_map_B _) (by simp) fun ww hs => ?_
  refine s_end ?_
  replace hs := hs.sub (F' := [(2, _)]) ⟨rfl, trivial⟩
  refine then_n ?_
  refine wp_ret ?_
  refine s_ret hs rfl (.cell (hs.tmp rfl) (run_loadA ty22 rfl (hs.seg (i := 1) rfl) (List.take_of_length_le (by simp)) (by simp)) .nil) rfl ⟨_, rfl, hs.fr, ?_⟩
  rfl
set_option maxHeartbeats 4000000 in
theorem ref05_Num (x : UInt64) (s : Nat) (hs8 : s ≤ 8) (w : World)  : Ctr Try.prog 173 [V x, I s] w (fun _ => False) (fun v w' => ∃ g, v = .slice (some ⟨g, 0, none⟩) s s ∧ Has w.heap.size w' [.seg g ((num x s s).map B) 5]) := by
  refine fn_start (N := 24) Try.func173 rfl rfl rfl fun ac hk => ?_
  have hs := St.start hk w
  refine wp_seq ?_
  refine wp_reg ?_
  refine s_q hs (c_assign (hs.ev rfl)) rfl fun ac hs => ?_
  refine s_end ?_
  refine then_n ?_
  refine wp_seq ?_
  refine wp_reg ?_
  refine s_q hs (c_move (hs.ev rfl)) rfl fun ac hs => ?_
  refine s_make (n := s) hs un34 ty5 rfl rfl rfl rfl (by omega) (by unfold maxLen; omega) rfl fun ac ww g8 hs => ?_
  refine s_q hs (c_assign (hs.ev rfl)) rfl fun ac hs => ?_
  refine s_end ?_
  replace hs := hs.sub (F' := [(0, _), (1, _), (4, _), (5, _)]) ⟨rfl, rfl, rfl, rfl, trivial⟩
  refine then_n ?_
  refine wp_seq ?_
  refine wp_seq ?_
  refine wp_reg ?_
  refine s_q hs (c_move (hs.ev rfl)) rfl fun ac hs => ?_
  refine s_q hs (c_subI (hs.ev rfl) (hs.ev rfl) (by omega) (by omega)) rfl fun ac hs => ?_
  refine s_q hs (c_assign (hs.ev rfl)) rfl fun ac hs => ?_
  refine s_end ?_
  replace hs := hs.sub (F' := [(0, _), (4, _), (5, _), (6, _)]) ⟨rfl, rfl, rfl, rfl, trivial⟩
  refine then_n ?_
  refine wp_block ?_
  refine s_loop hs (X := Nat) (fun k => [(0, V (qd x k)), (6, I ((s : Int) - 1 - (k : Int)))]) [(4, _), (5, _)] (fun k => [.seg g8 ((num x s k).map B) 5]) (fun n k => k ≤ s ∧ n = s - k) (s) (0) (⟨Nat.zero_le _, rfl⟩) ⟨rfl, (congrArg (fun z => some (I z)) (by omega)), rfl, rfl, trivial⟩ (by rw [num_zero _ _ hs8, flat1']; try rfl) ?_
  rintro n k ac ww hok hs
  simp only [List.cons_append, List.nil_append] at hs
  obtain ⟨hk, rfl⟩ := hok
  have hz := num_len x s k hk hs8
  refine wp_seq ?_
  refine wp_seq ?_
  refine wp_reg ?_
  refine s_q hs (c_move (hs.ev rfl)) rfl fun ac hs => ?_
  refine s_q hs (c_geqI (hs.ev rfl) (hs.ev rfl)) rfl fun ac hs => ?_
  refine s_end ?_
  refine then_n ?_
  refine s_cond hs rfl (fun hc => ?_) (fun hc => ?_)
  · try simp only [decide_eq_true_eq, decide_eq_false_iff_not, Bool.not_eq_true', Bool.not_eq_false', Bool.and_eq_true, Bool.or_eq_true, Bool.or_eq_false_iff] at hc
    refine wp_skip ?_
    refine then_n ?_
    refine wp_seq ?_
    refine wp_block ?_
    refine wp_seq ?_
    refine wp_reg ?_
    refine s_q hs (c_move (hs.ev rfl)) rfl fun ac hs => ?_
    refine s_q hs (c_move (hs.ev rfl)) rfl fun ac hs => ?_
    refine s_q hs (c_move (hs.ev rfl)) rfl fun ac hs => ?_
    refine s_q hs (c_remV (hs.ev rfl) (St.ev (v := V 256) hs rfl) (by decide)) rfl fun ac hs => ?_
    refine s_q hs (c_cvVB un210 un5 (hs.ev rfl)) rfl fun ac hs => ?_
    refine s_q hs (c_idxS (j := s - 1 - k) un34 ty5 (hs.ev rfl) (hs.ev rfl) (by omega) (by omega)) rfl fun ac hs => ?_
    refine s_store (i := 0) hs ty5 rfl rfl rfl rfl rfl rfl (by rw [List.length_map]; omega) ((map_set _ (by omega)).trans (congrArg (List.map B) ((congrArg (fun z => List.set _ _ z) (qd_byte _ k (by omega))).trans (num_set x s k (by omega) hs8)))) fun ww hs => ?_
    refine s_end ?_
    refine then_n ?_
    refine wp_reg ?_
    refine s_q hs (c_move (hs.ev rfl)) rfl fun ac hs => ?_
    refine s_q hs (c_quoV (hs.ev rfl) (St.ev (v := V 256) hs rfl) (by decide)) rfl fun ac hs => ?_
    refine s_q hs (c_assign (hs.ev rfl)) rfl fun ac hs => ?_
    refine s_end ?_
    refine blk_n ?_
    refine then_n ?_
    refine wp_reg ?_
    refine s_q hs (c_move (hs.ev rfl)) rfl fun ac hs => ?_
    refine s_q hs (c_subI (hs.ev rfl) (hs.ev rfl) (by omega) (by omega)) rfl fun ac hs => ?_
    refine s_q hs (c_assign (hs.ev rfl)) rfl fun ac hs => ?_
    refine s_end ?_
    refine then_n ?_
    exact ⟨s - (k + 1), by omega, k + 1, ⟨by omega, rfl⟩, St.next hs ⟨rfl, (congrArg (fun z => some (I z)) (by omega)), rfl, rfl, trivial⟩ rfl⟩
  · try simp only [decide_eq_true_eq, decide_eq_false_iff_not, Bool.not_eq_true', Bool.not_eq_false', Bool.and_eq_true, Bool.or_eq_true, Bool.or_eq_false_iff] at hc
    obtain rfl : k = s := by omega
    refine wp_exit ?_
    refine then_e ?_
    refine then_e ?_
    refine blk_hit ?_
    refine then_n ?_
    refine wp_seq ?_
    refine wp_reg ?_
    refine s_q hs (c_move (hs.ev rfl)) rfl fun ac hs => ?_
    refine s_q hs (c_assign (hs.ev rfl)) rfl fun ac hs => ?_
    refine s_end ?_
    replace hs := hs.sub (F' := [(4, _)]) ⟨rfl, trivial⟩
    refine then_n ?_
    refine wp_ret ?_
    refine s_ret hs rfl (.tmp (hs.tmp rfl) .nil) rfl ⟨_, rfl, hs.fr, ?_⟩
    exact ⟨g8, rfl, hs.made⟩
end Go.Proofs.Ytmgnnclkjkbmdaa
end

section
/- The laws of the sums, walked. -/
set_option linter.unusedSimpArgs false
set_option linter.unusedVariables false
set_option maxRecDepth 100000
namespace Go.Proofs.Ytmgnnclkjkbmdaa
open Go Go.Fw
open Sha
theorem RdB.segn {w : World} {g n : Nat} {T : TypeId} {l : List UInt8} (h : w.heap[g]? = some (.cells (l.map B).toArray T (0, 0))) (hl : l.length = n) (hn : n ≤ maxLen) : RdB w (.slice (some ⟨g, 0, none⟩) n n) l := by
  subst hl; exact RdB.seg h hn
end Go.Proofs.Ytmgnnclkjkbmdaa
end

section
/- Laws of keyed sums, walked. -/
set_option linter.unusedSimpArgs false
set_option linter.unusedVariables false
set_option maxRecDepth 100000
namespace Go.Proofs.Ytmgnnclkjkbmdaa
open Go Go.Fw
open Sha
def what : List UInt8 := [119, 104, 97, 116, 32, 100, 111, 32, 121, 97, 32, 119, 97, 110, 116, 32, 102, 111, 114, 32, 110, 111, 116, 104, 105, 110, 103, 63]
end Go.Proofs.Ytmgnnclkjkbmdaa
end

section
/- Guarded operations in regions that draw; numbers of sixteen bits. -/
set_option linter.unusedSimpArgs false
set_option linter.unusedVariables false
namespace Go.Fw
open Go
section
variable {P : Program} {ops : Array Oper} {N B1 : Nat} {w1 : World} {K : List (Nat × Value) → Fes → Prop} {Fc : List (Nat × Value)} {Fe : Fes} {rest : List Oper}
variable {d : Tmp} {op : Op} {ty : TypeId} {pos : String} {aft : Array Edge}
/-- A guard that is met is no guard. -/
theorem rg_strip {j s : Nat} {b : Bool} (hj : (ops[j]?).bind (·.dst) = some s) (hb : look Fc s = some (.bool b)) (k : RG P ops N B1 w1 K Fc Fe (⟨some d, op, ty, pos, aft, none⟩ :: rest)) :
    RG P ops N B1 w1 K Fc Fe (⟨some d, op, ty, pos, aft, some (j, b)⟩ :: rest) := by
  obtain ⟨d', D, h1, h2, h3, h4⟩ := k
  refine ⟨d', D, h1, ?_, h3, h4⟩
  refine ⟨?_, fun h => by cases h⟩
  rcases h2.1 with ⟨_, h⟩ | ⟨h, _⟩
  · exact .inl ⟨by simp [wantedAs, hj, hb], fun a w hc => h a w ⟨hc.know, hc.fr, hc.ents⟩⟩
  · simp [wantedAs] at h
end
section
variable {P : Program} {a : Act} {w : World} {d : Option Tmp} {ty : TypeId} {pos : String} {aft : Array Edge} {g : Option (Nat × Bool)} {x y z : Operand} {t u : TypeId}
end
end Go.Fw
end

section
/- A message, its digits, and why of two unlike messages each has a lower digit. -/
set_option linter.unusedSimpArgs false
set_option linter.unusedVariables false
set_option maxRecDepth 100000
namespace Go.Proofs.Ytmgnnclkjkbmdaa
/-! A message's digits. -/
namespace Ots
def dig (m : List UInt8) (i : Nat) : UInt8 := m.getD (i / 4) 0 >>> UInt8.ofNat (6 - 2 * (i % 4)) &&& 3
/-- What is left, over the first n digits. -/
def left (m : List UInt8) : Nat → Nat
  | 0 => 0
  | n + 1 => left m n + (3 - (dig m n).toNat)
/-! Of two unlike messages each has a lower digit. -/
end Ots
end Go.Proofs.Ytmgnnclkjkbmdaa
end

section
/- Names as bytes, links. -/
set_option linter.unusedSimpArgs false
set_option linter.unusedVariables false
set_option maxRecDepth 100000
namespace Go.Proofs.Ytmgnnclkjkbmdaa
open Go Go.Fw
open Sha
theorem num4 (i : UInt32) : num i.toUInt64 4 4 = be32 i := by
  have h : (be64 i.toUInt64).drop 4 = be32 i := by
    simp only [be64, be32, List.drop_succ_cons, List.drop_zero]
    have e1 : ∀ k : Nat, k < 32 → (i.toUInt64 >>> UInt64.ofNat k).toUInt8 = (i >>> UInt32.ofNat k).toUInt8 := fun k hk => by
      apply UInt8.toNat_inj.1
      rw [UInt64.toNat_toUInt8, UInt32.toNat_toUInt8, UInt64.toNat_shiftRight, UInt32.toNat_shiftRight, UInt32.toNat_toUInt64, UInt64.toNat_ofNat', UInt32.toNat_ofNat']
      rw [show k % 2 ^ 64 % 64 = k from by omega, show k % 2 ^ 32 % 32 = k from by omega]
    have e2 : i.toUInt64.toUInt8 = i.toUInt8 := by
      apply UInt8.toNat_inj.1
      rw [UInt64.toNat_toUInt8, UInt32.toNat_toUInt8, UInt32.toNat_toUInt64]
    exact List.cons_eq_cons.2 ⟨e1 24 (by omega), List.cons_eq_cons.2 ⟨e1 16 (by omega), List.cons_eq_cons.2 ⟨e1 8 (by omega), List.cons_eq_cons.2 ⟨e2, rfl⟩⟩⟩⟩
  rw [← h]
  rfl
def rowE (l : List UInt8) : Value → List Ent → World → Prop := fun v L _ => L = [.row v l.length (l.map B) 5 1]
def outE (E : Value → List Ent → World → Prop) (w : World) : Value → World → Prop := fun v w' => ∃ L', E v L' w' ∧ Has w.heap.size w' L'
end Go.Proofs.Ytmgnnclkjkbmdaa
end

section
/- Chains of links, what is summed for them, how many blocks that takes. -/
set_option linter.unusedSimpArgs false
set_option linter.unusedVariables false
set_option maxRecDepth 100000
namespace Go.Proofs.Ytmgnnclkjkbmdaa
open Go Go.Fw
open Sha Ots
theorem chunk_at (l : List UInt8) (c : Nat) : ((l.map B).toArray.toList.drop (0 + c * 16)).take 16 = (chunk l c).map B := by
  rw [chunk, List.map_take, List.map_drop, Nat.zero_add, Nat.mul_comm]
theorem take_chunk (l : List UInt8) (k : Nat) : l.take (16 * (k + 1)) = l.take (16 * k) ++ chunk l k := by
  rw [chunk, show 16 * (k + 1) = 16 * k + 16 from by omega, List.take_add]
end Go.Proofs.Ytmgnnclkjkbmdaa
end

section
/- Groves: what is summed for them. -/
set_option linter.unusedSimpArgs false
set_option linter.unusedVariables false
set_option maxRecDepth 100000
namespace Go.Proofs.Ytmgnnclkjkbmdaa
open Go Go.Fw
open Sha
def gHead (d : Int) (ep : UInt32) (level : Int) : List UInt8 := i8 d :: (be32 ep ++ [i8 level])
@[simp] theorem gHead_length (d : Int) (ep : UInt32) (level : Int) : (gHead d ep level).length = 6 := rfl
def aboveX (d : Int) (ep : UInt32) (level : Int) (a b : List UInt8) : List UInt8 := 71 :: (gHead d ep level ++ a ++ b)
theorem aboveX_inj {d : Int} {ep : UInt32} {level : Int} {a b a' b' : List UInt8} (ha : a.length = 16) (ha' : a'.length = 16) (h : aboveX d ep level a b = aboveX d ep level a' b') : a = a' ∧ b = b' := by
  have h2 := (List.cons.inj h).2
  rw [List.append_assoc, List.append_assoc] at h2
  exact List.append_inj (List.append_cancel_left h2) (by omega)
def gJ (d : Int) (ep : UInt32) (k : Nat) (a b : List UInt8) : List UInt8 := aboveX d ep (k : Int) a b
/-- The leaves stand one behind the other in l. -/
def gLf (l : List UInt8) (q : Nat) : List UInt8 := chunk l q
abbrev gNode (d : Int) (ep : UInt32) (l : List UInt8) : Nat → Nat → List UInt8 := node (gJ d ep) (gLf l)
abbrev gNodeTs (d : Int) (ep : UInt32) (l : List UInt8) : Nat → Nat → List (List UInt8) := nodeTs (gJ d ep) (gLf l) (fun _ => [])
def height (n : Int) : Int := if n = 1 then 0 else if n = 2 then 1 else if n = 4 then 2 else if n = 8 then 3 else if n = 16 then 4 else if n = 32 then 5 else if n = 64 then 6 else -1
end Go.Proofs.Ytmgnnclkjkbmdaa
end

section
/- Appending to an empty literal in a region that draws; calls there with things as arguments; stores into a slice's elements. -/
set_option linter.unusedSimpArgs false
set_option linter.unusedVariables false
namespace Go.Fw
open Go
section
variable {P : Program} {w : World} {t : TypeId}
end
section
variable {P : Program} {ops : Array Oper} {N B1 : Nat} {w1 : World} {K : List (Nat × Value) → Fes → Prop} {Fc : List (Nat × Value)} {Fe : Fes} {rest : List Oper}
variable {d : Tmp} {op : Op} {ty t : TypeId} {pos : String} {aft : Array Edge}
/-- A call that comes to a known value, whose arguments are things. -/
theorem rg_callV {f : FuncId} {args : Array Operand} {tys : Array TypeId} {c : Value} (hF : Fun P f)
    (hc : ∀ a w, RC N Fc Fe ⟨some d, .call { callee := .value (.func f), args := args, argTypes := tys }, ty, pos, aft, none⟩ B1 w1 a w → ∃ vs, Evs a args.toList vs ∧ Ctr P f vs w (fun _ => False) fun v _ => v = c) (hE : lookE Fe d = none)
    (k : RG P ops N B1 w1 K ((d, c) :: Fc) Fe rest) : RG P ops N B1 w1 K Fc Fe (⟨some d, .call { callee := .value (.func f), args := args, argTypes := tys }, ty, pos, aft, none⟩ :: rest) :=
  ⟨d, .c c, rfl, ⟨.inl ⟨rfl, fun a w h => by
    obtain ⟨vs, h1, h2⟩ := hc a w h
    rw [run_call hF h1]
    exact Calls.mono h2 fun e w' ⟨v, he, hf, hv⟩ => ⟨v, he, [], ⟨hv, rfl⟩, hf, .nil _ _⟩⟩, fun h => by cases h⟩, hE, k⟩
end
end Go.Fw
end

section
/- Stores into the elements of a slice that may grow. -/
set_option linter.unusedSimpArgs false
set_option linter.unusedVariables false
namespace Go.Fw
open Go
section
variable {P : Program} {ops : Array Oper} {Q : Exit → Act → World → Prop} {rest : List Oper} {N : Nat} {F F' : List (Nat × Value)} {L L' : List Ent} {M : Nat → Prop} {w0 w : World} {a : Act}
variable {d : Tmp} {op : Op} {ty : TypeId} {pos : String} {aft : Array Edge} {x y z : Operand} {t u : TypeId}
/-- A slice that is owned, and not empty, leads to the head of its block. -/
theorem St.row_at {i n sz : Nat} {v : Value} {xs : List Value} {T : TypeId} (hs : St N F L M w0 a w) (hi : L[i]? = some (.row v n xs T sz)) (hn : 0 < n) :
    ∃ g cap cur, v = .slice (some ⟨g, 0, none⟩) n cap ∧ w.heap[g]? = some (.cells cur T (0, 0)) ∧ n ≤ cap ∧ cap ≤ maxLen ∧ cur.size = cap * sz ∧ cur.toList.take (n * sz) = xs := by
  have h : w.ownsRow 0 T sz v n xs := hs.get hi
  obtain ⟨h1, h2⟩ := h
  rcases h2 with ⟨_, h3⟩ | ⟨g, cap, cur, h3, _, h4, h5, h6, h7, h8⟩
  · omega
  · exact ⟨g, cap, cur, h3, h4, h5, h6, h7, h8⟩
end
end Go.Fw
end

section
/- Things joined; slices of slices of bytes that grow, with all that they own. -/
set_option linter.unusedSimpArgs false
set_option linter.unusedVariables false
namespace Go.Fw
open Go
/-- Nothing. -/
def Ent.none : Ent := .pr (fun _ => False) (fun _ => True) fun _ _ _ _ => trivial
theorem apart_at {L : List Ent} (h : L.Pairwise Ent.apart) {i j : Nat} {a b : Ent} (hi : L[i]? = some a) (hj : L[j]? = some b) (hij : i ≠ j) : a.apart b := by
  rcases Nat.lt_or_gt_of_ne hij with h1 | h1
  · exact pairwise_at h hi hj h1
  · exact Ent.apart_symm (pairwise_at h hj hi h1)
theorem set2_at {L : List Ent} {i j p : Nat} {e x : Ent} (hi : i < L.length) (hj : j < L.length) (h : ((L.set i e).set j .none)[p]? = some x) : x = .none ∨ (p = i ∧ x = e) ∨ (p ≠ i ∧ p ≠ j ∧ L[p]? = some x) := by
  by_cases h1 : p = j
  · subst h1; left
    rw [List.getElem?_set_self (by simpa using hj)] at h
    exact (Option.some.inj h).symm
  · rw [List.getElem?_set_ne (Ne.symm h1)] at h
    by_cases h2 : p = i
    · subst h2; right; left
      rw [List.getElem?_set_self hi] at h
      exact ⟨rfl, (Option.some.inj h).symm⟩
    · rw [List.getElem?_set_ne (Ne.symm h2)] at h
      exact .inr (.inr ⟨h2, h1, h⟩)
/-- Two things, made one. -/
theorem Has.join {B : Nat} {w : World} {L : List Ent} {i j : Nat} {a b e : Ent} (h : Has B w L) (hi : L[i]? = some a) (hj : L[j]? = some b) (hij : i ≠ j) (he : e.holds w) (hk : ∀ k, e.keys k → a.keys k ∨ b.keys k) : Has B w ((L.set i e).set j .none) := by
  have li := (List.getElem?_eq_some_iff.1 hi).1
  have lj := (List.getElem?_eq_some_iff.1 hj).1
  have mem : ∀ x ∈ (L.set i e).set j .none, ∃ p, ((L.set i e).set j .none)[p]? = some x := fun x hx => by
    obtain ⟨p, hp, rfl⟩ := List.getElem_of_mem hx
    exact ⟨p, List.getElem?_eq_getElem hp⟩
  have key : ∀ (p q : Nat) (x y : Ent), ((L.set i e).set j .none)[p]? = some x → ((L.set i e).set j .none)[q]? = some y → p ≠ q → Ent.apart x y := by
    intro p q x y hp hq hpq
    rcases set2_at li lj hp with rfl | ⟨h1, rfl⟩ | ⟨h1, h2, h3⟩
    · exact fun k hk _ => hk
    · rcases set2_at li lj hq with rfl | ⟨h4, _⟩ | ⟨h4, h5, h6⟩
      · exact fun k _ hk => hk
      · exact absurd (h1.trans h4.symm) hpq
      · exact fun k hxk hyk => (hk k hxk).elim (fun r => apart_at h.apart hi h6 (Ne.symm h4) k r hyk) (fun r => apart_at h.apart hj h6 (Ne.symm h5) k r hyk)
    · rcases set2_at li lj hq with rfl | ⟨h4, rfl⟩ | ⟨h4, h5, h6⟩
      · exact fun k _ hk => hk
      · exact fun k hxk hyk => (hk k hyk).elim (fun r => apart_at h.apart hi h3 (Ne.symm h1) k r hxk) (fun r => apart_at h.apart hj h3 (Ne.symm h2) k r hxk)
      · exact apart_at h.apart h3 h6 hpq
  refine ⟨fun x hx => ?_, ?_, fun x hx k hxk => ?_, fun x hx k hxk => ?_⟩
  · obtain ⟨p, hp⟩ := mem x hx
    rcases set2_at li lj hp with rfl | ⟨_, rfl⟩ | ⟨_, _, h1⟩
    · trivial
    · exact he
    · exact h.holds x (List.mem_of_getElem? h1)
  · exact List.pairwise_iff_getElem.2 fun p q hp hq hpq => key p q _ _ (List.getElem?_eq_getElem hp) (List.getElem?_eq_getElem hq) (by omega)
  · obtain ⟨p, hp⟩ := mem x hx
    rcases set2_at li lj hp with rfl | ⟨_, rfl⟩ | ⟨_, _, h1⟩
    · exact hxk.elim
    · exact (hk k hxk).elim (h.lt a (List.mem_of_getElem? hi) k) (h.lt b (List.mem_of_getElem? hj) k)
    · exact h.lt x (List.mem_of_getElem? h1) k hxk
  · obtain ⟨p, hp⟩ := mem x hx
    rcases set2_at li lj hp with rfl | ⟨_, rfl⟩ | ⟨_, _, h1⟩
    · exact hxk.elim
    · exact (hk k hxk).elim (h.ge a (List.mem_of_getElem? hi) k) (h.ge b (List.mem_of_getElem? hj) k)
    · exact h.ge x (List.mem_of_getElem? h1) k hxk
theorem Has.cons {B : Nat} {w : World} {L : List Ent} {e : Ent} (h : Has B w L) (he : e.holds w) (hlt : ∀ k, e.keys k → k < w.heap.size) (hge : ∀ k, e.keys k → B ≤ k) (hap : ∀ x ∈ L, e.apart x) : Has B w (e :: L) :=
  ⟨fun x hx => (List.mem_cons.1 hx).elim (fun r => r ▸ he) (h.holds x), List.pairwise_cons.2 ⟨hap, h.apart⟩, fun x hx => (List.mem_cons.1 hx).elim (fun r => r ▸ hlt) (h.lt x), fun x hx => (List.mem_cons.1 hx).elim (fun r => r ▸ hge) (h.ge x)⟩
/-- The row of a part: bytes; rows of sz cells. -/
def Ent.part (T : TypeId) (q : Value × List UInt8) : Ent := .row q.1 q.2.length (q.2.map B) T 1
def Ent.partS (T : TypeId) (sz : Nat) (q : Value × Nat × List UInt8) : Ent := .row q.1 q.2.1 (q.2.2.map B) T sz
/-- Slices of bytes behind a slice that may grow, all of them owned. E: their type; T: that of their elements. -/
def textsL {α : Type} (E : TypeId) (pt : Value × α → Ent) (v : Value) (ps : List (Value × α)) : List Ent := .row v ps.length (ps.map (·.1)) E 1 :: ps.map pt
def Ent.texts {α : Type} (E : TypeId) (pt : Value × α → Ent) (v : Value) (ps : List (Value × α)) : Ent := .grp (textsL E pt v ps)
theorem RdP.texts {E T : TypeId} {v : Value} {ps : List (Value × List UInt8)} {w : World} (h : (Ent.texts E (Ent.part T) v ps).holds w) : RdP w v ps := by
  have h : Has 0 w (textsL E (Ent.part T) v ps) := h
  have h0 : w.ownsRow 0 E 1 v ps.length (ps.map (fun q => q.1)) := h.holds (.row v ps.length (ps.map (fun q : Value × List UInt8 => q.1)) E 1) (by simp [textsL])
  refine ⟨Rd.of_row h0, fun q hq => RdB.row (T := T) (h.holds (Ent.part T q) (by simp only [textsL, List.mem_cons, List.mem_map]; exact .inr ⟨q, hq, rfl⟩))⟩
/-- The parts alone. -/
theorem Has.parts {α : Type} {B : Nat} {E : TypeId} {pt : Value × α → Ent} {v : Value} {ps : List (Value × α)} {w : World} (h : Has B w (textsL E pt v ps)) : Has B w (ps.map pt) := h.pick (List.sublist_cons_self _ _)
section
variable {P : Program} {ops : Array Oper} {Q : Exit → Act → World → Prop} {rest : List Oper} {N : Nat} {F F' : List (Nat × Value)} {L L' : List Ent} {M : Nat → Prop} {w0 w : World} {a : Act}
variable {d : Tmp} {op : Op} {ty : TypeId} {pos : String} {aft : Array Edge} {x y z : Operand} {t u : TypeId}
theorem St.join {i j : Nat} {b c e : Ent} (hs : St N F L M w0 a w) (hi : L[i]? = some b) (hj : L[j]? = some c) (hij : i ≠ j) (he : e.holds w) (hk : ∀ k, e.keys k → b.keys k ∨ c.keys k) : St N F ((L.set i e).set j .none) M w0 a w := by
  refine ⟨hs.know, hs.has.join hi hj hij he hk, fun x hx k hxk => ?_, hs.fr⟩
  obtain ⟨p, hp, rfl⟩ := List.getElem_of_mem hx
  rcases set2_at (List.getElem?_eq_some_iff.1 hi).1 (List.getElem?_eq_some_iff.1 hj).1 (List.getElem?_eq_getElem hp) with h | ⟨_, h⟩ | ⟨_, _, h⟩
  · rw [h] at hxk; exact hxk.elim
  · rw [h] at hxk
    exact (hk k hxk).elim (hs.own b (List.mem_of_getElem? hi) k) (hs.own c (List.mem_of_getElem? hj) k)
  · exact hs.own _ (List.mem_of_getElem? h) k hxk
/-- The first things, made one. -/
theorem St.grpn {A : List Ent} (hs : St N F (A ++ L) M w0 a w) : St N F (.grp A :: L) M w0 a w := by
  obtain ⟨h1, h2⟩ := hs.has.cons_app
  refine ⟨hs.know, h2.cons h1 (grp_lt h1) (fun _ _ => Nat.zero_le _) fun x hx k ⟨e, he, hk⟩ hxk => (List.pairwise_append.1 hs.has.apart).2.2 e he x hx k hk hxk, fun x hx k hxk => ?_, hs.fr⟩
  rcases List.mem_cons.1 hx with rfl | hx
  · obtain ⟨e, he, hk⟩ := hxk
    exact hs.own e (List.mem_append.2 (.inl he)) k hk
  · exact hs.own x (List.mem_append.2 (.inr hx)) k hxk
/-- No texts yet. -/
theorem St.texts0 {α : Type} (hs : St N F L M w0 a w) (E : TypeId) (pt : Value × α → Ent) : St N F (.texts E pt (.slice none 0 0) [] :: L) M w0 a w := St.grpn (A := textsL E pt (.slice none 0 0) []) (hs.nilrow E 1)
/-- Texts, put behind texts. -/
theorem s_appG {α : Type} {pt : Value × α → Ent} {i j bytes : Nat} {s0 x0 : Operand} {E : TypeId} {ed : TypeDesc} {zs : List Value} {ps qs : List (Value × α)} {v u : Value} {b : Ent} (hs : St N F L M w0 a w) (hu : P.underlying t = some (.slice E)) (hE : Ty P E ed 1 bytes zs)
    (hv : ev F s0 = some v) (hx : ev F x0 = some u) (hi : L[i]? = some (.texts E pt v ps)) (hj : L[j]? = some b) (hij : Nat.beq i j = false) (hb : Has 0 w (qs.map pt)) (hbk : ∀ q ∈ qs, ∀ k, (pt q).keys k → b.keys k)
    (hr : Rd w u qs.length (qs.map (·.1))) (h1 : (qs.map (·.1)).all (·.oneCell') = true) (hml : ps.length + qs.length ≤ maxLen) (hby : (ps.length + qs.length) * bytes ≤ 140737488355328) (hd : Nat.blt d N = true)
    (k : ∀ a w' v', St N ((d, v') :: F) ((L.set i (.texts E pt v' (ps ++ qs))).set j .none) M w0 a w' → wpList P ops Q rest a w') :
    wpList P ops Q (⟨some d, .call { callee := .builtin .append, args := #[s0, x0], argTypes := #[t, t] }, ty, pos, aft, none⟩ :: rest) a w := by
  have hij : i ≠ j := fun e => by simp [e] at hij
  have hA : Has 0 w (textsL E pt v ps) := hs.get hi
  have hown : w.ownsRow 0 E 1 v ps.length (ps.map (·.1)) := hA.holds (.row v ps.length (ps.map (fun q : Value × α => q.1)) E 1) (by simp [textsL])
  obtain ⟨v', w', hrun, ho, hg, _, hblk⟩ := run_append2 (P := P) (w := w) (ty := ty) hu hE (by decide) hown hr (by simp) h1 hml hby
  have hrun' : (execOp a.eval ⟨some d, .call { callee := .builtin .append, args := #[s0, x0], argTypes := #[t, t] }, ty, pos, aft, none⟩).run P w = .ok (.value v') w' := by
    simp [execOp, resolve, invoke, builtin, hs.ev hv, hs.ev hx, hrun]
  have hap : (Ent.texts E pt v ps).apart b := apart_at hs.has.apart hi hj hij
  have hfr := Fr.grown hg
  have hrow : ∀ k, v.ownBlock = some k → (Ent.texts E pt v ps).keys k := fun k hk => ⟨.row v ps.length (ps.map (fun q : Value × α => q.1)) E 1, by simp [textsL], hk⟩
  have hpk : ∀ q ∈ ps, ∀ k, (pt q).keys k → (Ent.texts E pt v ps).keys k := fun q hq k hk => ⟨pt q, by simp only [textsL, List.mem_cons, List.mem_map]; exact .inr ⟨q, hq, rfl⟩, hk⟩
  have hne : ∀ e ∈ ps.map pt ++ qs.map pt, ∀ k, e.keys k → ¬ v.ownBlock = some k := by
    intro e he k hk hvk
    rcases List.mem_append.1 he with he | he
    · exact (List.pairwise_cons.1 hA.apart).1 e he k hvk hk
    · obtain ⟨q, hq, rfl⟩ := List.mem_map.1 he
      exact hap k (hrow k hvk) (hbk q hq k hk)
  have hmid : Has 0 w (ps.map pt ++ qs.map pt) := by
    have h2 := hA.parts
    refine ⟨fun e he => ?_, List.pairwise_append.2 ⟨h2.apart, hb.apart, fun x hx y hy k hxk hyk => ?_⟩, fun e he k hk => ?_, fun _ _ _ _ => Nat.zero_le _⟩
    · exact (List.mem_append.1 he).elim (h2.holds e) (hb.holds e)
    · obtain ⟨p, hp, rfl⟩ := List.mem_map.1 hx
      obtain ⟨q, hq, rfl⟩ := List.mem_map.1 hy
      exact hap k (hpk p hp k hxk) (hbk q hq k hyk)
    · exact (List.mem_append.1 he).elim (fun r => h2.lt e r k hk) (fun r => hb.lt e r k hk)
  have hmid' : Has 0 w' (ps.map pt ++ qs.map pt) := hmid.same hfr.size fun e he k hk => hfr.block k (hmid.lt e he k hk) fun hm => hne e he k hk hm
  have hnew : Has 0 w' (textsL E pt v' (ps ++ qs)) := by
    have ho2 : w'.ownsRow 0 E 1 v' (ps ++ qs).length ((ps ++ qs).map (·.1)) := by rw [List.length_append, List.map_append]; exact ho
    have := hmid'.cons (e := .row v' (ps ++ qs).length ((ps ++ qs).map (fun q : Value × α => q.1)) E 1) ho2 (fun k hk => ownBlock_row ho2 k hk) (fun _ _ => Nat.zero_le _) fun e he k hk hek => by
      rcases hblk k hk with h3 | h3
      · exact hne e he k hek h3
      · have := hmid.lt e he k hek; omega
    rw [← List.map_append] at this
    exact this
  refine wpList_plain rfl fun K hK => upon_value hrun' (hK _ _ (k _ _ v' (St.put ?_ (lt_of_blt hd) v')))
  have hL : Has 0 w [Ent.texts E pt v ps, b] := ((Has.nil 0 w).cons (hs.get hj) (hs.has.lt b (List.mem_of_getElem? hj)) (fun _ _ => Nat.zero_le _) (by simp)).cons (hs.get hi) (hs.has.lt _ (List.mem_of_getElem? hi)) (fun _ _ => Nat.zero_le _) (by intro x hx; simp at hx; subst hx; exact hap)
  have hs1 := hs.join (e := .grp [Ent.texts E pt v ps, b]) hi hj hij hL (fun k ⟨e, he, hk⟩ => by
    rcases List.mem_cons.1 he with rfl | he
    · exact .inl hk
    · rcases List.mem_cons.1 he with rfl | he
      · exact .inr hk
      · cases he)
  have li := (List.getElem?_eq_some_iff.1 hi).1
  have hi1 : ((L.set i (.grp [Ent.texts E pt v ps, b])).set j .none)[i]? = some (.grp [Ent.texts E pt v ps, b]) := by
    rw [List.getElem?_set_ne (Ne.symm hij), List.getElem?_set_self li]
  have hs2 := hs1.mod (w' := w') (e' := .texts E pt v' (ps ++ qs)) hi1 (hfr.mono fun k _ hk => ⟨_, List.mem_cons_self, hrow k hk⟩) hnew fun k hk => by
    refine ⟨?_, grp_lt hnew k hk⟩
    obtain ⟨e, he, hek⟩ := hk
    simp only [textsL, List.mem_cons, List.mem_map] at he
    rcases he with rfl | ⟨q, hq, rfl⟩
    · exact (hblk k hek).imp (fun r => ⟨_, List.mem_cons_self, hrow k r⟩) id
    · rcases List.mem_append.1 hq with hq | hq
      · exact .inl ⟨_, List.mem_cons_self, hpk q hq k hek⟩
      · exact .inl ⟨b, by simp, hbk q hq k hek⟩
  refine hs2.toL ?_
  rw [List.set_comm _ _ hij, List.set_set, List.set_comm _ _ hij.symm]
/-- One text, put behind texts. -/
theorem s_appT {i j g : Nat} {s0 x0 : Operand} {E T T' : TypeId} {ed : TypeDesc} {zs : List Value} {ps : List (Value × List UInt8)} {v tv : Value} {l : List UInt8} (hs : St N F L M w0 a w) (hu : P.underlying t = some (.slice E)) (hE : Ty P E ed 1 24 zs)
    (hv : ev F s0 = some v) (hx : ev F x0 = some (.slice (some ⟨g, 0, none⟩) 1 1)) (hi : L[i]? = some (.texts E (Ent.part T) v ps)) (hj : L[j]? = some (.row tv l.length (l.map B) T 1)) (hij : Nat.beq i j = false)
    (hg : w.heap[g]? = some (.cells #[tv] T' (0, 0))) (h1 : tv.oneCell' = true) (hml : ps.length ≤ 1000000) (hd : Nat.blt d N = true)
    (k : ∀ a w' v', St N ((d, v') :: F) ((L.set i (.texts E (Ent.part T) v' (ps ++ [(tv, l)]))).set j .none) M w0 a w' → wpList P ops Q rest a w') :
    wpList P ops Q (⟨some d, .call { callee := .builtin .append, args := #[s0, x0], argTypes := #[t, t] }, ty, pos, aft, none⟩ :: rest) a w :=
  s_appG (qs := [(tv, l)]) (b := .row tv l.length (l.map B) T 1) hs hu hE hv hx hi hj hij
    (by
      have := hs.has.lt _ (List.mem_of_getElem? hj)
      exact (Has.nil 0 w).cons (hs.get hj) this (fun _ _ => Nat.zero_le _) (by simp))
    (fun q hq k hk => by simp only [List.mem_singleton] at hq; subst hq; exact hk)
    (Rd.of_seg (all := [tv]) hg (Nat.le_refl _) (by decide) rfl) (by simpa using h1) (by simp only [List.length_cons, List.length_nil, maxLen]; omega) (by simp only [List.length_cons, List.length_nil]; omega) hd k
/-- Texts, put behind texts. -/
theorem s_appTT {i j : Nat} {s0 x0 : Operand} {E T : TypeId} {ed : TypeDesc} {zs : List Value} {ps qs : List (Value × List UInt8)} {v u : Value} (hs : St N F L M w0 a w) (hu : P.underlying t = some (.slice E)) (hE : Ty P E ed 1 24 zs)
    (hv : ev F s0 = some v) (hx : ev F x0 = some u) (hi : L[i]? = some (.texts E (Ent.part T) v ps)) (hj : L[j]? = some (.texts E (Ent.part T) u qs)) (hij : Nat.beq i j = false) (h1 : (qs.map (·.1)).all (·.oneCell') = true) (hml : ps.length + qs.length ≤ 1000000) (hd : Nat.blt d N = true)
    (k : ∀ a w' v', St N ((d, v') :: F) ((L.set i (.texts E (Ent.part T) v' (ps ++ qs))).set j .none) M w0 a w' → wpList P ops Q rest a w') :
    wpList P ops Q (⟨some d, .call { callee := .builtin .append, args := #[s0, x0], argTypes := #[t, t] }, ty, pos, aft, none⟩ :: rest) a w :=
  s_appG (qs := qs) (b := .texts E (Ent.part T) u qs) hs hu hE hv hx hi hj hij (Has.parts (E := E) (pt := Ent.part T) (v := u) (hs.get hj))
    (fun q hq k hk => ⟨Ent.part T q, by simp only [textsL, List.mem_cons, List.mem_map]; exact .inr ⟨q, hq, rfl⟩, hk⟩)
    (RdP.texts (hs.get hj)).1 h1 (by simp only [maxLen]; omega) (by omega) hd k
/-- Slices are one cell each. -/
theorem Rd.one {w : World} {v : Value} {n : Nat} {cs : List Value} (h : Rd w v n cs) : v.oneCell' = true := by
  obtain ⟨ad, cap, rfl, _⟩ := h
  rfl
theorem RdP.ones {w : World} {v : Value} {ps : List (Value × List UInt8)} (h : RdP w v ps) : (ps.map (·.1)).all (·.oneCell') = true := by
  rw [List.all_eq_true]
  intro x hx
  obtain ⟨q, hq, rfl⟩ := List.mem_map.1 hx
  exact (h.2 q hq).one
end
/-- What a call gives that tells texts: v the slice, T, E as above, ls their bytes. -/
def textsE (E T : TypeId) (ls : List (List UInt8)) : Value → List Ent → World → Prop := fun v L _ => ∃ ps : List (Value × List UInt8), ps.map (·.2) = ls ∧ L = [.texts E (Ent.part T) v ps]
end Go.Fw
end

section
/- Slices made with room. -/
set_option linter.unusedSimpArgs false
set_option linter.unusedVariables false
namespace Go.Fw
open Go
section
variable {P : Program} {ops : Array Oper} {Q : Exit → Act → World → Prop} {rest : List Oper} {N : Nat} {F F' : List (Nat × Value)} {L L' : List Ent} {M : Nat → Prop} {w0 w : World} {a : Act}
variable {d : Tmp} {op : Op} {ty : TypeId} {pos : String} {aft : Array Edge} {x y z : Operand} {t u : TypeId}
/-- 'make([]T, 0, m)' -/
theorem s_makeC {E : TypeId} {ed : TypeDesc} {sz bytes m : Nat} {zs : List Value} {k1 k2 : IntKind} {i1 i2 : Int} (hs : St N F L M w0 a w) (hu : P.underlying t = some (.slice E)) (hE : Ty P E ed sz bytes zs) (h1 : ev F x = some (.int k1 i1)) (h2 : ev F y = some (.int k2 i2))
    (hi1 : i1 = 0) (hi2 : i2 = (m : Int)) (hby : bytes * m ≤ 281474976710656) (h63 : m ≤ maxLen) (hd : Nat.blt d N = true)
    (k : ∀ a w gb, St N ((d, .slice (some ⟨gb, 0, none⟩) 0 m) :: F) (.row (.slice (some ⟨gb, 0, none⟩) 0 m) 0 [] E sz :: L) M w0 a w → wpList P ops Q rest a w) :
    wpList P ops Q (⟨some d, .makeSlice t x y, ty, pos, aft, none⟩ :: rest) a w := by
  subst hi1; subst hi2
  obtain ⟨inf, hi1, hi2, hi3, zv, hi4, hi5⟩ := hE.info
  have h63' : (m : Int) ≤ 9223372036854775807 := by simp only [maxLen] at h63; omega
  have hb' : (inf.bytes : Int) * (m : Int) ≤ 281474976710656 := by
    have h : ((bytes * m : Nat) : Int) ≤ 281474976710656 := by omega
    rwa [Int.natCast_mul, ← hi3] at h
  have hr := run_make (P := P) w t E inf zv hu hi1 hi4 k1 k2 0 m (Int.le_refl _) (by omega) hb' h63'
  simp only [Int.toNat_natCast, Int.toNat_zero] at hr
  refine s_new hs (L' := [.row (.slice (some ⟨w.heap.size, 0, none⟩) 0 m) 0 [] E sz]) (w' := w.alloc (.cells (madeCells zv.cells (m * inf.size)) E)) ?_ hd (.alloc _ _) ?_ fun a hs => k a _ _ hs
  · simp [execOp, hs.ev h1, hs.ev h2, hr]
  · refine ⟨?_, List.pairwise_singleton _ _, ?_, ?_⟩
    · intro e he; simp at he; subst he
      exact ⟨by simp, .inr ⟨_, m, _, rfl, Nat.zero_le _, heap_alloc_new w _, Nat.zero_le _, h63, by simp [madeCells, hi2], by simp⟩⟩
    · intro e he k hk; simp at he; subst he
      simp [Ent.keys, Value.ownBlock] at hk
      subst hk; simp
    · intro e he k hk; simp at he; subst he
      simp [Ent.keys, Value.ownBlock] at hk
      subst hk; simp
end
end Go.Fw
end

section
/- Two results, the first one known. -/
set_option linter.unusedSimpArgs false
set_option linter.unusedVariables false
namespace Go.Fw
open Go
def tupE (c : Value) (E : Value → List Ent → World → Prop) : Value → List Ent → World → Prop := fun v L w => ∃ tv, v = .tuple #[c, tv] ∧ E tv L w
section
variable {P : Program} {ops : Array Oper} {N B1 : Nat} {w1 : World} {K : List (Nat × Value) → Fes → Prop} {Fc : List (Nat × Value)} {Fe : Fes} {rest : List Oper}
variable {d : Tmp} {op : Op} {ty : TypeId} {pos : String} {aft : Array Edge} {x y z : Operand} {t u : TypeId}
end
section
variable {P : Program} {ops : Array Oper} {Q : Exit → Act → World → Prop} {rest : List Oper} {N : Nat} {F F' : List (Nat × Value)} {L L' : List Ent} {M : Nat → Prop} {w0 w : World} {a : Act}
variable {d : Tmp} {op : Op} {ty : TypeId} {pos : String} {aft : Array Edge} {x y z : Operand} {t u : TypeId}
/-- Stores that are the first operation of a tail. -/
theorem sk_store {i : Nat} {l : List Oper} {J : List Nat} {T' : TypeId} {td : TypeDesc} {sz bytes : Nat} {zz : List Value} {gb o : Nat} {cs cs' c : List Value} {v : Value} (hs : St N F L M w0 a w) (hT : Ty P t td sz bytes zz)
    (hx : ev F x = some (.pointer (some ⟨gb, o, none⟩))) (hy : ev F y = some v) (hi : L[i]? = some (.seg gb cs T')) (hv : v.cells.toList = c) (hl : c.length = sz) (h1 : c.all (·.oneCell') = true) (hfit : o + sz ≤ cs.length)
    (hcs : cs.take o ++ c ++ cs.drop (o + sz) = cs') (hlate : ∀ w, St N F (L.set i (.seg gb cs' T')) M w0 a w → lateOk P l a w J) (k : ∀ w, St N F (L.set i (.seg gb cs' T')) M w0 a w → wpList P ops Q rest a w) :
    First P ops Q l J ⟨none, .store t x y, ty, pos, aft, none⟩ rest a w := by
  have hr := c_store (P := P) (w := w) (d := none) (ty := ty) (pos := pos) (aft := aft) (g := none) hT (hs.ev hx) (hs.ev hy) hv hl h1 (hs.seg hi) hfit
  rw [hcs] at hr
  have hs2 : St N F (L.set i (.seg gb cs' T')) M w0 a { w with heap := (w.setRow gb cs'.toArray).heap } := hs.mod hi (.setRow w gb _) (setRow_heap w gb _ _ _ _ (hs.seg hi)) (fun j hj => ⟨.inl hj, by
    have h2 : gb < w.heap.size := hs.has.lt _ (List.mem_of_getElem? hi) gb rfl
    cases hj
    simpa using h2⟩)
  exact ⟨_, _, undef, hr, .inl ⟨rfl, rfl⟩, hlate _ hs2, k _ hs2⟩
theorem sk_storeW {i : Nat} {l : List Oper} {J : List Nat} {T' : TypeId} {td : TypeDesc} {sz bytes : Nat} {zz : List Value} {gb : Nat} {cs c : List Value} (hs : St N F L M w0 a w) (hT : Ty P t td sz bytes zz)
    (hx : ev F x = some (.pointer (some ⟨gb, 0, none⟩))) (hy : ev F y = some (.agg c.toArray)) (hi : L[i]? = some (.seg gb cs T')) (hl : c.length = sz) (h1 : c.all (·.oneCell') = true) (hcs : cs.length = sz)
    (hlate : ∀ w, St N F (L.set i (.seg gb c T')) M w0 a w → lateOk P l a w J) (k : ∀ w, St N F (L.set i (.seg gb c T')) M w0 a w → wpList P ops Q rest a w) :
    First P ops Q l J ⟨none, .store t x y, ty, pos, aft, none⟩ rest a w :=
  sk_store hs hT hx hy hi (by simp [Value.cells]) hl h1 (by omega) (by simp [hcs]) hlate k
end
end Go.Fw
end

section
/- Comparisons of arrays of arrays of bytes; literals of numbers. -/
set_option linter.unusedSimpArgs false
set_option linter.unusedVariables false
namespace Go.Fw
open Go
section
variable {P : Program} {a : Act} {w : World} {d : Option Tmp} {ty : TypeId} {pos : String} {aft : Array Edge} {g : Option (Nat × Bool)} {x y z : Operand} {t u : TypeId}
def piece (l : List UInt8) (m i : Nat) : List UInt8 := (l.drop (i * m)).take m
theorem pieces_eq {n m : Nat} (hm : 0 < m) {xs ys : List UInt8} (hx : xs.length = n * m) (hy : ys.length = n * m) : (∀ i, i < n → piece xs m i = piece ys m i) ↔ xs = ys := by
  constructor
  · intro h
    apply List.ext_getElem (by omega)
    intro j h1 h2
    have hj : j / m < n := Nat.div_lt_of_lt_mul (by rw [Nat.mul_comm]; omega)
    have e2 := congrArg (fun l : List UInt8 => l[j % m]?) (h (j / m) hj)
    simp only [piece] at e2
    have hmod := Nat.mod_lt j hm
    rw [List.getElem?_take_of_lt hmod, List.getElem?_take_of_lt hmod, List.getElem?_drop, List.getElem?_drop, Nat.div_add_mod', List.getElem?_eq_getElem h1, List.getElem?_eq_getElem h2] at e2
    exact Option.some.inj e2
  · rintro rfl i _
    rfl
end
end Go.Fw
end

section
/- Guarded calls in a region that draws, whatever the guard; reading rows of many cells. -/
set_option linter.unusedSimpArgs false
set_option linter.unusedVariables false
namespace Go.Fw
open Go
section
variable {P : Program} {ops : Array Oper} {N B1 : Nat} {w1 : World} {K : List (Nat × Value) → Fes → Prop} {Fc : List (Nat × Value)} {Fe : Fes} {rest : List Oper}
variable {d : Tmp} {op : Op} {ty : TypeId} {pos : String} {aft : Array Edge}
end
/-- One of the rows of m bytes behind a slice. -/
theorem rowpiece {n m i : Nat} {xs : List UInt8} {cur : Array Value} (h : cur.toList.take (n * m) = xs.map B) (hx : xs.length = n * m) (hi : i < n) : (cur.toList.drop (0 + i * m)).take m = ((xs.drop (i * m)).take m).map B := by
  have hle : (i + 1) * m ≤ n * m := Nat.mul_le_mul_right _ (by omega)
  rw [Nat.succ_mul] at hle
  have h2 : ((cur.toList.take (n * m)).drop (i * m)).take m = ((xs.map B).drop (i * m)).take m := by rw [h]
  rw [List.drop_take, List.take_take, Nat.min_eq_left (by omega)] at h2
  rw [Nat.zero_add, h2, List.map_take, List.map_drop]
end Go.Fw
end

section
/- More conversions. -/
set_option linter.unusedSimpArgs false
set_option linter.unusedVariables false
namespace Go.Fw
open Go
section
variable {P : Program} {a : Act} {w : World} {d : Option Tmp} {ty : TypeId} {pos : String} {aft : Array Edge} {g : Option (Nat × Bool)} {x y z : Operand} {t u : TypeId}
theorem c_cvVI {ds : TypeDesc} {b : UInt64} (hs : P.underlying t = some ds) (hd : P.underlying u = some (.int .i64)) (hx : a.eval x = V b) (hb : b.toNat ≤ 9223372036854775807) : (execOp a.eval ⟨d, .convert t u x, ty, pos, aft, g⟩).run P w = .ok (.value (I b.toNat)) w := by
  rw [c_conv hs hd hx, wrap64_in (by omega) (by omega)]
end
end Go.Fw
end

section
/- Guarded calls, whatever the guard. -/
set_option linter.unusedSimpArgs false
set_option linter.unusedVariables false
namespace Go.Fw
open Go
section
variable {P : Program} {ops : Array Oper} {Q : Exit → Act → World → Prop} {rest : List Oper} {N : Nat} {F F' : List (Nat × Value)} {L L' : List Ent} {M : Nat → Prop} {w0 w : World} {a : Act}
variable {d : Tmp} {op : Op} {ty : TypeId} {pos : String} {aft : Array Edge} {x y z : Operand} {t u : TypeId}
theorem s_gcall {f : FuncId} {args : Array Operand} {vs : List Value} {tys : Array TypeId} {v : Value} {j s : Nat} {b c : Bool} (hs : St N F L M w0 a w) (hj : (ops[j]?).bind (·.dst) = some s) (hb : look F s = some (.bool c)) (hF : Fun P f)
    (hargs : c = b → Evs a args.toList vs) (hc : c = b → Ctr P f vs w (fun _ => False) fun u _ => u = v) (hd : Nat.blt d N = true)
    (k : ∀ a w', Fr0 w w' → St N ((d, if c = b then v else undef) :: F) L M w0 a w' → wpList P ops Q rest a w') :
    wpList P ops Q (⟨some d, .call { callee := .value (.func f), args := args, argTypes := tys }, ty, pos, aft, some (j, b)⟩ :: rest) a w := by
  by_cases e : c = b
  · rw [if_pos e] at k
    subst e
    refine s_yes hs hj hb (s_call hs hF (hargs rfl) (hc rfl) hd fun a w' v' hf hp hs => ?_)
    subst hp
    exact k _ _ hf (hs [] (.nil _ _))
  · rw [if_neg e] at k
    exact s_no hs hj hb (by cases c <;> cases b <;> simp_all) hd fun a hs => k a w (.refl _ _) hs
end
end Go.Fw
end

section
/- Levels, places, leaves, joins. -/
set_option linter.unusedSimpArgs false
set_option linter.unusedVariables false
set_option maxRecDepth 100000
namespace Go.Proofs.Ytmgnnclkjkbmdaa
open Go Go.Fw
open Sha
theorem pow_pos (j : Nat) : (0 : Int) < 2 ^ j := Int.pow_pos (by decide)
end Go.Proofs.Ytmgnnclkjkbmdaa
end

section
/- Rows of rows of many cells. -/
set_option linter.unusedSimpArgs false
set_option linter.unusedVariables false
namespace Go.Fw
open Go
/-- A slice that is owned, and not empty. -/
theorem owns_at {n sz : Nat} {v : Value} {xs : List Value} {T : TypeId} {w : World} (h : w.ownsRow 0 T sz v n xs) (hn : 0 < n) :
    ∃ g cap cur, v = .slice (some ⟨g, 0, none⟩) n cap ∧ w.heap[g]? = some (.cells cur T (0, 0)) ∧ n ≤ cap ∧ cap ≤ maxLen ∧ cur.toList.take (n * sz) = xs := by
  obtain ⟨h1, h2⟩ := h
  rcases h2 with ⟨_, h3⟩ | ⟨g, cap, cur, h3, _, h4, h5, h6, h7, h8⟩
  · omega
  · exact ⟨g, cap, cur, h3, h4, h5, h6, h8⟩
theorem texts_at {α : Type} {E : TypeId} {pt : Value × α → Ent} {v : Value} {ps : List (Value × α)} {w : World} (h : (Ent.texts E pt v ps).holds w) (hn : 0 < ps.length) :
    ∃ g cap cur, v = .slice (some ⟨g, 0, none⟩) ps.length cap ∧ w.heap[g]? = some (.cells cur E (0, 0)) ∧ ps.length ≤ cap ∧ cap ≤ maxLen ∧ cur.toList.take (ps.length * 1) = ps.map (fun q => q.1) := by
  have h : Has 0 w (textsL E pt v ps) := h
  exact owns_at (h.holds (.row v ps.length (ps.map (fun q : Value × α => q.1)) E 1) (by simp [textsL])) hn
theorem texts_part {α : Type} {E : TypeId} {pt : Value × α → Ent} {v : Value} {ps : List (Value × α)} {w : World} (h : (Ent.texts E pt v ps).holds w) {k : Nat} (hk : k < ps.length) (d : Value × α) : (pt (ps.getD k d)).holds w := by
  have h : Has 0 w (textsL E pt v ps) := h
  refine h.holds _ ?_
  simp only [textsL, List.mem_cons, List.mem_map]
  exact .inr ⟨ps.getD k d, by simp [List.getD, hk], rfl⟩
/-- The value at a place of a slice of slices. -/
theorem outcell {α : Type} {n k : Nat} {ps : List (Value × α)} {cur : Array Value} (d : Value × α) (h : cur.toList.take (n * 1) = ps.map (fun q => q.1)) (hk : k < ps.length) : cur.toList[0 + k * 1]? = some (ps.getD k d).1 := by
  have h2 : (cur.toList.take (n * 1))[k]? = some (ps.getD k d).1 := by rw [h]; simp [List.getD, hk]
  rw [List.getElem?_take] at h2
  split at h2
  · simpa using h2
  · cases h2
section
variable {P : Program} {ops : Array Oper} {Q : Exit → Act → World → Prop} {rest : List Oper} {N : Nat} {F F' : List (Nat × Value)} {L L' : List Ent} {M : Nat → Prop} {w0 w : World} {a : Act}
variable {d : Tmp} {op : Op} {ty : TypeId} {pos : String} {aft : Array Edge} {x y z : Operand} {t u : TypeId}
/-- One row, put behind rows. -/
theorem s_appP {α : Type} {pt : Value × α → Ent} {i j g : Nat} {s0 x0 : Operand} {E T' : TypeId} {ed : TypeDesc} {zs : List Value} {ps : List (Value × α)} {v tv : Value} {z : α} (hs : St N F L M w0 a w) (hu : P.underlying t = some (.slice E)) (hE : Ty P E ed 1 24 zs)
    (hv : ev F s0 = some v) (hx : ev F x0 = some (.slice (some ⟨g, 0, none⟩) 1 1)) (hi : L[i]? = some (.texts E pt v ps)) (hj : L[j]? = some (pt (tv, z))) (hij : Nat.beq i j = false)
    (hg : w.heap[g]? = some (.cells #[tv] T' (0, 0))) (h1 : tv.oneCell' = true) (hml : ps.length ≤ 1000000) (hd : Nat.blt d N = true)
    (k : ∀ a w' v', St N ((d, v') :: F) ((L.set i (.texts E pt v' (ps ++ [(tv, z)]))).set j .none) M w0 a w' → wpList P ops Q rest a w') :
    wpList P ops Q (⟨some d, .call { callee := .builtin .append, args := #[s0, x0], argTypes := #[t, t] }, ty, pos, aft, none⟩ :: rest) a w :=
  s_appG (qs := [(tv, z)]) (b := pt (tv, z)) hs hu hE hv hx hi hj hij
    (by
      have := hs.has.lt _ (List.mem_of_getElem? hj)
      exact (Has.nil 0 w).cons (hs.get hj) this (fun _ _ => Nat.zero_le _) (by simp))
    (fun q hq k hk => by simp only [List.mem_singleton] at hq; subst hq; exact hk)
    (Rd.of_seg (all := [tv]) hg (Nat.le_refl _) (by decide) rfl) (by simpa using h1) (by simp only [List.length_cons, List.length_nil, maxLen]; omega) (by simp only [List.length_cons, List.length_nil]; omega) hd k
end
end Go.Fw
end

section
/- The tree of a rung. -/
set_option linter.unusedSimpArgs false
set_option linter.unusedVariables false
set_option maxRecDepth 100000
namespace Go.Proofs.Ytmgnnclkjkbmdaa
open Go Go.Fw
open Sha
theorem pow_pos' (k : Nat) : 0 < 2 ^ k := Nat.two_pow_pos k
theorem pow_one {k : Nat} (h : ¬ 1 < 2 ^ k) : k = 0 := by
  cases k with
  | zero => rfl
  | succ k => exfalso; have := Nat.two_pow_pos k; rw [Nat.pow_succ] at h; omega
theorem pow_more {k : Nat} (h : 1 < 2 ^ k) : 0 < k := by
  cases k with
  | zero => simp at h
  | succ k => omega
theorem snd_at {α β : Type} {ps : List (α × β)} {f : Nat → β} {n k : Nat} (h : ps.map (·.2) = (List.range n).map f) (hk : k < n) (d : α × β) : (ps.getD k d).2 = f k := by
  have hl : ps.length = n := by have := congrArg List.length h; simpa using this
  have h2 := congrArg (fun l : List β => l[k]?) h
  simp only [List.getElem?_map, List.getElem?_range hk, List.getElem?_eq_getElem (show k < ps.length by omega), Option.map_some] at h2
  rw [List.getD, List.getElem?_eq_getElem (by omega)]
  exact Option.some.inj h2
end Go.Proofs.Ytmgnnclkjkbmdaa
end

section
/- Clashes: two unlike texts with one short sum. -/
set_option linter.unusedSimpArgs false
set_option linter.unusedVariables false
set_option maxRecDepth 100000
namespace Go.Proofs.Ytmgnnclkjkbmdaa
open Go Go.Fw
open Sha Ots
theorem bneL (a b : List UInt8) : (a != b) = decide (a ≠ b) := by by_cases h : a = b <;> simp [h]
/-- The text at a place. -/
def txt (xs : List (Value × List UInt8)) (k : Nat) : List UInt8 := (xs.getD k (.nilIface, [])).2
def hit (xs bs : List (Value × List UInt8)) (i q : Nat) : Bool := decide (ofT (txt xs i) = ofT (txt bs q)) && decide (txt xs i ≠ txt bs q)
theorem txt_mem {xs : List (Value × List UInt8)} {k : Nat} (h : k < xs.length) : txt xs k ∈ xs.map (·.2) := by
  rw [txt, List.getD, List.getElem?_eq_getElem h]
  exact List.mem_map_of_mem (List.getElem_mem h)
theorem mem_txt {xs : List (Value × List UInt8)} {x : List UInt8} (h : x ∈ xs.map (·.2)) : ∃ k, k < xs.length ∧ txt xs k = x := by
  obtain ⟨q, hq, rfl⟩ := List.mem_map.1 h
  obtain ⟨k, hk, rfl⟩ := List.getElem_of_mem hq
  exact ⟨k, hk, by simp [txt, List.getD, hk]⟩
theorem clash_hit {xs bs : List (Value × List UInt8)} {i q : Nat} (hi : i < xs.length) (hq : q < bs.length) (h : hit xs bs i q = true) : clash (xs.map (·.2)) (bs.map (·.2)) = true := by
  unfold hit at h
  exact List.any_eq_true.2 ⟨_, txt_mem hi, List.any_eq_true.2 ⟨_, txt_mem hq, h⟩⟩
theorem clash_none {xs bs : List (Value × List UInt8)} (h : ∀ i, i < xs.length → ∀ q, q < bs.length → hit xs bs i q = false) : clash (xs.map (·.2)) (bs.map (·.2)) = false := by
  apply Bool.eq_false_iff.2
  intro hc
  obtain ⟨x, hx, hz⟩ := List.any_eq_true.1 hc
  obtain ⟨y, hy, hxy⟩ := List.any_eq_true.1 hz
  obtain ⟨i, hi, rfl⟩ := mem_txt hx
  obtain ⟨q, hq, rfl⟩ := mem_txt hy
  have := h i hi q hq
  unfold hit at this
  rw [this] at hxy
  cases hxy
/-- The short sums of the first n texts. -/
def sums (xs : List (Value × List UInt8)) (n : Nat) : List UInt8 := rows (fun k => ofT (txt xs k)) n
theorem sums_len (xs : List (Value × List UInt8)) (n : Nat) : (sums xs n).length = n * 16 := by rw [sums, rows_length (N := n) (fun _ _ => rfl) n (Nat.le_refl _)]; omega
theorem sums_succ (xs : List (Value × List UInt8)) (n : Nat) : sums xs (n + 1) = sums xs n ++ ofT (txt xs n) := rows_succ _ _
theorem sums_piece (xs : List (Value × List UInt8)) {n i : Nat} (h : i < n) : ((sums xs n).drop (i * 16)).take 16 = ofT (txt xs i) := by
  have := rows_chunk (f := fun k => ofT (txt xs k)) (N := n) (fun _ _ => rfl) n (Nat.le_refl _) i h
  rw [← this, chunk, Nat.mul_comm]
  rfl
/-- Each text has a kind, and isn't too long. -/
def Good (xs : List (Value × List UInt8)) : Prop := xs.length ≤ 1000000 ∧ ∀ k, k < xs.length → ∃ kd tx, txt xs k = kd :: tx ∧ tx.length ≤ 140737488355199
theorem good_of {ps : List (Value × List UInt8)} {ls : List (List UInt8)} (h : ps.map (·.2) = ls) (hl : ls.length ≤ 1000000) (ha : ∀ t ∈ ls, ∃ kd tx, t = kd :: tx ∧ tx.length ≤ 140737488355199) : Good ps := by
  refine ⟨by rw [← h, List.length_map] at hl; exact hl, fun k hk => ?_⟩
  exact ha _ (h ▸ txt_mem hk)
set_option maxHeartbeats 4000000 in
theorem ref06_Clash (xs bs : List (Value × List UInt8)) (av bv : Value) (hga : Good xs) (hgb : Good bs) (w : World) (hqa : RdP w av xs) (hqb : RdP w bv bs) : Ctr Try.prog 66 [av, bv] w (fun _ => False) (fun v _ => v = .bool (clash (xs.map (·.2)) (bs.map (·.2)))) := by
  have hal := hqa.1.le
  have hbl := hqb.1.le
  have hal2 := hga.1
  have hbl2 := hgb.1
  obtain ⟨aad, acap, rfl, hac, ham⟩ := hqa.sl
  obtain ⟨bad, bcap, rfl, hbc, hbm⟩ := hqb.sl
  refine fn_start (N := 73) Try.func66 rfl rfl rfl fun ac hk => ?_
  have hs := St.start hk w
  refine wp_seq ?_
  refine wp_reg ?_
  refine s_q hs (c_assign (hs.ev rfl)) rfl fun ac hs => ?_
  refine s_end ?_
  refine then_n ?_
  refine wp_seq ?_
  refine wp_reg ?_
  refine s_q hs (c_assign (hs.ev rfl)) rfl fun ac hs => ?_
  refine s_q hs (c_assign (hs.ev rfl)) rfl fun ac hs => ?_
  refine s_end ?_
  replace hs := (hs.nilrow 22 16).nilrow 22 16
  refine then_n ?_
  refine wp_seq ?_
  refine wp_seq ?_
  refine wp_reg ?_
  refine s_q hs (c_assign (hs.ev rfl)) rfl fun ac hs => ?_
  refine s_end ?_
  refine then_n ?_
  refine wp_block ?_
  refine s_loop hs (X := Nat × Value) (fun x => [(5, x.2), (7, I x.1)]) [(0, _), (1, _), (4, _), (6, _)] (fun x => [_, .row x.2 (x.1) ((sums xs (x.1)).map B) 22 16]) (fun n x => x.1 ≤ xs.length ∧ n = xs.length - x.1) (_) ((0, _)) (⟨Nat.zero_le _, rfl⟩) ⟨rfl, rfl, rfl, rfl, rfl, rfl, trivial⟩ rfl ?_
  rintro n ⟨k, v⟩ ac ww hok hs
  simp only [List.cons_append, List.nil_append] at hs
  obtain ⟨hk, rfl⟩ := hok
  simp only at hk hs
  refine wp_seq ?_
  refine wp_seq ?_
  refine wp_reg ?_
  refine s_q hs (c_move (hs.ev rfl)) rfl fun ac hs => ?_
  refine s_q hs (c_move (hs.ev rfl)) rfl fun ac hs => ?_
  refine s_q hs (c_lenS un30 (hs.ev rfl)) rfl fun ac hs => ?_
  refine s_q hs (c_lssI (hs.ev rfl) (hs.ev rfl)) rfl fun ac hs => ?_
  refine s_end ?_
  refine then_n ?_
  refine s_cond hs rfl (fun hc => ?_) (fun hc => ?_)
  · try simp only [decide_eq_true_eq, decide_eq_false_iff_not, Bool.not_eq_true', Bool.not_eq_false', Bool.and_eq_true, Bool.or_eq_true, Bool.or_eq_false_iff] at hc
    have hka : k < xs.length := by omega
    obtain ⟨pb, po, pT, pf, pall, rfl, hpb, hps⟩ := hqa.at' (by omega)
    obtain ⟨kd, tx, htx, hxl⟩ := hga.2 k hka
    have hrd := hqa.get hka
    rw [show (xs.getD k (.nilIface, [])).2 = kd :: tx from htx] at hrd
    refine wp_skip ?_
    refine then_n ?_
    refine wp_seq ?_
    refine wp_block ?_
    refine wp_reg ?_
    refine s_q hs (c_move (hs.ev rfl)) rfl fun ac hs => ?_
    refine s_q hs (c_move (hs.ev rfl)) rfl fun ac hs => ?_
    refine s_q hs (c_move (hs.ev rfl)) rfl fun ac hs => ?_
    refine s_q hs (c_idxS (j := k) un30 ty34 (hs.ev rfl) (hs.ev rfl) (by omega) (by omega)) rfl fun ac hs => ?_
    refine s_q hs (c_loadS un34 rfl (hs.ev rfl) (hs.old hpb id) (seg_get (.nilIface, []) hps (by omega))) rfl fun ac hs => ?_
    refine s_call hs fu54 (.cons (hs.ev rfl) .nil) (ref06_Of kd tx _ hxl _ (hrd.fr0 hs.fr)) rfl fun ac ww v22 hf hp hs => ?_
    obtain rfl := hp
    replace hs := hs [] (.nil _ _)
    refine s_bslice hs un109 ty22 (.cons (hs.ev rfl) .nil) rfl (by intro v hv; simp only [List.mem_singleton] at hv; subst hv; simp [Value.cells]) (by decide) (show _ = (short kd tx).map B by simp [flatCells, Value.cells]) rfl fun ac ww g23 hs => ?_
    refine s_append (i := 2) hs un109 ty22 (by decide) rfl rfl rfl (Rd.of_seg (n := 1) (hs.seg (i := 0) rfl) (Nat.le_refl _) (by decide) (List.take_of_length_le (by simp))) (by simp) (all_map_B _) (by unfold maxLen; omega) (by omega) rfl fun ac ww v24 hf hnil hs => ?_
    rw [show short kd tx = ofT (txt xs k) from by rw [htx]; rfl] at hs
    refine s_q hs (c_assign (hs.ev rfl)) rfl fun ac hs => ?_
    refine s_end ?_
    replace hs := hs.pick (L' := [_, _]) (.cons _ (.refl _))
    refine blk_n ?_
    refine then_n ?_
    refine wp_reg ?_
    refine s_q hs (c_move (hs.ev rfl)) rfl fun ac hs => ?_
    refine s_q hs (c_addI (hs.ev rfl) (hs.ev rfl) (by omega) (by omega)) rfl fun ac hs => ?_
    refine s_q hs (c_assign (hs.ev rfl)) rfl fun ac hs => ?_
    refine s_end ?_
    refine then_n ?_
    exact ⟨xs.length - (k + 1), by (try simp only); omega, (k + 1, _), ⟨by (try simp only); omega, rfl⟩, St.next hs ⟨rfl, rfl, rfl, rfl, rfl, rfl, trivial⟩ (by rw [sums_succ, List.map_append]; try rfl)⟩
  · try simp only [decide_eq_true_eq, decide_eq_false_iff_not, Bool.not_eq_true', Bool.not_eq_false', Bool.and_eq_true, Bool.or_eq_true, Bool.or_eq_false_iff] at hc
    obtain rfl : k = xs.length := by omega
    refine wp_exit ?_
    refine then_e ?_
    refine then_e ?_
    refine blk_hit ?_
    refine then_n ?_
    refine wp_seq ?_
    refine wp_seq ?_
    refine wp_reg ?_
    refine s_q hs (c_assign (hs.ev rfl)) rfl fun ac hs => ?_
    refine s_end ?_
    replace hs := hs.sub (F' := [(0, _), (1, _), (4, _), (5, _), (6, _), (8, _)]) ⟨rfl, rfl, rfl, rfl, rfl, rfl, trivial⟩
    refine then_n ?_
    refine wp_block ?_
    refine s_loop hs (X := Nat × Value) (fun x => [(6, x.2), (8, I x.1)]) [(0, _), (1, _), (4, _), (5, _)] (fun x => [.row x.2 (x.1) ((sums bs (x.1)).map B) 22 16, _]) (fun n x => x.1 ≤ bs.length ∧ n = bs.length - x.1) (_) ((0, _)) (⟨Nat.zero_le _, rfl⟩) ⟨rfl, rfl, rfl, rfl, rfl, rfl, trivial⟩ rfl ?_
    rintro n ⟨k, v⟩ ac ww hok hs
    simp only [List.cons_append, List.nil_append] at hs
    obtain ⟨hk, rfl⟩ := hok
    simp only at hk hs
    refine wp_seq ?_
    refine wp_seq ?_
    refine wp_reg ?_
    refine s_q hs (c_move (hs.ev rfl)) rfl fun ac hs => ?_
    refine s_q hs (c_move (hs.ev rfl)) rfl fun ac hs => ?_
    refine s_q hs (c_lenS un30 (hs.ev rfl)) rfl fun ac hs => ?_
    refine s_q hs (c_lssI (hs.ev rfl) (hs.ev rfl)) rfl fun ac hs => ?_
    refine s_end ?_
    refine then_n ?_
    refine s_cond hs rfl (fun hc => ?_) (fun hc => ?_)
    · try simp only [decide_eq_true_eq, decide_eq_false_iff_not, Bool.not_eq_true', Bool.not_eq_false', Bool.and_eq_true, Bool.or_eq_true, Bool.or_eq_false_iff] at hc
      have hkb : k < bs.length := by omega
      obtain ⟨pb, po, pT, pf, pall, rfl, hpb, hps⟩ := hqb.at' (by omega)
      obtain ⟨kd, tx, htx, hxl⟩ := hgb.2 k hkb
      have hrd := hqb.get hkb
      rw [show (bs.getD k (.nilIface, [])).2 = kd :: tx from htx] at hrd
      refine wp_skip ?_
      refine then_n ?_
      refine wp_seq ?_
      refine wp_block ?_
      refine wp_reg ?_
      refine s_q hs (c_move (hs.ev rfl)) rfl fun ac hs => ?_
      refine s_q hs (c_move (hs.ev rfl)) rfl fun ac hs => ?_
      refine s_q hs (c_move (hs.ev rfl)) rfl fun ac hs => ?_
      refine s_q hs (c_idxS (j := k) un30 ty34 (hs.ev rfl) (hs.ev rfl) (by omega) (by omega)) rfl fun ac hs => ?_
      refine s_q hs (c_loadS un34 rfl (hs.ev rfl) (hs.old hpb id) (seg_get (.nilIface, []) hps (by omega))) rfl fun ac hs => ?_
      refine s_call hs fu54 (.cons (hs.ev rfl) .nil) (ref06_Of kd tx _ hxl _ (hrd.fr0 hs.fr)) rfl fun ac ww v36 hf hp hs => ?_
      obtain rfl := hp
      replace hs := hs [] (.nil _ _)
      refine s_bslice hs un109 ty22 (.cons (hs.ev rfl) .nil) rfl (by intro v hv; simp only [List.mem_singleton] at hv; subst hv; simp [Value.cells]) (by decide) (show _ = (short kd tx).map B by simp [flatCells, Value.cells]) rfl fun ac ww g37 hs => ?_
      refine s_append (i := 1) hs un109 ty22 (by decide) rfl rfl rfl (Rd.of_seg (n := 1) (hs.seg (i := 0) rfl) (Nat.le_refl _) (by decide) (List.take_of_length_le (by simp))) (by simp) (all_map_B _) (by unfold maxLen; omega) (by omega) rfl fun ac ww v38 hf hnil hs => ?_
      rw [show short kd tx = ofT (txt bs k) from by rw [htx]; rfl] at hs
      refine s_q hs (c_assign (hs.ev rfl)) rfl fun ac hs => ?_
      refine s_end ?_
      replace hs := hs.pick (L' := [_, _]) (.cons _ (.refl _))
      refine blk_n ?_
      refine then_n ?_
      refine wp_reg ?_
      refine s_q hs (c_move (hs.ev rfl)) rfl fun ac hs => ?_
      refine s_q hs (c_addI (hs.ev rfl) (hs.ev rfl) (by omega) (by omega)) rfl fun ac hs => ?_
      refine s_q hs (c_assign (hs.ev rfl)) rfl fun ac hs => ?_
      refine s_end ?_
      refine then_n ?_
      exact ⟨bs.length - (k + 1), by (try simp only); omega, (k + 1, _), ⟨by (try simp only); omega, rfl⟩, St.next hs ⟨rfl, rfl, rfl, rfl, rfl, rfl, trivial⟩ (by rw [sums_succ, List.map_append]; try rfl)⟩
    · try simp only [decide_eq_true_eq, decide_eq_false_iff_not, Bool.not_eq_true', Bool.not_eq_false', Bool.and_eq_true, Bool.or_eq_true, Bool.or_eq_false_iff] at hc
      obtain rfl : k = bs.length := by omega
      refine wp_exit ?_
      refine then_e ?_
      refine then_e ?_
      refine blk_hit ?_
      refine then_n ?_
      refine wp_seq ?_
      refine wp_seq ?_
      refine wp_reg ?_
      refine s_q hs (c_assign (hs.ev rfl)) rfl fun ac hs => ?_
      refine s_end ?_
      replace hs := hs.sub (F' := [(0, _), (1, _), (4, _), (5, _), (6, _), (9, _)]) ⟨rfl, rfl, rfl, rfl, rfl, rfl, trivial⟩
      refine then_n ?_
      refine wp_block ?_
      refine s_loop hs (X := Nat) (fun i => [(9, I i)]) [(0, _), (1, _), (5, _), (6, _)] (fun _ => [_, _]) (fun n i => i ≤ xs.length ∧ n = xs.length - i ∧ ∀ i2, i2 < i → ∀ q, q < bs.length → hit xs bs i2 q = false) (_) (0) (⟨Nat.zero_le _, rfl, fun _ h => absurd h (by omega)⟩) ⟨rfl, rfl, rfl, rfl, rfl, trivial⟩ rfl ?_
      rintro n i ac ww hok hs
      simp only [List.cons_append, List.nil_append] at hs
      obtain ⟨hi, rfl, hno⟩ := hok
      refine wp_seq ?_
      refine wp_seq ?_
      refine wp_reg ?_
      refine s_q hs (c_move (hs.ev rfl)) rfl fun ac hs => ?_
      refine s_q hs (c_move (hs.ev rfl)) rfl fun ac hs => ?_
      refine s_q hs (c_lenS un30 (hs.ev rfl)) rfl fun ac hs => ?_
      refine s_q hs (c_lssI (hs.ev rfl) (hs.ev rfl)) rfl fun ac hs => ?_
      refine s_end ?_
      refine then_n ?_
      refine s_cond hs rfl (fun hc => ?_) (fun hc => ?_)
      · try simp only [decide_eq_true_eq, decide_eq_false_iff_not, Bool.not_eq_true', Bool.not_eq_false', Bool.and_eq_true, Bool.or_eq_true, Bool.or_eq_false_iff] at hc
        have hil : i < xs.length := by omega
        refine wp_skip ?_
        refine then_n ?_
        refine wp_seq ?_
        refine wp_block ?_
        refine wp_seq ?_
        refine wp_reg ?_
        refine s_q hs (c_assign (hs.ev rfl)) rfl fun ac hs => ?_
        refine s_end ?_
        refine then_n ?_
        refine wp_block ?_
        refine s_loop hs (X := Nat) (fun q => [(10, I q)]) [(0, _), (1, _), (5, _), (6, _), (9, _), (39, _), (40, _), (41, _), (42, _)] (fun _ => [_, _]) (fun n q => q ≤ bs.length ∧ n = bs.length - q ∧ ∀ q2, q2 < q → hit xs bs i q2 = false) (_) (0) (⟨Nat.zero_le _, rfl, fun _ h => absurd h (by omega)⟩) ⟨rfl, rfl, rfl, rfl, rfl, rfl, rfl, rfl, rfl, rfl, trivial⟩ rfl ?_
        rintro n q ac ww hok hs
        simp only [List.cons_append, List.nil_append] at hs
        obtain ⟨hq, rfl, hno2⟩ := hok
        refine wp_seq ?_
        refine wp_seq ?_
        refine wp_reg ?_
        refine s_q hs (c_move (hs.ev rfl)) rfl fun ac hs => ?_
        refine s_q hs (c_move (hs.ev rfl)) rfl fun ac hs => ?_
        refine s_q hs (c_lenS un30 (hs.ev rfl)) rfl fun ac hs => ?_
        refine s_q hs (c_lssI (hs.ev rfl) (hs.ev rfl)) rfl fun ac hs => ?_
        refine s_end ?_
        refine then_n ?_
        refine s_cond hs rfl (fun hc => ?_) (fun hc => ?_)
        · try simp only [decide_eq_true_eq, decide_eq_false_iff_not, Bool.not_eq_true', Bool.not_eq_false', Bool.and_eq_true, Bool.or_eq_true, Bool.or_eq_false_iff] at hc
          have hql : q < bs.length := by omega
          obtain ⟨sg, scap, scur, rfl, hsg, hsn, hsm, hss, hst⟩ := hs.row_at (i := 1) rfl (by omega)
          obtain ⟨tg, tcap, tcur, rfl, htg, htn, htm, hts, htt⟩ := hs.row_at (i := 0) rfl (by omega)
          obtain ⟨pa, pao, paT, paf, paall, rfl, hpa, hpas⟩ := hqa.at' (by omega)
          obtain ⟨pb, po, pT, pf, pall, rfl, hpb, hps⟩ := hqb.at' (by omega)
          have hra := hqa.get hil
          have hrb := hqb.get hql
          refine wp_skip ?_
          refine then_n ?_
          refine wp_seq ?_
          refine wp_block ?_
          refine wp_seq ?_
          refine wp_region_rg pmix 22 (by kernel_rfl) rfl hs ?_
          simp only [List.take_succ_cons, List.take_zero]
          refine rg_q (fun ac ww h => c_move (h.ev rfl)) rfl ?_
          refine rg_q (fun ac ww h => c_move (h.ev rfl)) rfl ?_
          refine rg_q (fun ac ww h => c_idxS (j := i) un109 ty22 (h.ev rfl) (h.ev rfl) (by omega) (by omega)) rfl ?_
          refine rg_q (fun ac ww h => c_loadA ty22 rfl (h.ev rfl) (h.blk hsg) ((rowpiece hst (sums_len _ _) hil).trans (by rw [sums_piece _ hil])) (by simp)) rfl ?_
          refine rg_q (fun ac ww h => c_move (h.ev rfl)) rfl ?_
          refine rg_q (fun ac ww h => c_move (h.ev rfl)) rfl ?_
          refine rg_q (fun ac ww h => c_idxS (j := q) un109 ty22 (h.ev rfl) (h.ev rfl) (by omega) (by omega)) rfl ?_
          refine rg_q (fun ac ww h => c_loadA ty22 rfl (h.ev rfl) (h.blk htg) ((rowpiece htt (sums_len _ _) hql).trans (by rw [sums_piece _ hql])) (by simp)) rfl ?_
          refine rg_q (fun ac ww h => c_eqlAB un22 ty5 eg22 (h.ev rfl) (h.ev rfl) (ofT_length _) (ofT_length _)) rfl ?_
          refine rg_q (fun ac ww h => c_move (h.ev rfl)) rfl ?_
          refine rg_g rfl rfl (fun hg ac ww h => c_move (h.ev rfl)) rfl ?_
          refine rg_g rfl rfl (fun hg ac ww h => c_move (h.ev rfl)) rfl ?_
          refine rg_g rfl rfl (fun hg ac ww h => c_idxS (j := i) un30 ty34 (gev (h.ev rfl) hg) (gev (h.ev rfl) hg) (by omega) (by omega)) rfl ?_
          refine rg_g rfl rfl (fun hg ac ww h => c_loadS un34 rfl (gev (h.ev rfl) hg) (h.blk (hs.old hpa id)) (seg_get (.nilIface, []) hpas (by omega))) rfl ?_
          refine rg_g rfl rfl (fun hg ac ww h => c_cvST un34 un5 un9 (gev (h.ev rfl) hg) ((hra.fr0 hs.fr).fr0 h.fr)) rfl ?_
          refine rg_g rfl rfl (fun hg ac ww h => c_move (h.ev rfl)) rfl ?_
          refine rg_g rfl rfl (fun hg ac ww h => c_move (h.ev rfl)) rfl ?_
          refine rg_g rfl rfl (fun hg ac ww h => c_idxS (j := q) un30 ty34 (gev (h.ev rfl) hg) (gev (h.ev rfl) hg) (by omega) (by omega)) rfl ?_
          refine rg_g rfl rfl (fun hg ac ww h => c_loadS un34 rfl (gev (h.ev rfl) hg) (h.blk (hs.old hpb id)) (seg_get (.nilIface, []) hps (by omega))) rfl ?_
          refine rg_g rfl rfl (fun hg ac ww h => c_cvST un34 un5 un9 (gev (h.ev rfl) hg) ((hrb.fr0 hs.fr).fr0 h.fr)) rfl ?_
          refine rg_g rfl rfl (fun hg ac ww h => c_neqTT (gev (h.ev rfl) hg) (gev (h.ev rfl) hg)) rfl ?_
          refine rg_q (fun ac ww h => c_to (c_and (h.ev rfl) (h.ev rfl)) ((show Value.bool _ = Value.bool (hit xs bs i q) from congrArg Value.bool (by unfold hit; rw [bneL]; rfl)))) rfl ?_
          refine rg_nil fun ac ww L' hf hfe hs => ?_
          simp only [List.drop_succ_cons, List.drop_zero]
          obtain rfl : L' = [] := hfe
          replace hs := hs.toL (List.nil_append _)
          refine s_end ?_
          refine then_n ?_
          refine s_cond hs rfl (fun hc => ?_) (fun hc => ?_)
          · skip
            refine wp_seq ?_
            refine wp_reg ?_
            refine s_q hs (c_assign (hs.ev rfl)) rfl fun ac hs => ?_
            refine s_end ?_
            refine then_n ?_
            refine wp_ret ?_
            refine blk_r ?_
            refine then_r ?_
            refine then_r ?_
            refine blk_r ?_
            refine blk_r ?_
            refine then_r ?_
            refine then_r ?_
            refine blk_r ?_
            refine then_r ?_
            refine s_ret hs rfl (.tmp (hs.tmp rfl) .nil) rfl ⟨_, rfl, hs.fr, ?_⟩
            show Value.bool true = _
            rw [clash_hit hil hql hc]
          · skip
            refine wp_skip ?_
            refine blk_n ?_
            refine then_n ?_
            refine wp_reg ?_
            refine s_q hs (c_move (hs.ev rfl)) rfl fun ac hs => ?_
            refine s_q hs (c_addI (hs.ev rfl) (hs.ev rfl) (by omega) (by omega)) rfl fun ac hs => ?_
            refine s_q hs (c_assign (hs.ev rfl)) rfl fun ac hs => ?_
            refine s_end ?_
            refine then_n ?_
            exact ⟨bs.length - (q + 1), by omega, q + 1, ⟨by omega, rfl, fun q2 h2 => by
                by_cases e : q2 = q
                · subst e; exact hc
                · exact hno2 q2 (by omega)⟩, St.next hs ⟨rfl, rfl, rfl, rfl, rfl, rfl, rfl, rfl, rfl, rfl, trivial⟩ rfl⟩
        · try simp only [decide_eq_true_eq, decide_eq_false_iff_not, Bool.not_eq_true', Bool.not_eq_false', Bool.and_eq_true, Bool.or_eq_true, Bool.or_eq_false_iff] at hc
          obtain rfl : q = bs.length := by omega
          refine wp_exit ?_
          refine then_e ?_
          refine then_e ?_
          refine blk_hit ?_
          refine blk_n ?_
          refine then_n ?_
          refine wp_reg ?_
          refine s_q hs (c_move (hs.ev rfl)) rfl fun ac hs => ?_
          refine s_q hs (c_addI (hs.ev rfl) (hs.ev rfl) (by omega) (by omega)) rfl fun ac hs => ?_
          refine s_q hs (c_assign (hs.ev rfl)) rfl fun ac hs => ?_
          refine s_end ?_
          refine then_n ?_
          exact ⟨xs.length - (i + 1), by omega, i + 1, ⟨by omega, rfl, fun i2 h2 q hq => by
              by_cases e : i2 = i
              · subst e; exact hno2 q (by omega)
              · exact hno i2 (by omega) q hq⟩, St.next hs ⟨rfl, rfl, rfl, rfl, rfl, trivial⟩ rfl⟩
      · try simp only [decide_eq_true_eq, decide_eq_false_iff_not, Bool.not_eq_true', Bool.not_eq_false', Bool.and_eq_true, Bool.or_eq_true, Bool.or_eq_false_iff] at hc
        obtain rfl : i = xs.length := by omega
        refine wp_exit ?_
        refine then_e ?_
        refine then_e ?_
        refine blk_hit ?_
        refine then_n ?_
        refine wp_seq ?_
        refine wp_reg ?_
        refine s_q hs (c_assign (hs.ev rfl)) rfl fun ac hs => ?_
        refine s_end ?_
        replace hs := hs.sub (F' := [(4, _)]) ⟨rfl, trivial⟩
        refine then_n ?_
        refine wp_ret ?_
        refine s_ret hs rfl (.tmp (hs.tmp rfl) .nil) rfl ⟨_, rfl, hs.fr, ?_⟩
        show Value.bool false = _
        rw [clash_none fun i hi q hq => hno i hi q hq]
end Go.Proofs.Ytmgnnclkjkbmdaa
end

section
/- Lists of short sums. -/
set_option linter.unusedSimpArgs false
set_option linter.unusedVariables false
set_option maxRecDepth 100000
namespace Go.Proofs.Ytmgnnclkjkbmdaa
open Go Go.Fw
open Sha
/-- Short sums behind a slice read so. -/
theorem rdpiece {all : List Value} {o n k : Nat} {ws : List UInt8} (h : (all.drop o).take (ws.map B).length = ws.map B) (hw : ws.length = n * 16) (hk : k < n) : (all.drop (o + k * 16)).take 16 = (chunk ws k).map B := by
  have hle : k * 16 + 16 ≤ (ws.map B).length := by rw [List.length_map]; omega
  have h2 : (((all.drop o).take (ws.map B).length).drop (k * 16)).take 16 = ((ws.map B).drop (k * 16)).take 16 := by rw [h]
  rw [List.drop_take, List.take_take, Nat.min_eq_left (by omega), List.drop_drop] at h2
  rw [h2, chunk, List.map_take, List.map_drop, Nat.mul_comm]
theorem Rd.bytes_at {w : World} {ad : Option Addr} {cap n : Nat} {ws : List UInt8} (h : Rd w (.slice ad n cap) n (ws.map B)) (hw : ws.length = n * 16) (hn : 0 < n) :
    ∃ b o T fr all, ad = some ⟨b, o, none⟩ ∧ w.heap[b]? = some (.cells all T fr) ∧ (all.toList.drop o).take (ws.map B).length = ws.map B := by
  obtain ⟨b, o, cap', T, fr, all, e, _, _, hb, hc⟩ := Rd.at_ h (by intro e; have := congrArg List.length e; rw [List.length_map, List.length_nil] at this; omega)
  cases e
  exact ⟨b, o, T, fr, all, rfl, hb, hc⟩
theorem chunk_l {ws : List UInt8} {n k : Nat} (hw : ws.length = n * 16) (hk : k < n) : (chunk ws k).length = 16 := chunk_len (by omega)
def rowS (n : Nat) (ws : List UInt8) : Value → List Ent → World → Prop := fun v L _ => L = [.row v n (ws.map B) 54 16]
/-- Three results, the second one texts. -/
def tup3E (c0 c2 : Value) (E : Value → List Ent → World → Prop) : Value → List Ent → World → Prop := fun v L w => ∃ tv, v = .tuple #[c0, tv, c2] ∧ E tv L w
def rowS' (n : Nat) (ws : List UInt8) : Value → List Ent → World → Prop := fun v L _ => L = [.row v n (ws.map B) 22 16]
theorem sums_same {n : Nat} {xs ys : List UInt8} (hx : xs.length = n * 16) (hy : ys.length = n * 16) (h : ∀ i, i < n → chunk xs i = chunk ys i) : xs = ys := by
  refine (pieces_eq (m := 16) (by decide) hx hy).1 fun i hi => ?_
  have := h i hi
  rw [chunk, chunk, Nat.mul_comm] at this
  exact this
set_option maxHeartbeats 4000000 in
theorem law03_To (n : Nat) (ws : List UInt8) (wv : Value) (hwl : ws.length = n * 16) (hn : n ≤ 1000000) (w : World) (hq : Rd w wv n (ws.map B)) : Ctr Try.prog 93 [wv] w (fun _ => False) (outE (rowS n ws) w) := by
  obtain ⟨wad, wcap, rfl, hwc, hwm⟩ := Rd.sl hq
  refine fn_start (N := 18) Try.func93 rfl rfl rfl fun ac hk => ?_
  have hs := St.start hk w
  refine wp_seq ?_
  refine wp_reg ?_
  refine s_q hs (c_assign (hs.ev rfl)) rfl fun ac hs => ?_
  refine s_end ?_
  refine then_n ?_
  refine wp_seq ?_
  refine wp_reg ?_
  refine s_q hs (c_assign (hs.ev rfl)) rfl fun ac hs => ?_
  refine s_end ?_
  replace hs := hs.nilrow 54 16
  refine then_n ?_
  refine wp_seq ?_
  refine wp_seq ?_
  refine wp_reg ?_
  refine s_q hs (c_move (hs.ev rfl)) rfl fun ac hs => ?_
  refine s_q hs (c_lenS un109 (hs.ev rfl)) rfl fun ac hs => ?_
  refine s_q hs (c_move (hs.ev rfl)) rfl fun ac hs => ?_
  refine s_end ?_
  replace hs := hs.sub (F' := [(2, _), (3, _), (6, _), (7, _), (8, _)]) ⟨rfl, rfl, rfl, rfl, rfl, trivial⟩
  refine then_n ?_
  refine wp_block ?_
  refine s_loop hs (X := Nat × Value) (fun x => [(3, x.2), (8, I x.1)]) [(2, _), (6, _), (7, _)] (fun x => [.row x.2 x.1 ((ws.take (16 * x.1)).map B) 54 16]) (fun m x => x.1 ≤ n ∧ m = n - x.1) (_) ((0, _)) (⟨Nat.zero_le _, rfl⟩) ⟨rfl, rfl, rfl, rfl, rfl, trivial⟩ rfl ?_
  rintro n ⟨k, v⟩ ac ww hok hs
  simp only [List.cons_append, List.nil_append] at hs
  obtain ⟨hk, rfl⟩ := hok
  simp only at hk hs
  refine wp_seq ?_
  refine wp_reg ?_
  refine s_q hs (c_lssI (hs.ev rfl) (hs.ev rfl)) rfl fun ac hs => ?_
  refine s_end ?_
  refine then_n ?_
  refine wp_seq ?_
  refine s_cond hs rfl (fun hc => ?_) (fun hc => ?_)
  · try simp only [decide_eq_true_eq, decide_eq_false_iff_not, Bool.not_eq_true', Bool.not_eq_false', Bool.and_eq_true, Bool.or_eq_true, Bool.or_eq_false_iff] at hc
    have hkn : k < n := by omega
    have hcl := chunk_l hwl hkn
    obtain ⟨pb, po, pT, pf, pall, rfl, hpb, hps⟩ := Rd.bytes_at hq hwl (by omega)
    refine wp_skip ?_
    refine then_n ?_
    refine wp_seq ?_
    refine wp_block ?_
    refine wp_seq ?_
    refine wp_reg ?_
    refine s_q hs (c_idxS (j := k) un109 ty22 (hs.ev rfl) (hs.ev rfl) (by omega) (by omega)) rfl fun ac hs => ?_
    refine s_q hs (c_loadA ty22 rfl (hs.ev rfl) (hs.old hpb id) (rdpiece hps hwl hkn) (by rw [List.length_map, hcl])) rfl fun ac hs => ?_
    refine s_alloc hs ty22 rfl fun ac ww g5 hs => ?_
    refine s_storeW (i := 0) hs ty22 rfl rfl rfl (by rw [List.length_map, hcl]) (all_map_B _) rfl fun ww hs => ?_
    refine s_end ?_
    refine then_n ?_
    refine wp_reg ?_
    refine s_q hs (c_move (hs.ev rfl)) rfl fun ac hs => ?_
    refine s_q hs (c_loadW ty22 rfl (hs.ev rfl) (hs.seg (i := 0) rfl) (by rw [List.length_map, hcl])) rfl fun ac hs => ?_
    refine s_bslice hs un110 ty54 (.cons (hs.ev rfl) .nil) rfl (by intro v hv; simp only [List.mem_singleton] at hv; subst hv; simp [Value.cells, hcl]) (by decide) (show _ = (chunk ws k).map B by simp [flatCells, Value.cells]) rfl fun ac ww g14 hs => ?_
    refine s_append (i := 2) hs un110 ty54 (by decide) rfl rfl rfl (Rd.of_seg (n := 1) (hs.seg (i := 0) rfl) (Nat.le_refl _) (by decide) (List.take_of_length_le (by simp))) (by rw [List.length_map, hcl]) (all_map_B _) (by unfold maxLen; omega) (by omega) rfl fun ac ww v15 hf hnil hs => ?_
    refine s_q hs (c_assign (hs.ev rfl)) rfl fun ac hs => ?_
    refine s_end ?_
    refine blk_n ?_
    refine then_n ?_
    refine wp_reg ?_
    refine s_q hs (c_addI (hs.ev rfl) (hs.ev rfl) (by omega) (by omega)) rfl fun ac hs => ?_
    refine s_q hs (c_move (hs.ev rfl)) rfl fun ac hs => ?_
    refine s_end ?_
    refine then_n ?_
    replace hs := hs.pick (L' := [_]) (.cons _ (.cons _ (.refl _)))
    exact ⟨n - (k + 1), by (try simp only); omega, (k + 1, _), ⟨by (try simp only); omega, rfl⟩, St.next hs ⟨rfl, rfl, rfl, rfl, rfl, trivial⟩ (by rw [take_chunk, List.map_append]; try rfl)⟩
  · try simp only [decide_eq_true_eq, decide_eq_false_iff_not, Bool.not_eq_true', Bool.not_eq_false', Bool.and_eq_true, Bool.or_eq_true, Bool.or_eq_false_iff] at hc
    obtain rfl : n = k := by omega
    rw [List.take_of_length_le (by omega)] at hs
    refine wp_exit ?_
    refine then_e ?_
    refine then_e ?_
    refine blk_hit ?_
    refine then_n ?_
    refine wp_seq ?_
    refine wp_reg ?_
    refine s_q hs (c_move (hs.ev rfl)) rfl fun ac hs => ?_
    refine s_q hs (c_assign (hs.ev rfl)) rfl fun ac hs => ?_
    refine s_end ?_
    replace hs := hs.sub (F' := [(2, _)]) ⟨rfl, trivial⟩
    refine then_n ?_
    refine wp_ret ?_
    refine s_ret hs rfl (.tmp (hs.tmp rfl) .nil) rfl ⟨_, rfl, hs.fr, ?_⟩
    exact ⟨_, rfl, hs.made⟩
set_option maxHeartbeats 4000000 in
theorem law03_From (n : Nat) (ws : List UInt8) (wv : Value) (hwl : ws.length = n * 16) (hn : n ≤ 1000000) (w : World) (hq : Rd w wv n (ws.map B)) : Ctr Try.prog 103 [wv] w (fun _ => False) (outE (rowS' n ws) w) := by
  obtain ⟨wad, wcap, rfl, hwc, hwm⟩ := Rd.sl hq
  refine fn_start (N := 18) Try.func103 rfl rfl rfl fun ac hk => ?_
  have hs := St.start hk w
  refine wp_seq ?_
  refine wp_reg ?_
  refine s_q hs (c_assign (hs.ev rfl)) rfl fun ac hs => ?_
  refine s_end ?_
  refine then_n ?_
  refine wp_seq ?_
  refine wp_reg ?_
  refine s_q hs (c_assign (hs.ev rfl)) rfl fun ac hs => ?_
  refine s_end ?_
  replace hs := hs.nilrow 22 16
  refine then_n ?_
  refine wp_seq ?_
  refine wp_seq ?_
  refine wp_reg ?_
  refine s_q hs (c_move (hs.ev rfl)) rfl fun ac hs => ?_
  refine s_q hs (c_lenS un110 (hs.ev rfl)) rfl fun ac hs => ?_
  refine s_q hs (c_move (hs.ev rfl)) rfl fun ac hs => ?_
  refine s_end ?_
  replace hs := hs.sub (F' := [(2, _), (3, _), (6, _), (7, _), (8, _)]) ⟨rfl, rfl, rfl, rfl, rfl, trivial⟩
  refine then_n ?_
  refine wp_block ?_
  refine s_loop hs (X := Nat × Value) (fun x => [(3, x.2), (8, I x.1)]) [(2, _), (6, _), (7, _)] (fun x => [.row x.2 x.1 ((ws.take (16 * x.1)).map B) 22 16]) (fun m x => x.1 ≤ n ∧ m = n - x.1) (_) ((0, _)) (⟨Nat.zero_le _, rfl⟩) ⟨rfl, rfl, rfl, rfl, rfl, trivial⟩ rfl ?_
  rintro n ⟨k, v⟩ ac ww hok hs
  simp only [List.cons_append, List.nil_append] at hs
  obtain ⟨hk, rfl⟩ := hok
  simp only at hk hs
  refine wp_seq ?_
  refine wp_reg ?_
  refine s_q hs (c_lssI (hs.ev rfl) (hs.ev rfl)) rfl fun ac hs => ?_
  refine s_end ?_
  refine then_n ?_
  refine wp_seq ?_
  refine s_cond hs rfl (fun hc => ?_) (fun hc => ?_)
  · try simp only [decide_eq_true_eq, decide_eq_false_iff_not, Bool.not_eq_true', Bool.not_eq_false', Bool.and_eq_true, Bool.or_eq_true, Bool.or_eq_false_iff] at hc
    have hkn : k < n := by omega
    have hcl := chunk_l hwl hkn
    obtain ⟨pb, po, pT, pf, pall, rfl, hpb, hps⟩ := Rd.bytes_at hq hwl (by omega)
    refine wp_skip ?_
    refine then_n ?_
    refine wp_seq ?_
    refine wp_block ?_
    refine wp_seq ?_
    refine wp_reg ?_
    refine s_q hs (c_idxS (j := k) un110 ty54 (hs.ev rfl) (hs.ev rfl) (by omega) (by omega)) rfl fun ac hs => ?_
    refine s_q hs (c_loadA ty54 rfl (hs.ev rfl) (hs.old hpb id) (rdpiece hps hwl hkn) (by rw [List.length_map, hcl])) rfl fun ac hs => ?_
    refine s_alloc hs ty54 rfl fun ac ww g5 hs => ?_
    refine s_storeW (i := 0) hs ty54 rfl rfl rfl (by rw [List.length_map, hcl]) (all_map_B _) rfl fun ww hs => ?_
    refine s_end ?_
    refine then_n ?_
    refine wp_reg ?_
    refine s_q hs (c_move (hs.ev rfl)) rfl fun ac hs => ?_
    refine s_q hs (c_loadW ty54 rfl (hs.ev rfl) (hs.seg (i := 0) rfl) (by rw [List.length_map, hcl])) rfl fun ac hs => ?_
    refine s_bslice hs un109 ty22 (.cons (hs.ev rfl) .nil) rfl (by intro v hv; simp only [List.mem_singleton] at hv; subst hv; simp [Value.cells, hcl]) (by decide) (show _ = (chunk ws k).map B by simp [flatCells, Value.cells]) rfl fun ac ww g14 hs => ?_
    refine s_append (i := 2) hs un109 ty22 (by decide) rfl rfl rfl (Rd.of_seg (n := 1) (hs.seg (i := 0) rfl) (Nat.le_refl _) (by decide) (List.take_of_length_le (by simp))) (by rw [List.length_map, hcl]) (all_map_B _) (by unfold maxLen; omega) (by omega) rfl fun ac ww v15 hf hnil hs => ?_
    refine s_q hs (c_assign (hs.ev rfl)) rfl fun ac hs => ?_
    refine s_end ?_
    refine blk_n ?_
    refine then_n ?_
    refine wp_reg ?_
    refine s_q hs (c_addI (hs.ev rfl) (hs.ev rfl) (by omega) (by omega)) rfl fun ac hs => ?_
    refine s_q hs (c_move (hs.ev rfl)) rfl fun ac hs => ?_
    refine s_end ?_
    refine then_n ?_
    replace hs := hs.pick (L' := [_]) (.cons _ (.cons _ (.refl _)))
    exact ⟨n - (k + 1), by (try simp only); omega, (k + 1, _), ⟨by (try simp only); omega, rfl⟩, St.next hs ⟨rfl, rfl, rfl, rfl, rfl, trivial⟩ (by rw [take_chunk, List.map_append]; try rfl)⟩
  · try simp only [decide_eq_true_eq, decide_eq_false_iff_not, Bool.not_eq_true', Bool.not_eq_false', Bool.and_eq_true, Bool.or_eq_true, Bool.or_eq_false_iff] at hc
    obtain rfl : n = k := by omega
    rw [List.take_of_length_le (by omega)] at hs
    refine wp_exit ?_
    refine then_e ?_
    refine then_e ?_
    refine blk_hit ?_
    refine then_n ?_
    refine wp_seq ?_
    refine wp_reg ?_
    refine s_q hs (c_move (hs.ev rfl)) rfl fun ac hs => ?_
    refine s_q hs (c_assign (hs.ev rfl)) rfl fun ac hs => ?_
    refine s_end ?_
    replace hs := hs.sub (F' := [(2, _)]) ⟨rfl, trivial⟩
    refine then_n ?_
    refine wp_ret ?_
    refine s_ret hs rfl (.tmp (hs.tmp rfl) .nil) rfl ⟨_, rfl, hs.fr, ?_⟩
    exact ⟨_, rfl, hs.made⟩
set_option maxHeartbeats 4000000 in
theorem ref03_SameSums (n m : Nat) (xs ys : List UInt8) (xv yv : Value) (hxl : xs.length = n * 16) (hyl : ys.length = m * 16) (w : World) (hqx : Rd w xv n (xs.map B)) (hqy : Rd w yv m (ys.map B)) : Ctr Try.prog 102 [xv, yv] w (fun _ => False) (fun v _ => v = .bool (decide (xs = ys))) := by
  have hnl := hqx.le
  have hml := hqy.le
  obtain ⟨xad, xcap, rfl, hxc, hxm⟩ := Rd.sl hqx
  obtain ⟨yad, ycap, rfl, hyc, hym⟩ := Rd.sl hqy
  refine fn_start (N := 26) Try.func102 rfl rfl rfl fun ac hk => ?_
  have hs := St.start hk w
  refine wp_seq ?_
  refine wp_reg ?_
  refine s_q hs (c_assign (hs.ev rfl)) rfl fun ac hs => ?_
  refine s_end ?_
  refine then_n ?_
  refine wp_seq ?_
  refine wp_seq ?_
  refine wp_reg ?_
  refine s_q hs (c_move (hs.ev rfl)) rfl fun ac hs => ?_
  refine s_q hs (c_lenS un109 (hs.ev rfl)) rfl fun ac hs => ?_
  refine s_q hs (c_move (hs.ev rfl)) rfl fun ac hs => ?_
  refine s_q hs (c_lenS un109 (hs.ev rfl)) rfl fun ac hs => ?_
  refine s_q hs (c_neqI (hs.ev rfl) (hs.ev rfl)) rfl fun ac hs => ?_
  refine s_end ?_
  replace hs := hs.sub (F' := [(0, _), (1, _), (4, _), (10, _)]) ⟨rfl, rfl, rfl, rfl, trivial⟩
  refine then_n ?_
  refine s_cond hs rfl (fun hc => ?_) (fun hc => ?_)
  · try simp only [decide_eq_true_eq, decide_eq_false_iff_not, Bool.not_eq_true', Bool.not_eq_false', Bool.and_eq_true, Bool.or_eq_true, Bool.or_eq_false_iff] at hc
    have hne : xs ≠ ys := fun e => hc (by rw [e, hyl] at hxl; omega)
    refine wp_seq ?_
    refine wp_reg ?_
    refine s_q hs (c_assign (hs.ev rfl)) rfl fun ac hs => ?_
    refine s_end ?_
    replace hs := hs.sub (F' := [(0, _), (1, _), (4, _)]) ⟨rfl, rfl, rfl, trivial⟩
    refine then_n ?_
    refine wp_ret ?_
    refine then_r ?_
    refine s_ret hs rfl (.tmp (hs.tmp rfl) .nil) rfl ⟨_, rfl, hs.fr, ?_⟩
    show Value.bool false = _
    rw [decide_eq_false hne]
  · try simp only [decide_eq_true_eq, decide_eq_false_iff_not, Bool.not_eq_true', Bool.not_eq_false', Bool.and_eq_true, Bool.or_eq_true, Bool.or_eq_false_iff] at hc
    obtain rfl : n = m := by omega
    refine wp_skip ?_
    refine then_n ?_
    refine wp_seq ?_
    refine wp_seq ?_
    refine wp_reg ?_
    refine s_q hs (c_assign (hs.ev rfl)) rfl fun ac hs => ?_
    refine s_end ?_
    replace hs := hs.sub (F' := [(0, _), (1, _), (4, _), (5, _)]) ⟨rfl, rfl, rfl, rfl, trivial⟩
    refine then_n ?_
    refine wp_block ?_
    refine s_loop hs (X := Nat) (fun k => [(5, I k)]) [(0, _), (1, _)] (fun _ => []) (fun j k => k ≤ n ∧ j = n - k ∧ ∀ i, i < k → chunk xs i = chunk ys i) (_) (0) (⟨Nat.zero_le _, rfl, fun _ h => absurd h (by omega)⟩) ⟨rfl, rfl, rfl, trivial⟩ rfl ?_
    rintro n k ac ww hok hs
    simp only [List.cons_append, List.nil_append] at hs
    obtain ⟨hk, rfl, heq⟩ := hok
    refine wp_seq ?_
    refine wp_seq ?_
    refine wp_reg ?_
    refine s_q hs (c_move (hs.ev rfl)) rfl fun ac hs => ?_
    refine s_q hs (c_move (hs.ev rfl)) rfl fun ac hs => ?_
    refine s_q hs (c_lenS un109 (hs.ev rfl)) rfl fun ac hs => ?_
    refine s_q hs (c_lssI (hs.ev rfl) (hs.ev rfl)) rfl fun ac hs => ?_
    refine s_end ?_
    refine then_n ?_
    refine s_cond hs rfl (fun hc => ?_) (fun hc => ?_)
    · try simp only [decide_eq_true_eq, decide_eq_false_iff_not, Bool.not_eq_true', Bool.not_eq_false', Bool.and_eq_true, Bool.or_eq_true, Bool.or_eq_false_iff] at hc
      have hkn : k < n := by omega
      obtain ⟨pb, po, pT, pf, pall, rfl, hpb, hps⟩ := Rd.bytes_at hqx hxl (by omega)
      obtain ⟨qb, qo, qT, qf, qall, rfl, hqb, hqs⟩ := Rd.bytes_at hqy hyl (by omega)
      refine wp_skip ?_
      refine then_n ?_
      refine wp_seq ?_
      refine wp_block ?_
      refine wp_seq ?_
      refine wp_region_rg pmix 8 (by kernel_rfl) rfl hs ?_
      simp only [List.take_succ_cons, List.take_zero]
      refine rg_q (fun ac ww h => c_move (h.ev rfl)) rfl ?_
      refine rg_q (fun ac ww h => c_move (h.ev rfl)) rfl ?_
      refine rg_q (fun ac ww h => c_idxS (j := k) un109 ty22 (h.ev rfl) (h.ev rfl) (by omega) (by omega)) rfl ?_
      refine rg_q (fun ac ww h => c_loadA ty22 rfl (h.ev rfl) (h.blk (hs.old hpb id)) (rdpiece hps hxl hkn) (by rw [List.length_map, chunk_l hxl hkn])) rfl ?_
      refine rg_q (fun ac ww h => c_move (h.ev rfl)) rfl ?_
      refine rg_q (fun ac ww h => c_move (h.ev rfl)) rfl ?_
      refine rg_q (fun ac ww h => c_idxS (j := k) un109 ty22 (h.ev rfl) (h.ev rfl) (by omega) (by omega)) rfl ?_
      refine rg_q (fun ac ww h => c_loadA ty22 rfl (h.ev rfl) (h.blk (hs.old hqb id)) (rdpiece hqs hyl hkn) (by rw [List.length_map, chunk_l hyl hkn])) rfl ?_
      refine rg_nil fun ac ww L' hf hfe hs => ?_
      simp only [List.drop_succ_cons, List.drop_zero]
      obtain rfl : L' = [] := hfe
      replace hs := hs.toL (List.nil_append _)
      refine s_q hs (c_neqAB un22 ty5 eg22 (hs.ev rfl) (hs.ev rfl) (chunk_l hxl hkn) (chunk_l hyl hkn)) rfl fun ac hs => ?_
      refine s_end ?_
      refine then_n ?_
      refine s_cond hs rfl (fun hc => ?_) (fun hc => ?_)
      · try simp only [decide_eq_true_eq, decide_eq_false_iff_not, Bool.not_eq_true', Bool.not_eq_false', Bool.and_eq_true, Bool.or_eq_true, Bool.or_eq_false_iff] at hc
        refine wp_seq ?_
        refine wp_reg ?_
        refine s_q hs (c_assign (hs.ev rfl)) rfl fun ac hs => ?_
        refine s_end ?_
        refine then_n ?_
        refine wp_ret ?_
        refine blk_r ?_
        refine then_r ?_
        refine then_r ?_
        refine blk_r ?_
        refine then_r ?_
        refine s_ret hs rfl (.tmp (hs.tmp rfl) .nil) rfl ⟨_, rfl, hs.fr, ?_⟩
        show Value.bool false = _
        rw [decide_eq_false fun e => hc (by rw [e])]
      · try simp only [decide_eq_true_eq, decide_eq_false_iff_not, Bool.not_eq_true', Bool.not_eq_false', Bool.and_eq_true, Bool.or_eq_true, Bool.or_eq_false_iff] at hc
        refine wp_skip ?_
        refine blk_n ?_
        refine then_n ?_
        refine wp_reg ?_
        refine s_q hs (c_move (hs.ev rfl)) rfl fun ac hs => ?_
        refine s_q hs (c_addI (hs.ev rfl) (hs.ev rfl) (by omega) (by omega)) rfl fun ac hs => ?_
        refine s_q hs (c_assign (hs.ev rfl)) rfl fun ac hs => ?_
        refine s_end ?_
        refine then_n ?_
        exact ⟨n - (k + 1), by omega, k + 1, ⟨by omega, rfl, fun i hi => by
            by_cases e : i = k
            · subst e; exact hc
            · exact heq i (by omega)⟩, St.next hs ⟨rfl, rfl, rfl, trivial⟩ rfl⟩
    · try simp only [decide_eq_true_eq, decide_eq_false_iff_not, Bool.not_eq_true', Bool.not_eq_false', Bool.and_eq_true, Bool.or_eq_true, Bool.or_eq_false_iff] at hc
      obtain rfl : n = k := by omega
      refine wp_exit ?_
      refine then_e ?_
      refine then_e ?_
      refine blk_hit ?_
      refine then_n ?_
      refine wp_seq ?_
      refine wp_reg ?_
      refine s_q hs (c_assign (hs.ev rfl)) rfl fun ac hs => ?_
      refine s_end ?_
      replace hs := hs.sub (F' := [(4, _)]) ⟨rfl, trivial⟩
      refine then_n ?_
      refine wp_ret ?_
      refine s_ret hs rfl (.tmp (hs.tmp rfl) .nil) rfl ⟨_, rfl, hs.fr, ?_⟩
      show Value.bool true = _
      rw [decide_eq_true (sums_same hxl hyl heq)]
end Go.Proofs.Ytmgnnclkjkbmdaa
end

section
/- Several results, all but one of them known. -/
set_option linter.unusedSimpArgs false
set_option linter.unusedVariables false
namespace Go.Fw
open Go
def tupG (pr po : List Value) (E : Value → List Ent → World → Prop) : Value → List Ent → World → Prop := fun v L w => ∃ tv, v = .tuple (pr ++ tv :: po).toArray ∧ E tv L w
section
variable {P : Program} {ops : Array Oper} {N B1 : Nat} {w1 : World} {K : List (Nat × Value) → Fes → Prop} {Fc : List (Nat × Value)} {Fe : Fes} {rest : List Oper}
variable {d : Tmp} {op : Op} {ty : TypeId} {pos : String} {aft : Array Edge} {x y z : Operand} {t u : TypeId}
end
end Go.Fw
end

section
/- A region's text in another order; appends that are the first operation of a tail. -/
set_option linter.unusedSimpArgs false
set_option linter.unusedVariables false
namespace Go.Fw
open Go
def reOp (σ : List Nat) : Oper → Oper
  | ⟨d, op, ty, pos, aft, g⟩ => ⟨d, op, ty, pos, aft.map fun e => { e with on := σ.idxOf e.on }, g.map fun p => (σ.idxOf p.1, p.2)⟩
def permOps (σ : List Nat) (l : List Oper) : List Oper := σ.map fun i => reOp σ (l.getD i ⟨none, .move (.tmp 0), 0, "", #[], none⟩)
def permB (σ : List Nat) (n : Nat) : Bool := Nat.beq σ.length n && σ.all (Nat.blt · n) && (List.range n).all fun i => Nat.beq (σ.idxOf (σ.getD i 0)) i && Nat.blt (σ.idxOf i) n
theorem re_wp {P : Program} {σ : List Nat} {o : Oper} {a : Act} {w : World} {K : Act → World → Prop} {Q : Exit → Act → World → Prop} : (reOp σ o).wp P a w K Q = o.wp P a w K Q := by cases o; rfl
theorem re_asks {P : Program} {σ : List Nat} {o : Oper} {a : Act} {w : World} : (reOp σ o).asks P a w = o.asks P a w := by cases o; rfl
theorem re_dst {σ : List Nat} {o : Oper} : (reOp σ o).dst = o.dst := by cases o; rfl
section
variable {P : Program} {Q : Exit → Act → World → Prop} {l : List Oper} {σ : List Nat}
structure PermOk (σ : List Nat) (n : Nat) : Prop where
  len : σ.length = n
  lt : ∀ i, i < n → σ.getD i 0 < n
  idx : ∀ i, i < n → σ.idxOf (σ.getD i 0) = i
  inv : ∀ k, k < n → σ.idxOf k < n ∧ σ.getD (σ.idxOf k) 0 = k
theorem permB_spec {n : Nat} (h : permB σ n = true) : PermOk σ n := by
  unfold permB at h
  simp only [Bool.and_eq_true] at h
  obtain ⟨⟨h1, h2⟩, h3⟩ := h
  have hl : σ.length = n := Nat.eq_of_beq_eq_true h1
  have hlt : ∀ i, i < n → σ.getD i 0 < n := fun i hi => by
    have hm : σ.getD i 0 ∈ σ := by
      rw [List.getD, List.getElem?_eq_getElem (by omega)]
      exact List.getElem_mem _
    simpa [Nat.blt_eq] using List.all_eq_true.1 h2 _ hm
  have h4 : ∀ i, i < n → σ.idxOf (σ.getD i 0) = i ∧ σ.idxOf i < n := fun i hi => by
    have := List.all_eq_true.1 h3 i (List.mem_range.2 hi)
    rw [Bool.and_eq_true] at this
    exact ⟨Nat.eq_of_beq_eq_true this.1, by simpa [Nat.blt_eq] using this.2⟩
  have hidx : ∀ i, i < n → σ.idxOf (σ.getD i 0) = i := fun i hi => (h4 i hi).1
  refine ⟨hl, hlt, hidx, fun k hk => ?_⟩
  have h5 : σ.idxOf k < σ.length := by have := (h4 k hk).2; omega
  refine ⟨by omega, ?_⟩
  rw [List.getD, List.getElem?_eq_getElem h5]
  simp
theorem perm_get (hp : PermOk σ l.length) {i : Nat} (hi : i < l.length) : (permOps σ l)[i]? = (l[σ.getD i 0]?).map (reOp σ) := by
  have h1 := hp.lt i hi
  have h2 : i < σ.length := by rw [hp.len]; exact hi
  simp only [permOps, List.getElem?_map, List.getElem?_eq_getElem h2, Option.map_some]
  have e : σ.getD i 0 = σ[i] := by rw [List.getD, List.getElem?_eq_getElem h2]; rfl
  rw [e] at h1 ⊢
  rw [List.getD, List.getElem?_eq_getElem h1]
  rfl
theorem perm_yield (hp : PermOk σ l.length) (tm : Array Value) (j : Nat) : yielded (permOps σ l).toArray tm (σ.idxOf j) = yielded l.toArray tm j := by
  have h : ((permOps σ l)[σ.idxOf j]?).bind (·.dst) = (l[j]?).bind (·.dst) := by
    by_cases hj : j < l.length
    · obtain ⟨h1, h2⟩ := hp.inv j hj
      rw [perm_get hp h1, h2]
      cases l[j]? with
      | none => rfl
      | some o => simp [re_dst]
    · have h1 : ¬ σ.idxOf j < l.length := fun h => by
        have := hp.lt _ h
        rw [← hp.len] at h
        have h2 := List.idxOf_lt_length_iff.1 h
        have h3 : σ.getD (σ.idxOf j) 0 = j := by rw [List.getD, List.getElem?_eq_getElem h]; simp
        rw [h3] at this
        exact hj this
      have hlen : (permOps σ l).length = l.length := by simp [permOps, hp.len]
      rw [List.getElem?_eq_none (show (permOps σ l).length ≤ σ.idxOf j by omega), List.getElem?_eq_none (show l.length ≤ j by omega)]
  unfold yielded
  simp only [List.getElem?_toArray, h]
theorem perm_any (hp : PermOk σ l.length) : ∀ (m : Nat) (listed listed' : Array Bool) (a : Act) (w : World), listed.size = l.length → listed'.size = l.length → (∀ i, i < l.length → listed'.getD i false = listed.getD (σ.getD i 0) false) →
    wpAny P .any (permOps σ l).toArray Q m listed' a w → wpAny P .any l.toArray Q m listed a w := by
  have hlen : (permOps σ l).length = l.length := by simp [permOps, hp.len]
  have edge : ∀ (listed listed' : Array Bool), listed.size = l.length → listed'.size = l.length → (∀ i, i < l.length → listed'.getD i false = listed.getD (σ.getD i 0) false) → ∀ k, listed'.getD (σ.idxOf k) false = listed.getD k false := fun listed listed' h1 h2 h k => by
    by_cases hk : k < l.length
    · obtain ⟨h3, h4⟩ := hp.inv k hk
      rw [h _ h3, h4]
    · have h5 : ¬ σ.idxOf k < l.length := fun h => by
        have := hp.lt _ h
        rw [← hp.len] at h
        have h3 : σ.getD (σ.idxOf k) 0 = k := by rw [List.getD, List.getElem?_eq_getElem h]; simp
        rw [h3] at this
        exact hk this
      simp [show ¬ k < listed.size by omega, show ¬ σ.idxOf k < listed'.size by omega]
  have ready : ∀ (listed listed' : Array Bool), listed.size = l.length → listed'.size = l.length → (∀ i, i < l.length → listed'.getD i false = listed.getD (σ.getD i 0) false) → ∀ i, i < l.length → (i ∈ Region.ready .any (permOps σ l).toArray listed' ↔ σ.getD i 0 ∈ Region.ready .any l.toArray listed) := fun listed listed' h1 h2 h i hi => by
    have hlt := hp.lt i hi
    rw [mem_ready, mem_ready, getD_both_iff (by omega), getD_both_iff (by omega), h i hi]
    refine and_congr Iff.rfl ?_
    simp only [List.getElem?_toArray, perm_get hp hi]
    rw [List.getElem?_eq_getElem hlt]
    simp only [Option.map_some, Option.some.injEq, exists_eq_left']
    generalize l[σ.getD i 0] = o
    obtain ⟨d, op, ty, pos, aft, g⟩ := o
    simp only [reOp]
    constructor
    · intro hh e he hb
      have := hh { e with on := σ.idxOf e.on } (Array.mem_map.2 ⟨e, he, rfl⟩) hb
      rwa [edge listed listed' h1 h2 h] at this
    · intro hh e he hb
      obtain ⟨e', he', rfl⟩ := Array.mem_map.1 he
      rw [edge listed listed' h1 h2 h]
      exact hh e' he' hb
  intro m
  induction m with
  | zero =>
    intro listed listed' a w h1 h2 h hw
    refine ⟨?_, hw.2⟩
    apply List.eq_nil_iff_forall_not_mem.2
    intro k hk
    have hkl : k < l.length := by obtain ⟨_, o, ho, _⟩ := mem_ready.1 hk; simpa using (Array.getElem?_eq_some_iff.1 ho).1
    obtain ⟨h3, h4⟩ := hp.inv k hkl
    have := (ready listed listed' h1 h2 h _ h3).2 (by rw [h4]; exact hk)
    rw [hw.1] at this
    cases this
  | succ m ih =>
    intro listed listed' a w h1 h2 h hw
    obtain ⟨hw1, hw2⟩ := hw
    refine ⟨fun h0 => hw1 ?_, fun k hk => ?_⟩
    · apply List.eq_nil_iff_forall_not_mem.2
      intro i hi
      have hil : i < l.length := by obtain ⟨_, o, ho, _⟩ := mem_ready.1 hi; have := (Array.getElem?_eq_some_iff.1 ho).1; simp [hlen] at this; exact this
      have := (ready listed listed' h1 h2 h i hil).1 hi
      rw [h0] at this
      cases this
    · have hkl : k < l.length := by obtain ⟨_, o, ho, _⟩ := mem_ready.1 hk; simpa using (Array.getElem?_eq_some_iff.1 ho).1
      obtain ⟨h3, h4⟩ := hp.inv k hkl
      have hw3 := hw2 (σ.idxOf k) ((ready listed listed' h1 h2 h _ h3).2 (by rw [h4]; exact hk))
      have hnext : ∀ a w, wpAny P .any (permOps σ l).toArray Q m (listed'.setIfInBounds (σ.idxOf k) true) a w → wpAny P .any l.toArray Q m (listed.setIfInBounds k true) a w := fun a w => ih _ _ a w (by simpa using h1) (by simpa using h2) fun i hi => by
        by_cases e : σ.idxOf k = i
        · subst e
          rw [h4]
          simp [show k < listed.size by omega, show σ.idxOf k < listed'.size by omega]
        · have e2 : k ≠ σ.getD i 0 := fun e2 => e (by rw [e2]; exact hp.idx i hi)
          rw [getD_set_ne false e, getD_set_ne false e2]
          exact h i hi
      unfold wpOp at hw3 ⊢
      simp only [List.getElem?_toArray, perm_get hp h3, h4] at hw3 ⊢
      rw [List.getElem?_eq_getElem hkl] at hw3 ⊢
      simp only [Option.map_some] at hw3 ⊢
      have hwant : Region.wanted (reOp σ l[k]) (yielded (permOps σ l).toArray a.tmps) = Region.wanted l[k] (yielded l.toArray a.tmps) := by
        generalize l[k] = o
        obtain ⟨d, op, ty, pos, aft, g⟩ := o
        cases g with
        | none => rfl
        | some g => simp only [Region.wanted, reOp, Option.map_some, perm_yield hp]
      rw [hwant] at hw3
      split
      · rename_i hy
        rw [if_pos hy] at hw3
        rcases hw3 with hw3 | hw3
        · rw [re_wp] at hw3
          exact .inl (Oper.wp_mono hnext hw3)
        · rw [re_asks] at hw3
          exact .inr hw3
      · rename_i hy
        rw [if_neg hy] at hw3
        rw [re_dst] at hw3
        exact hnext _ _ hw3
/-- A region whose text is looked at in another order. -/
theorem wp_region_perm {id : Nat} {a : Act} {w : World} (hm : P.follows .mixedOrders = true) (σ : List Nat) (hσ : permB σ l.length = true) (h : RegAny P Q (permOps σ l) a w) : (Code.region id l.toArray true).wp P Q a w := by
  have hp := permB_spec hσ
  have hlen : (permOps σ l).length = l.length := by simp [permOps, hp.len]
  refine wp_region_any hm ?_
  unfold RegAny at h
  have e1 : (permOps σ l).toArray.size = l.toArray.size := by simp [hlen]
  rw [e1] at h
  refine perm_any hp _ _ _ a _ (by simp) (by simp) (fun i hi => ?_) h
  have := hp.lt i hi
  have hr : ∀ k, (Array.replicate l.toArray.size false).getD k false = false := fun k => by
    rw [Array.getD_eq_getD_getElem?, Array.getElem?_replicate]
    split <;> rfl
  rw [hr, hr]
end
section
variable {P : Program} {ops : Array Oper} {Q : Exit → Act → World → Prop} {rest : List Oper} {N : Nat} {F F' : List (Nat × Value)} {L L' : List Ent} {M : Nat → Prop} {w0 w : World} {a : Act}
variable {d : Tmp} {op : Op} {ty : TypeId} {pos : String} {aft : Array Edge} {x y z : Operand} {t u : TypeId}
theorem sk_append {i : Nat} {l : List Oper} {J : List Nat} {s0 x0 : Operand} {E ty : TypeId} {ed : TypeDesc} {sz bytes n m : Nat} {zs xs news : List Value} {v u : Value} (hs : St N F L M w0 a w) (hu : P.underlying t = some (.slice E)) (hE : Ty P E ed sz bytes zs) (hsz : 0 < sz)
    (hv : ev F s0 = some v) (hx : ev F x0 = some u) (hi : L[i]? = some (.row v n xs E sz)) (hr : Rd w u m news) (hl : news.length = m * sz) (h1 : news.all (·.oneCell') = true)
    (h63 : n + m ≤ maxLen) (hby : (n + m) * bytes ≤ 140737488355328) (hd : Nat.blt d N = true)
    (hlate : ∀ a w' v', Fr (Ent.keys (.row v n xs E sz)) w w' → (v' = .slice none 0 0 ↔ v = .slice none 0 0 ∧ m = 0) → St N ((d, v') :: F) (L.set i (.row v' (n + m) (xs ++ news) E sz)) M w0 a w' → lateOk P l a w' J)
    (k : ∀ a w' v', Fr (Ent.keys (.row v n xs E sz)) w w' → (v' = .slice none 0 0 ↔ v = .slice none 0 0 ∧ m = 0) → St N ((d, v') :: F) (L.set i (.row v' (n + m) (xs ++ news) E sz)) M w0 a w' → wpList P ops Q rest a w') :
    First P ops Q l J ⟨some d, .call { callee := .builtin .append, args := #[s0, x0], argTypes := #[t, t] }, ty, pos, aft, none⟩ rest a w := by
  have hown : w.ownsRow 0 E sz v n xs := hs.get hi
  obtain ⟨v', w', hrun, ho', hg, hnil, hblk⟩ := run_append2 (P := P) (w := w) (ty := ty) hu hE hsz hown hr hl h1 h63 hby
  have hrun' : (execOp a.eval ⟨some d, .call { callee := .builtin .append, args := #[s0, x0], argTypes := #[t, t] }, ty, pos, aft, none⟩).run P w = .ok (.value v') w' := by
    simp [execOp, resolve, invoke, builtin, hs.ev hv, hs.ev hx, hrun]
  have hs2 := (hs.mod (e' := .row v' (n + m) (xs ++ news) E sz) hi (Fr.grown hg) ho' fun k hk => ⟨hblk k hk, ownBlock_row ho' k hk⟩).put (lt_of_blt hd) v'
  exact ⟨_, _, v', hrun', .inr rfl, hlate _ _ _ (.grown hg) hnil hs2, k _ _ _ (.grown hg) hnil hs2⟩
theorem sk_appB {i : Nat} {ls : List Oper} {J : List Nat} {s0 x0 : Operand} {E : TypeId} {ed : TypeDesc} {zs : List Value} {l p : List UInt8} {v u : Value} (hs : St N F L M w0 a w) (hu : P.underlying t = some (.slice E)) (hE : Ty P E ed 1 1 zs)
    (hv : ev F s0 = some v) (hx : ev F x0 = some u) (hi : L[i]? = some (.row v l.length (l.map B) E 1)) (hr : RdB w u p) (hle : l.length + p.length ≤ 140737488355328) (hd : Nat.blt d N = true)
    (hlate : ∀ a w' v', Fr (Ent.keys (.row v l.length (l.map B) E 1)) w w' → (v' = .slice none 0 0 ↔ v = .slice none 0 0 ∧ p.length = 0) → St N ((d, v') :: F) (L.set i (.row v' (l ++ p).length ((l ++ p).map B) E 1)) M w0 a w' → lateOk P ls a w' J)
    (k : ∀ a w' v', Fr (Ent.keys (.row v l.length (l.map B) E 1)) w w' → (v' = .slice none 0 0 ↔ v = .slice none 0 0 ∧ p.length = 0) → St N ((d, v') :: F) (L.set i (.row v' (l ++ p).length ((l ++ p).map B) E 1)) M w0 a w' → wpList P ops Q rest a w') :
    First P ops Q ls J ⟨some d, .call { callee := .builtin .append, args := #[s0, x0], argTypes := #[t, t] }, ty, pos, aft, none⟩ rest a w := by
  have e : ∀ v', Ent.row v' (l.length + p.length) (l.map B ++ p.map B) E 1 = .row v' (l ++ p).length ((l ++ p).map B) E 1 := fun v' => by rw [List.length_append, List.map_append]
  exact sk_append hs hu hE (by decide) hv hx hi hr (by simp) (all_map_B p) (by unfold maxLen; omega) (by omega) hd (fun a w' v' hf hn hs => hlate a w' v' hf hn (e v' ▸ hs)) (fun a w' v' hf hn hs => k a w' v' hf hn (e v' ▸ hs))
end
end Go.Fw
end
