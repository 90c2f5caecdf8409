/- The sum as the document has it. -/
import Derived.Test.YtmgnnclkjkbmdaaShaE
set_option linter.unusedSimpArgs false
set_option linter.unusedVariables false
set_option maxRecDepth 100000
namespace Go.Proofs.Ytmgnnclkjkbmdaa
open Go Go.Fw

open Sha
theorem v_sub32 (n : Nat) (h : n ≤ 32) : V (32 - UInt64.ofNat n) = Value.int .u64 ((32 - n : Nat) : Int) := by
  unfold V
  congr 1
  have h2 : (UInt64.ofNat n) ≤ 32 := by rw [UInt64.le_iff_toNat_le, UInt64.toNat_ofNat']; show n % 2 ^ 64 ≤ 32; omega
  rw [UInt64.toNat_sub_of_le _ _ h2, UInt64.toNat_ofNat']
  have h3 : (32 : UInt64).toNat = 32 := rfl
  rw [h3]
  omega
theorem v_of (n : Nat) (h : n ≤ 32) : V (UInt64.ofNat n) = Value.int .u64 (n : Int) := by
  unfold V
  rw [UInt64.toNat_ofNat']
  congr 2
  omega
theorem word_sum (a b c d : UInt8) : a.toUInt32 * (16777216 : UInt32) + b.toUInt32 * (65536 : UInt32) + c.toUInt32 * (256 : UInt32) + d.toUInt32 = a.toUInt32 <<< 24 ||| b.toUInt32 <<< 16 ||| c.toUInt32 <<< 8 ||| d.toUInt32 := by
  have ha := a.toNat_lt; have hb := b.toNat_lt; have hc := c.toNat_lt; have hd := d.toNat_lt
  apply UInt32.toNat_inj.1
  have e1 : (a.toNat <<< 24 + b.toNat <<< 16) = a.toNat <<< 24 ||| b.toNat <<< 16 := Nat.shiftLeft_add_eq_or_of_lt (by rw [Nat.shiftLeft_eq]; omega) _
  have e2 : ((a.toNat <<< 8 + b.toNat) <<< 16 + c.toNat <<< 8) = (a.toNat <<< 8 + b.toNat) <<< 16 ||| c.toNat <<< 8 := Nat.shiftLeft_add_eq_or_of_lt (by rw [Nat.shiftLeft_eq]; omega) _
  have e3 : (((a.toNat <<< 8 + b.toNat) <<< 8 + c.toNat) <<< 8 + d.toNat) = ((a.toNat <<< 8 + b.toNat) <<< 8 + c.toNat) <<< 8 ||| d.toNat := Nat.shiftLeft_add_eq_or_of_lt (by omega) _
  have f1 : (a.toNat <<< 8 + b.toNat) <<< 16 = a.toNat <<< 24 + b.toNat <<< 16 := by simp only [Nat.shiftLeft_eq]; omega
  have f2 : ((a.toNat <<< 8 + b.toNat) <<< 8 + c.toNat) <<< 8 = (a.toNat <<< 8 + b.toNat) <<< 16 + c.toNat <<< 8 := by simp only [Nat.shiftLeft_eq]; omega
  have g1 : (a.toUInt32 <<< 24).toNat = a.toNat <<< 24 := by simp [UInt32.toNat_shiftLeft]; rw [Nat.shiftLeft_eq]; omega
  have g2 : (b.toUInt32 <<< 16).toNat = b.toNat <<< 16 := by simp [UInt32.toNat_shiftLeft]; rw [Nat.shiftLeft_eq]; omega
  have g3 : (c.toUInt32 <<< 8).toNat = c.toNat <<< 8 := by simp [UInt32.toNat_shiftLeft]; rw [Nat.shiftLeft_eq]; omega
  simp only [UInt32.toNat_or, g1, g2, g3, UInt8.toNat_toUInt32]
  rw [← e1, ← f1, ← e2, ← f2, ← e3]
  simp only [UInt32.toNat_add, UInt32.toNat_mul, UInt8.toNat_toUInt32, Nat.shiftLeft_eq]
  have h1 : (16777216 : UInt32).toNat = 16777216 := rfl
  have h2 : (65536 : UInt32).toNat = 65536 := rfl
  have h3 : (256 : UInt32).toNat = 256 := rfl
  rw [h1, h2, h3]
  omega
theorem add_set (r s : R) : ∀ k, k < 8 → ((r.add s).list.take k ++ r.list.drop k).set k (r.list.getD k 0 + s.list.getD k 0) = (r.add s).list.take (k + 1) ++ r.list.drop (k + 1)
  | 0, _ => rfl | 1, _ => rfl | 2, _ => rfl | 3, _ => rfl | 4, _ => rfl | 5, _ => rfl | 6, _ => rfl | 7, _ => rfl
  | k + 8, h => absurd h (by omega)
theorem add_get (r s : R) : ∀ k, k < 8 → (((r.add s).list.take k ++ r.list.drop k).map U)[0 + k * 1]? = some (U (r.list.getD k 0))
  | 0, _ => rfl | 1, _ => rfl | 2, _ => rfl | 3, _ => rfl | 4, _ => rfl | 5, _ => rfl | 6, _ => rfl | 7, _ => rfl
  | k + 8, h => absurd h (by omega)
theorem add_len (r s : R) (k : Nat) (h : k ≤ 8) : ((r.add s).list.take k ++ r.list.drop k).length = 8 := by simp; omega

theorem add4 (a b c d : UInt32) : a + b + c + d = d + c + b + a := by
  rw [UInt32.add_comm (a + b + c) d, UInt32.add_comm (a + b) c, UInt32.add_comm a b, ← UInt32.add_assoc, ← UInt32.add_assoc]
theorem lo_eq (p : List UInt8) (k : Nat) (hk : k < 16) : sched p (k + 1) = sched p k ++ [(p.getD (4 * k) 0).toUInt32 * (16777216 : UInt32) + (p.getD (4 * k + 1) 0).toUInt32 * (65536 : UInt32) + (p.getD (4 * k + 2) 0).toUInt32 * (256 : UInt32) + (p.getD (4 * k + 3) 0).toUInt32] := by
  rw [sched_lo p k hk, word, word_sum]
theorem hi_eq (p : List UInt8) (k : Nat) (hk : 16 ≤ k) : sched p (k + 1) = sched p k ++ [s1 ((sched p k).getD (k - 2) 0) + (sched p k).getD (k - 7) 0 + s0 ((sched p k).getD (k - 15) 0) + (sched p k).getD (k - 16) 0] := by
  rw [sched_hi p k hk, add4]

-- fingerpostref04.rotr
set_option maxHeartbeats 4000000 in
theorem ref04_rotr (x : UInt32) (n : Nat) (h0 : 0 < n) (h32 : n < 32) (w : World)  : Ctr Try.prog 181 [U x, .int .u64 (n : Int)] w (fun _ => False) (fun v _ => v = U (rotr x n)) := by
  refine fn_start (N := 13) Try.func181 rfl rfl rfl fun ac hk => ?_
  have hs := St.start hk w
  refine wp_seq ?_
  refine wp_reg ?_
  refine s_q hs (c_assign (St.ev (v := U 0) hs rfl)) rfl fun ac hs => ?_
  refine s_end ?_
  refine then_n ?_
  refine wp_seq ?_
  refine wp_reg ?_
  refine s_q hs (c_move (hs.ev rfl)) rfl fun ac hs => ?_
  refine s_q hs (c_move (hs.ev rfl)) rfl fun ac hs => ?_
  refine s_q hs (c_shrU (n := n) (hs.ev rfl) (hs.ev rfl) (by omega)) rfl fun ac hs => ?_
  refine s_q hs (c_move (hs.ev rfl)) rfl fun ac hs => ?_
  refine s_q hs (c_move (hs.ev rfl)) rfl fun ac hs => ?_
  refine s_q hs (c_subV (St.ev (v := V 32) hs rfl) ((hs.ev rfl).trans (v_of n (by omega)).symm)) rfl fun ac hs => ?_
  refine s_q hs (c_shlU (n := 32 - n) (hs.ev rfl) ((hs.ev rfl).trans (v_sub32 n (by omega))) (by omega)) rfl fun ac hs => ?_
  refine s_q hs (c_orU (hs.ev rfl) (hs.ev rfl)) rfl fun ac hs => ?_
  refine s_q hs (c_assign (hs.ev rfl)) rfl fun ac hs => ?_
  refine s_end ?_
  replace hs := hs.sub (F' := [(4, _)]) ⟨rfl, trivial⟩
  refine then_n ?_
  refine wp_ret ?_
  refine s_ret hs rfl (.tmp (hs.tmp rfl) .nil) rfl ⟨_, rfl, hs.fr, ?_⟩
  rfl

-- fingerpostref04.K
set_option maxHeartbeats 4000000 in
theorem ref04_K  (w : World)  : Ctr Try.prog 155 [] w (fun _ => False) (fun v _ => v = .agg (K.map U).toArray) := by
  refine fn_start (N := 2) Try.func155 rfl rfl rfl fun ac hk => ?_
  have hs := St.start hk w
  refine wp_seq ?_
  refine wp_reg ?_
  refine s_alloc hs ty207 rfl fun ac ww g0 hs => ?_
  refine s_end ?_
  refine then_n ?_
  refine wp_seq ?_
  refine wp_reg ?_
  refine s_q hs (c_buildA ty207 un207 ty27 (vs := K.map U) (zc := K.map U) (by repeat (first | exact .nil | refine .cons rfl ?_)) (by decide) (by decide) rfl) rfl fun ac hs => ?_
  refine s_storeW (i := 0) hs ty207 rfl rfl rfl (by simp) (all_map_U _) (by simp) fun ww hs => ?_
  refine s_end ?_
  replace hs := hs.sub (F' := [(0, _)]) ⟨rfl, trivial⟩
  refine then_n ?_
  refine wp_ret ?_
  refine s_ret hs rfl (.cell (hs.tmp rfl) (run_loadA ty207 rfl (hs.seg (i := 0) rfl) (List.take_of_length_le (by simp)) (by simp)) .nil) rfl ⟨_, rfl, hs.fr, ?_⟩
  rfl

-- fingerpostref04.First
set_option maxHeartbeats 4000000 in
theorem ref04_First  (w : World)  : Ctr Try.prog 154 [] w (fun _ => False) (fun v _ => v = .agg (first.list.map U).toArray) := by
  refine fn_start (N := 2) Try.func154 rfl rfl rfl fun ac hk => ?_
  have hs := St.start hk w
  refine wp_seq ?_
  refine wp_reg ?_
  refine s_alloc hs ty205 rfl fun ac ww g0 hs => ?_
  refine s_end ?_
  refine then_n ?_
  refine wp_seq ?_
  refine wp_reg ?_
  refine s_q hs (c_buildA (zc := first.list.map U) ty205 un205 ty27 (.cons (St.ev (v := U 1779033703) hs rfl) (.cons (St.ev (v := U 3144134277) hs rfl) (.cons (St.ev (v := U 1013904242) hs rfl) (.cons (St.ev (v := U 2773480762) hs rfl) (.cons (St.ev (v := U 1359893119) hs rfl) (.cons (St.ev (v := U 2600822924) hs rfl) (.cons (St.ev (v := U 528734635) hs rfl) (.cons (St.ev (v := U 1541459225) hs rfl) .nil)))))))) (by simp [Value.cells]) (by simp [flatCells, Value.cells]) rfl) rfl fun ac hs => ?_
  refine s_storeW (i := 0) hs ty205 rfl rfl rfl (by simp) (all_map_U _) (by simp) fun ww hs => ?_
  refine s_end ?_
  replace hs := hs.sub (F' := [(0, _)]) ⟨rfl, trivial⟩
  refine then_n ?_
  refine wp_ret ?_
  refine s_ret hs rfl (.cell (hs.tmp rfl) (run_loadA ty205 rfl (hs.seg (i := 0) rfl) (List.take_of_length_le (by simp)) (by simp)) .nil) rfl ⟨_, rfl, hs.fr, ?_⟩
  rfl

-- fingerpostref04.Block
set_option maxHeartbeats 4000000 in
theorem ref04_Block (r0 : R) (p : List UInt8) (vp : Value) (h64 : 64 ≤ p.length) (w : World) (hp : RdB w vp p) : Ctr Try.prog 156 [.agg (r0.list.map U).toArray, vp, .agg (K.map U).toArray] w (fun _ => False) (fun v _ => v = .agg ((comp r0 p).list.map U).toArray) := by
  obtain ⟨pb, po, pc, pT, pf, pall, rfl, hpc, hpm, hpb, hps⟩ := RdB.at_ hp (by omega)
  have hpl := hp.le
  refine fn_start (N := 213) Try.func156 rfl rfl rfl fun ac hk => ?_
  have hs := St.start hk w
  refine wp_seq ?_
  refine wp_reg ?_
  refine s_box hs rfl rfl rfl fun ac ww g3 hs => ?_
  refine s_box hs rfl rfl rfl fun ac ww g5 hs => ?_
  refine s_alloc hs ty205 rfl fun ac ww g6 hs => ?_
  refine s_end ?_
  replace hs := hs.sub (F' := [(1, _), (3, _), (5, _), (6, _)]) ⟨rfl, rfl, rfl, rfl, trivial⟩
  refine then_n ?_
  refine wp_seq ?_
  refine wp_reg ?_
  refine s_alloc hs ty207 rfl fun ac ww g7 hs => ?_
  refine s_end ?_
  refine then_n ?_
  refine wp_seq ?_
  refine wp_seq ?_
  refine wp_reg ?_
  refine s_q hs (c_assign (hs.ev rfl)) rfl fun ac hs => ?_
  refine s_end ?_
  refine then_n ?_
  refine wp_block ?_
  refine s_loop hs (X := Nat) (fun k => [(8, I k)]) [(1, _), (3, _), (5, _), (6, _), (7, _)] (fun k => [.seg g7 ((sched p k ++ List.replicate (64 - k) 0).map U) 207, .seg g6 ((List.replicate 8 (0 : UInt32)).map U) 205, .seg g5 (K.map U) 207, .seg g3 (r0.list.map U) 205]) (fun n k => k ≤ 64 ∧ n = 64 - k) (64) (0) (⟨by omega, rfl⟩) ⟨rfl, rfl, rfl, rfl, rfl, rfl, trivial⟩ (by rw [sched_zero]; rfl) ?_
  rintro n k ac ww hok hs
  simp only [List.cons_append, List.nil_append] at hs
  refine wp_seq ?_
  refine wp_seq ?_
  refine wp_reg ?_
  refine s_q hs (c_move (hs.ev rfl)) rfl fun ac hs => ?_
  refine s_q hs (c_lssI (hs.ev rfl) (hs.ev rfl)) rfl fun ac hs => ?_
  refine s_end ?_
  refine then_n ?_
  refine s_cond hs rfl (fun hc => ?_) (fun hc => ?_)
  · try simp only [decide_eq_true_eq, decide_eq_false_iff_not, Bool.not_eq_true', Bool.not_eq_false', Bool.and_eq_true, Bool.or_eq_true, Bool.or_eq_false_iff] at hc
    obtain ⟨hk, rfl⟩ := hok
    refine wp_skip ?_
    refine then_n ?_
    refine wp_seq ?_
    refine wp_block ?_
    refine wp_seq ?_
    refine wp_seq ?_
    refine wp_reg ?_
    refine s_q hs (c_move (hs.ev rfl)) rfl fun ac hs => ?_
    refine s_q hs (c_lssI (hs.ev rfl) (hs.ev rfl)) rfl fun ac hs => ?_
    refine s_end ?_
    refine then_n ?_
    refine s_cond hs rfl (fun hc => ?_) (fun hc => ?_)
    · try simp only [decide_eq_true_eq, decide_eq_false_iff_not, Bool.not_eq_true', Bool.not_eq_false', Bool.and_eq_true, Bool.or_eq_true, Bool.or_eq_false_iff] at hc
      refine wp_seq ?_
      refine wp_region_rg pmix 35 (by kernel_rfl) rfl hs ?_
      simp only [List.take_succ_cons, List.take_zero]
      refine rg_q (fun ac ww h => c_move (h.ev rfl)) rfl ?_
      refine rg_q (fun ac ww h => c_move (h.ev rfl)) rfl ?_
      refine rg_q (fun ac ww h => c_move (h.ev rfl)) rfl ?_
      refine rg_q (fun ac ww h => c_mulI (h.ev rfl) (h.ev rfl) (by omega) (by omega)) rfl ?_
      refine rg_q (fun ac ww h => c_idxS (j := 4 * k) un34 ty5 (h.ev rfl) (h.ev rfl) (by omega) (by omega)) rfl ?_
      refine rg_q (fun ac ww h => c_loadS un5 rfl (h.ev rfl) (h.blk (hs.old hpb id)) (seg_get 0 hps (by omega))) rfl ?_
      refine rg_q (fun ac ww h => c_cvBU un5 un27 (h.ev rfl)) rfl ?_
      refine rg_q (fun ac ww h => c_mulU (h.ev rfl) (RC.ev (v := U 16777216) h rfl)) rfl ?_
      refine rg_q (fun ac ww h => c_move (h.ev rfl)) rfl ?_
      refine rg_q (fun ac ww h => c_move (h.ev rfl)) rfl ?_
      refine rg_q (fun ac ww h => c_mulI (h.ev rfl) (h.ev rfl) (by omega) (by omega)) rfl ?_
      refine rg_q (fun ac ww h => c_addI (h.ev rfl) (h.ev rfl) (by omega) (by omega)) rfl ?_
      refine rg_q (fun ac ww h => c_idxS (j := 4 * k + 1) un34 ty5 (h.ev rfl) (h.ev rfl) (by omega) (by omega)) rfl ?_
      refine rg_q (fun ac ww h => c_loadS un5 rfl (h.ev rfl) (h.blk (hs.old hpb id)) (seg_get 0 hps (by omega))) rfl ?_
      refine rg_q (fun ac ww h => c_cvBU un5 un27 (h.ev rfl)) rfl ?_
      refine rg_q (fun ac ww h => c_mulU (h.ev rfl) (RC.ev (v := U 65536) h rfl)) rfl ?_
      refine rg_q (fun ac ww h => c_addU (h.ev rfl) (h.ev rfl)) rfl ?_
      refine rg_q (fun ac ww h => c_move (h.ev rfl)) rfl ?_
      refine rg_q (fun ac ww h => c_move (h.ev rfl)) rfl ?_
      refine rg_q (fun ac ww h => c_mulI (h.ev rfl) (h.ev rfl) (by omega) (by omega)) rfl ?_
      refine rg_q (fun ac ww h => c_addI (h.ev rfl) (h.ev rfl) (by omega) (by omega)) rfl ?_
      refine rg_q (fun ac ww h => c_idxS (j := 4 * k + 2) un34 ty5 (h.ev rfl) (h.ev rfl) (by omega) (by omega)) rfl ?_
      refine rg_q (fun ac ww h => c_loadS un5 rfl (h.ev rfl) (h.blk (hs.old hpb id)) (seg_get 0 hps (by omega))) rfl ?_
      refine rg_q (fun ac ww h => c_cvBU un5 un27 (h.ev rfl)) rfl ?_
      refine rg_q (fun ac ww h => c_mulU (h.ev rfl) (RC.ev (v := U 256) h rfl)) rfl ?_
      refine rg_q (fun ac ww h => c_addU (h.ev rfl) (h.ev rfl)) rfl ?_
      refine rg_q (fun ac ww h => c_move (h.ev rfl)) rfl ?_
      refine rg_q (fun ac ww h => c_move (h.ev rfl)) rfl ?_
      refine rg_q (fun ac ww h => c_mulI (h.ev rfl) (h.ev rfl) (by omega) (by omega)) rfl ?_
      refine rg_q (fun ac ww h => c_addI (h.ev rfl) (h.ev rfl) (by omega) (by omega)) rfl ?_
      refine rg_q (fun ac ww h => c_idxS (j := 4 * k + 3) un34 ty5 (h.ev rfl) (h.ev rfl) (by omega) (by omega)) rfl ?_
      refine rg_q (fun ac ww h => c_loadS un5 rfl (h.ev rfl) (h.blk (hs.old hpb id)) (seg_get 0 hps (by omega))) rfl ?_
      refine rg_q (fun ac ww h => c_cvBU un5 un27 (h.ev rfl)) rfl ?_
      refine rg_q (fun ac ww h => c_addU (h.ev rfl) (h.ev rfl)) rfl ?_
      refine rg_q (fun ac ww h => c_idxA (j := k) un207 ty27 (h.ev rfl) (h.ev rfl) (by omega) (by omega)) rfl ?_
      refine rg_nil fun ac ww L' hf hfe hs => ?_
      simp only [List.drop_succ_cons, List.drop_zero]
      obtain rfl : L' = [] := hfe
      replace hs := hs.toL (List.nil_append _)
      refine s_store (i := 0) hs ty27 rfl rfl rfl rfl rfl rfl (by rw [List.length_map, sched_len p k (by omega)]; omega) (map_set _ (by rw [sched_len p k (by omega)]; omega)) fun ww hs => ?_
      refine s_end ?_
      refine then_n ?_
      refine wp_exit ?_
      refine then_e ?_
      refine blk_hit ?_
      refine then_n ?_
      refine wp_reg ?_
      refine s_q hs (c_move (hs.ev rfl)) rfl fun ac hs => ?_
      refine s_q hs (c_addI (hs.ev rfl) (hs.ev rfl) (by omega) (by omega)) rfl fun ac hs => ?_
      refine s_q hs (c_assign (hs.ev rfl)) rfl fun ac hs => ?_
      refine s_end ?_
      refine then_n ?_
      exact ⟨64 - (k + 1), by omega, k + 1, ⟨by omega, rfl⟩, St.next hs ⟨rfl, rfl, rfl, rfl, rfl, rfl, trivial⟩ (by first | exact congrArg (fun z => [Ent.seg g7 (List.map U z) 207, _, _, _]) (sched_set p k (by omega) _ (lo_eq p k (by omega))) | exact congrArg (fun z => [Ent.seg g7 (List.map U z) 207, _, _, _]) (sched_set p k (by omega) _ (hi_eq p k (by omega))))⟩
    · try simp only [decide_eq_true_eq, decide_eq_false_iff_not, Bool.not_eq_true', Bool.not_eq_false', Bool.and_eq_true, Bool.or_eq_true, Bool.or_eq_false_iff] at hc
      refine wp_skip ?_
      refine then_n ?_
      refine wp_seq ?_
      refine wp_region_rg pmix 18 (by kernel_rfl) rfl hs ?_
      simp only [List.take_succ_cons, List.take_zero]
      refine rg_q (fun ac ww h => c_move (h.ev rfl)) rfl ?_
      refine rg_q (fun ac ww h => c_subI (h.ev rfl) (h.ev rfl) (by omega) (by omega)) rfl ?_
      refine rg_q (fun ac ww h => c_idxA (j := k - 15) un207 ty27 (h.ev rfl) (h.ev rfl) (by omega) (by omega)) rfl ?_
      refine rg_q (fun ac ww h => c_loadS un27 rfl (h.ev rfl) (h.blk (hs.seg (i := 0) rfl)) (sched_at p k (k - 15) _ (by omega))) rfl ?_
      refine rg_call fu181 (fun ac ww h => (.cons (h.ev rfl) (.cons (h.ev rfl) .nil))) (fun ww hf => ref04_rotr _ 7 (by omega) (by omega) _) rfl ?_
      refine rg_q (fun ac ww h => c_move (h.ev rfl)) rfl ?_
      refine rg_q (fun ac ww h => c_subI (h.ev rfl) (h.ev rfl) (by omega) (by omega)) rfl ?_
      refine rg_q (fun ac ww h => c_idxA (j := k - 15) un207 ty27 (h.ev rfl) (h.ev rfl) (by omega) (by omega)) rfl ?_
      refine rg_q (fun ac ww h => c_loadS un27 rfl (h.ev rfl) (h.blk (hs.seg (i := 0) rfl)) (sched_at p k (k - 15) _ (by omega))) rfl ?_
      refine rg_call fu181 (fun ac ww h => (.cons (h.ev rfl) (.cons (h.ev rfl) .nil))) (fun ww hf => ref04_rotr _ 18 (by omega) (by omega) _) rfl ?_
      refine rg_q (fun ac ww h => c_xorU (h.ev rfl) (h.ev rfl)) rfl ?_
      refine rg_q (fun ac ww h => c_move (h.ev rfl)) rfl ?_
      refine rg_q (fun ac ww h => c_subI (h.ev rfl) (h.ev rfl) (by omega) (by omega)) rfl ?_
      refine rg_q (fun ac ww h => c_idxA (j := k - 15) un207 ty27 (h.ev rfl) (h.ev rfl) (by omega) (by omega)) rfl ?_
      refine rg_q (fun ac ww h => c_loadS un27 rfl (h.ev rfl) (h.blk (hs.seg (i := 0) rfl)) (sched_at p k (k - 15) _ (by omega))) rfl ?_
      refine rg_q (fun ac ww h => c_shrU (h.ev rfl) (h.ev rfl) (by decide)) rfl ?_
      refine rg_q (fun ac ww h => c_xorU (h.ev rfl) (h.ev rfl)) rfl ?_
      refine rg_q (fun ac ww h => c_assign (h.ev rfl)) rfl ?_
      refine rg_nil fun ac ww L' hf hfe hs => ?_
      simp only [List.drop_succ_cons, List.drop_zero]
      obtain rfl : L' = [] := hfe
      replace hs := hs.toL (List.nil_append _)
      refine s_end ?_
      refine then_n ?_
      refine wp_seq ?_
      refine wp_region_rg pmix 18 (by kernel_rfl) rfl hs ?_
      simp only [List.take_succ_cons, List.take_zero]
      refine rg_q (fun ac ww h => c_move (h.ev rfl)) rfl ?_
      refine rg_q (fun ac ww h => c_subI (h.ev rfl) (h.ev rfl) (by omega) (by omega)) rfl ?_
      refine rg_q (fun ac ww h => c_idxA (j := k - 2) un207 ty27 (h.ev rfl) (h.ev rfl) (by omega) (by omega)) rfl ?_
      refine rg_q (fun ac ww h => c_loadS un27 rfl (h.ev rfl) (h.blk (hs.seg (i := 0) rfl)) (sched_at p k (k - 2) _ (by omega))) rfl ?_
      refine rg_call fu181 (fun ac ww h => (.cons (h.ev rfl) (.cons (h.ev rfl) .nil))) (fun ww hf => ref04_rotr _ 17 (by omega) (by omega) _) rfl ?_
      refine rg_q (fun ac ww h => c_move (h.ev rfl)) rfl ?_
      refine rg_q (fun ac ww h => c_subI (h.ev rfl) (h.ev rfl) (by omega) (by omega)) rfl ?_
      refine rg_q (fun ac ww h => c_idxA (j := k - 2) un207 ty27 (h.ev rfl) (h.ev rfl) (by omega) (by omega)) rfl ?_
      refine rg_q (fun ac ww h => c_loadS un27 rfl (h.ev rfl) (h.blk (hs.seg (i := 0) rfl)) (sched_at p k (k - 2) _ (by omega))) rfl ?_
      refine rg_call fu181 (fun ac ww h => (.cons (h.ev rfl) (.cons (h.ev rfl) .nil))) (fun ww hf => ref04_rotr _ 19 (by omega) (by omega) _) rfl ?_
      refine rg_q (fun ac ww h => c_xorU (h.ev rfl) (h.ev rfl)) rfl ?_
      refine rg_q (fun ac ww h => c_move (h.ev rfl)) rfl ?_
      refine rg_q (fun ac ww h => c_subI (h.ev rfl) (h.ev rfl) (by omega) (by omega)) rfl ?_
      refine rg_q (fun ac ww h => c_idxA (j := k - 2) un207 ty27 (h.ev rfl) (h.ev rfl) (by omega) (by omega)) rfl ?_
      refine rg_q (fun ac ww h => c_loadS un27 rfl (h.ev rfl) (h.blk (hs.seg (i := 0) rfl)) (sched_at p k (k - 2) _ (by omega))) rfl ?_
      refine rg_q (fun ac ww h => c_shrU (h.ev rfl) (h.ev rfl) (by decide)) rfl ?_
      refine rg_q (fun ac ww h => c_xorU (h.ev rfl) (h.ev rfl)) rfl ?_
      refine rg_q (fun ac ww h => c_assign (h.ev rfl)) rfl ?_
      refine rg_nil fun ac ww L' hf hfe hs => ?_
      simp only [List.drop_succ_cons, List.drop_zero]
      obtain rfl : L' = [] := hfe
      replace hs := hs.toL (List.nil_append _)
      refine s_end ?_
      refine then_n ?_
      refine wp_region_rg pmix 15 (by kernel_rfl) rfl hs ?_
      simp only [List.take_succ_cons, List.take_zero]
      refine rg_q (fun ac ww h => c_move (h.ev rfl)) rfl ?_
      refine rg_q (fun ac ww h => c_move (h.ev rfl)) rfl ?_
      refine rg_q (fun ac ww h => c_move (h.ev rfl)) rfl ?_
      refine rg_q (fun ac ww h => c_subI (h.ev rfl) (h.ev rfl) (by omega) (by omega)) rfl ?_
      refine rg_q (fun ac ww h => c_idxA (j := k - 7) un207 ty27 (h.ev rfl) (h.ev rfl) (by omega) (by omega)) rfl ?_
      refine rg_q (fun ac ww h => c_loadS un27 rfl (h.ev rfl) (h.blk (hs.seg (i := 0) rfl)) (sched_at p k (k - 7) _ (by omega))) rfl ?_
      refine rg_q (fun ac ww h => c_addU (h.ev rfl) (h.ev rfl)) rfl ?_
      refine rg_q (fun ac ww h => c_move (h.ev rfl)) rfl ?_
      refine rg_q (fun ac ww h => c_addU (h.ev rfl) (h.ev rfl)) rfl ?_
      refine rg_q (fun ac ww h => c_move (h.ev rfl)) rfl ?_
      refine rg_q (fun ac ww h => c_subI (h.ev rfl) (h.ev rfl) (by omega) (by omega)) rfl ?_
      refine rg_q (fun ac ww h => c_idxA (j := k - 16) un207 ty27 (h.ev rfl) (h.ev rfl) (by omega) (by omega)) rfl ?_
      refine rg_q (fun ac ww h => c_loadS un27 rfl (h.ev rfl) (h.blk (hs.seg (i := 0) rfl)) (sched_at p k (k - 16) _ (by omega))) rfl ?_
      refine rg_q (fun ac ww h => c_addU (h.ev rfl) (h.ev rfl)) rfl ?_
      refine rg_q (fun ac ww h => c_idxA (j := k) un207 ty27 (h.ev rfl) (h.ev rfl) (by omega) (by omega)) rfl ?_
      refine rg_nil fun ac ww L' hf hfe hs => ?_
      simp only [List.drop_succ_cons, List.drop_zero]
      obtain rfl : L' = [] := hfe
      replace hs := hs.toL (List.nil_append _)
      refine s_store (i := 0) hs ty27 rfl rfl rfl rfl rfl rfl (by rw [List.length_map, sched_len p k (by omega)]; omega) (map_set _ (by rw [sched_len p k (by omega)]; omega)) fun ww hs => ?_
      refine s_end ?_
      refine blk_n ?_
      refine then_n ?_
      refine wp_reg ?_
      refine s_q hs (c_move (hs.ev rfl)) rfl fun ac hs => ?_
      refine s_q hs (c_addI (hs.ev rfl) (hs.ev rfl) (by omega) (by omega)) rfl fun ac hs => ?_
      refine s_q hs (c_assign (hs.ev rfl)) rfl fun ac hs => ?_
      refine s_end ?_
      refine then_n ?_
      exact ⟨64 - (k + 1), by omega, k + 1, ⟨by omega, rfl⟩, St.next hs ⟨rfl, rfl, rfl, rfl, rfl, rfl, trivial⟩ (by first | exact congrArg (fun z => [Ent.seg g7 (List.map U z) 207, _, _, _]) (sched_set p k (by omega) _ (lo_eq p k (by omega))) | exact congrArg (fun z => [Ent.seg g7 (List.map U z) 207, _, _, _]) (sched_set p k (by omega) _ (hi_eq p k (by omega))))⟩
  · try simp only [decide_eq_true_eq, decide_eq_false_iff_not, Bool.not_eq_true', Bool.not_eq_false', Bool.and_eq_true, Bool.or_eq_true, Bool.or_eq_false_iff] at hc
    obtain ⟨hk, rfl⟩ := hok
    obtain rfl : k = 64 := by omega
    refine wp_exit ?_
    refine then_e ?_
    refine then_e ?_
    refine blk_hit ?_
    refine then_n ?_
    refine wp_seq ?_
    refine wp_reg ?_
    refine s_q hs (c_loadW ty205 rfl (hs.ev rfl) (hs.seg (i := 3) rfl) (by simp)) rfl fun ac hs => ?_
    refine s_alloc hs ty205 rfl fun ac ww g11 hs => ?_
    refine s_storeW (i := 0) hs ty205 rfl rfl rfl (by simp) (all_map_U _) (by simp) fun ww hs => ?_
    refine s_end ?_
    replace hs := hs.sub (F' := [(3, _), (5, _), (6, _), (7, _), (11, _)]) ⟨rfl, rfl, rfl, rfl, rfl, trivial⟩
    refine then_n ?_
    refine wp_seq ?_
    refine wp_seq ?_
    refine wp_reg ?_
    refine s_q hs (c_assign (hs.ev rfl)) rfl fun ac hs => ?_
    refine s_end ?_
    refine then_n ?_
    refine wp_block ?_
    refine s_loop hs (X := Nat) (fun k => [(12, I k)]) [(3, _), (5, _), (6, _), (7, _), (11, _)] (fun k => [.seg g11 ((rounds p r0 k).list.map U) 205, .seg g7 ((sched p 64 ++ List.replicate (64 - 64) 0).map U) 207, .seg g6 ((List.replicate 8 (0 : UInt32)).map U) 205, .seg g5 (K.map U) 207, .seg g3 (r0.list.map U) 205]) (fun n k => k ≤ 64 ∧ n = 64 - k) (64) (0) (⟨by omega, rfl⟩) ⟨rfl, rfl, rfl, rfl, rfl, rfl, trivial⟩ rfl ?_
    rintro n k ac ww hok hs
    simp only [List.cons_append, List.nil_append] at hs
    refine wp_seq ?_
    refine wp_seq ?_
    refine wp_reg ?_
    refine s_q hs (c_move (hs.ev rfl)) rfl fun ac hs => ?_
    refine s_q hs (c_lssI (hs.ev rfl) (hs.ev rfl)) rfl fun ac hs => ?_
    refine s_end ?_
    refine then_n ?_
    refine s_cond hs rfl (fun hc => ?_) (fun hc => ?_)
    · try simp only [decide_eq_true_eq, decide_eq_false_iff_not, Bool.not_eq_true', Bool.not_eq_false', Bool.and_eq_true, Bool.or_eq_true, Bool.or_eq_false_iff] at hc
      obtain ⟨hk, rfl⟩ := hok
      refine wp_skip ?_
      refine then_n ?_
      refine wp_seq ?_
      refine wp_block ?_
      refine wp_seq ?_
      refine wp_reg ?_
      refine s_q hs (c_idxA un205 ty27 (hs.ev rfl) (hs.ev rfl) rfl (by decide)) rfl fun ac hs => ?_
      refine s_q hs (c_loadS un27 rfl (hs.ev rfl) (hs.seg (i := 0) rfl) rfl) rfl fun ac hs => ?_
      refine s_q hs (c_idxA un205 ty27 (hs.ev rfl) (hs.ev rfl) rfl (by decide)) rfl fun ac hs => ?_
      refine s_q hs (c_loadS un27 rfl (hs.ev rfl) (hs.seg (i := 0) rfl) rfl) rfl fun ac hs => ?_
      refine s_q hs (c_andU (hs.ev rfl) (hs.ev rfl)) rfl fun ac hs => ?_
      refine s_q hs (c_idxA un205 ty27 (hs.ev rfl) (hs.ev rfl) rfl (by decide)) rfl fun ac hs => ?_
      refine s_q hs (c_loadS un27 rfl (hs.ev rfl) (hs.seg (i := 0) rfl) rfl) rfl fun ac hs => ?_
      refine s_q hs (c_notU (hs.ev rfl)) rfl fun ac hs => ?_
      refine s_q hs (c_idxA un205 ty27 (hs.ev rfl) (hs.ev rfl) rfl (by decide)) rfl fun ac hs => ?_
      refine s_q hs (c_loadS un27 rfl (hs.ev rfl) (hs.seg (i := 0) rfl) rfl) rfl fun ac hs => ?_
      refine s_q hs (c_andU (hs.ev rfl) (hs.ev rfl)) rfl fun ac hs => ?_
      refine s_q hs (c_xorU (hs.ev rfl) (hs.ev rfl)) rfl fun ac hs => ?_
      refine s_q hs (c_assign (hs.ev rfl)) rfl fun ac hs => ?_
      refine s_end ?_
      refine then_n ?_
      refine wp_seq ?_
      refine wp_reg ?_
      refine s_q hs (c_idxA un205 ty27 (hs.ev rfl) (hs.ev rfl) rfl (by decide)) rfl fun ac hs => ?_
      refine s_q hs (c_loadS un27 rfl (hs.ev rfl) (hs.seg (i := 0) rfl) rfl) rfl fun ac hs => ?_
      refine s_q hs (c_idxA un205 ty27 (hs.ev rfl) (hs.ev rfl) rfl (by decide)) rfl fun ac hs => ?_
      refine s_q hs (c_loadS un27 rfl (hs.ev rfl) (hs.seg (i := 0) rfl) rfl) rfl fun ac hs => ?_
      refine s_q hs (c_andU (hs.ev rfl) (hs.ev rfl)) rfl fun ac hs => ?_
      refine s_q hs (c_idxA un205 ty27 (hs.ev rfl) (hs.ev rfl) rfl (by decide)) rfl fun ac hs => ?_
      refine s_q hs (c_loadS un27 rfl (hs.ev rfl) (hs.seg (i := 0) rfl) rfl) rfl fun ac hs => ?_
      refine s_q hs (c_idxA un205 ty27 (hs.ev rfl) (hs.ev rfl) rfl (by decide)) rfl fun ac hs => ?_
      refine s_q hs (c_loadS un27 rfl (hs.ev rfl) (hs.seg (i := 0) rfl) rfl) rfl fun ac hs => ?_
      refine s_q hs (c_andU (hs.ev rfl) (hs.ev rfl)) rfl fun ac hs => ?_
      refine s_q hs (c_xorU (hs.ev rfl) (hs.ev rfl)) rfl fun ac hs => ?_
      refine s_q hs (c_idxA un205 ty27 (hs.ev rfl) (hs.ev rfl) rfl (by decide)) rfl fun ac hs => ?_
      refine s_q hs (c_loadS un27 rfl (hs.ev rfl) (hs.seg (i := 0) rfl) rfl) rfl fun ac hs => ?_
      refine s_q hs (c_idxA un205 ty27 (hs.ev rfl) (hs.ev rfl) rfl (by decide)) rfl fun ac hs => ?_
      refine s_q hs (c_loadS un27 rfl (hs.ev rfl) (hs.seg (i := 0) rfl) rfl) rfl fun ac hs => ?_
      refine s_q hs (c_andU (hs.ev rfl) (hs.ev rfl)) rfl fun ac hs => ?_
      refine s_q hs (c_xorU (hs.ev rfl) (hs.ev rfl)) rfl fun ac hs => ?_
      refine s_q hs (c_assign (hs.ev rfl)) rfl fun ac hs => ?_
      refine s_end ?_
      refine then_n ?_
      refine wp_seq ?_
      refine wp_region_rg pmix 25 (by kernel_rfl) rfl hs ?_
      simp only [List.take_succ_cons, List.take_zero]
      refine rg_q (fun ac ww h => c_idxA un205 ty27 (h.ev rfl) (h.ev rfl) rfl (by decide)) rfl ?_
      refine rg_q (fun ac ww h => c_loadS un27 rfl (h.ev rfl) (h.blk (hs.seg (i := 0) rfl)) rfl) rfl ?_
      refine rg_q (fun ac ww h => c_idxA un205 ty27 (h.ev rfl) (h.ev rfl) rfl (by decide)) rfl ?_
      refine rg_q (fun ac ww h => c_loadS un27 rfl (h.ev rfl) (h.blk (hs.seg (i := 0) rfl)) rfl) rfl ?_
      refine rg_call fu181 (fun ac ww h => (.cons (h.ev rfl) (.cons (h.ev rfl) .nil))) (fun ww hf => ref04_rotr _ 6 (by omega) (by omega) _) rfl ?_
      refine rg_q (fun ac ww h => c_idxA un205 ty27 (h.ev rfl) (h.ev rfl) rfl (by decide)) rfl ?_
      refine rg_q (fun ac ww h => c_loadS un27 rfl (h.ev rfl) (h.blk (hs.seg (i := 0) rfl)) rfl) rfl ?_
      refine rg_call fu181 (fun ac ww h => (.cons (h.ev rfl) (.cons (h.ev rfl) .nil))) (fun ww hf => ref04_rotr _ 11 (by omega) (by omega) _) rfl ?_
      refine rg_q (fun ac ww h => c_xorU (h.ev rfl) (h.ev rfl)) rfl ?_
      refine rg_q (fun ac ww h => c_idxA un205 ty27 (h.ev rfl) (h.ev rfl) rfl (by decide)) rfl ?_
      refine rg_q (fun ac ww h => c_loadS un27 rfl (h.ev rfl) (h.blk (hs.seg (i := 0) rfl)) rfl) rfl ?_
      refine rg_call fu181 (fun ac ww h => (.cons (h.ev rfl) (.cons (h.ev rfl) .nil))) (fun ww hf => ref04_rotr _ 25 (by omega) (by omega) _) rfl ?_
      refine rg_q (fun ac ww h => c_xorU (h.ev rfl) (h.ev rfl)) rfl ?_
      refine rg_q (fun ac ww h => c_addU (h.ev rfl) (h.ev rfl)) rfl ?_
      refine rg_q (fun ac ww h => c_move (h.ev rfl)) rfl ?_
      refine rg_q (fun ac ww h => c_addU (h.ev rfl) (h.ev rfl)) rfl ?_
      refine rg_q (fun ac ww h => c_move (h.ev rfl)) rfl ?_
      refine rg_q (fun ac ww h => c_idxA (j := k) un207 ty27 (h.ev rfl) (h.ev rfl) (by omega) (by omega)) rfl ?_
      refine rg_q (fun ac ww h => c_loadS un27 rfl (h.ev rfl) (h.blk (hs.seg (i := 3) rfl)) (map_get 0 (by simp; omega))) rfl ?_
      refine rg_q (fun ac ww h => c_addU (h.ev rfl) (h.ev rfl)) rfl ?_
      refine rg_q (fun ac ww h => c_move (h.ev rfl)) rfl ?_
      refine rg_q (fun ac ww h => c_idxA (j := k) un207 ty27 (h.ev rfl) (h.ev rfl) (by omega) (by omega)) rfl ?_
      refine rg_q (fun ac ww h => c_loadS un27 rfl (h.ev rfl) (h.blk (hs.seg (i := 1) rfl)) (sched_at p 64 k _ (by omega))) rfl ?_
      refine rg_q (fun ac ww h => c_addU (h.ev rfl) (h.ev rfl)) rfl ?_
      refine rg_q (fun ac ww h => c_assign (h.ev rfl)) rfl ?_
      refine rg_nil fun ac ww L' hf hfe hs => ?_
      simp only [List.drop_succ_cons, List.drop_zero]
      obtain rfl : L' = [] := hfe
      replace hs := hs.toL (List.nil_append _)
      refine s_end ?_
      refine then_n ?_
      refine wp_seq ?_
      refine wp_region_rg pmix 14 (by kernel_rfl) rfl hs ?_
      simp only [List.take_succ_cons, List.take_zero]
      refine rg_q (fun ac ww h => c_idxA un205 ty27 (h.ev rfl) (h.ev rfl) rfl (by decide)) rfl ?_
      refine rg_q (fun ac ww h => c_loadS un27 rfl (h.ev rfl) (h.blk (hs.seg (i := 0) rfl)) rfl) rfl ?_
      refine rg_call fu181 (fun ac ww h => (.cons (h.ev rfl) (.cons (h.ev rfl) .nil))) (fun ww hf => ref04_rotr _ 2 (by omega) (by omega) _) rfl ?_
      refine rg_q (fun ac ww h => c_idxA un205 ty27 (h.ev rfl) (h.ev rfl) rfl (by decide)) rfl ?_
      refine rg_q (fun ac ww h => c_loadS un27 rfl (h.ev rfl) (h.blk (hs.seg (i := 0) rfl)) rfl) rfl ?_
      refine rg_call fu181 (fun ac ww h => (.cons (h.ev rfl) (.cons (h.ev rfl) .nil))) (fun ww hf => ref04_rotr _ 13 (by omega) (by omega) _) rfl ?_
      refine rg_q (fun ac ww h => c_xorU (h.ev rfl) (h.ev rfl)) rfl ?_
      refine rg_q (fun ac ww h => c_idxA un205 ty27 (h.ev rfl) (h.ev rfl) rfl (by decide)) rfl ?_
      refine rg_q (fun ac ww h => c_loadS un27 rfl (h.ev rfl) (h.blk (hs.seg (i := 0) rfl)) rfl) rfl ?_
      refine rg_call fu181 (fun ac ww h => (.cons (h.ev rfl) (.cons (h.ev rfl) .nil))) (fun ww hf => ref04_rotr _ 22 (by omega) (by omega) _) rfl ?_
      refine rg_q (fun ac ww h => c_xorU (h.ev rfl) (h.ev rfl)) rfl ?_
      refine rg_q (fun ac ww h => c_move (h.ev rfl)) rfl ?_
      refine rg_q (fun ac ww h => c_addU (h.ev rfl) (h.ev rfl)) rfl ?_
      refine rg_q (fun ac ww h => c_assign (h.ev rfl)) rfl ?_
      refine rg_nil fun ac ww L' hf hfe hs => ?_
      simp only [List.drop_succ_cons, List.drop_zero]
      obtain rfl : L' = [] := hfe
      replace hs := hs.toL (List.nil_append _)
      refine s_end ?_
      refine then_n ?_
      refine wp_reg ?_
      refine s_q hs (c_move (hs.ev rfl)) rfl fun ac hs => ?_
      refine s_q hs (c_move (hs.ev rfl)) rfl fun ac hs => ?_
      refine s_q hs (c_addU (hs.ev rfl) (hs.ev rfl)) rfl fun ac hs => ?_
      refine s_q hs (c_idxA un205 ty27 (hs.ev rfl) (hs.ev rfl) rfl (by decide)) rfl fun ac hs => ?_
      refine s_q hs (c_loadS un27 rfl (hs.ev rfl) (hs.seg (i := 0) rfl) rfl) rfl fun ac hs => ?_
      refine s_q hs (c_idxA un205 ty27 (hs.ev rfl) (hs.ev rfl) rfl (by decide)) rfl fun ac hs => ?_
      refine s_q hs (c_loadS un27 rfl (hs.ev rfl) (hs.seg (i := 0) rfl) rfl) rfl fun ac hs => ?_
      refine s_q hs (c_idxA un205 ty27 (hs.ev rfl) (hs.ev rfl) rfl (by decide)) rfl fun ac hs => ?_
      refine s_q hs (c_loadS un27 rfl (hs.ev rfl) (hs.seg (i := 0) rfl) rfl) rfl fun ac hs => ?_
      refine s_q hs (c_idxA un205 ty27 (hs.ev rfl) (hs.ev rfl) rfl (by decide)) rfl fun ac hs => ?_
      refine s_q hs (c_loadS un27 rfl (hs.ev rfl) (hs.seg (i := 0) rfl) rfl) rfl fun ac hs => ?_
      refine s_q hs (c_move (hs.ev rfl)) rfl fun ac hs => ?_
      refine s_q hs (c_addU (hs.ev rfl) (hs.ev rfl)) rfl fun ac hs => ?_
      refine s_q hs (c_idxA un205 ty27 (hs.ev rfl) (hs.ev rfl) rfl (by decide)) rfl fun ac hs => ?_
      refine s_q hs (c_loadS un27 rfl (hs.ev rfl) (hs.seg (i := 0) rfl) rfl) rfl fun ac hs => ?_
      refine s_q hs (c_idxA un205 ty27 (hs.ev rfl) (hs.ev rfl) rfl (by decide)) rfl fun ac hs => ?_
      refine s_q hs (c_loadS un27 rfl (hs.ev rfl) (hs.seg (i := 0) rfl) rfl) rfl fun ac hs => ?_
      refine s_q hs (c_idxA un205 ty27 (hs.ev rfl) (hs.ev rfl) rfl (by decide)) rfl fun ac hs => ?_
      refine s_q hs (c_loadS un27 rfl (hs.ev rfl) (hs.seg (i := 0) rfl) rfl) rfl fun ac hs => ?_
      refine s_q hs (c_buildA (zc := (rounds p r0 (k + 1)).list.map U) ty205 un205 ty27 (.cons (hs.ev rfl) (.cons (hs.ev rfl) (.cons (hs.ev rfl) (.cons (hs.ev rfl) (.cons (hs.ev rfl) (.cons (hs.ev rfl) (.cons (hs.ev rfl) (.cons (hs.ev rfl) .nil)))))))) (by simp [Value.cells]) (by simp [flatCells, Value.cells]) rfl) rfl fun ac hs => ?_
      refine s_storeW (i := 0) hs ty205 rfl rfl rfl (by simp) (all_map_U _) (by simp) fun ww hs => ?_
      refine s_end ?_
      refine blk_n ?_
      refine then_n ?_
      refine wp_reg ?_
      refine s_q hs (c_move (hs.ev rfl)) rfl fun ac hs => ?_
      refine s_q hs (c_addI (hs.ev rfl) (hs.ev rfl) (by omega) (by omega)) rfl fun ac hs => ?_
      refine s_q hs (c_assign (hs.ev rfl)) rfl fun ac hs => ?_
      refine s_end ?_
      refine then_n ?_
      exact ⟨64 - (k + 1), by omega, k + 1, ⟨by omega, rfl⟩, St.next hs ⟨rfl, rfl, rfl, rfl, rfl, rfl, trivial⟩ rfl⟩
    · try simp only [decide_eq_true_eq, decide_eq_false_iff_not, Bool.not_eq_true', Bool.not_eq_false', Bool.and_eq_true, Bool.or_eq_true, Bool.or_eq_false_iff] at hc
      obtain ⟨hk, rfl⟩ := hok
      obtain rfl : k = 64 := by omega
      refine wp_exit ?_
      refine then_e ?_
      refine then_e ?_
      refine blk_hit ?_
      refine then_n ?_
      refine wp_seq ?_
      refine wp_seq ?_
      refine wp_reg ?_
      refine s_q hs (c_assign (hs.ev rfl)) rfl fun ac hs => ?_
      refine s_end ?_
      replace hs := hs.sub (F' := [(3, _), (6, _), (11, _), (17, _)]) ⟨rfl, rfl, rfl, rfl, trivial⟩
      refine then_n ?_
      refine wp_block ?_
      refine s_loop hs (X := Nat) (fun k => [(17, I k)]) [(3, _), (6, _), (11, _)] (fun k => [.seg g11 ((rounds p r0 64).list.map U) 205, .seg g7 ((sched p 64 ++ List.replicate (64 - 64) 0).map U) 207, .seg g6 ((List.replicate 8 (0 : UInt32)).map U) 205, .seg g5 (K.map U) 207, .seg g3 (((r0.add (rounds p r0 64)).list.take k ++ r0.list.drop k).map U) 205]) (fun n k => k ≤ 8 ∧ n = 8 - k) (8) (0) (⟨by omega, rfl⟩) ⟨rfl, rfl, rfl, rfl, trivial⟩ rfl ?_
      rintro n k ac ww hok hs
      simp only [List.cons_append, List.nil_append] at hs
      refine wp_seq ?_
      refine wp_seq ?_
      refine wp_reg ?_
      refine s_q hs (c_move (hs.ev rfl)) rfl fun ac hs => ?_
      refine s_q hs (c_lssI (hs.ev rfl) (hs.ev rfl)) rfl fun ac hs => ?_
      refine s_end ?_
      refine then_n ?_
      refine s_cond hs rfl (fun hc => ?_) (fun hc => ?_)
      · try simp only [decide_eq_true_eq, decide_eq_false_iff_not, Bool.not_eq_true', Bool.not_eq_false', Bool.and_eq_true, Bool.or_eq_true, Bool.or_eq_false_iff] at hc
        obtain ⟨hk, rfl⟩ := hok
        have hzl := add_len r0 (rounds p r0 64) k hk
        refine wp_skip ?_
        refine then_n ?_
        refine wp_seq ?_
        refine wp_block ?_
        refine wp_region_rg pmix 9 (by kernel_rfl) rfl hs ?_
        simp only [List.take_succ_cons, List.take_zero]
        refine rg_q (fun ac ww h => c_move (h.ev rfl)) rfl ?_
        refine rg_q (fun ac ww h => c_move (h.ev rfl)) rfl ?_
        refine rg_q (fun ac ww h => c_idxA (j := k) un205 ty27 (h.ev rfl) (h.ev rfl) (by omega) (by omega)) rfl ?_
        refine rg_q (fun ac ww h => c_loadS un27 rfl (h.ev rfl) (h.blk (hs.seg (i := 4) rfl)) (add_get r0 _ k (by omega))) rfl ?_
        refine rg_q (fun ac ww h => c_move (h.ev rfl)) rfl ?_
        refine rg_q (fun ac ww h => c_idxA (j := k) un205 ty27 (h.ev rfl) (h.ev rfl) (by omega) (by omega)) rfl ?_
        refine rg_q (fun ac ww h => c_loadS un27 rfl (h.ev rfl) (h.blk (hs.seg (i := 0) rfl)) (map_get 0 (by simp; omega))) rfl ?_
        refine rg_q (fun ac ww h => c_addU (h.ev rfl) (h.ev rfl)) rfl ?_
        refine rg_q (fun ac ww h => c_idxA (j := k) un205 ty27 (h.ev rfl) (h.ev rfl) (by omega) (by omega)) rfl ?_
        refine rg_nil fun ac ww L' hf hfe hs => ?_
        simp only [List.drop_succ_cons, List.drop_zero]
        obtain rfl : L' = [] := hfe
        replace hs := hs.toL (List.nil_append _)
        refine s_store (i := 4) hs ty27 rfl rfl rfl rfl rfl rfl (by rw [List.length_map]; omega) (map_set _ (by omega)) fun ww hs => ?_
        refine s_end ?_
        refine blk_n ?_
        refine then_n ?_
        refine wp_reg ?_
        refine s_q hs (c_move (hs.ev rfl)) rfl fun ac hs => ?_
        refine s_q hs (c_addI (hs.ev rfl) (hs.ev rfl) (by omega) (by omega)) rfl fun ac hs => ?_
        refine s_q hs (c_assign (hs.ev rfl)) rfl fun ac hs => ?_
        refine s_end ?_
        refine then_n ?_
        exact ⟨8 - (k + 1), by omega, k + 1, ⟨by omega, rfl⟩, St.next hs ⟨rfl, rfl, rfl, rfl, trivial⟩ (congrArg (fun z => [_, _, _, _, Ent.seg g3 (List.map U z) 205]) (add_set r0 (rounds p r0 64) k (by omega)))⟩
      · try simp only [decide_eq_true_eq, decide_eq_false_iff_not, Bool.not_eq_true', Bool.not_eq_false', Bool.and_eq_true, Bool.or_eq_true, Bool.or_eq_false_iff] at hc
        obtain ⟨hk, rfl⟩ := hok
        obtain rfl : k = 8 := by omega
        refine wp_exit ?_
        refine then_e ?_
        refine then_e ?_
        refine blk_hit ?_
        refine then_n ?_
        refine wp_seq ?_
        refine wp_reg ?_
        refine s_q hs (c_loadW ty205 rfl (hs.ev rfl) (hs.seg (i := 4) rfl) (by simp)) rfl fun ac hs => ?_
        refine s_storeW (i := 2) hs ty205 rfl rfl rfl (by simp) (all_map_U _) (by simp) fun ww hs => ?_
        refine s_end ?_
        replace hs := hs.sub (F' := [(6, _)]) ⟨rfl, trivial⟩
        refine then_n ?_
        refine wp_ret ?_
        refine s_ret hs rfl (.cell (hs.tmp rfl) (run_loadA ty205 rfl (hs.seg (i := 2) rfl) (List.take_of_length_le (by simp)) (by simp)) .nil) rfl ⟨_, rfl, hs.fr, ?_⟩
        rfl

end Go.Proofs.Ytmgnnclkjkbmdaa
