/- Digits; the example. -/
import Derived.Test.YtmgnnclkjkbmdaaShaD
import Derived.Test.YtmgnnclkjkbmdaaHexSpec
set_option linter.unusedSimpArgs false
set_option linter.unusedVariables false
set_option maxRecDepth 100000
namespace Go.Proofs.Ytmgnnclkjkbmdaa
open Go Go.Fw

open Sha
-- sha.Hex
set_option maxHeartbeats 4000000 in
theorem sha_Hex (p : List UInt8) (pv : Value) (hle : p.length ≤ 70368744177664) (w : World) (hq : RdB w pv p) : Ctr Try.prog 58 [pv] w (fun _ => False) (fun v _ => v = T (hexs p)) := by
  obtain ⟨pad, pcap, rfl, hpc, hpm⟩ := Rd.sl hq
  refine fn_start (N := 24) Try.func58 rfl rfl rfl fun ac hk => ?_
  have hs := St.start hk w
  refine wp_seq ?_
  refine wp_reg ?_
  refine s_q hs (c_assign (hs.ev rfl)) rfl fun ac hs => ?_
  refine s_end ?_
  refine then_n ?_
  refine wp_seq ?_
  refine wp_reg ?_
  refine s_q hs (c_assign (hs.ev rfl)) rfl fun ac hs => ?_
  refine s_end ?_
  replace hs := hs.nilrow 5 1
  refine then_n ?_
  refine wp_seq ?_
  refine wp_seq ?_
  refine wp_reg ?_
  refine s_q hs (c_move (hs.ev rfl)) rfl fun ac hs => ?_
  refine s_q hs (c_lenS un34 (hs.ev rfl)) rfl fun ac hs => ?_
  refine s_q hs (c_move (hs.ev rfl)) rfl fun ac hs => ?_
  refine s_end ?_
  replace hs := hs.sub (F' := [(2, _), (3, _), (6, _), (7, _), (8, _)]) ⟨rfl, rfl, rfl, rfl, rfl, trivial⟩
  refine then_n ?_
  refine wp_block ?_
  refine s_loop hs (X := Nat × Value) (fun x => [(3, x.2), (8, I x.1)]) [(2, _), (6, _), (7, _)] (fun x => [.row x.2 (hexs (p.take x.1)).length ((hexs (p.take x.1)).map B) 5 1]) (fun n x => x.1 ≤ p.length ∧ n = p.length - x.1) (p.length) ((0, _)) (⟨Nat.zero_le _, rfl⟩) ⟨rfl, rfl, rfl, rfl, rfl, trivial⟩ rfl ?_
  rintro n ⟨k, v⟩ ac ww hok hs
  simp only [List.cons_append, List.nil_append] at hs
  obtain ⟨hk, rfl⟩ := hok
  simp only at hk hs
  refine wp_seq ?_
  refine wp_reg ?_
  refine s_q hs (c_lssI (hs.ev rfl) (hs.ev rfl)) rfl fun ac hs => ?_
  refine s_end ?_
  refine then_n ?_
  refine wp_seq ?_
  refine s_cond hs rfl (fun hc => ?_) (fun hc => ?_)
  · try simp only [decide_eq_true_eq, decide_eq_false_iff_not, Bool.not_eq_true', Bool.not_eq_false', Bool.and_eq_true, Bool.or_eq_true, Bool.or_eq_false_iff] at hc
    obtain ⟨pb, po, pT, pf, pall, rfl, hpb, hps⟩ := hq.at' (by omega)
    refine wp_skip ?_
    refine then_n ?_
    refine wp_seq ?_
    refine wp_block ?_
    refine wp_seq ?_
    refine wp_reg ?_
    refine s_q hs (c_idxS (j := k) un34 ty5 (hs.ev rfl) (hs.ev rfl) (by omega) (by omega)) rfl fun ac hs => ?_
    refine s_q hs (c_loadS un5 rfl (hs.ev rfl) (hs.old hpb id) (seg_get 0 hps (by omega))) rfl fun ac hs => ?_
    refine s_q hs (c_assign (hs.ev rfl)) rfl fun ac hs => ?_
    refine s_end ?_
    refine then_n ?_
    refine wp_region_rg pmix 8 (by kernel_rfl) rfl hs ?_
    simp only [List.take_succ_cons, List.take_zero]
    refine rg_q (fun ac ww h => c_move (h.ev rfl)) rfl ?_
    refine rg_q (fun ac ww h => c_move (h.ev rfl)) rfl ?_
    refine rg_q (fun ac ww h => c_shrB (h.ev rfl) (h.ev rfl) (by decide)) rfl ?_
    refine rg_q (fun ac ww h => c_idxTT (l := digs) (j := (p.getD k 0 >>> 4).toNat) un9 (h.ev rfl) (h.ev rfl) rfl (hi_lt _)) rfl ?_
    refine rg_q (fun ac ww h => c_move (h.ev rfl)) rfl ?_
    refine rg_q (fun ac ww h => c_andB (h.ev rfl) (RC.ev (v := B 15) h rfl)) rfl ?_
    refine rg_q (fun ac ww h => c_idxTT (l := digs) (j := (p.getD k 0 &&& 15).toNat) un9 (h.ev rfl) (h.ev rfl) rfl (lo_lt _)) rfl ?_
    refine rg_bslice un34 ty5 (fun ac ww h => (.cons (h.ev rfl) (.cons (h.ev rfl) .nil))) rfl (by simp [Value.cells]) (by decide) rfl rfl ?_
    refine rg_nil fun ac ww L' hf hfe hs => ?_
    simp only [List.drop_succ_cons, List.drop_zero]
    obtain ⟨v19, L19, M19, h19, e19, rfl, rfl⟩ := hfe
    replace hs := hs.add h19
    obtain ⟨g19, rfl, rfl⟩ := e19
    refine s_appB (i := 1) hs un34 ty5 rfl rfl rfl (RdB.seg (l := [_, _]) (hs.seg (i := 0) rfl) (by show 2 ≤ maxLen; decide)) (by rw [hexs_length, List.length_take]; simp; omega) rfl fun ac ww v20 hf hnil hs => ?_
    refine s_q hs (c_assign (hs.ev rfl)) rfl fun ac hs => ?_
    refine s_end ?_
    refine blk_n ?_
    refine then_n ?_
    refine wp_reg ?_
    refine s_q hs (c_addI (hs.ev rfl) (hs.ev rfl) (by omega) (by omega)) rfl fun ac hs => ?_
    refine s_q hs (c_move (hs.ev rfl)) rfl fun ac hs => ?_
    refine s_end ?_
    refine then_n ?_
    replace hs := hs.pick (L' := [_]) (.cons _ (.refl _))
    exact ⟨p.length - (k + 1), by (try simp only); omega, (k + 1, _), ⟨by (try simp only); omega, rfl⟩, St.next hs ⟨rfl, rfl, rfl, rfl, rfl, trivial⟩ (by rw [hexs_succ p k (by omega)]; rfl)⟩
  · try simp only [decide_eq_true_eq, decide_eq_false_iff_not, Bool.not_eq_true', Bool.not_eq_false', Bool.and_eq_true, Bool.or_eq_true, Bool.or_eq_false_iff] at hc
    obtain rfl : k = p.length := by omega
    rw [List.take_length] at hs
    refine wp_exit ?_
    refine then_e ?_
    refine then_e ?_
    refine blk_hit ?_
    refine then_n ?_
    refine wp_seq ?_
    refine wp_reg ?_
    refine s_q hs (c_move (hs.ev rfl)) rfl fun ac hs => ?_
    refine s_q hs (c_cvST un34 un5 un9 (hs.ev rfl) (RdB.row (hs.get (i := 0) rfl))) rfl fun ac hs => ?_
    refine s_q hs (c_assign (hs.ev rfl)) rfl fun ac hs => ?_
    refine s_end ?_
    replace hs := hs.sub (F' := [(2, _)]) ⟨rfl, trivial⟩
    refine then_n ?_
    refine wp_ret ?_
    refine s_ret hs rfl (.tmp (hs.tmp rfl) .nil) rfl ⟨_, rfl, hs.fr, ?_⟩
    rfl

-- fingerpostlaw04.awake
set_option maxHeartbeats 4000000 in
theorem law04_awake  (w : World)  : Ctr Try.prog 43 [] w (fun _ => False) (fun v _ => v = .bool true) := by
  refine fn_start (N := 8) Try.func43 rfl rfl rfl fun ac hk => ?_
  have hs := St.start hk w
  refine wp_seq ?_
  refine wp_reg ?_
  refine s_q hs (c_assign (hs.ev rfl)) rfl fun ac hs => ?_
  refine s_end ?_
  refine then_n ?_
  refine wp_seq ?_
  refine wp_reg ?_
  refine s_bslice hs un34 ty5 (.cons (hs.ev rfl) (.cons (hs.ev rfl) (.cons (hs.ev rfl) .nil))) rfl (by simp [Value.cells]) (by decide) rfl rfl fun ac ww g2 hs => ?_
  refine s_mark (i := 0) (l := [97, 98, 99]) hs un34 un34 un5 rfl rfl rfl (by decide) rfl fun ac ww hs => ?_
  refine s_call hs fu44 (.cons (hs.ev rfl) .nil) (sha_Sum [97, 98, 99] _ (by decide) _ (hs.get (i := 0) rfl)) rfl fun ac ww v4 hf hp hs => ?_
  obtain rfl := hp
  replace hs := hs [] (.nil _ _)
  refine s_alloc hs ty41 rfl fun ac ww g1 hs => ?_
  refine s_storeW (i := 0) hs ty41 rfl rfl rfl (by simp) (all_map_B _) (by simp) fun ww hs => ?_
  refine s_end ?_
  replace hs := hs.sub (F' := [(0, _), (1, _)]) ⟨rfl, rfl, trivial⟩
  refine then_n ?_
  refine wp_seq ?_
  refine wp_reg ?_
  refine s_q hs (c_sliceA un41 ty5 (hs.ev rfl)) rfl fun ac hs => ?_
  refine s_call hs fu58 (.cons (hs.ev rfl) .nil) (sha_Hex (sum [97, 98, 99]) _ (by decide) _ (RdB.seg (l := sum [97, 98, 99]) (hs.seg (i := 0) rfl) (by rw [sum_length]; decide))) rfl fun ac ww v6 hf hp hs => ?_
  obtain rfl := hp
  replace hs := hs [] (.nil _ _)
  refine s_q hs ((c_eqlTT (m := abcHex) (hs.ev rfl) (hs.ev rfl)).trans (by rw [abc_ok])) rfl fun ac hs => ?_
  refine s_q hs (c_assign (hs.ev rfl)) rfl fun ac hs => ?_
  refine s_end ?_
  replace hs := hs.sub (F' := [(0, _)]) ⟨rfl, trivial⟩
  refine then_n ?_
  refine wp_ret ?_
  refine s_ret hs rfl (.tmp (hs.tmp rfl) .nil) rfl ⟨_, rfl, hs.fr, ?_⟩
  rfl

end Go.Proofs.Ytmgnnclkjkbmdaa
