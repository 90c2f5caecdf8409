/- Keyed sums and short sums. -/
import Derived.Test.YtmgnnclkjkbmdaaShaE
import Derived.Test.YtmgnnclkjkbmdaaMacSpec
import Derived.Test.YtmgnnclkjkbmdaaFw20
set_option linter.unusedSimpArgs false
set_option linter.unusedVariables false
set_option maxRecDepth 100000
namespace Go.Proofs.Ytmgnnclkjkbmdaa
open Go Go.Fw

open Sha
-- mac.key
set_option maxHeartbeats 4000000 in
theorem mac_key (k : List UInt8) (kv : Value) (hle : k.length ≤ 140737488355328) (w : World) (hq : RdB w kv k) : Ctr Try.prog 169 [kv] w (fun _ => False) (fun v _ => v = .agg ((keyB k).map B).toArray) := by
  obtain ⟨kad, kcap, rfl, hkc, hkm⟩ := Rd.sl hq
  refine fn_start (N := 17) Try.func169 rfl rfl rfl fun ac hk => ?_
  have hs := St.start hk w
  refine wp_seq ?_
  refine wp_reg ?_
  refine s_alloc hs ty226 rfl fun ac ww g2 hs => ?_
  refine s_end ?_
  refine then_n ?_
  refine wp_seq ?_
  refine wp_reg ?_
  refine s_alloc hs ty226 rfl fun ac ww g3 hs => ?_
  refine s_end ?_
  refine then_n ?_
  refine wp_seq ?_
  refine wp_seq ?_
  refine wp_reg ?_
  refine s_q hs (c_move (hs.ev rfl)) rfl fun ac hs => ?_
  refine s_q hs (c_lenS un34 (hs.ev rfl)) rfl fun ac hs => ?_
  refine s_q hs (c_gtrI (hs.ev rfl) (hs.ev rfl)) rfl fun ac hs => ?_
  refine s_end ?_
  replace hs := hs.sub (F' := [(0, _), (2, _), (3, _), (7, _)]) ⟨rfl, rfl, rfl, rfl, trivial⟩
  refine then_n ?_
  refine s_cond hs rfl (fun hc => ?_) (fun hc => ?_)
  · try simp only [decide_eq_true_eq, decide_eq_false_iff_not, Bool.not_eq_true', Bool.not_eq_false', Bool.and_eq_true, Bool.or_eq_true, Bool.or_eq_false_iff] at hc
    refine wp_seq ?_
    refine wp_reg ?_
    refine s_q hs (c_move (hs.ev rfl)) rfl fun ac hs => ?_
    refine s_call hs fu44 (.cons (hs.ev rfl) .nil) (sha_Sum k _ hle _ (hq.fr0 hs.fr)) rfl fun ac ww v9 hf hp hs => ?_
    obtain rfl := hp
    replace hs := hs [] (.nil _ _)
    refine s_alloc hs ty41 rfl fun ac ww g4 hs => ?_
    refine s_storeW (i := 0) hs ty41 rfl rfl rfl (by simp) (all_map_B _) (by simp) fun ww hs => ?_
    refine s_end ?_
    replace hs := hs.sub (F' := [(0, _), (2, _), (3, _), (4, _)]) ⟨rfl, rfl, rfl, rfl, trivial⟩
    refine then_n ?_
    refine wp_region_rg pmix 2 (by kernel_rfl) rfl hs ?_
    simp only [List.take_succ_cons, List.take_zero]
    refine rg_q (fun ac ww h => c_sliceA un226 ty5 (h.ev rfl)) rfl ?_
    refine rg_q (fun ac ww h => c_sliceA un41 ty5 (h.ev rfl)) rfl ?_
    refine rg_nil fun ac ww L' hf hfe hs => ?_
    simp only [List.drop_succ_cons, List.drop_zero]
    obtain rfl : L' = [] := hfe
    replace hs := hs.toL (List.nil_append _)
    refine s_copy (i := 1) (n := 64) hs un34 ty5 rfl (by simp) rfl rfl (RdB.seg (l := sum k) (hs.seg (i := 0) rfl) (by rw [sum_length]; decide)) rfl fun ac ww hs => ?_
    rw [keyB_long k (by omega)] at hs
    refine s_end ?_
    replace hs := hs.sub (F' := [(0, _), (2, _), (3, _)]) ⟨rfl, rfl, rfl, trivial⟩
    refine then_n ?_
    refine wp_seq ?_
    refine wp_reg ?_
    refine s_q hs (c_loadW ty226 rfl (hs.ev rfl) (hs.seg (i := 1) rfl) (by rw [List.length_map, keyB_length])) rfl fun ac hs => ?_
    refine s_storeW (i := 2) hs ty226 rfl rfl rfl (by rw [List.length_map, keyB_length]) (all_map_B _) rfl fun ww hs => ?_
    refine s_end ?_
    replace hs := hs.sub (F' := [(2, _)]) ⟨rfl, trivial⟩
    refine then_n ?_
    refine wp_ret ?_
    refine s_ret hs rfl (.cell (hs.tmp rfl) (run_loadA ty226 rfl (hs.seg (i := 2) rfl) (List.take_of_length_le (by simp [keyB_length])) (by simp [keyB_length])) .nil) rfl ⟨_, rfl, hs.fr, ?_⟩
    rfl
  · try simp only [decide_eq_true_eq, decide_eq_false_iff_not, Bool.not_eq_true', Bool.not_eq_false', Bool.and_eq_true, Bool.or_eq_true, Bool.or_eq_false_iff] at hc
    refine wp_reg ?_
    refine s_q hs (c_sliceA un226 ty5 (hs.ev rfl)) rfl fun ac hs => ?_
    refine s_q hs (c_move (hs.ev rfl)) rfl fun ac hs => ?_
    refine s_copy (i := 0) (n := 64) hs un34 ty5 rfl (by simp) rfl rfl (hq.fr0 hs.fr) rfl fun ac ww hs => ?_
    rw [keyB_small k (by omega)] at hs
    refine s_end ?_
    replace hs := hs.sub (F' := [(2, _), (3, _)]) ⟨rfl, rfl, trivial⟩
    refine then_n ?_
    refine wp_seq ?_
    refine wp_reg ?_
    refine s_q hs (c_loadW ty226 rfl (hs.ev rfl) (hs.seg (i := 0) rfl) (by rw [List.length_map, keyB_length])) rfl fun ac hs => ?_
    refine s_storeW (i := 1) hs ty226 rfl rfl rfl (by rw [List.length_map, keyB_length]) (all_map_B _) rfl fun ww hs => ?_
    refine s_end ?_
    replace hs := hs.sub (F' := [(2, _)]) ⟨rfl, trivial⟩
    refine then_n ?_
    refine wp_ret ?_
    refine s_ret hs rfl (.cell (hs.tmp rfl) (run_loadA ty226 rfl (hs.seg (i := 1) rfl) (List.take_of_length_le (by simp [keyB_length])) (by simp [keyB_length])) .nil) rfl ⟨_, rfl, hs.fr, ?_⟩
    rfl

-- mac.first
set_option maxHeartbeats 4000000 in
theorem mac_first (d : List UInt8) (hd : d.length = 32) (w : World)  : Ctr Try.prog 170 [.agg (d.map B).toArray] w (fun _ => False) (fun v _ => v = .agg ((d.take 16).map B).toArray) := by
  refine fn_start (N := 8) Try.func170 rfl rfl rfl fun ac hk => ?_
  have hs := St.start hk w
  refine wp_seq ?_
  refine wp_reg ?_
  refine s_box hs rfl rfl rfl fun ac ww g1 hs => ?_
  refine s_alloc hs ty54 rfl fun ac ww g2 hs => ?_
  refine s_end ?_
  replace hs := hs.sub (F' := [(1, _), (2, _)]) ⟨rfl, rfl, trivial⟩
  refine then_n ?_
  refine wp_seq ?_
  refine wp_reg ?_
  refine s_alloc hs ty54 rfl fun ac ww g3 hs => ?_
  refine s_end ?_
  refine then_n ?_
  refine wp_seq ?_
  refine wp_region_rg pmix 2 (by kernel_rfl) rfl hs ?_
  simp only [List.take_succ_cons, List.take_zero]
  refine rg_q (fun ac ww h => c_sliceA un54 ty5 (h.ev rfl)) rfl ?_
  refine rg_q (fun ac ww h => c_sliceA un41 ty5 (h.ev rfl)) rfl ?_
  refine rg_nil fun ac ww L' hf hfe hs => ?_
  simp only [List.drop_succ_cons, List.drop_zero]
  obtain rfl : L' = [] := hfe
  replace hs := hs.toL (List.nil_append _)
  refine s_copy (i := 0) (n := 16) hs un34 ty5 rfl (by simp) rfl rfl (RdB.segn (l := d) (hs.seg (i := 2) rfl) hd (by decide)) rfl fun ac ww hs => ?_
  rw [show d.take 16 ++ (List.replicate 16 (0 : UInt8)).drop d.length = d.take 16 from by rw [hd]; simp] at hs
  refine s_end ?_
  replace hs := hs.sub (F' := [(2, _), (3, _)]) ⟨rfl, rfl, trivial⟩
  refine then_n ?_
  refine wp_seq ?_
  refine wp_reg ?_
  refine s_q hs (c_loadW ty54 rfl (hs.ev rfl) (hs.seg (i := 0) rfl) (by simp [hd])) rfl fun ac hs => ?_
  refine s_storeW (i := 1) hs ty54 rfl rfl rfl (by simp [hd]) (all_map_B _) rfl fun ww hs => ?_
  refine s_end ?_
  replace hs := hs.sub (F' := [(2, _)]) ⟨rfl, trivial⟩
  refine then_n ?_
  refine wp_ret ?_
  refine s_ret hs rfl (.cell (hs.tmp rfl) (run_loadA ty54 rfl (hs.seg (i := 1) rfl) (List.take_of_length_le (by simp [hd])) (by simp [hd])) .nil) rfl ⟨_, rfl, hs.fr, ?_⟩
  rfl

-- mac.Mac
set_option maxHeartbeats 4000000 in
theorem mac_Mac (k p : List UInt8) (kv pv : Value) (hkl : k.length ≤ 140737488355328) (hle : p.length ≤ 140737488355200) (w : World) (hqk : RdB w kv k) (hqp : RdB w pv p) : Ctr Try.prog 78 [kv, pv] w (fun _ => False) (fun v _ => v = .agg ((hmac k p).map B).toArray) := by
  refine fn_start (N := 46) Try.func78 rfl rfl rfl fun ac hk => ?_
  have hs := St.start hk w
  refine wp_seq ?_
  refine wp_reg ?_
  refine s_alloc hs ty41 rfl fun ac ww g4 hs => ?_
  refine s_end ?_
  refine then_n ?_
  refine wp_seq ?_
  refine wp_reg ?_
  refine s_q hs (c_move (hs.ev rfl)) rfl fun ac hs => ?_
  refine s_call hs fu169 (.cons (hs.ev rfl) .nil) (mac_key k _ hkl _ (hqk.fr0 hs.fr)) rfl fun ac ww v11 hf hp hs => ?_
  obtain rfl := hp
  replace hs := hs [] (.nil _ _)
  refine s_q hs (c_move (hs.ev rfl)) rfl fun ac hs => ?_
  refine s_call hs fu169 (.cons (hs.ev rfl) .nil) (mac_key k _ hkl _ (hqk.fr0 hs.fr)) rfl fun ac ww v13 hf hp hs => ?_
  obtain rfl := hp
  replace hs := hs [] (.nil _ _)
  refine s_alloc hs ty226 rfl fun ac ww g5 hs => ?_
  refine s_alloc hs ty226 rfl fun ac ww g6 hs => ?_
  refine s_storeW (i := 1) hs ty226 rfl rfl rfl (by rw [List.length_map, keyB_length]) (all_map_B _) rfl fun ww hs => ?_
  refine s_storeW (i := 0) hs ty226 rfl rfl rfl (by rw [List.length_map, keyB_length]) (all_map_B _) rfl fun ww hs => ?_
  refine s_end ?_
  replace hs := hs.sub (F' := [(1, _), (4, _), (5, _), (6, _)]) ⟨rfl, rfl, rfl, rfl, trivial⟩
  refine then_n ?_
  refine wp_seq ?_
  refine wp_seq ?_
  refine wp_reg ?_
  refine s_q hs (c_move (hs.ev rfl)) rfl fun ac hs => ?_
  refine s_end ?_
  refine then_n ?_
  refine wp_block ?_
  refine s_loop hs (X := Nat) (fun i => [(14, I i)]) [(1, _), (4, _), (5, _), (6, _)] (fun i => [.seg g6 ((xorZ 0x5c (keyB k) i).map B) 226, .seg g5 ((xorZ 0x36 (keyB k) i).map B) 226, .seg g4 ((List.replicate 32 (0 : UInt8)).map B) 41]) (fun n i => i ≤ 64 ∧ n = 64 - i) (64) (0) (⟨Nat.zero_le _, rfl⟩) ⟨rfl, rfl, rfl, rfl, rfl, trivial⟩ (by rw [xorZ_zero, xorZ_zero]; rfl) ?_
  rintro n i ac ww hok hs
  simp only [List.cons_append, List.nil_append] at hs
  obtain ⟨hi, rfl⟩ := hok
  have hz1 := (xorZ_length 0x36 (keyB k) i).trans (keyB_length k)
  have hz2 := (xorZ_length 0x5c (keyB k) i).trans (keyB_length k)
  have hkb := keyB_length k
  refine wp_seq ?_
  refine wp_reg ?_
  refine s_q hs (c_lssI (hs.ev rfl) (hs.ev rfl)) rfl fun ac hs => ?_
  refine s_end ?_
  refine then_n ?_
  refine wp_seq ?_
  refine s_cond hs rfl (fun hc => ?_) (fun hc => ?_)
  · try simp only [decide_eq_true_eq, decide_eq_false_iff_not, Bool.not_eq_true', Bool.not_eq_false', Bool.and_eq_true, Bool.or_eq_true, Bool.or_eq_false_iff] at hc
    refine wp_skip ?_
    refine then_n ?_
    refine wp_seq ?_
    refine wp_block ?_
    refine wp_seq ?_
    refine wp_reg ?_
    refine s_q hs (c_move (hs.ev rfl)) rfl fun ac hs => ?_
    refine s_q hs (c_assign (hs.ev rfl)) rfl fun ac hs => ?_
    refine s_end ?_
    refine then_n ?_
    refine wp_seq ?_
    refine wp_reg ?_
    refine s_q hs (c_move (hs.ev rfl)) rfl fun ac hs => ?_
    refine s_q hs (c_idxA (j := i) un226 ty5 (hs.ev rfl) (hs.ev rfl) (by omega) (by omega)) rfl fun ac hs => ?_
    refine s_q hs (c_loadS un5 rfl (hs.ev rfl) (hs.seg (i := 1) rfl) ((map_get 0 (by omega)).trans (by rw [xorZ_get _ _ _ (by omega)]))) rfl fun ac hs => ?_
    refine s_q hs (c_xorB (hs.ev rfl) (St.ev (v := B 54) hs rfl)) rfl fun ac hs => ?_
    refine s_q hs (c_idxA (j := i) un226 ty5 (hs.ev rfl) (hs.ev rfl) (by omega) (by omega)) rfl fun ac hs => ?_
    refine s_store (i := 1) hs ty5 rfl rfl rfl rfl rfl rfl (by rw [List.length_map]; omega) ((map_set _ (by omega)).trans (congrArg (List.map B) (xorZ_set _ _ i (by omega)))) fun ww hs => ?_
    refine s_end ?_
    refine then_n ?_
    refine wp_reg ?_
    refine s_q hs (c_move (hs.ev rfl)) rfl fun ac hs => ?_
    refine s_q hs (c_idxA (j := i) un226 ty5 (hs.ev rfl) (hs.ev rfl) (by omega) (by omega)) rfl fun ac hs => ?_
    refine s_q hs (c_loadS un5 rfl (hs.ev rfl) (hs.seg (i := 0) rfl) ((map_get 0 (by omega)).trans (by rw [xorZ_get _ _ _ (by omega)]))) rfl fun ac hs => ?_
    refine s_q hs (c_xorB (hs.ev rfl) (St.ev (v := B 92) hs rfl)) rfl fun ac hs => ?_
    refine s_q hs (c_idxA (j := i) un226 ty5 (hs.ev rfl) (hs.ev rfl) (by omega) (by omega)) rfl fun ac hs => ?_
    refine s_store (i := 0) hs ty5 rfl rfl rfl rfl rfl rfl (by rw [List.length_map]; omega) ((map_set _ (by omega)).trans (congrArg (List.map B) (xorZ_set _ _ i (by omega)))) fun ww hs => ?_
    refine s_end ?_
    refine blk_n ?_
    refine then_n ?_
    refine wp_reg ?_
    refine s_q hs (c_addI (hs.ev rfl) (hs.ev rfl) (by omega) (by omega)) rfl fun ac hs => ?_
    refine s_q hs (c_move (hs.ev rfl)) rfl fun ac hs => ?_
    refine s_end ?_
    refine then_n ?_
    exact ⟨64 - (i + 1), by omega, i + 1, ⟨by omega, rfl⟩, St.next hs ⟨rfl, rfl, rfl, rfl, rfl, trivial⟩ rfl⟩
  · try simp only [decide_eq_true_eq, decide_eq_false_iff_not, Bool.not_eq_true', Bool.not_eq_false', Bool.and_eq_true, Bool.or_eq_true, Bool.or_eq_false_iff] at hc
    obtain rfl : i = 64 := by omega
    refine wp_exit ?_
    refine then_e ?_
    refine then_e ?_
    refine blk_hit ?_
    refine then_n ?_
    refine wp_seq ?_
    refine wp_reg ?_
    refine s_call hs fu48 .nil (sha_New _) rfl fun ac ww v28 hf hp hs => ?_
    obtain ⟨ga, rfl, hh⟩ := hp
    replace hs := hs _ (Has.grp' hh)
    refine s_q hs (c_assign (hs.ev rfl)) rfl fun ac hs => ?_
    refine s_end ?_
    replace hs := hs.sub (F' := [(1, _), (4, _), (5, _), (6, _), (8, _)]) ⟨rfl, rfl, rfl, rfl, rfl, trivial⟩
    refine then_n ?_
    refine wp_seq ?_
    refine wp_reg ?_
    refine s_q hs (c_move (hs.ev rfl)) rfl fun ac hs => ?_
    refine s_q hs (c_sliceA un226 ty5 (hs.ev rfl)) rfl fun ac hs => ?_
    refine s_callM (i := 0) hs fu49 (.cons (hs.ev rfl) (.cons (hs.ev rfl) .nil)) rfl (sha_Write ([]) (xorZ 0x36 (keyB k) 64) ga _ _ (by rw [hz1]; decide) _ (hs.get (i := 0) rfl) (RdB.segn (hs.seg (i := 2) rfl) hz1 (by decide)) (fun _ => hs.apart_seg (i := 0) (j := 2) rfl rfl (by decide))) rfl fun ac ww v31 hf hp hs => ?_
    obtain ⟨rv, h1, h2⟩ := hp
    replace hs := hs (Ent.grp (hash ga rv (([]) ++ (xorZ 0x36 (keyB k) 64)))) h1 (fun k hk => ⟨h2 k hk, grp_lt h1 k hk⟩)
    refine s_end ?_
    replace hs := hs.sub (F' := [(1, _), (4, _), (6, _), (8, _)]) ⟨rfl, rfl, rfl, rfl, trivial⟩
    refine then_n ?_
    refine wp_seq ?_
    refine wp_reg ?_
    refine s_q hs (c_move (hs.ev rfl)) rfl fun ac hs => ?_
    refine s_q hs (c_move (hs.ev rfl)) rfl fun ac hs => ?_
    refine s_callM (i := 0) hs fu49 (.cons (hs.ev rfl) (.cons (hs.ev rfl) .nil)) rfl (sha_Write ([] ++ xorZ 0x36 (keyB k) 64) (p) ga rv _ (by rw [List.nil_append, hz1]; omega) _ (hs.get (i := 0) rfl) (hqp.fr0 hs.fr) (hs.far (i := 0) rfl hqp)) rfl fun ac ww v34 hf hp hs => ?_
    obtain ⟨rv, h1, h2⟩ := hp
    replace hs := hs (Ent.grp (hash ga rv (([] ++ xorZ 0x36 (keyB k) 64) ++ (p)))) h1 (fun k hk => ⟨h2 k hk, grp_lt h1 k hk⟩)
    refine s_end ?_
    replace hs := hs.sub (F' := [(4, _), (6, _), (8, _)]) ⟨rfl, rfl, rfl, trivial⟩
    refine then_n ?_
    refine wp_seq ?_
    refine wp_reg ?_
    refine s_q hs (c_move (hs.ev rfl)) rfl fun ac hs => ?_
    refine s_call hs fu50 (.cons (hs.ev rfl) .nil) (sha_HSum ([] ++ xorZ 0x36 (keyB k) 64 ++ p) ga rv (by rw [List.nil_append, List.length_append, hz1]; omega) _ (hash_get (hs.get (i := 0) rfl)).1 (hash_get (hs.get (i := 0) rfl)).2) rfl fun ac ww v36 hf hp hs => ?_
    obtain rfl := hp
    replace hs := hs [] (.nil _ _)
    refine s_alloc hs ty41 rfl fun ac ww g9 hs => ?_
    refine s_storeW (i := 0) hs ty41 rfl rfl rfl (by simp) (all_map_B _) (by simp) fun ww hs => ?_
    refine s_end ?_
    replace hs := hs.sub (F' := [(4, _), (6, _), (8, _), (9, _)]) ⟨rfl, rfl, rfl, rfl, trivial⟩
    refine then_n ?_
    refine wp_seq ?_
    refine wp_reg ?_
    refine s_call hs fu48 .nil (sha_New _) rfl fun ac ww v37 hf hp hs => ?_
    obtain ⟨gb, rfl, hh⟩ := hp
    replace hs := hs _ (Has.grp' hh)
    refine s_q hs (c_assign (hs.ev rfl)) rfl fun ac hs => ?_
    refine s_end ?_
    replace hs := hs.sub (F' := [(4, _), (6, _), (8, _), (9, _)]) ⟨rfl, rfl, rfl, rfl, trivial⟩
    refine then_n ?_
    refine wp_seq ?_
    refine wp_reg ?_
    refine s_q hs (c_move (hs.ev rfl)) rfl fun ac hs => ?_
    refine s_q hs (c_sliceA un226 ty5 (hs.ev rfl)) rfl fun ac hs => ?_
    refine s_callM (i := 0) hs fu49 (.cons (hs.ev rfl) (.cons (hs.ev rfl) .nil)) rfl (sha_Write ([]) (xorZ 0x5c (keyB k) 64) gb _ _ (by rw [hz2]; decide) _ (hs.get (i := 0) rfl) (RdB.segn (hs.seg (i := 3) rfl) hz2 (by decide)) (fun _ => hs.apart_seg (i := 0) (j := 3) rfl rfl (by decide))) rfl fun ac ww v40 hf hp hs => ?_
    obtain ⟨rv, h1, h2⟩ := hp
    replace hs := hs (Ent.grp (hash gb rv (([]) ++ (xorZ 0x5c (keyB k) 64)))) h1 (fun k hk => ⟨h2 k hk, grp_lt h1 k hk⟩)
    refine s_end ?_
    replace hs := hs.sub (F' := [(4, _), (8, _), (9, _)]) ⟨rfl, rfl, rfl, trivial⟩
    refine then_n ?_
    refine wp_seq ?_
    refine wp_reg ?_
    refine s_q hs (c_move (hs.ev rfl)) rfl fun ac hs => ?_
    refine s_q hs (c_sliceA un41 ty5 (hs.ev rfl)) rfl fun ac hs => ?_
    refine s_callM (i := 0) hs fu49 (.cons (hs.ev rfl) (.cons (hs.ev rfl) .nil)) rfl (sha_Write ([] ++ xorZ 0x5c (keyB k) 64) (sum ([] ++ xorZ 0x36 (keyB k) 64 ++ p)) gb rv _ (by rw [List.nil_append, hz2, sum_length]; decide) _ (hs.get (i := 0) rfl) (RdB.segn (hs.seg (i := 1) rfl) (sum_length _) (by decide)) (fun _ => hs.apart_seg (i := 0) (j := 1) rfl rfl (by decide))) rfl fun ac ww v43 hf hp hs => ?_
    obtain ⟨rv, h1, h2⟩ := hp
    replace hs := hs (Ent.grp (hash gb rv (([] ++ xorZ 0x5c (keyB k) 64) ++ (sum ([] ++ xorZ 0x36 (keyB k) 64 ++ p))))) h1 (fun k hk => ⟨h2 k hk, grp_lt h1 k hk⟩)
    refine s_end ?_
    replace hs := hs.sub (F' := [(4, _), (8, _)]) ⟨rfl, rfl, trivial⟩
    refine then_n ?_
    refine wp_seq ?_
    refine wp_reg ?_
    refine s_q hs (c_move (hs.ev rfl)) rfl fun ac hs => ?_
    refine s_call hs fu50 (.cons (hs.ev rfl) .nil) (sha_HSum ([] ++ xorZ 0x5c (keyB k) 64 ++ sum ([] ++ xorZ 0x36 (keyB k) 64 ++ p)) gb rv (by rw [List.nil_append, List.length_append, hz2, sum_length]; decide) _ (hash_get (hs.get (i := 0) rfl)).1 (hash_get (hs.get (i := 0) rfl)).2) rfl fun ac ww v45 hf hp hs => ?_
    obtain rfl := hp
    replace hs := hs [] (.nil _ _)
    refine s_storeW (i := 5) hs ty41 rfl rfl rfl (by simp) (all_map_B _) (by simp) fun ww hs => ?_
    refine s_end ?_
    replace hs := hs.sub (F' := [(4, _)]) ⟨rfl, trivial⟩
    refine then_n ?_
    refine wp_ret ?_
    refine s_ret hs rfl (.cell (hs.tmp rfl) (run_loadA ty41 rfl (hs.seg (i := 5) rfl) (List.take_of_length_le (by simp)) (by simp)) .nil) rfl ⟨_, rfl, hs.fr, ?_⟩
    show _ = _
    rw [List.nil_append, List.nil_append, xorZ_full _ _ _ hkb.symm, xorZ_full _ _ _ hkb.symm]
    rfl

-- mac.Tag
set_option maxHeartbeats 4000000 in
theorem mac_Tag (k p : List UInt8) (kv pv : Value) (hkl : k.length ≤ 140737488355328) (hle : p.length ≤ 140737488355200) (w : World) (hqk : RdB w kv k) (hqp : RdB w pv p) : Ctr Try.prog 80 [kv, pv] w (fun _ => False) (fun v _ => v = .agg ((tag k p).map B).toArray) := by
  refine fn_start (N := 9) Try.func80 rfl rfl rfl fun ac hk => ?_
  have hs := St.start hk w
  refine wp_seq ?_
  refine wp_reg ?_
  refine s_alloc hs ty54 rfl fun ac ww g4 hs => ?_
  refine s_end ?_
  refine then_n ?_
  refine wp_seq ?_
  refine wp_reg ?_
  refine s_q hs (c_move (hs.ev rfl)) rfl fun ac hs => ?_
  refine s_q hs (c_move (hs.ev rfl)) rfl fun ac hs => ?_
  refine s_call hs fu78 (.cons (hs.ev rfl) (.cons (hs.ev rfl) .nil)) (mac_Mac k p _ _ hkl hle _ (hqk.fr0 hs.fr) (hqp.fr0 hs.fr)) rfl fun ac ww v7 hf hp hs => ?_
  obtain rfl := hp
  replace hs := hs [] (.nil _ _)
  refine s_call hs fu170 (.cons (hs.ev rfl) .nil) (mac_first (hmac k p) (hmac_length k p) _) rfl fun ac ww v8 hf hp hs => ?_
  obtain rfl := hp
  replace hs := hs [] (.nil _ _)
  refine s_storeW (i := 0) hs ty54 rfl rfl rfl (by simp) (all_map_B _) (by simp) fun ww hs => ?_
  refine s_end ?_
  replace hs := hs.sub (F' := [(4, _)]) ⟨rfl, trivial⟩
  refine then_n ?_
  refine wp_ret ?_
  refine s_ret hs rfl (.cell (hs.tmp rfl) (run_loadA ty54 rfl (hs.seg (i := 0) rfl) (List.take_of_length_le (by simp)) (by simp)) .nil) rfl ⟨_, rfl, hs.fr, ?_⟩
  rfl

-- mac.Short
set_option maxHeartbeats 4000000 in
theorem mac_Short (k : UInt8) (ps : List (Value × List UInt8)) (pv : Value) (hle : (flat ps).length ≤ 140737488355200) (w : World) (hq : RdP w pv ps) : Ctr Try.prog 91 [B k, pv] w (fun _ => False) (fun v _ => v = .agg ((short k (flat ps)).map B).toArray) := by
  have hpl := hq.1.le
  obtain ⟨pad_, pcap, rfl, hpc, hpm⟩ := hq.sl
  refine fn_start (N := 26) Try.func91 rfl rfl rfl fun ac hk => ?_
  have hs := St.start hk w
  refine wp_seq ?_
  refine wp_reg ?_
  refine s_alloc hs ty54 rfl fun ac ww g4 hs => ?_
  refine s_end ?_
  refine then_n ?_
  refine wp_seq ?_
  refine wp_reg ?_
  refine s_call hs fu48 .nil (sha_New _) rfl fun ac ww v8 hf hp hs => ?_
  obtain ⟨ga, rfl, hh⟩ := hp
  replace hs := hs _ (Has.grp' hh)
  refine s_q hs (c_assign (hs.ev rfl)) rfl fun ac hs => ?_
  refine s_end ?_
  replace hs := hs.sub (F' := [(0, _), (1, _), (4, _), (5, _)]) ⟨rfl, rfl, rfl, rfl, trivial⟩
  refine then_n ?_
  refine wp_seq ?_
  refine wp_reg ?_
  refine s_q hs (c_move (hs.ev rfl)) rfl fun ac hs => ?_
  refine s_q hs (c_move (hs.ev rfl)) rfl fun ac hs => ?_
  refine s_bslice hs un34 ty5 (.cons (hs.ev rfl) .nil) rfl (by simp [Value.cells]) (by decide) rfl rfl fun ac ww g11 hs => ?_
  refine s_callM (i := 1) hs fu49 (.cons (hs.ev rfl) (.cons (hs.ev rfl) .nil)) rfl (sha_Write ([]) ([k]) ga _ _ (by simp) _ (hs.get (i := 1) rfl) (RdB.seg (l := [k]) (hs.seg (i := 0) rfl) (by show 1 ≤ maxLen; decide)) (fun _ => hs.seg_apart (i := 0) (j := 1) rfl rfl (by decide))) rfl fun ac ww v12 hf hp hs => ?_
  obtain ⟨rv, h1, h2⟩ := hp
  replace hs := hs (Ent.grp (hash ga rv (([]) ++ ([k])))) h1 (fun k hk => ⟨h2 k hk, grp_lt h1 k hk⟩)
  refine s_end ?_
  replace hs := hs.pick (L' := [_, _]) (.cons _ (.refl _))
  replace hs := hs.sub (F' := [(1, _), (4, _), (5, _)]) ⟨rfl, rfl, rfl, trivial⟩
  refine then_n ?_
  refine wp_seq ?_
  refine wp_seq ?_
  refine wp_reg ?_
  refine s_q hs (c_move (hs.ev rfl)) rfl fun ac hs => ?_
  refine s_q hs (c_lenS un30 (hs.ev rfl)) rfl fun ac hs => ?_
  refine s_q hs (c_move (hs.ev rfl)) rfl fun ac hs => ?_
  refine s_end ?_
  replace hs := hs.sub (F' := [(4, _), (5, _), (13, _), (14, _), (15, _)]) ⟨rfl, rfl, rfl, rfl, rfl, trivial⟩
  refine then_n ?_
  refine wp_block ?_
  refine s_loop hs (X := Nat × Value) (fun x => [(15, I x.1)]) [(4, _), (5, _), (13, _), (14, _)] (fun x => [Ent.grp (hash ga x.2 (k :: flat (ps.take x.1))), .seg g4 ((List.replicate 16 (0 : UInt8)).map B) 54]) (fun n x => x.1 ≤ ps.length ∧ n = ps.length - x.1) (ps.length) ((0, rv)) (⟨Nat.zero_le _, rfl⟩) ⟨rfl, rfl, rfl, rfl, rfl, trivial⟩ rfl ?_
  rintro n ⟨i, rv⟩ ac ww hok hs
  simp only [List.cons_append, List.nil_append] at hs
  obtain ⟨hi, rfl⟩ := hok
  simp only at hi hs
  refine wp_seq ?_
  refine wp_reg ?_
  refine s_q hs (c_lssI (hs.ev rfl) (hs.ev rfl)) rfl fun ac hs => ?_
  refine s_end ?_
  refine then_n ?_
  refine wp_seq ?_
  refine s_cond hs rfl (fun hc => ?_) (fun hc => ?_)
  · try simp only [decide_eq_true_eq, decide_eq_false_iff_not, Bool.not_eq_true', Bool.not_eq_false', Bool.and_eq_true, Bool.or_eq_true, Bool.or_eq_false_iff] at hc
    have hips : i < ps.length := by omega
    obtain ⟨pb, po, pT, pf, pall, rfl, hpb, hps⟩ := hq.at' (by omega)
    have hfl := flat_take_le ps i hips
    refine wp_skip ?_
    refine then_n ?_
    refine wp_seq ?_
    refine wp_block ?_
    refine wp_seq ?_
    refine wp_reg ?_
    refine s_q hs (c_idxS (j := i) un30 ty34 (hs.ev rfl) (hs.ev rfl) (by omega) (by omega)) rfl fun ac hs => ?_
    refine s_q hs (c_loadS un34 rfl (hs.ev rfl) (hs.old hpb id) (seg_get (.nilIface, []) hps (by omega))) rfl fun ac hs => ?_
    refine s_q hs (c_assign (hs.ev rfl)) rfl fun ac hs => ?_
    refine s_end ?_
    refine then_n ?_
    refine wp_reg ?_
    refine s_q hs (c_move (hs.ev rfl)) rfl fun ac hs => ?_
    refine s_q hs (c_move (hs.ev rfl)) rfl fun ac hs => ?_
    refine s_callM (i := 0) hs fu49 (.cons (hs.ev rfl) (.cons (hs.ev rfl) .nil)) rfl (sha_Write (k :: flat (ps.take i)) ((ps.getD i (.nilIface, [])).2) ga rv _ (by simp only [List.length_cons]; omega) _ (hs.get (i := 0) rfl) ((hq.get hips).fr0 hs.fr) (hs.far (i := 0) rfl (hq.get hips))) rfl fun ac ww v21 hf hp hs => ?_
    obtain ⟨rv, h1, h2⟩ := hp
    replace hs := hs (Ent.grp (hash ga rv ((k :: flat (ps.take i)) ++ ((ps.getD i (.nilIface, [])).2)))) h1 (fun k hk => ⟨h2 k hk, grp_lt h1 k hk⟩)
    refine s_end ?_
    replace hs := hs.sub (F' := [(4, _), (5, _), (7, _), (13, _), (14, _), (15, _), (16, _), (17, _), (18, _), (19, _), (20, _)]) ⟨rfl, rfl, rfl, rfl, rfl, rfl, rfl, rfl, rfl, rfl, rfl, trivial⟩
    refine blk_n ?_
    refine then_n ?_
    refine wp_reg ?_
    refine s_q hs (c_addI (hs.ev rfl) (hs.ev rfl) (by omega) (by omega)) rfl fun ac hs => ?_
    refine s_q hs (c_move (hs.ev rfl)) rfl fun ac hs => ?_
    refine s_end ?_
    refine then_n ?_
    exact ⟨ps.length - (i + 1), by (try simp only); omega, (i + 1, rv), ⟨by (try simp only); omega, rfl⟩, St.next hs ⟨rfl, rfl, rfl, rfl, rfl, trivial⟩ (by rw [flat_take ps i (by omega)]; rfl)⟩
  · try simp only [decide_eq_true_eq, decide_eq_false_iff_not, Bool.not_eq_true', Bool.not_eq_false', Bool.and_eq_true, Bool.or_eq_true, Bool.or_eq_false_iff] at hc
    obtain rfl : i = ps.length := by omega
    rw [flat_full] at hs
    refine wp_exit ?_
    refine then_e ?_
    refine then_e ?_
    refine blk_hit ?_
    refine then_n ?_
    refine wp_seq ?_
    refine wp_reg ?_
    refine s_q hs (c_move (hs.ev rfl)) rfl fun ac hs => ?_
    refine s_call hs fu50 (.cons (hs.ev rfl) .nil) (sha_HSum (k :: flat ps) ga rv (by simp only [List.length_cons]; omega) _ (hash_get (hs.get (i := 0) rfl)).1 (hash_get (hs.get (i := 0) rfl)).2) rfl fun ac ww v24 hf hp hs => ?_
    obtain rfl := hp
    replace hs := hs [] (.nil _ _)
    refine s_call hs fu170 (.cons (hs.ev rfl) .nil) (mac_first _ (sum_length _) _) rfl fun ac ww v25 hf hp hs => ?_
    obtain rfl := hp
    replace hs := hs [] (.nil _ _)
    refine s_storeW (i := 1) hs ty54 rfl rfl rfl (by simp) (all_map_B _) (by simp) fun ww hs => ?_
    refine s_end ?_
    replace hs := hs.sub (F' := [(4, _)]) ⟨rfl, trivial⟩
    refine then_n ?_
    refine wp_ret ?_
    refine s_ret hs rfl (.cell (hs.tmp rfl) (run_loadA ty54 rfl (hs.seg (i := 1) rfl) (List.take_of_length_le (by simp)) (by simp)) .nil) rfl ⟨_, rfl, hs.fr, ?_⟩
    rfl

end Go.Proofs.Ytmgnnclkjkbmdaa
