/- Own texts of this seat, laid together: OtsJ, OtsK. -/
import Derived.Test.YtmgnnclkjkbmdaaGa
import Derived.Test.YtmgnnclkjkbmdaaGb
import Derived.Test.YtmgnnclkjkbmdaaGc
import Derived.Test.YtmgnnclkjkbmdaaGd
import Derived.Test.YtmgnnclkjkbmdaaGe
import Derived.Test.YtmgnnclkjkbmdaaGf
import Derived.Test.YtmgnnclkjkbmdaaGg
import Derived.Test.YtmgnnclkjkbmdaaGh
/- Keys: first links, public parts, signatures. -/
section
set_option linter.unusedSimpArgs false
set_option linter.unusedVariables false
set_option maxRecDepth 100000
namespace Go.Proofs.Ytmgnnclkjkbmdaa
open Go Go.Fw

open Sha Ots
/-- A chain's first link. -/
def startB (d : Int) (i : UInt32) (seed : List UInt8) (ch : Int) : List UInt8 := prf seed 79 [i64 d, i.toUInt64, i64 ch]
@[simp] theorem startB_length (d : Int) (i : UInt32) (seed : List UInt8) (ch : Int) : (startB d i seed ch).length = 16 := rfl
def startK (d : Int) (i : UInt32) (seed : List UInt8) (c : Nat) : List UInt8 := startB d i seed (c : Int)
theorem startK_length (d : Int) (i : UInt32) (seed : List UInt8) (c : Nat) : (startK d i seed c).length = 16 := rfl
theorem pubTs_length (d : Int) (i : UInt32) (k : Nat → List UInt8) : ∀ n, (pubTs d i k n).length = 3 * n
  | 0 => rfl
  | n + 1 => by rw [pubTs_succ, List.length_append, pubTs_length d i k n, linkTs_length]; omega

-- ots.start
set_option maxHeartbeats 4000000 in
theorem ots_start (seed : List UInt8) (d : Int) (i : UInt32) (ch : Int) (hsd : seed.length = 32) (w : World)  : Ctr Try.prog 174 [.agg (seed.map B).toArray, .agg #[I d, U i], I ch] w (fun _ => False) (fun v _ => v = .agg ((startB d i seed ch).map B).toArray) := by
  refine fn_start (N := 18) Try.func174 rfl rfl rfl fun ac hk => ?_
  have hs := St.start hk w
  refine wp_seq ?_
  refine wp_reg ?_
  refine s_box hs rfl rfl rfl fun ac ww g3 hs => ?_
  refine s_box hs rfl rfl rfl fun ac ww g4 hs => ?_
  refine s_alloc hs ty54 rfl fun ac ww g6 hs => ?_
  refine s_end ?_
  replace hs := hs.sub (F' := [(2, _), (3, _), (4, _), (6, _)]) ⟨rfl, rfl, rfl, rfl, trivial⟩
  refine then_n ?_
  refine wp_seq ?_
  refine wp_reg ?_
  refine s_q hs (c_loadW ty41 rfl (hs.ev rfl) (hs.seg (i := 2) rfl) (by rw [List.length_map, hsd])) rfl fun ac hs => ?_
  refine s_q hs (c_fld fl56_0 (hs.ev rfl)) rfl fun ac hs => ?_
  refine s_q hs (c_loadS un3 rfl (hs.ev rfl) (hs.seg (i := 1) rfl) rfl) rfl fun ac hs => ?_
  refine s_q hs (c_cvIV un3 un210 (hs.ev rfl)) rfl fun ac hs => ?_
  refine s_q hs (c_fld fl56_1 (hs.ev rfl)) rfl fun ac hs => ?_
  refine s_q hs (c_loadS un27 rfl (hs.ev rfl) (hs.seg (i := 1) rfl) rfl) rfl fun ac hs => ?_
  refine s_q hs (c_cvUV un27 un210 (hs.ev rfl)) rfl fun ac hs => ?_
  refine s_q hs (c_move (hs.ev rfl)) rfl fun ac hs => ?_
  refine s_q hs (c_cvIV un3 un210 (hs.ev rfl)) rfl fun ac hs => ?_
  refine s_bslice hs un124 ty210 (.cons (hs.ev rfl) (.cons (hs.ev rfl) (.cons (hs.ev rfl) .nil))) rfl (by simp [Value.cells]) (by decide) rfl rfl fun ac ww g16 hs => ?_
  refine s_call hs fu105 (.cons (hs.ev rfl) (.cons (hs.ev rfl) (.cons (hs.ev rfl) .nil))) (mac_Prf seed 79 [i64 d, i.toUInt64, i64 ch] _ hsd (by show 3 ≤ 17592186044000; decide) _ (RdV.seg (l := [i64 d, i.toUInt64, i64 ch]) (hs.seg (i := 0) rfl) (by show 3 ≤ maxLen; decide))) rfl fun ac ww v17 hf hp hs => ?_
  obtain rfl := hp
  replace hs := hs [] (.nil _ _)
  refine s_storeW (i := 1) hs ty54 rfl rfl rfl (by simp) (all_map_B _) (by simp) fun ww hs => ?_
  refine s_end ?_
  replace hs := hs.sub (F' := [(6, _)]) ⟨rfl, trivial⟩
  refine then_n ?_
  refine wp_ret ?_
  refine s_ret hs rfl (.cell (hs.tmp rfl) (run_loadA ty54 rfl (hs.seg (i := 1) rfl) (List.take_of_length_le (by simp)) (by simp)) .nil) rfl ⟨_, rfl, hs.fr, ?_⟩
  rfl

-- fingerpostref10.Start
set_option maxHeartbeats 4000000 in
theorem ref10_Start (seed : List UInt8) (d : Int) (i : UInt32) (ch : Int) (hsd : seed.length = 32) (w : World)  : Ctr Try.prog 164 [.agg (seed.map B).toArray, .agg #[I d, U i], I ch] w (fun _ => False) (fun v _ => v = .agg ((startB d i seed ch).map B).toArray) := by
  refine fn_start (N := 18) Try.func164 rfl rfl rfl fun ac hk => ?_
  have hs := St.start hk w
  refine wp_seq ?_
  refine wp_reg ?_
  refine s_box hs rfl rfl rfl fun ac ww g3 hs => ?_
  refine s_box hs rfl rfl rfl fun ac ww g4 hs => ?_
  refine s_alloc hs ty22 rfl fun ac ww g6 hs => ?_
  refine s_end ?_
  replace hs := hs.sub (F' := [(2, _), (3, _), (4, _), (6, _)]) ⟨rfl, rfl, rfl, rfl, trivial⟩
  refine then_n ?_
  refine wp_seq ?_
  refine wp_reg ?_
  refine s_q hs (c_loadW ty40 rfl (hs.ev rfl) (hs.seg (i := 2) rfl) (by rw [List.length_map, hsd])) rfl fun ac hs => ?_
  refine s_q hs (c_fld fl29_0 (hs.ev rfl)) rfl fun ac hs => ?_
  refine s_q hs (c_loadS un3 rfl (hs.ev rfl) (hs.seg (i := 1) rfl) rfl) rfl fun ac hs => ?_
  refine s_q hs (c_cvIV un3 un210 (hs.ev rfl)) rfl fun ac hs => ?_
  refine s_q hs (c_fld fl29_1 (hs.ev rfl)) rfl fun ac hs => ?_
  refine s_q hs (c_loadS un27 rfl (hs.ev rfl) (hs.seg (i := 1) rfl) rfl) rfl fun ac hs => ?_
  refine s_q hs (c_cvUV un27 un210 (hs.ev rfl)) rfl fun ac hs => ?_
  refine s_q hs (c_move (hs.ev rfl)) rfl fun ac hs => ?_
  refine s_q hs (c_cvIV un3 un210 (hs.ev rfl)) rfl fun ac hs => ?_
  refine s_bslice hs un124 ty210 (.cons (hs.ev rfl) (.cons (hs.ev rfl) (.cons (hs.ev rfl) .nil))) rfl (by simp [Value.cells]) (by decide) rfl rfl fun ac ww g16 hs => ?_
  refine s_call hs fu106 (.cons (hs.ev rfl) (.cons (hs.ev rfl) (.cons (hs.ev rfl) .nil))) (ref05_Prf seed 79 [i64 d, i.toUInt64, i64 ch] _ hsd (by show 3 ≤ 17592186044000; decide) _ (RdV.seg (l := [i64 d, i.toUInt64, i64 ch]) (hs.seg (i := 0) rfl) (by show 3 ≤ maxLen; decide))) rfl fun ac ww v17 hf hp hs => ?_
  obtain rfl := hp
  replace hs := hs [] (.nil _ _)
  refine s_storeW (i := 1) hs ty22 rfl rfl rfl (by simp) (all_map_B _) (by simp) fun ww hs => ?_
  refine s_end ?_
  replace hs := hs.sub (F' := [(6, _)]) ⟨rfl, trivial⟩
  refine then_n ?_
  refine wp_ret ?_
  refine s_ret hs rfl (.cell (hs.tmp rfl) (run_loadA ty22 rfl (hs.seg (i := 1) rfl) (List.take_of_length_le (by simp)) (by simp)) .nil) rfl ⟨_, rfl, hs.fr, ?_⟩
  rfl

-- ots.Public
set_option maxHeartbeats 4000000 in
theorem ots_Public (seed : List UInt8) (d : Int) (i : UInt32) (hsd : seed.length = 32) (w : World)  : Ctr Try.prog 123 [.agg (seed.map B).toArray, .agg #[I d, U i]] w (fun _ => False) (fun v _ => v = .agg ((press d i (tops d i (startK d i seed))).map B).toArray) := by
  refine fn_start (N := 23) Try.func123 rfl rfl rfl fun ac hk => ?_
  have hs := St.start hk w
  refine wp_seq ?_
  refine wp_reg ?_
  refine s_box hs rfl rfl rfl fun ac ww g2 hs => ?_
  refine s_box hs rfl rfl rfl fun ac ww g3 hs => ?_
  refine s_alloc hs ty54 rfl fun ac ww g4 hs => ?_
  refine s_end ?_
  replace hs := hs.sub (F' := [(2, _), (3, _), (4, _)]) ⟨rfl, rfl, rfl, trivial⟩
  refine then_n ?_
  refine wp_seq ?_
  refine wp_reg ?_
  refine s_alloc hs ty70 rfl fun ac ww g5 hs => ?_
  refine s_end ?_
  refine then_n ?_
  refine wp_seq ?_
  refine wp_seq ?_
  refine wp_reg ?_
  refine s_q hs (c_move (hs.ev rfl)) rfl fun ac hs => ?_
  refine s_end ?_
  refine then_n ?_
  refine wp_block ?_
  refine s_loop hs (X := Nat) (fun k => [(7, I k)]) [(2, _), (3, _), (4, _), (5, _)] (fun k => [.seg g5 ((rows (fun c : Nat => linkN d i (c : Int) 0 (startK d i seed c) 3) k ++ (List.replicate 1088 (0 : UInt8)).drop (16 * k)).map B) 70, _, _, _]) (fun n k => k ≤ 68 ∧ n = 68 - k) (_) (0) (⟨Nat.zero_le _, rfl⟩) ⟨rfl, rfl, rfl, rfl, rfl, trivial⟩ rfl ?_
  rintro n k ac ww hok hs
  simp only [List.cons_append, List.nil_append] at hs
  obtain ⟨hk, rfl⟩ := hok
  have hrl : (rows (fun c : Nat => linkN d i (c : Int) 0 (startK d i seed c) 3) k).length = 16 * k := rows_length (N := 68) (fun c _ => linkN_length (startK_length d i seed c) _) k hk
  refine wp_seq ?_
  refine wp_reg ?_
  refine s_q hs (c_lssI (hs.ev rfl) (hs.ev rfl)) rfl fun ac hs => ?_
  refine s_end ?_
  refine then_n ?_
  refine wp_seq ?_
  refine s_cond hs rfl (fun hc => ?_) (fun hc => ?_)
  · try simp only [decide_eq_true_eq, decide_eq_false_iff_not, Bool.not_eq_true', Bool.not_eq_false', Bool.and_eq_true, Bool.or_eq_true, Bool.or_eq_false_iff] at hc
    have hk68 : k < 68 := by omega
    refine wp_skip ?_
    refine then_n ?_
    refine wp_seq ?_
    refine wp_block ?_
    refine wp_seq ?_
    refine wp_reg ?_
    refine s_q hs (c_move (hs.ev rfl)) rfl fun ac hs => ?_
    refine s_q hs (c_assign (hs.ev rfl)) rfl fun ac hs => ?_
    refine s_end ?_
    refine then_n ?_
    refine wp_region_rg pmix 8 (by kernel_rfl) rfl hs ?_
    simp only [List.take_succ_cons, List.take_zero]
    refine rg_q (fun ac ww h => c_move (h.ev rfl)) rfl ?_
    refine rg_q (fun ac ww h => c_loadW ty56 ag56 (h.ev rfl) (h.blk (hs.seg (i := 2) rfl)) (by rfl)) rfl ?_
    refine rg_q (fun ac ww h => c_move (h.ev rfl)) rfl ?_
    refine rg_q (fun ac ww h => c_loadW ty41 rfl (h.ev rfl) (h.blk (hs.seg (i := 3) rfl)) (by rw [List.length_map, hsd])) rfl ?_
    refine rg_q (fun ac ww h => c_loadW ty56 ag56 (h.ev rfl) (h.blk (hs.seg (i := 2) rfl)) (by rfl)) rfl ?_
    refine rg_q (fun ac ww h => c_move (h.ev rfl)) rfl ?_
    refine rg_call fu174 (fun ac ww h => (.cons (h.ev rfl) (.cons (h.ev rfl) (.cons (h.ev rfl) .nil)))) (fun ww hf => ots_start seed d i (k : Int) hsd ww) rfl ?_
    refine rg_call fu162 (fun ac ww h => (.cons (h.ev rfl) (.cons (h.ev rfl) (.cons (h.ev rfl) (.cons (h.ev rfl) (.cons (h.ev rfl) .nil)))))) (fun ww hf => ots_run d i (k : Int) 0 3 (startK d i seed k) rfl (Nat.le_refl _) ww) rfl ?_
    refine rg_nil fun ac ww L' hf hfe hs => ?_
    simp only [List.drop_succ_cons, List.drop_zero]
    obtain rfl : L' = [] := hfe
    replace hs := hs.toL (List.nil_append _)
    refine s_q hs (c_idxA (j := k) un70 ty54 (hs.ev rfl) (hs.ev rfl) (by omega) (by omega)) rfl fun ac hs => ?_
    refine s_store (i := 0) hs ty54 rfl rfl rfl rfl (show (List.map B (linkN d i (k : Int) 0 (startK d i seed k) 3)).length = 16 by rw [List.length_map, linkN_length (startK_length d i seed k)]) (all_map_B _) (by rw [List.length_map, List.length_append, List.length_drop, List.length_replicate]; omega) (chunk_set hrl) fun ww hs => ?_
    refine s_end ?_
    refine blk_n ?_
    refine then_n ?_
    refine wp_reg ?_
    refine s_q hs (c_addI (hs.ev rfl) (hs.ev rfl) (by omega) (by omega)) rfl fun ac hs => ?_
    refine s_q hs (c_move (hs.ev rfl)) rfl fun ac hs => ?_
    refine s_end ?_
    refine then_n ?_
    exact ⟨68 - (k + 1), by omega, k + 1, ⟨by omega, rfl⟩, St.next hs ⟨rfl, rfl, rfl, rfl, rfl, trivial⟩ (by rw [rows_succ]; try rfl)⟩
  · try simp only [decide_eq_true_eq, decide_eq_false_iff_not, Bool.not_eq_true', Bool.not_eq_false', Bool.and_eq_true, Bool.or_eq_true, Bool.or_eq_false_iff] at hc
    obtain rfl : k = 68 := by omega
    rw [List.drop_of_length_le (by simp), List.append_nil] at hs
    refine wp_exit ?_
    refine then_e ?_
    refine then_e ?_
    refine blk_hit ?_
    refine then_n ?_
    refine wp_seq ?_
    refine wp_reg ?_
    refine s_q hs (c_loadW ty56 ag56 (hs.ev rfl) (hs.seg (i := 2) rfl) (by rfl)) rfl fun ac hs => ?_
    refine s_q hs (c_loadW ty70 rfl (hs.ev rfl) (hs.seg (i := 0) rfl) (by rw [List.length_map, hrl])) rfl fun ac hs => ?_
    refine s_call hs fu163 (.cons (hs.ev rfl) (.cons (hs.ev rfl) .nil)) (ots_press d i (tops d i (startK d i seed)) hrl _) rfl fun ac ww v22 hf hp hs => ?_
    obtain rfl := hp
    replace hs := hs [] (.nil _ _)
    refine s_storeW (i := 1) hs ty54 rfl rfl rfl (by simp) (all_map_B _) (by simp) fun ww hs => ?_
    refine s_end ?_
    replace hs := hs.sub (F' := [(4, _)]) ⟨rfl, trivial⟩
    refine then_n ?_
    refine wp_ret ?_
    refine s_ret hs rfl (.cell (hs.tmp rfl) (run_loadA ty54 rfl (hs.seg (i := 1) rfl) (List.take_of_length_le (by simp)) (by simp)) .nil) rfl ⟨_, rfl, hs.fr, ?_⟩
    rfl

-- ots.Sign
set_option maxHeartbeats 4000000 in
theorem ots_Sign (seed : List UInt8) (d : Int) (i : UInt32) (m : List UInt8) (hsd : seed.length = 32) (hm : m.length = 16) (w : World)  : Ctr Try.prog 124 [.agg (seed.map B).toArray, .agg #[I d, U i], .agg (m.map B).toArray] w (fun _ => False) (fun v _ => v = .agg ((signs d i (startK d i seed) m).map B).toArray) := by
  refine fn_start (N := 29) Try.func124 rfl rfl rfl fun ac hk => ?_
  have hs := St.start hk w
  refine wp_seq ?_
  refine wp_reg ?_
  refine s_box hs rfl rfl rfl fun ac ww g3 hs => ?_
  refine s_box hs rfl rfl rfl fun ac ww g4 hs => ?_
  refine s_box hs rfl rfl rfl fun ac ww g5 hs => ?_
  refine s_alloc hs ty70 rfl fun ac ww g6 hs => ?_
  refine s_end ?_
  replace hs := hs.sub (F' := [(3, _), (4, _), (5, _), (6, _)]) ⟨rfl, rfl, rfl, rfl, trivial⟩
  refine then_n ?_
  refine wp_seq ?_
  refine wp_reg ?_
  refine s_alloc hs ty70 rfl fun ac ww g7 hs => ?_
  refine s_end ?_
  refine then_n ?_
  refine wp_seq ?_
  refine wp_seq ?_
  refine wp_reg ?_
  refine s_q hs (c_loadW ty54 rfl (hs.ev rfl) (hs.seg (i := 2) rfl) (by rw [List.length_map, hm])) rfl fun ac hs => ?_
  refine s_call hs fu36 (.cons (hs.ev rfl) .nil) (ots_Digits m hm _) rfl fun ac ww v11 hf hp hs => ?_
  obtain rfl := hp
  replace hs := hs [] (.nil _ _)
  refine s_q hs (c_move (hs.ev rfl)) rfl fun ac hs => ?_
  refine s_end ?_
  replace hs := hs.sub (F' := [(3, _), (4, _), (6, _), (7, _), (11, _), (12, _)]) ⟨rfl, rfl, rfl, rfl, rfl, rfl, trivial⟩
  refine then_n ?_
  refine wp_block ?_
  refine s_loop hs (X := Nat) (fun k => [(12, I k)]) [(3, _), (4, _), (6, _), (7, _), (11, _)] (fun k => [.seg g7 ((rows (fun c : Nat => linkN d i (c : Int) 0 (startK d i seed c) (dgN m c)) k ++ (List.replicate 1088 (0 : UInt8)).drop (16 * k)).map B) 70, _, _, _, _]) (fun n k => k ≤ 68 ∧ n = 68 - k) (_) (0) (⟨Nat.zero_le _, rfl⟩) ⟨rfl, rfl, rfl, rfl, rfl, rfl, trivial⟩ rfl ?_
  rintro n k ac ww hok hs
  simp only [List.cons_append, List.nil_append] at hs
  obtain ⟨hk, rfl⟩ := hok
  have hrl : (rows (fun c : Nat => linkN d i (c : Int) 0 (startK d i seed c) (dgN m c)) k).length = 16 * k := rows_length (N := 68) (fun c _ => linkN_length (startK_length d i seed c) _) k hk
  refine wp_seq ?_
  refine wp_reg ?_
  refine s_q hs (c_lssI (hs.ev rfl) (hs.ev rfl)) rfl fun ac hs => ?_
  refine s_end ?_
  refine then_n ?_
  refine wp_seq ?_
  refine s_cond hs rfl (fun hc => ?_) (fun hc => ?_)
  · try simp only [decide_eq_true_eq, decide_eq_false_iff_not, Bool.not_eq_true', Bool.not_eq_false', Bool.and_eq_true, Bool.or_eq_true, Bool.or_eq_false_iff] at hc
    have hk68 : k < 68 := by omega
    refine wp_skip ?_
    refine then_n ?_
    refine wp_seq ?_
    refine wp_block ?_
    refine wp_seq ?_
    refine wp_reg ?_
    refine s_q hs (c_move (hs.ev rfl)) rfl fun ac hs => ?_
    refine s_q hs (c_idxS1 (j := k) un23 ty5 rfl (hs.ev rfl) (hs.ev rfl) (by omega) (by omega) ((arr_get (l := digits m) 0 (by rw [digits_length]; omega)).trans (by rw [dgt_getD m k hk68]))) rfl fun ac hs => ?_
    refine s_q hs (c_assign (hs.ev rfl)) rfl fun ac hs => ?_
    refine s_q hs (c_assign (hs.ev rfl)) rfl fun ac hs => ?_
    refine s_end ?_
    refine then_n ?_
    refine wp_region_rg pmix 10 (by kernel_rfl) rfl hs ?_
    simp only [List.take_succ_cons, List.take_zero]
    refine rg_q (fun ac ww h => c_move (h.ev rfl)) rfl ?_
    refine rg_q (fun ac ww h => c_loadW ty56 ag56 (h.ev rfl) (h.blk (hs.seg (i := 3) rfl)) (by rfl)) rfl ?_
    refine rg_q (fun ac ww h => c_move (h.ev rfl)) rfl ?_
    refine rg_q (fun ac ww h => c_move (h.ev rfl)) rfl ?_
    refine rg_q (fun ac ww h => c_cvBI un5 un3 (h.ev rfl)) rfl ?_
    refine rg_q (fun ac ww h => c_loadW ty41 rfl (h.ev rfl) (h.blk (hs.seg (i := 4) rfl)) (by rw [List.length_map, hsd])) rfl ?_
    refine rg_q (fun ac ww h => c_loadW ty56 ag56 (h.ev rfl) (h.blk (hs.seg (i := 3) rfl)) (by rfl)) rfl ?_
    refine rg_q (fun ac ww h => c_move (h.ev rfl)) rfl ?_
    refine rg_call fu174 (fun ac ww h => (.cons (h.ev rfl) (.cons (h.ev rfl) (.cons (h.ev rfl) .nil)))) (fun ww hf => ots_start seed d i (k : Int) hsd ww) rfl ?_
    refine rg_call fu162 (fun ac ww h => (.cons (h.ev rfl) (.cons (h.ev rfl) (.cons (h.ev rfl) (.cons (h.ev rfl) (.cons (h.ev rfl) .nil)))))) (fun ww hf => ots_run d i (k : Int) 0 (dgN m k) (startK d i seed k) rfl (dgN_le m k) ww) rfl ?_
    refine rg_nil fun ac ww L' hf hfe hs => ?_
    simp only [List.drop_succ_cons, List.drop_zero]
    obtain rfl : L' = [] := hfe
    replace hs := hs.toL (List.nil_append _)
    refine s_q hs (c_idxA (j := k) un70 ty54 (hs.ev rfl) (hs.ev rfl) (by omega) (by omega)) rfl fun ac hs => ?_
    refine s_store (i := 0) hs ty54 rfl rfl rfl rfl (show (List.map B (linkN d i (k : Int) 0 (startK d i seed k) (dgN m k))).length = 16 by rw [List.length_map, linkN_length (startK_length d i seed k)]) (all_map_B _) (by rw [List.length_map, List.length_append, List.length_drop, List.length_replicate]; omega) (chunk_set hrl) fun ww hs => ?_
    refine s_end ?_
    refine blk_n ?_
    refine then_n ?_
    refine wp_reg ?_
    refine s_q hs (c_addI (hs.ev rfl) (hs.ev rfl) (by omega) (by omega)) rfl fun ac hs => ?_
    refine s_q hs (c_move (hs.ev rfl)) rfl fun ac hs => ?_
    refine s_end ?_
    refine then_n ?_
    exact ⟨68 - (k + 1), by omega, k + 1, ⟨by omega, rfl⟩, St.next hs ⟨rfl, rfl, rfl, rfl, rfl, rfl, trivial⟩ (by rw [rows_succ]; try rfl)⟩
  · try simp only [decide_eq_true_eq, decide_eq_false_iff_not, Bool.not_eq_true', Bool.not_eq_false', Bool.and_eq_true, Bool.or_eq_true, Bool.or_eq_false_iff] at hc
    obtain rfl : k = 68 := by omega
    rw [List.drop_of_length_le (by simp), List.append_nil] at hs
    refine wp_exit ?_
    refine then_e ?_
    refine then_e ?_
    refine blk_hit ?_
    refine then_n ?_
    refine wp_seq ?_
    refine wp_reg ?_
    refine s_q hs (c_loadW ty70 rfl (hs.ev rfl) (hs.seg (i := 0) rfl) (by rw [List.length_map, hrl])) rfl fun ac hs => ?_
    refine s_storeW (i := 1) hs ty70 rfl rfl rfl (by rw [List.length_map, hrl]) (all_map_B _) rfl fun ww hs => ?_
    refine s_end ?_
    replace hs := hs.sub (F' := [(6, _)]) ⟨rfl, trivial⟩
    refine then_n ?_
    refine wp_ret ?_
    refine s_ret hs rfl (.cell (hs.tmp rfl) (run_loadA ty70 rfl (hs.seg (i := 1) rfl) (List.take_of_length_le (by simp [hrl])) (by simp [hrl])) .nil) rfl ⟨_, rfl, hs.fr, ?_⟩
    rfl

-- fingerpostref10.Sign
set_option maxHeartbeats 4000000 in
theorem ref10_Sign (seed : List UInt8) (d : Int) (i : UInt32) (m : List UInt8) (hsd : seed.length = 32) (hm : m.length = 16) (w : World)  : Ctr Try.prog 62 [.agg (seed.map B).toArray, .agg #[I d, U i], .agg (m.map B).toArray] w (fun _ => False) (fun v _ => v = .agg ((signs d i (startK d i seed) m).map B).toArray) := by
  refine fn_start (N := 36) Try.func62 rfl rfl rfl fun ac hk => ?_
  have hs := St.start hk w
  refine wp_seq ?_
  refine wp_reg ?_
  refine s_box hs rfl rfl rfl fun ac ww g3 hs => ?_
  refine s_box hs rfl rfl rfl fun ac ww g4 hs => ?_
  refine s_box hs rfl rfl rfl fun ac ww g5 hs => ?_
  refine s_alloc hs ty33 rfl fun ac ww g6 hs => ?_
  refine s_end ?_
  replace hs := hs.sub (F' := [(3, _), (4, _), (5, _), (6, _)]) ⟨rfl, rfl, rfl, rfl, trivial⟩
  refine then_n ?_
  refine wp_seq ?_
  refine wp_reg ?_
  refine s_q hs (c_loadW ty22 rfl (hs.ev rfl) (hs.seg (i := 1) rfl) (by rw [List.length_map, hm])) rfl fun ac hs => ?_
  refine s_call hs fu40 (.cons (hs.ev rfl) .nil) (ref10_Digits m hm _) rfl fun ac ww v13 hf hp hs => ?_
  obtain rfl := hp
  replace hs := hs [] (.nil _ _)
  refine s_alloc hs ty23 rfl fun ac ww g7 hs => ?_
  refine s_storeW (i := 0) hs ty23 rfl rfl rfl (by simp) (all_map_B _) rfl fun ww hs => ?_
  refine s_end ?_
  replace hs := hs.sub (F' := [(3, _), (4, _), (6, _), (7, _)]) ⟨rfl, rfl, rfl, rfl, trivial⟩
  refine then_n ?_
  refine wp_seq ?_
  refine wp_reg ?_
  refine s_alloc hs ty33 rfl fun ac ww g8 hs => ?_
  refine s_end ?_
  refine then_n ?_
  refine wp_seq ?_
  refine wp_seq ?_
  refine wp_reg ?_
  refine s_q hs (c_assign (hs.ev rfl)) rfl fun ac hs => ?_
  refine s_end ?_
  refine then_n ?_
  refine wp_block ?_
  refine s_loop hs (X := Nat) (fun k => [(9, I k)]) [(3, _), (4, _), (6, _), (7, _), (8, _)] (fun k => [.seg g8 ((rows (fun c : Nat => linkN d i (c : Int) 0 (startK d i seed c) (dgN m c)) k ++ (List.replicate 1088 (0 : UInt8)).drop (16 * k)).map B) 33, _, _, _, _, _]) (fun n k => k ≤ 68 ∧ n = 68 - k) (_) (0) (⟨Nat.zero_le _, rfl⟩) ⟨rfl, rfl, rfl, rfl, rfl, rfl, trivial⟩ rfl ?_
  rintro n k ac ww hok hs
  simp only [List.cons_append, List.nil_append] at hs
  obtain ⟨hk, rfl⟩ := hok
  have hrl : (rows (fun c : Nat => linkN d i (c : Int) 0 (startK d i seed c) (dgN m c)) k).length = 16 * k := rows_length (N := 68) (fun c _ => linkN_length (startK_length d i seed c) _) k hk
  refine wp_seq ?_
  refine wp_seq ?_
  refine wp_reg ?_
  refine s_q hs (c_move (hs.ev rfl)) rfl fun ac hs => ?_
  refine s_q hs (c_lssI (hs.ev rfl) (hs.ev rfl)) rfl fun ac hs => ?_
  refine s_end ?_
  refine then_n ?_
  refine s_cond hs rfl (fun hc => ?_) (fun hc => ?_)
  · try simp only [decide_eq_true_eq, decide_eq_false_iff_not, Bool.not_eq_true', Bool.not_eq_false', Bool.and_eq_true, Bool.or_eq_true, Bool.or_eq_false_iff] at hc
    have hk68 : k < 68 := by omega
    refine wp_skip ?_
    refine then_n ?_
    refine wp_seq ?_
    refine wp_block ?_
    refine wp_seq ?_
    refine wp_region_rgX (jl := 13) pmix 15 (by kernel_rfl) (by decide) rfl rfl rfl rfl rfl rfl (by kernel_rfl) rfl rfl hs ?_
    simp only [List.take_succ_cons, List.take_zero]
    refine rg_q (fun ac ww h => c_loadW ty29 ag29 (h.ev rfl) (h.blk (hs.seg (i := 4) rfl)) (by rfl)) rfl ?_
    refine rg_q (fun ac ww h => c_move (h.ev rfl)) rfl ?_
    refine rg_q (fun ac ww h => c_move (h.ev rfl)) rfl ?_
    refine rg_q (fun ac ww h => c_idxA (j := k) un23 ty5 (h.ev rfl) (h.ev rfl) (by omega) (by omega)) rfl ?_
    refine rg_q (fun ac ww h => c_loadS un5 rfl (h.ev rfl) (h.blk (hs.seg (i := 1) rfl)) ((map_get (l := digits m) 0 (by rw [digits_length]; omega)).trans (by rw [dgt_getD m k hk68]))) rfl ?_
    refine rg_q (fun ac ww h => c_cvBI un5 un3 (h.ev rfl)) rfl ?_
    refine rg_q (fun ac ww h => c_loadW ty40 rfl (h.ev rfl) (h.blk (hs.seg (i := 5) rfl)) (by rw [List.length_map, hsd])) rfl ?_
    refine rg_q (fun ac ww h => c_loadW ty29 ag29 (h.ev rfl) (h.blk (hs.seg (i := 4) rfl)) (by rfl)) rfl ?_
    refine rg_q (fun ac ww h => c_move (h.ev rfl)) rfl ?_
    refine rg_call fu164 (fun ac ww h => (.cons (h.ev rfl) (.cons (h.ev rfl) (.cons (h.ev rfl) .nil)))) (fun ww hf => ref10_Start seed d i (k : Int) hsd ww) rfl ?_
    refine rg_callE (tupE (.agg ((linkN d i (k : Int) 0 (startK d i seed k) (dgN m k)).map B).toArray) (textsE 34 5 (linkTs d i (k : Int) 0 (startK d i seed k) (dgN m k)))) (fun _ _ _ _ _ h => h) fu63 (fun ac ww h => ?_) rfl ?_
    · exact ⟨_, .cons (h.ev rfl) (.cons (h.ev rfl) (.cons (h.ev rfl) (.cons (h.ev rfl) (.cons (h.ev rfl) .nil)))), ref10_Run d i (k : Int) 0 (dgN m k) (startK d i seed k) rfl (dgN_le m k) _⟩
    refine rg_moveT rfl rfl rfl ?_
    refine rg_ext0 rfl rfl rfl ?_
    refine rg_ext1 rfl rfl rfl ?_
    refine rg_alloc ty22 rfl ?_
    refine rg_nil fun ac ww L' hf hfe hs hlk => ?_
    simp only [List.drop_succ_cons, List.drop_zero]
    obtain ⟨v10, L10, M10, h10, e10, ⟨v31, L31, M31, h31, e31, ⟨v18, L18, M18, h18, e18, ⟨v29, L29, M29, h29, e29, rfl, rfl⟩, rfl⟩, rfl⟩, rfl⟩ := hfe
    replace hs := hs.add h10
    replace hs := hs.add h31
    replace hs := hs.add h18
    replace hs := hs.add h29
    obtain ⟨g10, rfl, rfl⟩ := e10
    obtain ⟨tv29, rfl, e29⟩ := e29
    obtain ⟨-, rfl⟩ := e18
    obtain rfl := lk_move (j := 11) hlk (by decide) rfl (by kernel_rfl) h18 h29
    obtain ⟨-, rfl⟩ := e31
    obtain rfl := lk_ext (j := 13) hlk (by decide) rfl (by kernel_rfl) h31 h18 rfl
    obtain ⟨ps29, hps29, rfl⟩ := e29
    refine sk_storeW (i := 0) hs ty22 rfl rfl rfl (by rw [List.length_map, linkN_length (startK_length d i seed k)]) (all_map_B _) rfl fun ww hs => ?_
    refine s_q hs (c_assign (hs.ev rfl)) rfl fun ac hs => ?_
    refine s_end ?_
    replace hs := hs.sub (F' := [(3, _), (4, _), (6, _), (7, _), (8, _), (9, _), (10, _), (14, _), (15, _), (18, _), (19, _), (20, _), (21, _), (22, _), (23, _), (24, _), (25, _), (26, _), (27, _), (28, _), (29, _), (30, _), (31, _)]) ⟨rfl, rfl, rfl, rfl, rfl, rfl, rfl, rfl, rfl, rfl, rfl, rfl, rfl, rfl, rfl, rfl, rfl, rfl, rfl, rfl, rfl, rfl, rfl, trivial⟩
    refine then_n ?_
    refine wp_reg ?_
    refine s_q hs (c_move (hs.ev rfl)) rfl fun ac hs => ?_
    refine s_q hs (c_loadW ty22 rfl (hs.ev rfl) (hs.seg (i := 0) rfl) (by rw [List.length_map, linkN_length (startK_length d i seed k)])) rfl fun ac hs => ?_
    refine s_q hs (c_idxA (j := k) un33 ty22 (hs.ev rfl) (hs.ev rfl) (by omega) (by omega)) rfl fun ac hs => ?_
    refine s_store (i := 2) hs ty22 rfl rfl rfl rfl (show (List.map B (linkN d i (k : Int) 0 (startK d i seed k) (dgN m k))).length = 16 by rw [List.length_map, linkN_length (startK_length d i seed k)]) (all_map_B _) (by rw [List.length_map, List.length_append, List.length_drop, List.length_replicate]; omega) (chunk_set hrl) fun ww hs => ?_
    refine s_end ?_
    replace hs := hs.pick (L' := [_, _, _, _, _, _]) (.cons _ (.cons _ (.refl _)))
    refine blk_n ?_
    refine then_n ?_
    refine wp_reg ?_
    refine s_q hs (c_move (hs.ev rfl)) rfl fun ac hs => ?_
    refine s_q hs (c_addI (hs.ev rfl) (hs.ev rfl) (by omega) (by omega)) rfl fun ac hs => ?_
    refine s_q hs (c_assign (hs.ev rfl)) rfl fun ac hs => ?_
    refine s_end ?_
    refine then_n ?_
    exact ⟨68 - (k + 1), by omega, k + 1, ⟨by omega, rfl⟩, St.next hs ⟨rfl, rfl, rfl, rfl, rfl, rfl, trivial⟩ (by rw [rows_succ]; try rfl)⟩
  · try simp only [decide_eq_true_eq, decide_eq_false_iff_not, Bool.not_eq_true', Bool.not_eq_false', Bool.and_eq_true, Bool.or_eq_true, Bool.or_eq_false_iff] at hc
    obtain rfl : k = 68 := by omega
    rw [List.drop_of_length_le (by simp), List.append_nil] at hs
    refine wp_exit ?_
    refine then_e ?_
    refine then_e ?_
    refine blk_hit ?_
    refine then_n ?_
    refine wp_seq ?_
    refine wp_reg ?_
    refine s_q hs (c_loadW ty33 rfl (hs.ev rfl) (hs.seg (i := 0) rfl) (by rw [List.length_map, hrl])) rfl fun ac hs => ?_
    refine s_storeW (i := 2) hs ty33 rfl rfl rfl (by rw [List.length_map, hrl]) (all_map_B _) rfl fun ww hs => ?_
    refine s_end ?_
    replace hs := hs.sub (F' := [(6, _)]) ⟨rfl, trivial⟩
    refine then_n ?_
    refine wp_ret ?_
    refine s_ret hs rfl (.cell (hs.tmp rfl) (run_loadA ty33 rfl (hs.seg (i := 2) rfl) (List.take_of_length_le (by simp [hrl])) (by simp [hrl])) .nil) rfl ⟨_, rfl, hs.fr, ?_⟩
    rfl

-- fingerpostref10.Public
set_option maxHeartbeats 4000000 in
theorem ref10_Public (seed : List UInt8) (d : Int) (i : UInt32) (hsd : seed.length = 32) (w : World)  : Ctr Try.prog 64 [.agg (seed.map B).toArray, .agg #[I d, U i]] w (fun _ => False) (outE (tupE (.agg ((press d i (tops d i (startK d i seed))).map B).toArray) (textsE 34 5 (pubTs d i (startK d i seed) 68 ++ [pressX d i (tops d i (startK d i seed))]))) w) := by
  refine fn_start (N := 41) Try.func64 rfl rfl rfl fun ac hk => ?_
  have hs := St.start hk w
  refine wp_seq ?_
  refine wp_reg ?_
  refine s_box hs rfl rfl rfl fun ac ww g2 hs => ?_
  refine s_box hs rfl rfl rfl fun ac ww g3 hs => ?_
  refine s_alloc hs ty22 rfl fun ac ww g4 hs => ?_
  refine s_q hs (c_assign (hs.ev rfl)) rfl fun ac hs => ?_
  refine s_end ?_
  replace hs := hs.sub (F' := [(2, _), (3, _), (4, _), (5, _)]) ⟨rfl, rfl, rfl, rfl, trivial⟩
  refine then_n ?_
  refine wp_seq ?_
  refine wp_reg ?_
  refine s_alloc hs ty33 rfl fun ac ww g6 hs => ?_
  refine s_end ?_
  refine then_n ?_
  refine wp_seq ?_
  refine wp_reg ?_
  refine s_q hs (c_assign (hs.ev rfl)) rfl fun ac hs => ?_
  refine s_end ?_
  replace hs := hs.texts0 34 (Ent.part 5)
  refine then_n ?_
  refine wp_seq ?_
  refine wp_seq ?_
  refine wp_reg ?_
  refine s_q hs (c_assign (hs.ev rfl)) rfl fun ac hs => ?_
  refine s_end ?_
  refine then_n ?_
  refine wp_block ?_
  refine s_loop hs (X := Nat × Value × List (Value × List UInt8)) (fun x => [(7, x.2.1), (8, I x.1)]) [(2, _), (3, _), (4, _), (5, _), (6, _)] (fun x => [.texts 34 (Ent.part 5) x.2.1 x.2.2, .seg g6 ((rows (fun c : Nat => linkN d i (c : Int) 0 (startK d i seed c) 3) x.1 ++ (List.replicate 1088 (0 : UInt8)).drop (16 * x.1)).map B) 33, _, _, _]) (fun n x => x.1 ≤ 68 ∧ n = 68 - x.1 ∧ x.2.2.map (·.2) = pubTs d i (startK d i seed) x.1) (_) ((0, _, [])) (⟨Nat.zero_le _, rfl, rfl⟩) ⟨rfl, rfl, rfl, rfl, rfl, rfl, rfl, trivial⟩ rfl ?_
  rintro n ⟨k, v, ps⟩ ac ww hok hs
  simp only [List.cons_append, List.nil_append] at hs
  obtain ⟨hk, rfl, hps⟩ := hok
  simp only at hk hps hs
  have hrl : (rows (fun c : Nat => linkN d i (c : Int) 0 (startK d i seed c) 3) k).length = 16 * k := rows_length (N := 68) (fun c _ => linkN_length (startK_length d i seed c) _) k hk
  have hpl : ps.length ≤ 3 * k := by have := congrArg List.length hps; rw [List.length_map, pubTs_length] at this; omega
  refine wp_seq ?_
  refine wp_seq ?_
  refine wp_reg ?_
  refine s_q hs (c_move (hs.ev rfl)) rfl fun ac hs => ?_
  refine s_q hs (c_lssI (hs.ev rfl) (hs.ev rfl)) rfl fun ac hs => ?_
  refine s_end ?_
  refine then_n ?_
  refine s_cond hs rfl (fun hc => ?_) (fun hc => ?_)
  · try simp only [decide_eq_true_eq, decide_eq_false_iff_not, Bool.not_eq_true', Bool.not_eq_false', Bool.and_eq_true, Bool.or_eq_true, Bool.or_eq_false_iff] at hc
    have hk68 : k < 68 := by omega
    refine wp_skip ?_
    refine then_n ?_
    refine wp_seq ?_
    refine wp_block ?_
    refine wp_seq ?_
    refine wp_region_rgX (jl := 9) pmix 11 (by kernel_rfl) (by decide) rfl rfl rfl rfl rfl rfl (by kernel_rfl) rfl rfl hs ?_
    simp only [List.take_succ_cons, List.take_zero]
    refine rg_q (fun ac ww h => c_loadW ty29 ag29 (h.ev rfl) (h.blk (hs.seg (i := 3) rfl)) (by rfl)) rfl ?_
    refine rg_q (fun ac ww h => c_move (h.ev rfl)) rfl ?_
    refine rg_q (fun ac ww h => c_loadW ty40 rfl (h.ev rfl) (h.blk (hs.seg (i := 4) rfl)) (by rw [List.length_map, hsd])) rfl ?_
    refine rg_q (fun ac ww h => c_loadW ty29 ag29 (h.ev rfl) (h.blk (hs.seg (i := 3) rfl)) (by rfl)) rfl ?_
    refine rg_q (fun ac ww h => c_move (h.ev rfl)) rfl ?_
    refine rg_call fu164 (fun ac ww h => (.cons (h.ev rfl) (.cons (h.ev rfl) (.cons (h.ev rfl) .nil)))) (fun ww hf => ref10_Start seed d i (k : Int) hsd ww) rfl ?_
    refine rg_callE (tupE (.agg ((linkN d i (k : Int) 0 (startK d i seed k) 3).map B).toArray) (textsE 34 5 (linkTs d i (k : Int) 0 (startK d i seed k) 3))) (fun _ _ _ _ _ h => h) fu63 (fun ac ww h => ?_) rfl ?_
    · exact ⟨_, .cons (h.ev rfl) (.cons (h.ev rfl) (.cons (h.ev rfl) (.cons (h.ev rfl) (.cons (h.ev rfl) .nil)))), ref10_Run d i (k : Int) 0 3 (startK d i seed k) rfl (Nat.le_refl _) _⟩
    refine rg_moveT rfl rfl rfl ?_
    refine rg_ext0 rfl rfl rfl ?_
    refine rg_ext1 rfl rfl rfl ?_
    refine rg_alloc ty22 rfl ?_
    refine rg_nil fun ac ww L' hf hfe hs hlk => ?_
    simp only [List.drop_succ_cons, List.drop_zero]
    obtain ⟨v9, L9, M9, h9, e9, ⟨v25, L25, M25, h25, e25, ⟨v16, L16, M16, h16, e16, ⟨v23, L23, M23, h23, e23, rfl, rfl⟩, rfl⟩, rfl⟩, rfl⟩ := hfe
    replace hs := hs.add h9
    replace hs := hs.add h25
    replace hs := hs.add h16
    replace hs := hs.add h23
    obtain ⟨g9, rfl, rfl⟩ := e9
    obtain ⟨tv23, rfl, e23⟩ := e23
    obtain ⟨-, rfl⟩ := e16
    obtain rfl := lk_move (j := 7) hlk (by decide) rfl (by kernel_rfl) h16 h23
    obtain ⟨-, rfl⟩ := e25
    obtain rfl := lk_ext (j := 9) hlk (by decide) rfl (by kernel_rfl) h25 h16 rfl
    obtain ⟨ps23, hps23, rfl⟩ := e23
    have hpl23 : ps23.length ≤ 3 := by have := congrArg List.length hps23; rw [List.length_map, linkTs_length] at this; omega
    refine sk_storeW (i := 0) hs ty22 rfl rfl rfl (by rw [List.length_map, linkN_length (startK_length d i seed k)]) (all_map_B _) rfl fun ww hs => ?_
    refine s_q hs (c_assign (hs.ev rfl)) rfl fun ac hs => ?_
    refine s_end ?_
    refine then_n ?_
    refine wp_seq ?_
    refine wp_reg ?_
    refine s_q hs (c_move (hs.ev rfl)) rfl fun ac hs => ?_
    refine s_q hs (c_loadW ty22 rfl (hs.ev rfl) (hs.seg (i := 0) rfl) (by rw [List.length_map, linkN_length (startK_length d i seed k)])) rfl fun ac hs => ?_
    refine s_q hs (c_idxA (j := k) un33 ty22 (hs.ev rfl) (hs.ev rfl) (by omega) (by omega)) rfl fun ac hs => ?_
    refine s_store (i := 3) hs ty22 rfl rfl rfl rfl (show (List.map B (linkN d i (k : Int) 0 (startK d i seed k) 3)).length = 16 by rw [List.length_map, linkN_length (startK_length d i seed k)]) (all_map_B _) (by rw [List.length_map, List.length_append, List.length_drop, List.length_replicate]; omega) (chunk_set hrl) fun ww hs => ?_
    refine s_end ?_
    refine then_n ?_
    refine wp_reg ?_
    refine s_q hs (c_move (hs.ev rfl)) rfl fun ac hs => ?_
    refine s_q hs (c_move (hs.ev rfl)) rfl fun ac hs => ?_
    refine s_appTT (i := 2) (j := 1) hs un30 ty34 rfl rfl rfl rfl rfl (RdP.ones (RdP.texts (hs.get (i := 1) rfl))) (by omega) rfl fun ac ww v31 hs => ?_
    refine s_q hs (c_assign (hs.ev rfl)) rfl fun ac hs => ?_
    refine s_end ?_
    replace hs := hs.pick (L' := [_, _, _, _, _]) (.cons _ (.cons _ (.refl _)))
    refine blk_n ?_
    refine then_n ?_
    refine wp_reg ?_
    refine s_q hs (c_move (hs.ev rfl)) rfl fun ac hs => ?_
    refine s_q hs (c_addI (hs.ev rfl) (hs.ev rfl) (by omega) (by omega)) rfl fun ac hs => ?_
    refine s_q hs (c_assign (hs.ev rfl)) rfl fun ac hs => ?_
    refine s_end ?_
    refine then_n ?_
    exact ⟨68 - (k + 1), by (try simp only); omega, (k + 1, _, ps ++ ps23), ⟨by (try simp only); omega, rfl, by simp only [List.map_append]; rw [hps, hps23, pubTs_succ]⟩, St.next hs ⟨rfl, rfl, rfl, rfl, rfl, rfl, rfl, trivial⟩ (by rw [rows_succ]; try rfl)⟩
  · try simp only [decide_eq_true_eq, decide_eq_false_iff_not, Bool.not_eq_true', Bool.not_eq_false', Bool.and_eq_true, Bool.or_eq_true, Bool.or_eq_false_iff] at hc
    obtain rfl : k = 68 := by omega
    rw [List.drop_of_length_le (by simp), List.append_nil] at hs
    refine wp_exit ?_
    refine then_e ?_
    refine then_e ?_
    refine blk_hit ?_
    refine then_n ?_
    refine wp_seq ?_
    refine wp_reg ?_
    refine s_q hs (c_loadW ty29 ag29 (hs.ev rfl) (hs.seg (i := 3) rfl) (by rfl)) rfl fun ac hs => ?_
    refine s_q hs (c_loadW ty33 rfl (hs.ev rfl) (hs.seg (i := 1) rfl) (by rw [List.length_map, hrl])) rfl fun ac hs => ?_
    refine s_call hs fu153 (.cons (hs.ev rfl) (.cons (hs.ev rfl) .nil)) (ref10_Press d i (tops d i (startK d i seed)) hrl _) rfl fun ac ww v34 hf hp hs => ?_
    obtain ⟨L', hv, hh⟩ := hp
    subst hv
    replace hs := hs _ hh
    obtain ⟨qad, qcap, rfl, _, _⟩ := Rd.sl (RdB.row (hs.get (i := 0) rfl))
    refine s_q hs (c_assign (hs.ev rfl)) rfl fun ac hs => ?_
    refine s_end ?_
    replace hs := hs.sub (F' := [(4, _), (5, _), (7, _), (11, _)]) ⟨rfl, rfl, rfl, rfl, trivial⟩
    refine then_n ?_
    refine wp_seq ?_
    refine wp_reg ?_
    refine s_q hs (c_move (hs.ev rfl)) rfl fun ac hs => ?_
    refine s_call hs fu54 (.cons (hs.ev rfl) .nil) (ref06_Of 80 (headB d i ++ tops d i (startK d i seed)) _ (by simp [tops_length (startK_length d i seed)]) _ (RdB.row (hs.get (i := 0) rfl))) rfl fun ac ww v36 hf hp hs => ?_
    obtain rfl := hp
    replace hs := hs [] (.nil _ _)
    refine s_q hs (c_move (hs.ev rfl)) rfl fun ac hs => ?_
    refine s_q hs (c_move (hs.ev rfl)) rfl fun ac hs => ?_
    refine s_bslice hs un30 ty34 (.cons (hs.ev rfl) .nil) rfl (by simp [Value.cells]) (by decide) rfl rfl fun ac ww g39 hs => ?_
    refine s_appT (i := 2) (j := 1) hs un30 ty34 rfl rfl rfl rfl rfl (hs.seg (i := 0) rfl) rfl (by omega) rfl fun ac ww v40 hs => ?_
    refine s_storeW (i := 4) hs ty22 rfl rfl rfl (by simp) (all_map_B _) rfl fun ww hs => ?_
    refine s_q hs (c_assign (hs.ev rfl)) rfl fun ac hs => ?_
    refine s_end ?_
    replace hs := hs.sub (F' := [(4, _), (5, _)]) ⟨rfl, rfl, trivial⟩
    refine then_n ?_
    refine wp_ret ?_
    refine s_ret hs rfl (.cell (hs.tmp rfl) (run_loadA ty22 rfl (hs.seg (i := 4) rfl) (List.take_of_length_le (by simp)) (by simp)) (.tmp (hs.tmp rfl) .nil)) rfl ⟨_, rfl, hs.fr, ?_⟩
    exact ⟨_, ⟨_, rfl, _, by rw [List.map_append, hps]; rfl, rfl⟩, (hs.pick (L' := [_]) (.cons _ (.cons _ (.cons_cons _ (.cons _ (.cons _ (.cons _ (.cons _ .slnil)))))))).made⟩

end Go.Proofs.Ytmgnnclkjkbmdaa
end

/- The law of signatures. -/
section
set_option linter.unusedSimpArgs false
set_option linter.unusedVariables false
set_option maxRecDepth 100000
namespace Go.Proofs.Ytmgnnclkjkbmdaa
open Go Go.Fw

open Sha Ots
-- fingerpostlaw10.OtsSigns
set_option maxHeartbeats 4000000 in
theorem law_OtsSigns (seed : List UInt8) (d : Int) (i : UInt32) (m : List UInt8) (hsd : seed.length = 32) (hm : m.length = 16) (w : World)  : Ctr Try.prog 29 [.agg (seed.map B).toArray, .agg #[I d, U i], .agg (m.map B).toArray] w (fun _ => False) (fun v _ => v = .bool true) := by
  refine fn_start (N := 50) Try.func29 rfl rfl rfl fun ac hk => ?_
  have hs := St.start hk w
  refine wp_seq ?_
  refine wp_reg ?_
  refine s_box hs rfl rfl rfl fun ac ww g3 hs => ?_
  refine s_box hs rfl rfl rfl fun ac ww g4 hs => ?_
  refine s_box hs rfl rfl rfl fun ac ww g5 hs => ?_
  refine s_q hs (c_assign (hs.ev rfl)) rfl fun ac hs => ?_
  refine s_end ?_
  replace hs := hs.sub (F' := [(3, _), (4, _), (5, _), (6, _)]) ⟨rfl, rfl, rfl, rfl, trivial⟩
  refine then_n ?_
  refine wp_seq ?_
  refine wp_region_rg pmix 5 (by kernel_rfl) rfl hs ?_
  simp only [List.take_succ_cons, List.take_zero]
  refine rg_q (fun ac ww h => c_loadW ty40 rfl (h.ev rfl) (h.blk (hs.seg (i := 2) rfl)) (by rw [List.length_map, hsd])) rfl ?_
  refine rg_q (fun ac ww h => c_loadW ty29 ag29 (h.ev rfl) (h.blk (hs.seg (i := 1) rfl)) (by rfl)) rfl ?_
  refine rg_call fu53 (fun ac ww h => (.cons (h.ev rfl) .nil)) (fun ww hf => law10_To d i ww) rfl ?_
  refine rg_call fu123 (fun ac ww h => (.cons (h.ev rfl) (.cons (h.ev rfl) .nil))) (fun ww hf => ots_Public seed d i hsd ww) rfl ?_
  refine rg_alloc ty54 rfl ?_
  refine rg_nil fun ac ww L' hf hfe hs => ?_
  simp only [List.drop_succ_cons, List.drop_zero]
  obtain ⟨v7, L7, M7, h7, e7, rfl, rfl⟩ := hfe
  replace hs := hs.add h7
  obtain ⟨g7, rfl, rfl⟩ := e7
  refine s_storeW (i := 0) hs ty54 rfl rfl rfl (by simp) (all_map_B _) rfl fun ww hs => ?_
  refine s_end ?_
  replace hs := hs.sub (F' := [(3, _), (4, _), (5, _), (6, _), (7, _)]) ⟨rfl, rfl, rfl, rfl, rfl, trivial⟩
  refine then_n ?_
  refine wp_seq ?_
  refine wp_reg ?_
  refine s_q hs (c_loadW ty40 rfl (hs.ev rfl) (hs.seg (i := 3) rfl) (by rw [List.length_map, hsd])) rfl fun ac hs => ?_
  refine s_q hs (c_loadW ty29 ag29 (hs.ev rfl) (hs.seg (i := 2) rfl) (by rfl)) rfl fun ac hs => ?_
  refine s_call hs fu64 (.cons (hs.ev rfl) (.cons (hs.ev rfl) .nil)) (ref10_Public seed d i hsd _) rfl fun ac ww v18 hf hp hs => ?_
  obtain ⟨L', ⟨tv, rfl, ps, hps, rfl⟩, hh⟩ := hp
  replace hs := hs _ hh
  refine s_q hs (c_move (hs.ev rfl)) rfl fun ac hs => ?_
  refine s_q hs (c_extract (hs.ev rfl) rfl) rfl fun ac hs => ?_
  refine s_q hs (c_extract (hs.ev rfl) rfl) rfl fun ac hs => ?_
  refine s_alloc hs ty22 rfl fun ac ww g8 hs => ?_
  refine s_storeW (i := 0) hs ty22 rfl rfl rfl (by simp) (all_map_B _) rfl fun ww hs => ?_
  refine s_q hs (c_assign (hs.ev rfl)) rfl fun ac hs => ?_
  refine s_end ?_
  replace hs := hs.sub (F' := [(3, _), (4, _), (5, _), (6, _), (7, _), (8, _)]) ⟨rfl, rfl, rfl, rfl, rfl, rfl, trivial⟩
  refine then_n ?_
  refine wp_seq ?_
  refine wp_region_rg pmix 6 (by kernel_rfl) rfl hs ?_
  simp only [List.take_succ_cons, List.take_zero]
  refine rg_q (fun ac ww h => c_loadW ty40 rfl (h.ev rfl) (h.blk (hs.seg (i := 5) rfl)) (by rw [List.length_map, hsd])) rfl ?_
  refine rg_q (fun ac ww h => c_loadW ty29 ag29 (h.ev rfl) (h.blk (hs.seg (i := 4) rfl)) (by rfl)) rfl ?_
  refine rg_call fu53 (fun ac ww h => (.cons (h.ev rfl) .nil)) (fun ww hf => law10_To d i ww) rfl ?_
  refine rg_q (fun ac ww h => c_loadW ty22 rfl (h.ev rfl) (h.blk (hs.seg (i := 3) rfl)) (by rw [List.length_map, hm])) rfl ?_
  refine rg_call fu124 (fun ac ww h => (.cons (h.ev rfl) (.cons (h.ev rfl) (.cons (h.ev rfl) .nil)))) (fun ww hf => ots_Sign seed d i m hsd hm ww) rfl ?_
  refine rg_alloc ty70 rfl ?_
  refine rg_nil fun ac ww L' hf hfe hs => ?_
  simp only [List.drop_succ_cons, List.drop_zero]
  obtain ⟨v10, L10, M10, h10, e10, rfl, rfl⟩ := hfe
  replace hs := hs.add h10
  obtain ⟨g10, rfl, rfl⟩ := e10
  refine s_storeW (i := 0) hs ty70 rfl rfl rfl (by rw [List.length_map, signs_length (startK_length d i seed) m]) (all_map_B _) rfl fun ww hs => ?_
  refine s_end ?_
  replace hs := hs.sub (F' := [(3, _), (4, _), (5, _), (6, _), (7, _), (8, _), (10, _)]) ⟨rfl, rfl, rfl, rfl, rfl, rfl, rfl, trivial⟩
  refine then_n ?_
  refine wp_seq ?_
  refine wp_region_rg pmix 25 (by kernel_rfl) rfl hs ?_
  simp only [List.take_succ_cons, List.take_zero]
  refine rg_call fu37 (fun ac ww h => .nil) (fun ww hf => law10_awake _) rfl ?_
  refine rg_q (fun ac ww h => c_move (h.ev rfl)) rfl ?_
  refine rg_yes rfl rfl (fun ac ww h => c_loadW ty54 rfl (h.ev rfl) (h.blk (hs.seg (i := 3) rfl)) (by simp)) rfl ?_
  refine rg_yes rfl rfl (fun ac ww h => c_loadW ty22 rfl (h.ev rfl) (h.blk (hs.seg (i := 1) rfl)) (by simp)) rfl ?_
  refine rg_yes rfl rfl (fun ac ww h => c_tt (c_eqlAB un54 ty5 eg54 (h.ev rfl) (h.ev rfl) (press_length _ _ _) (press_length _ _ _)) (by simp)) rfl ?_
  refine rg_q (fun ac ww h => c_pick (h.ev rfl) (h.ev rfl) (h.ev rfl)) rfl ?_
  refine rg_q (fun ac ww h => c_move (h.ev rfl)) rfl ?_
  refine rg_yes rfl rfl (fun ac ww h => c_loadW ty70 rfl (h.ev rfl) (h.blk (hs.seg (i := 0) rfl)) (by rw [List.length_map, signs_length (startK_length d i seed) m])) rfl ?_
  refine rg_strip rfl rfl ?_
  refine rg_call fu125 (fun ac ww h => (.cons (h.ev rfl) .nil)) (fun ww hf => law10_From _ (signs_length (startK_length d i seed) m) ww) rfl ?_
  refine rg_yes rfl rfl (fun ac ww h => c_loadW ty40 rfl (h.ev rfl) (h.blk (hs.seg (i := 6) rfl)) (by rw [List.length_map, hsd])) rfl ?_
  refine rg_yes rfl rfl (fun ac ww h => c_loadW ty29 ag29 (h.ev rfl) (h.blk (hs.seg (i := 5) rfl)) (by rfl)) rfl ?_
  refine rg_yes rfl rfl (fun ac ww h => c_loadW ty22 rfl (h.ev rfl) (h.blk (hs.seg (i := 4) rfl)) (by rw [List.length_map, hm])) rfl ?_
  refine rg_strip rfl rfl ?_
  refine rg_call fu62 (fun ac ww h => (.cons (h.ev rfl) (.cons (h.ev rfl) (.cons (h.ev rfl) .nil)))) (fun ww hf => ref10_Sign seed d i m hsd hm ww) rfl ?_
  refine rg_yes rfl rfl (fun ac ww h => c_tt (c_eqlABB un33 ty22 ty5 (by decide) eg33 (h.ev rfl) (h.ev rfl) (signs_length (startK_length d i seed) m) (signs_length (startK_length d i seed) m)) (by simp)) rfl ?_
  refine rg_q (fun ac ww h => c_pick (h.ev rfl) (h.ev rfl) (h.ev rfl)) rfl ?_
  refine rg_q (fun ac ww h => c_move (h.ev rfl)) rfl ?_
  refine rg_yes rfl rfl (fun ac ww h => c_loadW ty29 ag29 (h.ev rfl) (h.blk (hs.seg (i := 5) rfl)) (by rfl)) rfl ?_
  refine rg_strip rfl rfl ?_
  refine rg_call fu53 (fun ac ww h => (.cons (h.ev rfl) .nil)) (fun ww hf => law10_To d i ww) rfl ?_
  refine rg_yes rfl rfl (fun ac ww h => c_loadW ty22 rfl (h.ev rfl) (h.blk (hs.seg (i := 4) rfl)) (by rw [List.length_map, hm])) rfl ?_
  refine rg_yes rfl rfl (fun ac ww h => c_loadW ty70 rfl (h.ev rfl) (h.blk (hs.seg (i := 0) rfl)) (by rw [List.length_map, signs_length (startK_length d i seed) m])) rfl ?_
  refine rg_strip rfl rfl ?_
  refine rg_call fu60 (fun ac ww h => (.cons (h.ev rfl) (.cons (h.ev rfl) (.cons (h.ev rfl) .nil)))) (fun ww hf => ots_Recover d i m _ hm (signs_length (startK_length d i seed) m) ww) rfl ?_
  refine rg_yes rfl rfl (fun ac ww h => c_loadW ty54 rfl (h.ev rfl) (h.blk (hs.seg (i := 3) rfl)) (by simp)) rfl ?_
  refine rg_yes rfl rfl (fun ac ww h => c_tt (c_eqlAB un54 ty5 eg54 (h.ev rfl) (h.ev rfl) (press_length _ _ _) (press_length _ _ _)) (by rw [rise_own (startK_length d i seed)]; simp)) rfl ?_
  refine rg_q (fun ac ww h => c_pick (h.ev rfl) (h.ev rfl) (h.ev rfl)) rfl ?_
  refine rg_q (fun ac ww h => c_assign (h.ev rfl)) rfl ?_
  refine rg_nil fun ac ww L' hf hfe hs => ?_
  simp only [List.drop_succ_cons, List.drop_zero]
  obtain rfl : L' = [] := hfe
  replace hs := hs.toL (List.nil_append _)
  refine s_end ?_
  replace hs := hs.sub (F' := [(6, _)]) ⟨rfl, trivial⟩
  refine then_n ?_
  refine wp_ret ?_
  refine s_ret hs rfl (.tmp (hs.tmp rfl) .nil) rfl ⟨_, rfl, hs.fr, ?_⟩
  rfl

end Go.Proofs.Ytmgnnclkjkbmdaa
end
