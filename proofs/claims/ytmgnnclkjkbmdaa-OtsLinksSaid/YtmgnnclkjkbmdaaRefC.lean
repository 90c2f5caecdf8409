/- The sum as the document has it. -/
import Derived.Test.YtmgnnclkjkbmdaaRefB
set_option linter.unusedSimpArgs false
set_option linter.unusedVariables false
set_option maxRecDepth 100000
namespace Go.Proofs.Ytmgnnclkjkbmdaa
open Go Go.Fw

open Sha
theorem comp_take (r : R) (l : List UInt8) : comp r (l.take 64) = comp r l := comp_congr (fun j hj => by simp [List.getD, List.getElem?_take_of_lt hj]) r
def mid (r : R) (k j : Nat) : List UInt8 := (out r).take (4 * k) ++ lo32 (r.list.getD k 0) j ++ List.replicate (32 - 4 * (k + 1)) 0
theorem mid_len (r : R) (k j : Nat) (h : k < 8) (hj : j ≤ 4) : (mid r k j).length = 32 := by simp only [mid, List.length_append, List.length_take, out_length, lo32_len _ _ hj, List.length_replicate]; omega
theorem mid_set (r : R) (k j : Nat) (h : k < 8) (hj : j < 4) : (mid r k j).set (4 * k + (3 - j)) ((be32 (r.list.getD k 0)).getD (3 - j) 0) = mid r k (j + 1) := by
  have e : ((out r).take (4 * k)).length = 4 * k := by simp; omega
  rw [mid, mid, List.append_assoc, List.append_assoc, List.set_append_right _ _ (by omega), e, Nat.add_sub_cancel_left, List.set_append_left _ _ (by rw [lo32_len _ _ (by omega)]; omega), lo32_set _ _ hj]
theorem mid_zero (r : R) (k : Nat) (h : k < 8) : outZ r k = mid r k 0 := by
  rw [outZ, mid, List.append_assoc]
  congr 1
  rw [show lo32 (r.list.getD k 0) 0 = List.replicate 4 0 from rfl, List.replicate_append_replicate]
  congr 1
  omega
theorem mid_full (r : R) (k : Nat) (h : k < 8) : mid r k 4 = outZ r (k + 1) := by
  rw [outZ, mid, out_take r k h]
  rfl

-- fingerpostref04.Sum
set_option maxHeartbeats 4000000 in
theorem ref04_Sum (p : List UInt8) (pv : Value) (hle : p.length ≤ 140737488355200) (w : World) (hq : RdB w pv p) : Ctr Try.prog 45 [pv] w (fun _ => False) (fun v _ => v = .agg ((sum p).map B).toArray) := by
  refine fn_start (N := 51) Try.func45 rfl rfl rfl fun ac hk => ?_
  have hs := St.start hk w
  refine wp_seq ?_
  refine wp_reg ?_
  refine s_alloc hs ty40 rfl fun ac ww g2 hs => ?_
  refine s_end ?_
  refine then_n ?_
  refine wp_seq ?_
  refine wp_reg ?_
  refine s_q hs (c_move (hs.ev rfl)) rfl fun ac hs => ?_
  refine s_call hs fu46 (.cons (hs.ev rfl) .nil) (ref04_Pad p _ hle _ (hq.fr0 hs.fr)) rfl fun ac ww v12 hf hp hs => ?_
  obtain ⟨qv, rfl, hh⟩ := hp
  replace hs := hs _ hh
  obtain ⟨qad, qcap, rfl, hqc, hqm⟩ := Rd.sl (RdB.row (hs.get (i := 0) rfl))
  have hpl := pad_length p
  refine s_q hs (c_assign (hs.ev rfl)) rfl fun ac hs => ?_
  refine s_end ?_
  replace hs := hs.sub (F' := [(2, _), (3, _)]) ⟨rfl, rfl, trivial⟩
  refine then_n ?_
  refine wp_seq ?_
  refine wp_reg ?_
  refine s_call hs fu154 .nil (ref04_First _) rfl fun ac ww v13 hf hp hs => ?_
  obtain rfl := hp
  replace hs := hs [] (.nil _ _)
  refine s_alloc hs ty205 rfl fun ac ww g4 hs => ?_
  refine s_storeW (i := 0) hs ty205 rfl rfl rfl (by simp) (all_map_U _) (by simp) fun ww hs => ?_
  refine s_end ?_
  replace hs := hs.sub (F' := [(2, _), (3, _), (4, _)]) ⟨rfl, rfl, rfl, trivial⟩
  refine then_n ?_
  refine wp_seq ?_
  refine wp_reg ?_
  refine s_call hs fu155 .nil (ref04_K _) rfl fun ac ww v14 hf hp hs => ?_
  obtain rfl := hp
  replace hs := hs [] (.nil _ _)
  refine s_alloc hs ty207 rfl fun ac ww g5 hs => ?_
  refine s_storeW (i := 0) hs ty207 rfl rfl rfl (by simp) (all_map_U _) (by simp) fun ww hs => ?_
  refine s_end ?_
  replace hs := hs.sub (F' := [(2, _), (3, _), (4, _), (5, _)]) ⟨rfl, rfl, rfl, rfl, trivial⟩
  refine then_n ?_
  refine wp_seq ?_
  refine wp_seq ?_
  refine wp_reg ?_
  refine s_q hs (c_assign (hs.ev rfl)) rfl fun ac hs => ?_
  refine s_end ?_
  refine then_n ?_
  refine wp_block ?_
  refine s_loop hs (X := Nat) (fun k => [(6, I (64 * (k : Int)))]) [(2, _), (3, _), (4, _), (5, _)] (fun k => [.seg g5 (K.map U) 207, .seg g4 ((foldB first (pad p) k).list.map U) 205, .row _ (pad p).length ((pad p).map B) 5 1, .seg g2 ((List.replicate 32 (0 : UInt8)).map B) 40]) (fun n k => k ≤ blocks p.length ∧ n = blocks p.length - k) (_) (0) (⟨Nat.zero_le _, rfl⟩) ⟨rfl, rfl, rfl, rfl, rfl, trivial⟩ rfl ?_
  rintro n k ac ww hok hs
  simp only [List.cons_append, List.nil_append] at hs
  obtain ⟨hk, rfl⟩ := hok
  have hbl : blocks p.length ≤ p.length + 2 := by simp only [blocks]; split <;> omega
  refine wp_seq ?_
  refine wp_seq ?_
  refine wp_reg ?_
  refine s_q hs (c_move (hs.ev rfl)) rfl fun ac hs => ?_
  refine s_q hs (c_move (hs.ev rfl)) rfl fun ac hs => ?_
  refine s_q hs (c_lenS un34 (hs.ev rfl)) rfl fun ac hs => ?_
  refine s_q hs (c_lssI (hs.ev rfl) (hs.ev rfl)) rfl fun ac hs => ?_
  refine s_end ?_
  refine then_n ?_
  refine s_cond hs rfl (fun hc => ?_) (fun hc => ?_)
  · try simp only [decide_eq_true_eq, decide_eq_false_iff_not, Bool.not_eq_true', Bool.not_eq_false', Bool.and_eq_true, Bool.or_eq_true, Bool.or_eq_false_iff] at hc
    have hk2 : k < blocks p.length := by omega
    refine wp_skip ?_
    refine then_n ?_
    refine wp_seq ?_
    refine wp_block ?_
    refine wp_region_rg pmix 8 (by kernel_rfl) rfl hs ?_
    simp only [List.take_succ_cons, List.take_zero]
    refine rg_q (fun ac ww h => c_loadW ty205 rfl (h.ev rfl) (h.blk (hs.seg (i := 1) rfl)) (by simp)) rfl ?_
    refine rg_q (fun ac ww h => c_move (h.ev rfl)) rfl ?_
    refine rg_q (fun ac ww h => c_move (h.ev rfl)) rfl ?_
    refine rg_q (fun ac ww h => c_move (h.ev rfl)) rfl ?_
    refine rg_q (fun ac ww h => c_addI (h.ev rfl) (h.ev rfl) (by omega) (by omega)) rfl ?_
    refine rg_q (fun ac ww h => c_sliceS (i := 64 * k) (j := 64 * k + 64) un34 ty5 (h.ev rfl) (h.ev rfl) (h.ev rfl) (by omega) (by omega) (by omega) (by omega)) rfl ?_
    refine rg_q (fun ac ww h => c_loadW ty207 rfl (h.ev rfl) (h.blk (hs.seg (i := 0) rfl)) (by simp)) rfl ?_
    refine rg_call fu156 (fun ac ww h => (.cons (h.ev rfl) (.cons (h.ev rfl) (.cons (h.ev rfl) .nil)))) (fun ww hf => ref04_Block _ (((pad p).drop (64 * k)).take (64 * k + 64 - 64 * k)) _ (by rw [List.length_take, List.length_drop]; omega) ww ((RdB.mid (RdB.row (hs.get (i := 2) rfl)) (by omega) (by omega)).fr0 hf)) rfl ?_
    refine rg_nil fun ac ww L' hf hfe hs => ?_
    simp only [List.drop_succ_cons, List.drop_zero]
    obtain rfl : L' = [] := hfe
    replace hs := hs.toL (List.nil_append _)
    refine s_storeW (i := 1) hs ty205 rfl rfl rfl (by simp) (all_map_U _) (by simp) fun ww hs => ?_
    rw [show 64 * k + 64 - 64 * k = 64 from by omega, comp_take] at hs
    refine s_end ?_
    refine blk_n ?_
    refine then_n ?_
    refine wp_reg ?_
    refine s_q hs (c_move (hs.ev rfl)) rfl fun ac hs => ?_
    refine s_q hs (c_addI (hs.ev rfl) (hs.ev rfl) (by omega) (by omega)) rfl fun ac hs => ?_
    refine s_q hs (c_assign (hs.ev rfl)) rfl fun ac hs => ?_
    refine s_end ?_
    refine then_n ?_
    exact ⟨blocks p.length - (k + 1), by omega, k + 1, ⟨by omega, rfl⟩, St.next hs ⟨(congrArg (fun z => some (I z)) (by omega)), rfl, rfl, rfl, rfl, trivial⟩ rfl⟩
  · try simp only [decide_eq_true_eq, decide_eq_false_iff_not, Bool.not_eq_true', Bool.not_eq_false', Bool.and_eq_true, Bool.or_eq_true, Bool.or_eq_false_iff] at hc
    obtain rfl : k = blocks p.length := by omega
    refine wp_exit ?_
    refine then_e ?_
    refine then_e ?_
    refine blk_hit ?_
    refine then_n ?_
    refine wp_seq ?_
    refine wp_reg ?_
    refine s_alloc hs ty40 rfl fun ac ww g7 hs => ?_
    refine s_end ?_
    replace hs := hs.sub (F' := [(2, _), (4, _), (7, _)]) ⟨rfl, rfl, rfl, trivial⟩
    refine then_n ?_
    refine wp_seq ?_
    refine wp_seq ?_
    refine wp_reg ?_
    refine s_q hs (c_assign (hs.ev rfl)) rfl fun ac hs => ?_
    refine s_end ?_
    refine then_n ?_
    refine wp_block ?_
    refine s_loop hs (X := Nat) (fun k => [(8, I k)]) [(2, _), (4, _), (7, _)] (fun k => [.seg g7 ((outZ (foldB first (pad p) (blocks p.length)) k).map B) 40, .seg g5 (K.map U) 207, .seg g4 ((foldB first (pad p) (blocks p.length)).list.map U) 205, .row _ (pad p).length ((pad p).map B) 5 1, .seg g2 ((List.replicate 32 (0 : UInt8)).map B) 40]) (fun n k => k ≤ 8 ∧ n = 8 - k) (8) (0) (⟨Nat.zero_le _, rfl⟩) ⟨rfl, rfl, rfl, rfl, trivial⟩ rfl ?_
    rintro n k ac ww hok hs
    simp only [List.cons_append, List.nil_append] at hs
    obtain ⟨hk, rfl⟩ := hok
    have hzl := outZ_len (foldB first (pad p) (blocks p.length)) k hk
    refine wp_seq ?_
    refine wp_seq ?_
    refine wp_reg ?_
    refine s_q hs (c_move (hs.ev rfl)) rfl fun ac hs => ?_
    refine s_q hs (c_lssI (hs.ev rfl) (hs.ev rfl)) rfl fun ac hs => ?_
    refine s_end ?_
    refine then_n ?_
    refine s_cond hs rfl (fun hc => ?_) (fun hc => ?_)
    · try simp only [decide_eq_true_eq, decide_eq_false_iff_not, Bool.not_eq_true', Bool.not_eq_false', Bool.and_eq_true, Bool.or_eq_true, Bool.or_eq_false_iff] at hc
      have hk8 : k < 8 := by omega
      refine wp_skip ?_
      refine then_n ?_
      refine wp_seq ?_
      refine wp_block ?_
      refine wp_seq ?_
      refine wp_reg ?_
      refine s_q hs (c_move (hs.ev rfl)) rfl fun ac hs => ?_
      refine s_q hs (c_idxA (j := k) un205 ty27 (hs.ev rfl) (hs.ev rfl) (by omega) (by omega)) rfl fun ac hs => ?_
      refine s_q hs (c_loadS un27 rfl (hs.ev rfl) (hs.seg (i := 2) rfl) (map_get 0 (by simp; omega))) rfl fun ac hs => ?_
      refine s_q hs (c_assign (hs.ev rfl)) rfl fun ac hs => ?_
      refine s_end ?_
      refine then_n ?_
      refine wp_seq ?_
      refine wp_reg ?_
      refine s_q hs (c_assign (hs.ev rfl)) rfl fun ac hs => ?_
      refine s_end ?_
      refine then_n ?_
      refine wp_block ?_
      refine s_loop hs (X := Nat) (fun j => [(9, U (qd32 ((foldB first (pad p) (blocks p.length)).list.getD k 0) j)), (10, I (3 - (j : Int)))]) [(2, _), (4, _), (7, _), (8, _), (29, _), (30, _), (33, _), (34, _), (35, _)] (fun j => [.seg g7 ((mid (foldB first (pad p) (blocks p.length)) k j).map B) 40, .seg g5 (K.map U) 207, .seg g4 ((foldB first (pad p) (blocks p.length)).list.map U) 205, .row _ (pad p).length ((pad p).map B) 5 1, .seg g2 ((List.replicate 32 (0 : UInt8)).map B) 40]) (fun n j => j ≤ 4 ∧ n = 4 - j) (4) (0) (⟨Nat.zero_le _, rfl⟩) ⟨rfl, rfl, rfl, rfl, rfl, rfl, rfl, rfl, rfl, rfl, rfl, trivial⟩ (by rw [mid_zero _ k hk8]) ?_
      rintro n j ac ww hok hs
      simp only [List.cons_append, List.nil_append] at hs
      obtain ⟨hj, rfl⟩ := hok
      have hml := mid_len (foldB first (pad p) (blocks p.length)) k j hk8 hj
      refine wp_seq ?_
      refine wp_seq ?_
      refine wp_reg ?_
      refine s_q hs (c_move (hs.ev rfl)) rfl fun ac hs => ?_
      refine s_q hs (c_geqI (hs.ev rfl) (hs.ev rfl)) rfl fun ac hs => ?_
      refine s_end ?_
      refine then_n ?_
      refine s_cond hs rfl (fun hc => ?_) (fun hc => ?_)
      · try simp only [decide_eq_true_eq, decide_eq_false_iff_not, Bool.not_eq_true', Bool.not_eq_false', Bool.and_eq_true, Bool.or_eq_true, Bool.or_eq_false_iff] at hc
        have hj4 : j < 4 := by omega
        refine wp_skip ?_
        refine then_n ?_
        refine wp_seq ?_
        refine wp_block ?_
        refine wp_seq ?_
        refine wp_reg ?_
        refine s_q hs (c_move (hs.ev rfl)) rfl fun ac hs => ?_
        refine s_q hs (c_mulI (hs.ev rfl) (hs.ev rfl) (by omega) (by omega)) rfl fun ac hs => ?_
        refine s_q hs (c_move (hs.ev rfl)) rfl fun ac hs => ?_
        refine s_q hs (c_addI (hs.ev rfl) (hs.ev rfl) (by omega) (by omega)) rfl fun ac hs => ?_
        refine s_q hs (c_move (hs.ev rfl)) rfl fun ac hs => ?_
        refine s_q hs (c_remU (hs.ev rfl) (St.ev (v := U 256) hs rfl) (by decide)) rfl fun ac hs => ?_
        refine s_q hs (c_cvUB un27 un5 (hs.ev rfl)) rfl fun ac hs => ?_
        refine s_q hs (c_idxA (j := 4 * k + (3 - j)) un40 ty5 (hs.ev rfl) (hs.ev rfl) (by omega) (by omega)) rfl fun ac hs => ?_
        refine s_store (i := 0) hs ty5 rfl rfl rfl rfl rfl rfl (by rw [List.length_map]; omega) ((map_set _ (by omega)).trans (congrArg (List.map B) ((congrArg (fun z => List.set _ _ z) (qd32_byte _ j (by omega))).trans (mid_set _ k j hk8 hj4)))) fun ww hs => ?_
        refine s_end ?_
        refine then_n ?_
        refine wp_reg ?_
        refine s_q hs (c_move (hs.ev rfl)) rfl fun ac hs => ?_
        refine s_q hs (c_quoU (hs.ev rfl) (St.ev (v := U 256) hs rfl) (by decide)) rfl fun ac hs => ?_
        refine s_q hs (c_assign (hs.ev rfl)) rfl fun ac hs => ?_
        refine s_end ?_
        refine blk_n ?_
        refine then_n ?_
        refine wp_reg ?_
        refine s_q hs (c_move (hs.ev rfl)) rfl fun ac hs => ?_
        refine s_q hs (c_subI (hs.ev rfl) (hs.ev rfl) (by omega) (by omega)) rfl fun ac hs => ?_
        refine s_q hs (c_assign (hs.ev rfl)) rfl fun ac hs => ?_
        refine s_end ?_
        refine then_n ?_
        exact ⟨4 - (j + 1), by omega, j + 1, ⟨by omega, rfl⟩, St.next hs ⟨rfl, (congrArg (fun z => some (I z)) (by omega)), rfl, rfl, rfl, rfl, rfl, rfl, rfl, rfl, rfl, trivial⟩ rfl⟩
      · try simp only [decide_eq_true_eq, decide_eq_false_iff_not, Bool.not_eq_true', Bool.not_eq_false', Bool.and_eq_true, Bool.or_eq_true, Bool.or_eq_false_iff] at hc
        obtain rfl : j = 4 := by omega
        refine wp_exit ?_
        refine then_e ?_
        refine then_e ?_
        refine blk_hit ?_
        refine blk_n ?_
        refine then_n ?_
        refine wp_reg ?_
        refine s_q hs (c_move (hs.ev rfl)) rfl fun ac hs => ?_
        refine s_q hs (c_addI (hs.ev rfl) (hs.ev rfl) (by omega) (by omega)) rfl fun ac hs => ?_
        refine s_q hs (c_assign (hs.ev rfl)) rfl fun ac hs => ?_
        refine s_end ?_
        refine then_n ?_
        exact ⟨8 - (k + 1), by omega, k + 1, ⟨by omega, rfl⟩, St.next hs ⟨rfl, rfl, rfl, rfl, trivial⟩ (by rw [← mid_full _ k (by omega)]; try rfl)⟩
    · try simp only [decide_eq_true_eq, decide_eq_false_iff_not, Bool.not_eq_true', Bool.not_eq_false', Bool.and_eq_true, Bool.or_eq_true, Bool.or_eq_false_iff] at hc
      obtain rfl : k = 8 := by omega
      refine wp_exit ?_
      refine then_e ?_
      refine then_e ?_
      refine blk_hit ?_
      refine then_n ?_
      refine wp_seq ?_
      refine wp_reg ?_
      refine s_q hs (c_loadW ty40 rfl (hs.ev rfl) (hs.seg (i := 0) rfl) (by simpa using hzl)) rfl fun ac hs => ?_
      refine s_storeW (i := 4) hs ty40 rfl rfl rfl (by simpa using hzl) (all_map_B _) rfl fun ww hs => ?_
      refine s_end ?_
      replace hs := hs.sub (F' := [(2, _)]) ⟨rfl, trivial⟩
      refine then_n ?_
      refine wp_ret ?_
      refine s_ret hs rfl (.cell (hs.tmp rfl) (run_loadA ty40 rfl (hs.seg (i := 4) rfl) (List.take_of_length_le (by simp [hzl])) (by simpa using hzl)) .nil) rfl ⟨_, rfl, hs.fr, ?_⟩
      show _ = _
      rw [sum_eq]
      rfl

end Go.Proofs.Ytmgnnclkjkbmdaa
