import Derived.Test.YtmgnnclkjkbmdaaOtsA
set_option linter.unusedSimpArgs false
set_option linter.unusedVariables false
set_option maxRecDepth 100000
namespace Go.Proofs.Ytmgnnclkjkbmdaa
open Go Go.Fw

open Ots
theorem dig_at (m : List UInt8) {k : Nat} (h : k < 68) : ((digits m).map B)[0 + k * 1]? = some (B (dgt m k)) := by
  have := map_get (f := B) (l := digits m) (i := k) 0 (by simpa using h)
  rw [this, dgt_getD m k h]

-- fingerpostlaw10.OtsApart
set_option maxHeartbeats 4000000 in
theorem law_OtsApart (a b : List UInt8) (ha : a.length = 16) (hb : b.length = 16) (w : World)  : Ctr Try.prog 3 [.agg (a.map B).toArray, .agg (b.map B).toArray] w (fun _ => False) (fun v _ => v = .bool true) := by
  refine fn_start (N := 63) Try.func3 rfl rfl rfl fun ac hk => ?_
  have hs := St.start hk w
  refine wp_seq ?_
  refine wp_reg ?_
  refine s_box hs rfl rfl rfl fun ac ww g2 hs => ?_
  refine s_box hs rfl rfl rfl fun ac ww g3 hs => ?_
  refine s_q hs (c_assign (hs.ev rfl)) rfl fun ac hs => ?_
  refine s_end ?_
  replace hs := hs.sub (F' := [(2, _), (3, _), (4, _)]) ⟨rfl, rfl, rfl, trivial⟩
  refine then_n ?_
  refine wp_seq ?_
  refine wp_region_rg pmix 6 (by kernel_rfl) rfl hs ?_
  simp only [List.take_succ_cons, List.take_zero]
  refine rg_q (fun ac ww h => c_loadW ty22 rfl (h.ev rfl) (h.blk (hs.seg (i := 1) rfl)) (by simpa using ha)) rfl ?_
  refine rg_call fu36 (fun ac ww h => (.cons (h.ev rfl) .nil)) (fun ww hf => ots_Digits a ha _) rfl ?_
  refine rg_q (fun ac ww h => c_loadW ty22 rfl (h.ev rfl) (h.blk (hs.seg (i := 0) rfl)) (by simpa using hb)) rfl ?_
  refine rg_call fu36 (fun ac ww h => (.cons (h.ev rfl) .nil)) (fun ww hf => ots_Digits b hb _) rfl ?_
  refine rg_alloc ty23 rfl ?_
  refine rg_alloc ty23 rfl ?_
  refine rg_nil fun ac ww L' hf hfe hs => ?_
  simp only [List.drop_succ_cons, List.drop_zero]
  obtain ⟨v6, L6, M6, h6, e6, ⟨v5, L5, M5, h5, e5, rfl, rfl⟩, rfl⟩ := hfe
  replace hs := hs.add h6
  replace hs := hs.add h5
  obtain ⟨g6, rfl, rfl⟩ := e6
  obtain ⟨g5, rfl, rfl⟩ := e5
  refine s_storeW (i := 1) hs ty23 rfl rfl rfl (by simp) (by simp [Value.oneCell']) (by simp) fun ww hs => ?_
  refine s_storeW (i := 0) hs ty23 rfl rfl rfl (by simp) (by simp [Value.oneCell']) (by simp) fun ww hs => ?_
  refine s_end ?_
  replace hs := hs.sub (F' := [(2, _), (3, _), (4, _), (5, _), (6, _)]) ⟨rfl, rfl, rfl, rfl, rfl, trivial⟩
  refine then_n ?_
  refine wp_seq ?_
  refine wp_reg ?_
  refine s_q hs (c_assign (hs.ev rfl)) rfl fun ac hs => ?_
  refine s_q hs (c_assign (hs.ev rfl)) rfl fun ac hs => ?_
  refine s_end ?_
  refine then_n ?_
  refine wp_seq ?_
  refine wp_seq ?_
  refine wp_reg ?_
  refine s_q hs (c_move (hs.ev rfl)) rfl fun ac hs => ?_
  refine s_end ?_
  refine then_n ?_
  refine wp_block ?_
  refine s_loop hs (X := Nat) (fun k => [(14, I k), (7, .bool (low a b k)), (8, .bool (low b a k))]) [(2, _), (3, _), (5, _), (6, _)] (fun _ => [_, _, _, _]) (fun n k => k ≤ 68 ∧ n = 68 - k) (68) (0) (⟨by omega, rfl⟩) ⟨rfl, rfl, rfl, rfl, rfl, rfl, rfl, trivial⟩ rfl ?_
  rintro n k ac ww hok hs
  simp only [List.cons_append, List.nil_append] at hs
  refine wp_seq ?_
  refine wp_reg ?_
  refine s_q hs (c_lssI (hs.ev rfl) (hs.ev rfl)) rfl fun ac hs => ?_
  refine s_end ?_
  refine then_n ?_
  refine wp_seq ?_
  refine s_cond hs rfl (fun hc => ?_) (fun hc => ?_)
  · try simp only [decide_eq_true_eq, decide_eq_false_iff_not, Bool.not_eq_true', Bool.not_eq_false', Bool.and_eq_true, Bool.or_eq_true, Bool.or_eq_false_iff] at hc
    obtain ⟨hk, rfl⟩ := hok
    have h1 := dgt_le a k
    have h2 := dgt_le b k
    refine wp_skip ?_
    refine then_n ?_
    refine wp_seq ?_
    refine wp_block ?_
    refine wp_seq ?_
    refine wp_reg ?_
    refine s_q hs (c_move (hs.ev rfl)) rfl fun ac hs => ?_
    refine s_q hs (c_assign (hs.ev rfl)) rfl fun ac hs => ?_
    refine s_end ?_
    refine then_n ?_
    refine wp_seq ?_
    refine wp_seq ?_
    refine wp_reg ?_
    refine s_q hs (c_move (hs.ev rfl)) rfl fun ac hs => ?_
    refine s_q hs (c_idxA (j := k) un23 ty5 (hs.ev rfl) (hs.ev rfl) (by omega) (by omega)) rfl fun ac hs => ?_
    refine s_q hs (c_loadS un5 rfl (hs.ev rfl) (hs.seg (i := 1) rfl) (dig_at a (by omega))) rfl fun ac hs => ?_
    refine s_q hs (c_gtrB (hs.ev rfl) (St.ev (v := B 3) hs rfl)) rfl fun ac hs => ?_
    refine s_q hs (c_move (hs.ev rfl)) rfl fun ac hs => ?_
    refine s_g hs rfl rfl (fun hg => c_move (hs.ev rfl)) rfl fun ac hs => ?_
    refine s_g hs rfl rfl (fun hg => c_idxA (j := k) un23 ty5 (hs.ev rfl) (gev (hs.ev rfl) hg) (by omega) (by omega)) rfl fun ac hs => ?_
    refine s_g hs rfl rfl (fun hg => c_loadS un5 rfl (gev (hs.ev rfl) hg) (hs.seg (i := 0) rfl) (dig_at b (by omega))) rfl fun ac hs => ?_
    refine s_g hs rfl rfl (fun hg => c_gtrB (gev (hs.ev rfl) hg) (St.ev (v := B 3) hs rfl)) rfl fun ac hs => ?_
    refine s_q hs (c_or (hs.ev rfl) (hs.ev rfl)) rfl fun ac hs => ?_
    refine s_end ?_
    refine then_n ?_
    refine s_cond hs rfl (fun hc => ?_) (fun hc => ?_)
    · exact absurd hc (by simp; omega)
    · try simp only [decide_eq_true_eq, decide_eq_false_iff_not, Bool.not_eq_true', Bool.not_eq_false', Bool.and_eq_true, Bool.or_eq_true, Bool.or_eq_false_iff] at hc
      refine wp_skip ?_
      refine then_n ?_
      refine wp_seq ?_
      refine wp_region_rg pmix 11 (by kernel_rfl) rfl hs ?_
      simp only [List.take_succ_cons, List.take_zero]
      refine rg_q (fun ac ww h => c_move (h.ev rfl)) rfl ?_
      refine rg_q (fun ac ww h => c_move (h.ev rfl)) rfl ?_
      refine rg_g rfl rfl (fun hg ac ww h => c_move (h.ev rfl)) rfl ?_
      refine rg_g rfl rfl (fun hg ac ww h => c_idxA (j := k) un23 ty5 (h.ev rfl) (gev (h.ev rfl) hg) (by omega) (by omega)) rfl ?_
      refine rg_g rfl rfl (fun hg ac ww h => c_loadS un5 rfl (gev (h.ev rfl) hg) (h.blk (hs.seg (i := 1) rfl)) (dig_at a (by omega))) rfl ?_
      refine rg_g rfl rfl (fun hg ac ww h => c_move (h.ev rfl)) rfl ?_
      refine rg_g rfl rfl (fun hg ac ww h => c_idxA (j := k) un23 ty5 (h.ev rfl) (gev (h.ev rfl) hg) (by omega) (by omega)) rfl ?_
      refine rg_g rfl rfl (fun hg ac ww h => c_loadS un5 rfl (gev (h.ev rfl) hg) (h.blk (hs.seg (i := 0) rfl)) (dig_at b (by omega))) rfl ?_
      refine rg_g rfl rfl (fun hg ac ww h => c_lssB (gev (h.ev rfl) hg) (gev (h.ev rfl) hg)) rfl ?_
      refine rg_q (fun ac ww h => c_or (h.ev rfl) (h.ev rfl)) rfl ?_
      refine rg_q (fun ac ww h => c_assign (h.ev rfl)) rfl ?_
      refine rg_nil fun ac ww L' hf hfe hs => ?_
      simp only [List.drop_succ_cons, List.drop_zero]
      obtain rfl : L' = [] := hfe
      replace hs := hs.toL (List.nil_append _)
      refine s_end ?_
      refine then_n ?_
      refine wp_region_rg pmix 11 (by kernel_rfl) rfl hs ?_
      simp only [List.take_succ_cons, List.take_zero]
      refine rg_q (fun ac ww h => c_move (h.ev rfl)) rfl ?_
      refine rg_q (fun ac ww h => c_move (h.ev rfl)) rfl ?_
      refine rg_g rfl rfl (fun hg ac ww h => c_move (h.ev rfl)) rfl ?_
      refine rg_g rfl rfl (fun hg ac ww h => c_idxA (j := k) un23 ty5 (h.ev rfl) (gev (h.ev rfl) hg) (by omega) (by omega)) rfl ?_
      refine rg_g rfl rfl (fun hg ac ww h => c_loadS un5 rfl (gev (h.ev rfl) hg) (h.blk (hs.seg (i := 0) rfl)) (dig_at b (by omega))) rfl ?_
      refine rg_g rfl rfl (fun hg ac ww h => c_move (h.ev rfl)) rfl ?_
      refine rg_g rfl rfl (fun hg ac ww h => c_idxA (j := k) un23 ty5 (h.ev rfl) (gev (h.ev rfl) hg) (by omega) (by omega)) rfl ?_
      refine rg_g rfl rfl (fun hg ac ww h => c_loadS un5 rfl (gev (h.ev rfl) hg) (h.blk (hs.seg (i := 1) rfl)) (dig_at a (by omega))) rfl ?_
      refine rg_g rfl rfl (fun hg ac ww h => c_lssB (gev (h.ev rfl) hg) (gev (h.ev rfl) hg)) rfl ?_
      refine rg_q (fun ac ww h => c_or (h.ev rfl) (h.ev rfl)) rfl ?_
      refine rg_q (fun ac ww h => c_assign (h.ev rfl)) rfl ?_
      refine rg_nil fun ac ww L' hf hfe hs => ?_
      simp only [List.drop_succ_cons, List.drop_zero]
      obtain rfl : L' = [] := hfe
      replace hs := hs.toL (List.nil_append _)
      refine s_end ?_
      refine blk_n ?_
      refine then_n ?_
      refine wp_reg ?_
      refine s_q hs (c_addI (hs.ev rfl) (hs.ev rfl) (by omega) (by omega)) rfl fun ac hs => ?_
      refine s_q hs (c_move (hs.ev rfl)) rfl fun ac hs => ?_
      refine s_end ?_
      refine then_n ?_
      exact ⟨68 - (k + 1), by omega, k + 1, ⟨by omega, rfl⟩, St.next hs ⟨rfl, (congrArg (fun z => some (Value.bool z)) (low_succ a b k).symm), (congrArg (fun z => some (Value.bool z)) (low_succ b a k).symm), rfl, rfl, rfl, rfl, trivial⟩ rfl⟩
  · try simp only [decide_eq_true_eq, decide_eq_false_iff_not, Bool.not_eq_true', Bool.not_eq_false', Bool.and_eq_true, Bool.or_eq_true, Bool.or_eq_false_iff] at hc
    obtain ⟨hk, rfl⟩ := hok
    obtain rfl : k = 68 := by omega
    refine wp_exit ?_
    refine then_e ?_
    refine then_e ?_
    refine blk_hit ?_
    refine then_n ?_
    refine wp_seq ?_
    refine wp_reg ?_
    refine s_call hs fu37 .nil (law10_awake _) rfl fun ac ww v48 hf hp hs => ?_
    obtain rfl := hp
    replace hs := hs [] (.nil _ _)
    refine s_q hs (c_move (hs.ev rfl)) rfl fun ac hs => ?_
    refine s_yes hs rfl rfl ?_
    refine s_q hs (c_move (hs.ev rfl)) rfl fun ac hs => ?_
    refine s_yes hs rfl rfl ?_
    refine s_q hs (c_loadW ty22 rfl (hs.ev rfl) (hs.seg (i := 3) rfl) (by simpa using ha)) rfl fun ac hs => ?_
    refine s_yes hs rfl rfl ?_
    refine s_q hs (c_loadW ty22 rfl (hs.ev rfl) (hs.seg (i := 2) rfl) (by simpa using hb)) rfl fun ac hs => ?_
    refine s_yes hs rfl rfl ?_
    refine s_q hs (c_neqAB un22 ty5 eg22 (hs.ev rfl) (hs.ev rfl) ha hb) rfl fun ac hs => ?_
    refine s_yes hs rfl rfl ?_
    refine s_q hs (c_tt (c_eqlbool un4 (hs.ev rfl) (hs.ev rfl)) (by rw [low_all a b ha hb]; simp)) rfl fun ac hs => ?_
    refine s_q hs (c_pick (hs.ev rfl) (hs.ev rfl) (hs.ev rfl)) rfl fun ac hs => ?_
    refine s_q hs (c_move (hs.ev rfl)) rfl fun ac hs => ?_
    refine s_yes hs rfl rfl ?_
    refine s_q hs (c_move (hs.ev rfl)) rfl fun ac hs => ?_
    refine s_yes hs rfl rfl ?_
    refine s_q hs (c_loadW ty22 rfl (hs.ev rfl) (hs.seg (i := 3) rfl) (by simpa using ha)) rfl fun ac hs => ?_
    refine s_yes hs rfl rfl ?_
    refine s_q hs (c_loadW ty22 rfl (hs.ev rfl) (hs.seg (i := 2) rfl) (by simpa using hb)) rfl fun ac hs => ?_
    refine s_yes hs rfl rfl ?_
    refine s_q hs (c_neqAB un22 ty5 eg22 (hs.ev rfl) (hs.ev rfl) ha hb) rfl fun ac hs => ?_
    refine s_yes hs rfl rfl ?_
    refine s_q hs (c_tt (c_eqlbool un4 (hs.ev rfl) (hs.ev rfl)) (by rw [low_all b a hb ha]; simp [eq_comm])) rfl fun ac hs => ?_
    refine s_q hs (c_pick (hs.ev rfl) (hs.ev rfl) (hs.ev rfl)) rfl fun ac hs => ?_
    refine s_q hs (c_assign (hs.ev rfl)) rfl fun ac hs => ?_
    refine s_end ?_
    replace hs := hs.sub (F' := [(4, _)]) ⟨rfl, trivial⟩
    refine then_n ?_
    refine wp_ret ?_
    refine s_ret hs rfl (.tmp (hs.tmp rfl) .nil) rfl ⟨_, rfl, hs.fr, ?_⟩
    rfl

end Go.Proofs.Ytmgnnclkjkbmdaa
