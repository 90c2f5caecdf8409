/- Own texts of this seat, laid together for one claim (with what its proof uses alone). -/
import Derived.Test.YtmgnnclkjkbmdaaGroveSetKb
section
/- Heights of groves, what stands above two. -/
set_option linter.unusedSimpArgs false
set_option linter.unusedVariables false
set_option maxRecDepth 100000
namespace Go.Proofs.Ytmgnnclkjkbmdaa
open Go Go.Fw
open Sha
theorem height_pow : ∀ j : Nat, j < 7 → height (2 ^ j) = j
  | 0, _ => rfl | 1, _ => rfl | 2, _ => rfl | 3, _ => rfl | 4, _ => rfl | 5, _ => rfl | 6, _ => rfl | j + 7, h => absurd h (by omega)
theorem pow_le64 : ∀ j : Nat, j < 7 → (2 : Int) ^ j ≤ 64
  | 0, _ => by decide | 1, _ => by decide | 2, _ => by decide | 3, _ => by decide | 4, _ => by decide | 5, _ => by decide | 6, _ => by decide | j + 7, h => absurd h (by omega)
theorem height_no {n : Int} (h : ∀ j : Nat, j < 7 → n ≠ 2 ^ j) : height n = -1 := by
  have h0 := h 0 (by omega)
  have h1 := h 1 (by omega)
  have h2 := h 2 (by omega)
  have h3 := h 3 (by omega)
  have h4 := h 4 (by omega)
  have h5 := h 5 (by omega)
  have h6 := h 6 (by omega)
  simp only [Int.reducePow, ne_eq] at h0 h1 h2 h3 h4 h5 h6
  rw [height, if_neg h0, if_neg h1, if_neg h2, if_neg h3, if_neg h4, if_neg h5, if_neg h6]
theorem height_lv {n : Int} : height n = -1 ∧ (∀ j : Nat, j < 7 → n ≠ 2 ^ j) ∨ ∃ lv W : Nat, lv ≤ 6 ∧ W = 2 ^ lv ∧ n = (W : Int) ∧ height n = lv := by
  by_cases h : ∃ j : Nat, j < 7 ∧ n = 2 ^ j
  · obtain ⟨j, hj, rfl⟩ := h
    exact .inr ⟨j, 2 ^ j, by omega, rfl, by simp, height_pow j hj⟩
  · have h2 : ∀ j : Nat, j < 7 → n ≠ 2 ^ j := fun j hj e => h ⟨j, hj, e⟩
    exact .inl ⟨height_no h2, h2⟩
theorem pow64 {lv : Nat} (h : lv ≤ 6) : 2 ^ lv ≤ 64 := by
  have := Nat.pow_le_pow_right (show 0 < 2 by decide) h
  simpa using this
theorem pow_mono_int {i j : Nat} (h : i ≤ j) : (2 : Int) ^ i ≤ 2 ^ j := by
  have := Nat.pow_le_pow_right (show 0 < 2 by decide) h
  exact_mod_cast this
theorem gNode_length {d : Int} {ep : UInt32} {l : List UInt8} {n : Nat} (hl : l.length = 16 * n) : ∀ k q, (q + 1) * 2 ^ k ≤ n → (gNode d ep l k q).length = 16
  | 0, q, h => by
    have : chunk l q = (l.drop (16 * q)).take 16 := rfl
    show (chunk l q).length = 16
    rw [this, List.length_take, List.length_drop]
    omega
  | k + 1, q, _ => rfl
set_option maxHeartbeats 4000000 in
theorem grove_Height (x : Int) (w : World)  : Ctr Try.prog 95 [I x] w (fun _ => False) (fun v _ => v = I (height x)) := by
  refine fn_start (N := 13) Try.func95 rfl rfl rfl fun ac hk => ?_
  have hs := St.start hk w
  refine wp_seq ?_
  refine wp_reg ?_
  refine s_q hs (c_assign (hs.ev rfl)) rfl fun ac hs => ?_
  refine s_end ?_
  refine then_n ?_
  refine wp_seq ?_
  refine wp_seq ?_
  refine wp_reg ?_
  refine s_q hs (c_move (hs.ev rfl)) rfl fun ac hs => ?_
  refine s_end ?_
  refine then_n ?_
  refine wp_block ?_
  refine s_loop hs (X := Nat) (fun k => [(4, I k)]) [(0, _)] (fun _ => []) (fun n k => k ≤ 7 ∧ n = 7 - k ∧ ∀ j : Nat, j < k → x ≠ 2 ^ j) (_) (0) (⟨Nat.zero_le _, rfl, fun _ h => absurd h (by omega)⟩) ⟨rfl, rfl, trivial⟩ rfl ?_
  rintro n k ac ww hok hs
  simp only [List.cons_append, List.nil_append] at hs
  obtain ⟨hk, rfl, hno⟩ := hok
  refine wp_seq ?_
  refine wp_reg ?_
  refine s_q hs (c_lssI (hs.ev rfl) (hs.ev rfl)) rfl fun ac hs => ?_
  refine s_end ?_
  refine then_n ?_
  refine wp_seq ?_
  refine s_cond hs rfl (fun hc => ?_) (fun hc => ?_)
  · try simp only [decide_eq_true_eq, decide_eq_false_iff_not, Bool.not_eq_true', Bool.not_eq_false', Bool.and_eq_true, Bool.or_eq_true, Bool.or_eq_false_iff] at hc
    have hk7 : k < 7 := by omega
    have hp8 := pow_le64 k hk7
    have hp0 := pow_pos k
    refine wp_skip ?_
    refine then_n ?_
    refine wp_seq ?_
    refine wp_block ?_
    refine wp_seq ?_
    refine wp_reg ?_
    refine s_q hs (c_move (hs.ev rfl)) rfl fun ac hs => ?_
    refine s_q hs (c_assign (hs.ev rfl)) rfl fun ac hs => ?_
    refine s_end ?_
    refine then_n ?_
    refine wp_seq ?_
    refine wp_reg ?_
    refine s_q hs (c_move (hs.ev rfl)) rfl fun ac hs => ?_
    refine s_q hs (c_move (hs.ev rfl)) rfl fun ac hs => ?_
    refine s_q hs (c_shlI (hs.ev rfl) (hs.ev rfl) (by omega) (by rw [Int.one_mul]; omega) (by rw [Int.one_mul]; omega)) rfl fun ac hs => ?_
    refine s_q hs (c_eqlI (hs.ev rfl) (hs.ev rfl)) rfl fun ac hs => ?_
    refine s_end ?_
    refine then_n ?_
    refine s_cond hs rfl (fun hc => ?_) (fun hc => ?_)
    · try simp only [decide_eq_true_eq, decide_eq_false_iff_not, Bool.not_eq_true', Bool.not_eq_false', Bool.and_eq_true, Bool.or_eq_true, Bool.or_eq_false_iff] at hc
      refine wp_seq ?_
      refine wp_reg ?_
      refine s_q hs (c_move (hs.ev rfl)) rfl fun ac hs => ?_
      refine s_q hs (c_assign (hs.ev rfl)) rfl fun ac hs => ?_
      refine s_end ?_
      refine then_n ?_
      refine wp_ret ?_
      refine blk_r ?_
      refine then_r ?_
      refine then_r ?_
      refine blk_r ?_
      refine then_r ?_
      refine s_ret hs rfl (.tmp (hs.tmp rfl) .nil) rfl ⟨_, rfl, hs.fr, ?_⟩
      show I _ = I _
      rw [hc, Int.one_mul, height_pow k hk7]
    · try simp only [decide_eq_true_eq, decide_eq_false_iff_not, Bool.not_eq_true', Bool.not_eq_false', Bool.and_eq_true, Bool.or_eq_true, Bool.or_eq_false_iff] at hc
      refine wp_skip ?_
      refine blk_n ?_
      refine then_n ?_
      refine wp_reg ?_
      refine s_q hs (c_addI (hs.ev rfl) (hs.ev rfl) (by omega) (by omega)) rfl fun ac hs => ?_
      refine s_q hs (c_move (hs.ev rfl)) rfl fun ac hs => ?_
      refine s_end ?_
      refine then_n ?_
      exact ⟨7 - (k + 1), by omega, k + 1, ⟨by omega, rfl, fun j hj => by
          by_cases e : j = k
          · subst e; exact fun e => hc (by rw [e]; simp)
          · exact hno j (by omega)⟩, St.next hs ⟨rfl, rfl, trivial⟩ rfl⟩
  · try simp only [decide_eq_true_eq, decide_eq_false_iff_not, Bool.not_eq_true', Bool.not_eq_false', Bool.and_eq_true, Bool.or_eq_true, Bool.or_eq_false_iff] at hc
    obtain rfl : k = 7 := by omega
    refine wp_exit ?_
    refine then_e ?_
    refine then_e ?_
    refine blk_hit ?_
    refine then_n ?_
    refine wp_seq ?_
    refine wp_reg ?_
    refine s_q hs (c_assign (hs.ev rfl)) rfl fun ac hs => ?_
    refine s_end ?_
    replace hs := hs.sub (F' := [(2, _)]) ⟨rfl, trivial⟩
    refine then_n ?_
    refine wp_ret ?_
    refine s_ret hs rfl (.tmp (hs.tmp rfl) .nil) rfl ⟨_, rfl, hs.fr, ?_⟩
    show I _ = I _
    rw [height_no hno]
set_option maxHeartbeats 4000000 in
theorem ref07_Height (x : Int) (w : World)  : Ctr Try.prog 96 [I x] w (fun _ => False) (fun v _ => v = I (height x)) := by
  refine fn_start (N := 20) Try.func96 rfl rfl rfl fun ac hk => ?_
  have hs := St.start hk w
  refine wp_seq ?_
  refine wp_reg ?_
  refine s_q hs (c_assign (hs.ev rfl)) rfl fun ac hs => ?_
  refine s_end ?_
  refine then_n ?_
  refine wp_seq ?_
  refine wp_reg ?_
  refine s_q hs (c_assign (hs.ev rfl)) rfl fun ac hs => ?_
  refine s_q hs (c_assign (hs.ev rfl)) rfl fun ac hs => ?_
  refine s_end ?_
  refine then_n ?_
  refine wp_seq ?_
  refine wp_block ?_
  refine s_loop hs (X := Nat) (fun k => [(3, I k), (4, I ((2 : Int) ^ k))]) [(0, _), (2, _)] (fun _ => []) (fun n k => k ≤ 6 ∧ n = 6 - k ∧ ∀ j : Nat, j < k → (2 : Int) ^ j < x) (_) (0) (⟨Nat.zero_le _, rfl, fun _ h => absurd h (by omega)⟩) ⟨rfl, rfl, rfl, rfl, trivial⟩ rfl ?_
  rintro n k ac ww hok hs
  simp only [List.cons_append, List.nil_append] at hs
  obtain ⟨hk, rfl, hlo⟩ := hok
  have hp8 := pow_le64 k (by omega)
  have hp0 := pow_pos k
  refine wp_seq ?_
  refine wp_seq ?_
  refine wp_reg ?_
  refine s_q hs (c_move (hs.ev rfl)) rfl fun ac hs => ?_
  refine s_q hs (c_move (hs.ev rfl)) rfl fun ac hs => ?_
  refine s_q hs (c_lssI (hs.ev rfl) (hs.ev rfl)) rfl fun ac hs => ?_
  refine s_q hs (c_move (hs.ev rfl)) rfl fun ac hs => ?_
  refine s_g hs rfl rfl (fun hg => c_move (hs.ev rfl)) rfl fun ac hs => ?_
  refine s_g hs rfl rfl (fun hg => c_lssI (gev (hs.ev rfl) hg) (hs.ev rfl)) rfl fun ac hs => ?_
  refine s_q hs (c_and (hs.ev rfl) (hs.ev rfl)) rfl fun ac hs => ?_
  refine s_end ?_
  refine then_n ?_
  refine s_cond hs rfl (fun hc => ?_) (fun hc => ?_)
  · try simp only [decide_eq_true_eq, decide_eq_false_iff_not, Bool.not_eq_true', Bool.not_eq_false', Bool.and_eq_true, Bool.or_eq_true, Bool.or_eq_false_iff] at hc
    refine wp_skip ?_
    refine then_n ?_
    refine wp_block ?_
    refine wp_seq ?_
    refine wp_reg ?_
    refine s_q hs (c_move (hs.ev rfl)) rfl fun ac hs => ?_
    refine s_q hs (c_mulI (hs.ev rfl) (hs.ev rfl) (by omega) (by omega)) rfl fun ac hs => ?_
    refine s_q hs (c_assign (hs.ev rfl)) rfl fun ac hs => ?_
    refine s_end ?_
    refine then_n ?_
    refine wp_reg ?_
    refine s_q hs (c_move (hs.ev rfl)) rfl fun ac hs => ?_
    refine s_q hs (c_addI (hs.ev rfl) (hs.ev rfl) (by omega) (by omega)) rfl fun ac hs => ?_
    refine s_q hs (c_assign (hs.ev rfl)) rfl fun ac hs => ?_
    refine s_end ?_
    refine blk_n ?_
    refine then_n ?_
    exact ⟨6 - (k + 1), by omega, k + 1, ⟨by omega, rfl, fun j hj => by
        by_cases e : j = k
        · subst e; exact hc.1
        · exact hlo j (by omega)⟩, St.next hs ⟨rfl, (congrArg (fun z => some (I z)) (by rw [Int.pow_succ]; omega)), rfl, rfl, trivial⟩ rfl⟩
  · try simp only [decide_eq_true_eq, decide_eq_false_iff_not, Bool.not_eq_true', Bool.not_eq_false', Bool.and_eq_true, Bool.or_eq_true, Bool.or_eq_false_iff] at hc
    simp only [Bool.and_eq_false_iff, decide_eq_false_iff_not] at hc
    have hstop := hc
    refine wp_exit ?_
    refine then_e ?_
    refine then_e ?_
    refine blk_hit ?_
    refine then_n ?_
    refine wp_seq ?_
    refine wp_seq ?_
    refine wp_reg ?_
    refine s_q hs (c_move (hs.ev rfl)) rfl fun ac hs => ?_
    refine s_q hs (c_move (hs.ev rfl)) rfl fun ac hs => ?_
    refine s_q hs (c_neqI (hs.ev rfl) (hs.ev rfl)) rfl fun ac hs => ?_
    refine s_end ?_
    replace hs := hs.sub (F' := [(2, _), (3, _), (18, _)]) ⟨rfl, rfl, rfl, trivial⟩
    refine then_n ?_
    refine s_cond hs rfl (fun hc => ?_) (fun hc => ?_)
    · try simp only [decide_eq_true_eq, decide_eq_false_iff_not, Bool.not_eq_true', Bool.not_eq_false', Bool.and_eq_true, Bool.or_eq_true, Bool.or_eq_false_iff] at hc
      refine wp_seq ?_
      refine wp_reg ?_
      refine s_q hs (c_assign (hs.ev rfl)) rfl fun ac hs => ?_
      refine s_end ?_
      replace hs := hs.sub (F' := [(2, _), (3, _)]) ⟨rfl, rfl, trivial⟩
      refine then_n ?_
      refine wp_ret ?_
      refine then_r ?_
      refine s_ret hs rfl (.tmp (hs.tmp rfl) .nil) rfl ⟨_, rfl, hs.fr, ?_⟩
      show I _ = I _
      refine congrArg I (Eq.symm (height_no fun j hj e => ?_))
      by_cases h1 : j < k
      · have := hlo j h1; omega
      · by_cases h2 : j = k
        · subst h2; exact hc e.symm
        · have := pow_mono_int (show k + 1 ≤ j by omega)
          rw [Int.pow_succ] at this
          omega
    · try simp only [decide_eq_true_eq, decide_eq_false_iff_not, Bool.not_eq_true', Bool.not_eq_false', Bool.and_eq_true, Bool.or_eq_true, Bool.or_eq_false_iff] at hc
      refine wp_skip ?_
      refine then_n ?_
      refine wp_seq ?_
      refine wp_reg ?_
      refine s_q hs (c_move (hs.ev rfl)) rfl fun ac hs => ?_
      refine s_q hs (c_assign (hs.ev rfl)) rfl fun ac hs => ?_
      refine s_end ?_
      replace hs := hs.sub (F' := [(2, _)]) ⟨rfl, trivial⟩
      refine then_n ?_
      refine wp_ret ?_
      refine s_ret hs rfl (.tmp (hs.tmp rfl) .nil) rfl ⟨_, rfl, hs.fr, ?_⟩
      show I _ = I _
      rw [← hc, height_pow k (by omega)]
set_option maxHeartbeats 4000000 in
theorem grove_Above (d : Int) (ep : UInt32) (lv : Int) (a b : List UInt8) (hal : a.length = 16) (hbl : b.length = 16) (w : World)  : Ctr Try.prog 117 [I d, U ep, I lv, .agg (a.map B).toArray, .agg (b.map B).toArray] w (fun _ => False) (fun v _ => v = .agg ((ofT (aboveX d ep lv a b)).map B).toArray) := by
  refine fn_start (N := 31) Try.func117 rfl rfl rfl fun ac hk => ?_
  have hs := St.start hk w
  refine wp_seq ?_
  refine wp_reg ?_
  refine s_box hs rfl rfl rfl fun ac ww g8 hs => ?_
  refine s_box hs rfl rfl rfl fun ac ww g9 hs => ?_
  refine s_alloc hs ty54 rfl fun ac ww g10 hs => ?_
  refine s_end ?_
  replace hs := hs.sub (F' := [(0, _), (1, _), (2, _), (8, _), (9, _), (10, _)]) ⟨rfl, rfl, rfl, rfl, rfl, rfl, trivial⟩
  refine then_n ?_
  refine wp_seq ?_
  refine wp_region_rg pmix 18 (by kernel_rfl) rfl hs ?_
  simp only [List.take_succ_cons, List.take_zero]
  refine rg_q (fun ac ww h => c_move (h.ev rfl)) rfl ?_
  refine rg_q (fun ac ww h => c_cvIB un3 un5 (h.ev rfl)) rfl ?_
  refine rg_q (fun ac ww h => c_move (h.ev rfl)) rfl ?_
  refine rg_q (fun ac ww h => c_shrU (h.ev rfl) (h.ev rfl) (by decide)) rfl ?_
  refine rg_q (fun ac ww h => c_cvUB un27 un5 (h.ev rfl)) rfl ?_
  refine rg_q (fun ac ww h => c_move (h.ev rfl)) rfl ?_
  refine rg_q (fun ac ww h => c_shrU (h.ev rfl) (h.ev rfl) (by decide)) rfl ?_
  refine rg_q (fun ac ww h => c_cvUB un27 un5 (h.ev rfl)) rfl ?_
  refine rg_q (fun ac ww h => c_move (h.ev rfl)) rfl ?_
  refine rg_q (fun ac ww h => c_shrU (h.ev rfl) (h.ev rfl) (by decide)) rfl ?_
  refine rg_q (fun ac ww h => c_cvUB un27 un5 (h.ev rfl)) rfl ?_
  refine rg_q (fun ac ww h => c_move (h.ev rfl)) rfl ?_
  refine rg_q (fun ac ww h => c_cvUB un27 un5 (h.ev rfl)) rfl ?_
  refine rg_q (fun ac ww h => c_move (h.ev rfl)) rfl ?_
  refine rg_q (fun ac ww h => c_cvIB un3 un5 (h.ev rfl)) rfl ?_
  refine rg_bslice un34 ty5 (fun ac ww h => (.cons (h.ev rfl) (.cons (h.ev rfl) (.cons (h.ev rfl) (.cons (h.ev rfl) (.cons (h.ev rfl) (.cons (h.ev rfl) .nil))))))) rfl (by simp [Value.cells]) (by decide) rfl rfl ?_
  refine rg_q (fun ac ww h => c_sliceA un54 ty5 (h.ev rfl)) rfl ?_
  refine rg_q (fun ac ww h => c_sliceA un54 ty5 (h.ev rfl)) rfl ?_
  refine rg_nil fun ac ww L' hf hfe hs => ?_
  simp only [List.drop_succ_cons, List.drop_zero]
  obtain ⟨v26, L26, M26, h26, e26, rfl, rfl⟩ := hfe
  replace hs := hs.add h26
  obtain ⟨g26, rfl, rfl⟩ := e26
  refine s_bslice hs un30 ty34 (.cons (hs.ev rfl) (.cons (hs.ev rfl) (.cons (hs.ev rfl) .nil))) rfl (by simp [Value.cells]) (by decide) rfl rfl fun ac ww g29 hs => ?_
  refine s_call hs fu91 (.cons (hs.ev rfl) (.cons (hs.ev rfl) .nil)) (mac_Short 71 [(_, gHead d ep lv), (_, a), (_, b)] _ (by simp [flat, hal, hbl]) _ (RdP.seg (ps := [(_, gHead d ep lv), (_, a), (_, b)]) (hs.seg (i := 0) rfl) (by show 3 ≤ maxLen; decide) (.cons (RdB.seg (l := gHead d ep lv) (hs.seg (i := 1) rfl) (by rw [gHead_length]; decide)) (.cons (RdB.segn (hs.seg (i := 4) rfl) hal (by decide)) (.cons (RdB.segn (hs.seg (i := 3) rfl) hbl (by decide)) .nil))))) rfl fun ac ww v30 hf hp hs => ?_
  obtain rfl := hp
  replace hs := hs [] (.nil _ _)
  refine s_storeW (i := 2) hs ty54 rfl rfl rfl (by simp) (all_map_B _) (by simp) fun ww hs => ?_
  refine s_end ?_
  replace hs := hs.sub (F' := [(10, _)]) ⟨rfl, trivial⟩
  refine then_n ?_
  refine wp_ret ?_
  refine s_ret hs rfl (.cell (hs.tmp rfl) (run_loadA ty54 rfl (hs.seg (i := 2) rfl) (List.take_of_length_le (by simp)) (by simp)) .nil) rfl ⟨_, rfl, hs.fr, ?_⟩
  show Value.agg _ = Value.agg _
  rw [show flat [(_, gHead d ep lv), (_, a), (_, b)] = gHead d ep lv ++ a ++ b from by simp [flat]]
  rfl
set_option maxHeartbeats 4000000 in
theorem ref07_Text (d : Int) (ep : UInt32) (lv : Int) (a b : List UInt8) (hal : a.length = 16) (hbl : b.length = 16) (w : World)  : Ctr Try.prog 118 [I d, U ep, I lv, .agg (a.map B).toArray, .agg (b.map B).toArray] w (fun _ => False) (outE (rowE (aboveX d ep lv a b)) w) := by
  refine fn_start (N := 28) Try.func118 rfl rfl rfl fun ac hk => ?_
  have hs := St.start hk w
  refine wp_seq ?_
  refine wp_reg ?_
  refine s_box hs rfl rfl rfl fun ac ww g8 hs => ?_
  refine s_box hs rfl rfl rfl fun ac ww g9 hs => ?_
  refine s_q hs (c_assign (hs.ev rfl)) rfl fun ac hs => ?_
  refine s_end ?_
  replace hs := hs.sub (F' := [(0, _), (1, _), (2, _), (8, _), (9, _), (10, _)]) ⟨rfl, rfl, rfl, rfl, rfl, rfl, trivial⟩
  refine then_n ?_
  refine wp_seq ?_
  refine wp_reg ?_
  refine s_q hs (c_move (hs.ev rfl)) rfl fun ac hs => ?_
  refine s_q hs (c_cvIB un3 un5 (hs.ev rfl)) rfl fun ac hs => ?_
  refine s_bslice hs un34 ty5 (.cons (hs.ev rfl) .nil) rfl (by simp [Value.cells]) (by decide) rfl rfl fun ac ww g14 hs => ?_
  refine s_q hs (c_move (hs.ev rfl)) rfl fun ac hs => ?_
  refine s_q hs (c_cvUV un27 un210 (hs.ev rfl)) rfl fun ac hs => ?_
  refine s_call hs fu173 (.cons (hs.ev rfl) (.cons (hs.ev rfl) .nil)) (ref05_Num ep.toUInt64 4 (by omega) _) rfl fun ac ww v17 hf hp hs => ?_
  obtain ⟨gn, rfl, hh⟩ := hp
  replace hs := hs _ hh
  replace hs := (hs.segrow (i := 1) (n := 1) (sz := 1) rfl rfl (by decide)).toL (show _ = [_, .row _ ([i8 d] : List UInt8).length (([i8 d] : List UInt8).map B) 5 1, _, _] from rfl)
  refine s_appB (i := 1) hs un34 ty5 rfl rfl rfl (RdB.segn (l := num ep.toUInt64 4 4) (hs.seg (i := 0) rfl) (by rw [num4]; rfl) (by decide)) (by rw [num4]; simp) rfl fun ac ww v18 hf hnil hs => ?_
  rw [num4] at hs
  refine s_q hs (c_assign (hs.ev rfl)) rfl fun ac hs => ?_
  refine s_end ?_
  replace hs := hs.pick (L' := [_, _, _]) (.cons _ (.refl _))
  replace hs := hs.sub (F' := [(2, _), (8, _), (9, _), (10, _), (11, _)]) ⟨rfl, rfl, rfl, rfl, rfl, trivial⟩
  refine then_n ?_
  refine wp_seq ?_
  refine wp_region_perm pmix [0, 1, 2, 3, 5, 6, 4, 7, 8, 9] (by kernel_rfl) ?_
  simp only [permOps, List.map_cons, List.map_nil, List.getD_cons_zero, List.getD_cons_succ, reOp, Option.map_none]
  refine any_rgX (J := [4, 5]) 6 (by kernel_rfl) (by kernel_rfl) rfl rfl hs ?_
  simp only [List.take_succ_cons, List.take_zero]
  refine rg_q (fun ac ww h => c_move (h.ev rfl)) rfl ?_
  refine rg_q (fun ac ww h => c_move (h.ev rfl)) rfl ?_
  refine rg_q (fun ac ww h => c_cvIB un3 un5 (h.ev rfl)) rfl ?_
  refine rg_bslice un34 ty5 (fun ac ww h => (.cons (h.ev rfl) .nil)) rfl (by simp [Value.cells]) (by decide) rfl rfl ?_
  refine rg_q (fun ac ww h => c_sliceA un22 ty5 (h.ev rfl)) rfl ?_
  refine rg_q (fun ac ww h => c_sliceA un22 ty5 (h.ev rfl)) rfl ?_
  refine rg_nil fun ac ww L' hf hfe hs hlk => ?_
  simp only [List.drop_succ_cons, List.drop_zero]
  obtain ⟨v22, L22, M22, h22, e22, rfl, rfl⟩ := hfe
  replace hs := hs.add h22
  obtain ⟨g22, rfl, rfl⟩ := e22
  refine sk_appB (i := 1) hs un34 ty5 rfl rfl rfl (RdB.seg (l := [i8 lv]) (hs.seg (i := 0) rfl) (by show 1 ≤ maxLen; decide)) (by simp) rfl (fun ac ww v23 hf hnil hs => late_read rfl rfl (hs.know.at_ 24 _ rfl) (c_sliceA un22 ty5 (hs.ev rfl)) (late_read rfl rfl (hs.know.at_ 25 _ rfl) (c_sliceA un22 ty5 (hs.ev rfl)) (late_nil))) fun ac ww v23 hf hnil hs => ?_
  obtain ⟨had, hcap, rfl, _, _⟩ := Rd.sl (RdB.row (hs.get (i := 1) rfl))
  refine s_bslice hs un30 ty34 (.cons (hs.ev rfl) (.cons (hs.ev rfl) (.cons (hs.ev rfl) .nil))) rfl (by simp [Value.cells]) (by decide) rfl rfl fun ac ww g26 hs => ?_
  refine s_call hs fu159 (.cons (hs.ev rfl) (.cons (hs.ev rfl) .nil)) (ref05_Text 71 [(_, gHead d ep lv), (_, a), (_, b)] _ (by simp [flat, hal, hbl]) _ (RdP.seg (ps := [(_, gHead d ep lv), (_, a), (_, b)]) (hs.seg (i := 0) rfl) (by show 3 ≤ maxLen; decide) (.cons (RdB.row (hs.get (i := 2) rfl)) (.cons (RdB.segn (hs.seg (i := 4) rfl) hal (by decide)) (.cons (RdB.segn (hs.seg (i := 3) rfl) hbl (by decide)) .nil))))) rfl fun ac ww v27 hf hp hs => ?_
  obtain ⟨qv, rfl, hh⟩ := hp
  rw [show flat [(_, gHead d ep lv), (_, a), (_, b)] = gHead d ep lv ++ a ++ b from by simp [flat]] at hh
  replace hs := hs _ hh
  refine s_q hs (c_assign (hs.ev rfl)) rfl fun ac hs => ?_
  refine s_end ?_
  replace hs := hs.sub (F' := [(10, _)]) ⟨rfl, trivial⟩
  refine then_n ?_
  refine wp_ret ?_
  refine s_ret hs rfl (.tmp (hs.tmp rfl) .nil) rfl ⟨_, rfl, hs.fr, ?_⟩
  exact ⟨_, rfl, (hs.pick (L' := [_]) (.cons_cons _ (List.nil_sublist _))).made⟩
end Go.Proofs.Ytmgnnclkjkbmdaa
end

section
/- What stands in a grove, as the document has it. -/
set_option linter.unusedSimpArgs false
set_option linter.unusedVariables false
set_option maxRecDepth 100000
namespace Go.Proofs.Ytmgnnclkjkbmdaa
open Go Go.Fw
open Sha
theorem gNodeTs_length (d : Int) (ep : UInt32) (ls : List UInt8) : ∀ k q, (gNodeTs d ep ls k q).length = 2 ^ k - 1
  | 0, q => rfl
  | k + 1, q => by
    have h1 := gNodeTs_length d ep ls k (2 * q)
    have h2 := gNodeTs_length d ep ls k (2 * q + 1)
    have h3 := Nat.two_pow_pos k
    simp only [gNodeTs, nodeTs, List.length_append, List.length_cons, List.length_nil] at h1 h2 ⊢
    rw [h1, h2, Nat.pow_succ]
    omega
theorem gfit {q k n : Nat} (h : (q + 1) * 2 ^ (k + 1) ≤ n) : (2 * q + 1) * 2 ^ k ≤ n ∧ (2 * q + 1 + 1) * 2 ^ k ≤ n ∧ 2 * q + 1 < n := by
  have h1 : (q + 1) * 2 ^ (k + 1) = (2 * q + 1 + 1) * 2 ^ k := by rw [Nat.pow_succ, Nat.mul_comm (2 ^ k) 2, ← Nat.mul_assoc]; congr 1; omega
  have h2 := Nat.two_pow_pos k
  have h3 : 2 * q + 1 + 1 ≤ (2 * q + 1 + 1) * 2 ^ k := Nat.le_mul_of_pos_right _ h2
  have h4 : (2 * q + 1) * 2 ^ k ≤ (2 * q + 1 + 1) * 2 ^ k := Nat.mul_le_mul_right _ (by omega)
  omega
theorem gfit0 {q k n : Nat} (h : (q + 1) * 2 ^ k ≤ n) : q < n := by
  have h3 : q + 1 ≤ (q + 1) * 2 ^ k := Nat.le_mul_of_pos_right _ (Nat.two_pow_pos k)
  omega
set_option maxHeartbeats 4000000 in
theorem ref07_Node_step (d : Int) (ep : UInt32) (ls : List UInt8) (n : Nat) (lv : Value) (hls : ls.length = n * 16) (hn : n ≤ 100) (k q : Nat) (hk6 : k ≤ 6) (hqk : (q + 1) * 2 ^ k ≤ n) (ih : ∀ m : Nat, m < k → ∀ q2 : Nat, (q2 + 1) * 2 ^ m ≤ n → ∀ w : World, Rd w lv n (ls.map B) → Ctr Try.prog 122 [I d, U ep, lv, I (m : Nat), I (q2 : Nat)] w (fun _ => False) (outE (tupE (.agg ((gNode d ep ls m q2).map B).toArray) (textsE 34 5 (gNodeTs d ep ls m q2))) w)) (w : World) (hq : Rd w lv n (ls.map B)) : Ctr Try.prog 122 [I d, U ep, lv, I k, I q] w (fun _ => False) (outE (tupE (.agg ((gNode d ep ls k q).map B).toArray) (textsE 34 5 (gNodeTs d ep ls k q))) w) := by
  have hls16 : ls.length = 16 * n := by omega
  obtain ⟨lad, lcap, rfl, hlc, hlm⟩ := Rd.sl hq
  refine fn_start (N := 65) Try.func122 rfl rfl rfl fun ac hk => ?_
  have hs := St.start hk w
  refine wp_seq ?_
  refine wp_reg ?_
  refine s_alloc hs ty22 rfl fun ac ww g10 hs => ?_
  refine s_q hs (c_assign (hs.ev rfl)) rfl fun ac hs => ?_
  refine s_end ?_
  refine then_n ?_
  refine wp_seq ?_
  refine wp_seq ?_
  refine wp_reg ?_
  refine s_q hs (c_move (hs.ev rfl)) rfl fun ac hs => ?_
  refine s_q hs (c_eqlI (hs.ev rfl) (hs.ev rfl)) rfl fun ac hs => ?_
  refine s_end ?_
  replace hs := hs.sub (F' := [(0, _), (1, _), (2, _), (3, _), (4, _), (10, _), (11, _), (19, _)]) ⟨rfl, rfl, rfl, rfl, rfl, rfl, rfl, rfl, trivial⟩
  refine then_n ?_
  refine s_cond hs rfl (fun hc => ?_) (fun hc => ?_)
  · try simp only [decide_eq_true_eq, decide_eq_false_iff_not, Bool.not_eq_true', Bool.not_eq_false', Bool.and_eq_true, Bool.or_eq_true, Bool.or_eq_false_iff] at hc
    obtain rfl : k = 0 := by omega
    have hqn : q < n := gfit0 hqk
    have hcl := chunk_l hls hqn
    obtain ⟨pb, po, pT, pf, pall, rfl, hpb, hps⟩ := Rd.bytes_at hq hls (by omega)
    refine wp_seq ?_
    refine wp_reg ?_
    refine s_q hs (c_move (hs.ev rfl)) rfl fun ac hs => ?_
    refine s_q hs (c_move (hs.ev rfl)) rfl fun ac hs => ?_
    refine s_q hs (c_idxS (j := q) un109 ty22 (hs.ev rfl) (hs.ev rfl) (by omega) (by omega)) rfl fun ac hs => ?_
    refine s_q hs (c_loadA ty22 rfl (hs.ev rfl) (hs.old hpb id) (rdpiece hps hls hqn) (by rw [List.length_map, hcl])) rfl fun ac hs => ?_
    refine s_storeW (i := 0) hs ty22 rfl rfl rfl (by rw [List.length_map, hcl]) (all_map_B _) rfl fun ww hs => ?_
    refine s_q hs (c_assign (hs.ev rfl)) rfl fun ac hs => ?_
    refine s_end ?_
    replace hs := hs.sub (F' := [(0, _), (1, _), (2, _), (3, _), (4, _), (10, _), (11, _)]) ⟨rfl, rfl, rfl, rfl, rfl, rfl, rfl, trivial⟩
    refine then_n ?_
    refine wp_ret ?_
    refine then_r ?_
    refine s_ret hs rfl (.cell (hs.tmp rfl) (run_loadA ty22 rfl (hs.seg (i := 0) rfl) (List.take_of_length_le (show (List.map B (chunk ls q)).length ≤ 16 by rw [List.length_map, hcl]; exact Nat.le_refl _)) (show (List.map B (chunk ls q)).length = 16 by rw [List.length_map, hcl])) (.tmp (hs.tmp rfl) .nil)) rfl ⟨_, rfl, hs.fr, ?_⟩
    exact ⟨_, ⟨_, rfl, [], rfl, rfl⟩, ((hs.texts0 34 (Ent.part 5)).pick (L' := [_]) (.cons_cons _ (List.nil_sublist _))).made⟩
  · try simp only [decide_eq_true_eq, decide_eq_false_iff_not, Bool.not_eq_true', Bool.not_eq_false', Bool.and_eq_true, Bool.or_eq_true, Bool.or_eq_false_iff] at hc
    obtain ⟨m, rfl⟩ : ∃ m, k = m + 1 := ⟨k - 1, by omega⟩
    obtain ⟨hf1, hf2, hf3⟩ := gfit hqk
    refine wp_skip ?_
    refine then_n ?_
    refine wp_seq ?_
    refine wp_reg ?_
    refine s_q hs (c_move (hs.ev rfl)) rfl fun ac hs => ?_
    refine s_q hs (c_move (hs.ev rfl)) rfl fun ac hs => ?_
    refine s_q hs (c_move (hs.ev rfl)) rfl fun ac hs => ?_
    refine s_q hs (c_move (hs.ev rfl)) rfl fun ac hs => ?_
    refine s_q hs (c_to (c_subI (hs.ev rfl) (hs.ev rfl) (by omega) (by omega)) ((congrArg I (show (((m + 1 : Nat) : Int) - 1 = (m : Int)) by omega)))) rfl fun ac hs => ?_
    refine s_q hs (c_move (hs.ev rfl)) rfl fun ac hs => ?_
    refine s_q hs (c_to (c_mulI (hs.ev rfl) (hs.ev rfl) (by omega) (by omega)) ((congrArg I (show (2 * (q : Int)) = ((2 * q : Nat) : Int) by omega)))) rfl fun ac hs => ?_
    refine s_call hs fu122 (.cons (hs.ev rfl) (.cons (hs.ev rfl) (.cons (hs.ev rfl) (.cons (hs.ev rfl) (.cons (hs.ev rfl) .nil))))) (ih m (by omega) (2 * q) hf1 _ (hq.fr0 hs.fr)) rfl fun ac ww v32 hf hp hs => ?_
    obtain ⟨L', ⟨tv1, rfl, ps1, hps1, rfl⟩, hh⟩ := hp
    replace hs := hs _ hh
    have hpl1 : ps1.length ≤ 63 := by have := congrArg List.length hps1; rw [List.length_map, gNodeTs_length] at this; have := pow64 (lv := m) (by omega); omega
    refine s_q hs (c_move (hs.ev rfl)) rfl fun ac hs => ?_
    refine s_q hs (c_extract (hs.ev rfl) rfl) rfl fun ac hs => ?_
    refine s_q hs (c_extract (hs.ev rfl) rfl) rfl fun ac hs => ?_
    refine s_alloc hs ty22 rfl fun ac ww g12 hs => ?_
    refine s_storeW (i := 0) hs ty22 rfl rfl rfl (by rw [List.length_map]; exact (gNode_length hls16 m (2 * q) hf1)) (all_map_B _) rfl fun ww hs => ?_
    refine s_q hs (c_assign (hs.ev rfl)) rfl fun ac hs => ?_
    refine s_end ?_
    replace hs := hs.sub (F' := [(0, _), (1, _), (2, _), (3, _), (4, _), (10, _), (11, _), (12, _), (13, _)]) ⟨rfl, rfl, rfl, rfl, rfl, rfl, rfl, rfl, rfl, trivial⟩
    refine then_n ?_
    refine wp_seq ?_
    refine wp_reg ?_
    refine s_q hs (c_move (hs.ev rfl)) rfl fun ac hs => ?_
    refine s_q hs (c_move (hs.ev rfl)) rfl fun ac hs => ?_
    refine s_q hs (c_move (hs.ev rfl)) rfl fun ac hs => ?_
    refine s_q hs (c_move (hs.ev rfl)) rfl fun ac hs => ?_
    refine s_q hs (c_to (c_subI (hs.ev rfl) (hs.ev rfl) (by omega) (by omega)) ((congrArg I (show (((m + 1 : Nat) : Int) - 1 = (m : Int)) by omega)))) rfl fun ac hs => ?_
    refine s_q hs (c_move (hs.ev rfl)) rfl fun ac hs => ?_
    refine s_q hs (c_mulI (hs.ev rfl) (hs.ev rfl) (by omega) (by omega)) rfl fun ac hs => ?_
    refine s_q hs (c_to (c_addI (hs.ev rfl) (hs.ev rfl) (by omega) (by omega)) ((congrArg I (show (2 * (q : Int) + 1) = ((2 * q + 1 : Nat) : Int) by omega)))) rfl fun ac hs => ?_
    refine s_call hs fu122 (.cons (hs.ev rfl) (.cons (hs.ev rfl) (.cons (hs.ev rfl) (.cons (hs.ev rfl) (.cons (hs.ev rfl) .nil))))) (ih m (by omega) (2 * q + 1) hf2 _ (hq.fr0 hs.fr)) rfl fun ac ww v44 hf hp hs => ?_
    obtain ⟨L', ⟨tv2, rfl, ps2, hps2, rfl⟩, hh⟩ := hp
    replace hs := hs _ hh
    have hpl2 : ps2.length ≤ 63 := by have := congrArg List.length hps2; rw [List.length_map, gNodeTs_length] at this; have := pow64 (lv := m) (by omega); omega
    refine s_q hs (c_move (hs.ev rfl)) rfl fun ac hs => ?_
    refine s_q hs (c_extract (hs.ev rfl) rfl) rfl fun ac hs => ?_
    refine s_q hs (c_extract (hs.ev rfl) rfl) rfl fun ac hs => ?_
    refine s_alloc hs ty22 rfl fun ac ww g14 hs => ?_
    refine s_storeW (i := 0) hs ty22 rfl rfl rfl (by rw [List.length_map]; exact (gNode_length hls16 m (2 * q + 1) hf2)) (all_map_B _) rfl fun ww hs => ?_
    refine s_q hs (c_assign (hs.ev rfl)) rfl fun ac hs => ?_
    refine s_end ?_
    replace hs := hs.sub (F' := [(0, _), (1, _), (3, _), (10, _), (11, _), (12, _), (13, _), (14, _), (15, _)]) ⟨rfl, rfl, rfl, rfl, rfl, rfl, rfl, rfl, rfl, trivial⟩
    refine then_n ?_
    refine wp_seq ?_
    refine wp_reg ?_
    refine s_q hs (c_move (hs.ev rfl)) rfl fun ac hs => ?_
    refine s_q hs (c_move (hs.ev rfl)) rfl fun ac hs => ?_
    refine s_q hs (c_move (hs.ev rfl)) rfl fun ac hs => ?_
    refine s_q hs (c_loadW ty22 rfl (hs.ev rfl) (hs.seg (i := 2) rfl) (by rw [List.length_map]; exact (gNode_length hls16 m (2 * q) hf1))) rfl fun ac hs => ?_
    refine s_q hs (c_loadW ty22 rfl (hs.ev rfl) (hs.seg (i := 0) rfl) (by rw [List.length_map]; exact (gNode_length hls16 m (2 * q + 1) hf2))) rfl fun ac hs => ?_
    refine s_call hs fu118 (.cons (hs.ev rfl) (.cons (hs.ev rfl) (.cons (hs.ev rfl) (.cons (hs.ev rfl) (.cons (hs.ev rfl) .nil))))) (ref07_Text d ep (m + 1 : Nat) (gNode d ep ls m (2 * q)) (gNode d ep ls m (2 * q + 1)) (gNode_length hls16 m (2 * q) hf1) (gNode_length hls16 m (2 * q + 1) hf2) _) rfl fun ac ww v52 hf hp hs => ?_
    obtain ⟨L', hv, hh⟩ := hp
    subst hv
    replace hs := hs _ hh
    obtain ⟨qad, qcap, rfl, _, _⟩ := Rd.sl (RdB.row (hs.get (i := 0) rfl))
    refine s_q hs (c_assign (hs.ev rfl)) rfl fun ac hs => ?_
    refine s_end ?_
    replace hs := hs.sub (F' := [(10, _), (11, _), (13, _), (15, _), (16, _)]) ⟨rfl, rfl, rfl, rfl, rfl, trivial⟩
    refine then_n ?_
    refine wp_seq ?_
    refine wp_reg ?_
    refine s_q hs (c_assign (hs.ev rfl)) rfl fun ac hs => ?_
    refine s_end ?_
    replace hs := hs.texts0 34 (Ent.part 5)
    refine then_n ?_
    refine wp_seq ?_
    refine wp_reg ?_
    refine s_q hs (c_move (hs.ev rfl)) rfl fun ac hs => ?_
    refine s_q hs (c_move (hs.ev rfl)) rfl fun ac hs => ?_
    refine s_appTT (i := 0) (j := 5) hs un30 ty34 rfl rfl rfl rfl rfl (RdP.ones (RdP.texts (hs.get (i := 5) rfl))) (by simp only [List.length_nil]; omega) rfl fun ac ww v55 hs => ?_
    refine s_q hs (c_assign (hs.ev rfl)) rfl fun ac hs => ?_
    refine s_end ?_
    replace hs := hs.sub (F' := [(10, _), (11, _), (15, _), (16, _), (17, _)]) ⟨rfl, rfl, rfl, rfl, rfl, trivial⟩
    refine then_n ?_
    refine wp_seq ?_
    refine wp_reg ?_
    refine s_q hs (c_move (hs.ev rfl)) rfl fun ac hs => ?_
    refine s_q hs (c_move (hs.ev rfl)) rfl fun ac hs => ?_
    refine s_appTT (i := 0) (j := 3) hs un30 ty34 rfl rfl rfl rfl rfl (RdP.ones (RdP.texts (hs.get (i := 3) rfl))) (by simp only [List.length_append, List.length_nil]; omega) rfl fun ac ww v58 hs => ?_
    refine s_q hs (c_assign (hs.ev rfl)) rfl fun ac hs => ?_
    refine s_end ?_
    replace hs := hs.sub (F' := [(10, _), (11, _), (16, _), (17, _)]) ⟨rfl, rfl, rfl, rfl, trivial⟩
    refine then_n ?_
    refine wp_seq ?_
    refine wp_reg ?_
    refine s_q hs (c_move (hs.ev rfl)) rfl fun ac hs => ?_
    refine s_call hs fu54 (.cons (hs.ev rfl) .nil) (ref06_Of 71 (gHead d ep (m + 1 : Nat) ++ gNode d ep ls m (2 * q) ++ gNode d ep ls m (2 * q + 1)) _ (by rw [List.length_append, List.length_append, gHead_length, (gNode_length hls16 m (2 * q) hf1), (gNode_length hls16 m (2 * q + 1) hf2)]; decide) _ (RdB.row (hs.get (i := 1) rfl))) rfl fun ac ww v60 hf hp hs => ?_
    obtain rfl := hp
    replace hs := hs [] (.nil _ _)
    refine s_q hs (c_move (hs.ev rfl)) rfl fun ac hs => ?_
    refine s_q hs (c_move (hs.ev rfl)) rfl fun ac hs => ?_
    refine s_bslice hs un30 ty34 (.cons (hs.ev rfl) .nil) rfl (by simp [Value.cells]) (by decide) rfl rfl fun ac ww g63 hs => ?_
    refine s_appT (i := 1) (j := 2) hs un30 ty34 rfl rfl rfl rfl rfl (hs.seg (i := 0) rfl) rfl (by simp only [List.length_append, List.length_nil]; omega) rfl fun ac ww v64 hs => ?_
    refine s_storeW (i := 7) hs ty22 rfl rfl rfl (by simp) (all_map_B _) rfl fun ww hs => ?_
    refine s_q hs (c_assign (hs.ev rfl)) rfl fun ac hs => ?_
    refine s_end ?_
    replace hs := hs.sub (F' := [(10, _), (11, _)]) ⟨rfl, rfl, trivial⟩
    refine then_n ?_
    refine wp_ret ?_
    refine s_ret hs rfl (.cell (hs.tmp rfl) (run_loadA ty22 rfl (hs.seg (i := 7) rfl) (List.take_of_length_le (by simp)) (by simp)) (.tmp (hs.tmp rfl) .nil)) rfl ⟨_, rfl, hs.fr, ?_⟩
    exact ⟨_, ⟨_, rfl, _, by rw [List.map_append, List.map_append, List.map_append, hps1, hps2]; rfl, rfl⟩, (hs.pick (L' := [_]) (.cons _ (.cons_cons _ (List.nil_sublist _)))).made⟩
theorem ref07_Node (d : Int) (ep : UInt32) (ls : List UInt8) (n : Nat) (lv : Value) (hls : ls.length = n * 16) (hn : n ≤ 100) : ∀ k : Nat, k ≤ 6 → ∀ q : Nat, (q + 1) * 2 ^ k ≤ n → ∀ w : World, Rd w lv n (ls.map B) → Ctr Try.prog 122 [I d, U ep, lv, I (k : Nat), I (q : Nat)] w (fun _ => False) (outE (tupE (.agg ((gNode d ep ls k q).map B).toArray) (textsE 34 5 (gNodeTs d ep ls k q))) w) := by
  intro k
  induction k using Nat.strongRecOn with
  | _ k ih => exact fun hk6 q hqk w hq => ref07_Node_step d ep ls n lv hls hn k q hk6 hqk (fun m hm q2 hq2 w hq => ih m hm (by omega) q2 hq2 w hq) w hq
set_option maxHeartbeats 4000000 in
theorem ref07_Root (d : Int) (ep : UInt32) (ls : List UInt8) (n k : Nat) (lv : Value) (hls : ls.length = n * 16) (hk6 : k ≤ 6) (hnk : n = 2 ^ k) (hxl : height n = k) (w : World) (hq : Rd w lv n (ls.map B)) : Ctr Try.prog 99 [I d, U ep, lv] w (fun _ => False) (fun v _ => v = .agg ((gNode d ep ls k 0).map B).toArray) := by
  have hls16 : ls.length = 16 * n := by omega
  have h64 := pow64 hk6
  have hn : n ≤ 100 := by omega
  have hfit : (0 + 1) * 2 ^ k ≤ n := by rw [hnk]; omega
  obtain ⟨lad, lcap, rfl, hlc, hlm⟩ := Rd.sl hq
  refine fn_start (N := 20) Try.func99 rfl rfl rfl fun ac hk => ?_
  have hs := St.start hk w
  refine wp_seq ?_
  refine wp_reg ?_
  refine s_alloc hs ty22 rfl fun ac ww g6 hs => ?_
  refine s_end ?_
  refine then_n ?_
  refine wp_seq ?_
  refine wp_reg ?_
  refine s_q hs (c_move (hs.ev rfl)) rfl fun ac hs => ?_
  refine s_q hs (c_move (hs.ev rfl)) rfl fun ac hs => ?_
  refine s_q hs (c_move (hs.ev rfl)) rfl fun ac hs => ?_
  refine s_q hs (c_move (hs.ev rfl)) rfl fun ac hs => ?_
  refine s_q hs (c_lenS un109 (hs.ev rfl)) rfl fun ac hs => ?_
  refine s_call hs fu96 (.cons (hs.ev rfl) .nil) ((by have h := ref07_Height (n : Int) ww; rw [hxl] at h; exact h)) rfl fun ac ww v15 hf hp hs => ?_
  obtain rfl := hp
  replace hs := hs [] (.nil _ _)
  refine s_call hs fu122 (.cons (hs.ev rfl) (.cons (hs.ev rfl) (.cons (hs.ev rfl) (.cons (hs.ev rfl) (.cons (hs.ev rfl) .nil))))) (ref07_Node d ep ls n _ hls hn k hk6 0 hfit _ (hq.fr0 hs.fr)) rfl fun ac ww v16 hf hp hs => ?_
  obtain ⟨L', ⟨tv1, rfl, ps1, hps1, rfl⟩, hh⟩ := hp
  replace hs := hs _ hh
  refine s_q hs (c_move (hs.ev rfl)) rfl fun ac hs => ?_
  refine s_q hs (c_extract (hs.ev rfl) rfl) rfl fun ac hs => ?_
  refine s_q hs (c_extract (hs.ev rfl) rfl) rfl fun ac hs => ?_
  refine s_alloc hs ty22 rfl fun ac ww g7 hs => ?_
  refine s_storeW (i := 0) hs ty22 rfl rfl rfl (by rw [List.length_map]; exact (gNode_length hls16 k (0) hfit)) (all_map_B _) rfl fun ww hs => ?_
  refine s_q hs (c_assign (hs.ev rfl)) rfl fun ac hs => ?_
  refine s_end ?_
  replace hs := hs.sub (F' := [(6, _), (7, _)]) ⟨rfl, rfl, trivial⟩
  refine then_n ?_
  refine wp_seq ?_
  refine wp_reg ?_
  refine s_q hs (c_loadW ty22 rfl (hs.ev rfl) (hs.seg (i := 0) rfl) (by rw [List.length_map]; exact (gNode_length hls16 k (0) hfit))) rfl fun ac hs => ?_
  refine s_storeW (i := 2) hs ty22 rfl rfl rfl (by rw [List.length_map]; exact (gNode_length hls16 k (0) hfit)) (all_map_B _) rfl fun ww hs => ?_
  refine s_end ?_
  replace hs := hs.sub (F' := [(6, _)]) ⟨rfl, trivial⟩
  refine then_n ?_
  refine wp_ret ?_
  refine s_ret hs rfl (.cell (hs.tmp rfl) (run_loadA ty22 rfl (hs.seg (i := 2) rfl) (List.take_of_length_le (show (List.map B (gNode d ep ls k 0)).length ≤ 16 by rw [List.length_map, (gNode_length hls16 k (0) hfit)]; exact Nat.le_refl _)) (show (List.map B (gNode d ep ls k 0)).length = 16 by rw [List.length_map, (gNode_length hls16 k (0) hfit)])) .nil) rfl ⟨_, rfl, hs.fr, ?_⟩
  rfl
end Go.Proofs.Ytmgnnclkjkbmdaa
end

section
/- Paths and folds of groves, as the document has them. -/
set_option linter.unusedSimpArgs false
set_option linter.unusedVariables false
set_option maxRecDepth 100000
namespace Go.Proofs.Ytmgnnclkjkbmdaa
open Go Go.Fw
open Sha
abbrev gWay (d : Int) (ep : UInt32) (ls : List UInt8) (q : Nat) : Nat → List UInt8 := wayN (gJ d ep) (gLf ls) q
def gPath (d : Int) (ep : UInt32) (ls : List UInt8) (q n : Nat) : List UInt8 := rows (gWay d ep ls q) n
theorem gPath_succ (d : Int) (ep : UInt32) (ls : List UInt8) (q n : Nat) : gPath d ep ls q (n + 1) = gPath d ep ls q n ++ gWay d ep ls q n := rows_succ _ _
/-- What stands beside is within the tree. -/
theorem beside_fit {q lv k : Nat} (h : q < 2 ^ lv) (hk : k < lv) : (besideI (q / 2 ^ k) + 1) * 2 ^ k ≤ 2 ^ lv := by
  obtain ⟨m, rfl⟩ : ∃ m, lv = k + (m + 1) := ⟨lv - k - 1, by omega⟩
  have h1 : q / 2 ^ k < 2 ^ (m + 1) := by
    rw [Nat.div_lt_iff_lt_mul (Nat.two_pow_pos k), ← Nat.pow_add, Nat.add_comm (m + 1) k]
    exact h
  have h2 : besideI (q / 2 ^ k) + 1 ≤ 2 ^ (m + 1) := by
    rw [Nat.pow_succ] at h1 ⊢
    generalize q / 2 ^ k = z at h1 ⊢
    unfold besideI
    split <;> omega
  have h3 := Nat.mul_le_mul_right (2 ^ k) h2
  rw [Nat.pow_add 2 k, Nat.mul_comm (2 ^ k)]
  exact h3
theorem gPath_length {d : Int} {ep : UInt32} {ls : List UInt8} {q lv : Nat} (hls : ls.length = 16 * 2 ^ lv) (hq : q < 2 ^ lv) : ∀ k, k ≤ lv → (gPath d ep ls q k).length = k * 16
  | 0, _ => rfl
  | k + 1, hk => by
    rw [gPath_succ, List.length_append, gPath_length hls hq k (by omega), gWay, wayN]
    have := gNode_length (d := d) (ep := ep) hls k _ (beside_fit hq (show k < lv by omega))
    simp only [gNode] at this
    rw [this]
    omega
abbrev gRise (d : Int) (ep : UInt32) (q : Nat) (l ws : List UInt8) : Nat → List UInt8 := riseN (gJ d ep) q l (chunk ws)
abbrev gRiseTs (d : Int) (ep : UInt32) (q : Nat) (l ws : List UInt8) : Nat → List (List UInt8) := riseTs (gJ d ep) q l (chunk ws)
theorem gRise_length {d : Int} {ep : UInt32} {q : Nat} {l ws : List UInt8} (hl : l.length = 16) (k : Nat) : (gRise d ep q l ws k).length = 16 := riseN_length hl k
theorem gRiseTs_length (d : Int) (ep : UInt32) (q : Nat) (l ws : List UInt8) : ∀ k, (gRiseTs d ep q l ws k).length = k
  | 0 => rfl
  | k + 1 => by rw [gRiseTs, riseTs, List.length_append, gRiseTs_length d ep q l ws k]; rfl
def foldOk (i : Int) (m : Nat) : Bool := decide (0 ≤ i) && decide (m ≤ 6) && decide (i < 2 ^ m)
def foldB (d : Int) (ep : UInt32) (i : Int) (l ws : List UInt8) (m : Nat) : List UInt8 := if foldOk i m = true then gRise d ep i.toNat l ws m else (List.replicate 16 (0 : UInt8))
def foldE (i : Int) (m : Nat) : Int := if foldOk i m = true then 0 else 1
def foldX (d : Int) (ep : UInt32) (i : Int) (l ws : List UInt8) (m : Nat) : List (List UInt8) := if foldOk i m = true then gRiseTs d ep i.toNat l ws m else []
theorem foldB_length {d : Int} {ep : UInt32} {i : Int} {l ws : List UInt8} {m : Nat} (hl : l.length = 16) : (foldB d ep i l ws m).length = 16 := by
  unfold foldB
  split
  · exact gRise_length hl _
  · simp
theorem fold_bad {i : Int} {m : Nat} (h : ¬ (0 ≤ i ∧ m ≤ 6 ∧ i < 2 ^ m)) : ¬ foldOk i m = true := by
  intro h2
  unfold foldOk at h2
  simp only [Bool.and_eq_true, decide_eq_true_eq] at h2
  exact h ⟨h2.1.1, h2.1.2, h2.2⟩
theorem fold_good {i : Int} {m : Nat} (h1 : 0 ≤ i) (h2 : m ≤ 6) (h3 : i < 2 ^ m) : foldOk i m = true := by simp [foldOk, h1, h2, h3]
/-- Several results, the second one texts or rows. -/
def chkB (d : Int) (ep : UInt32) (hh : Int) (rt : List UInt8) (i : Int) (l ws : List UInt8) (m : Nat) : Bool := decide ((m : Int) = hh) && decide (foldE i m = 0) && decide (foldB d ep i l ws m = rt)
set_option maxHeartbeats 4000000 in
theorem ref07_Path (d : Int) (ep : UInt32) (ls : List UInt8) (n lv q : Nat) (av : Value) (hls : ls.length = n * 16) (hk6 : lv ≤ 6) (hnk : n = 2 ^ lv) (hxl : height n = lv) (hqn : q < n) (w : World) (hq : Rd w av n (ls.map B)) : Ctr Try.prog 104 [I d, U ep, av, I q] w (fun _ => False) (outE (rowS' lv (gPath d ep ls q lv)) w) := by
  have hls16 : ls.length = 16 * n := by omega
  have h64 := pow64 hk6
  have hn : n ≤ 100 := by omega
  obtain ⟨lad, lcap, rfl, hlc, hlm⟩ := Rd.sl hq
  refine fn_start (N := 44) Try.func104 rfl rfl rfl fun ac hk => ?_
  have hs := St.start hk w
  refine wp_seq ?_
  refine wp_reg ?_
  refine s_q hs (c_assign (hs.ev rfl)) rfl fun ac hs => ?_
  refine s_end ?_
  refine then_n ?_
  refine wp_seq ?_
  refine wp_reg ?_
  refine s_q hs (c_assign (hs.ev rfl)) rfl fun ac hs => ?_
  refine s_end ?_
  replace hs := hs.nilrow 22 16
  refine then_n ?_
  refine wp_seq ?_
  refine wp_seq ?_
  refine wp_reg ?_
  refine s_q hs (c_assign (hs.ev rfl)) rfl fun ac hs => ?_
  refine s_end ?_
  refine then_n ?_
  refine wp_block ?_
  refine s_loop hs (X := Nat × Value) (fun x => [(3, I (q / 2 ^ x.1 : Nat)), (9, x.2), (10, I x.1)]) [(0, _), (1, _), (2, _), (8, _)] (fun x => [.row x.2 x.1 ((gPath d ep ls q x.1).map B) 22 16]) (fun j x => x.1 ≤ lv ∧ j = lv - x.1) (_) ((0, _)) (⟨Nat.zero_le _, rfl⟩) ⟨(congrArg (fun z : Nat => some (I z)) (by simp)), rfl, rfl, rfl, rfl, rfl, rfl, trivial⟩ rfl ?_
  rintro n ⟨k, v⟩ ac ww hok hs
  simp only [List.cons_append, List.nil_append] at hs
  obtain ⟨hk, rfl⟩ := hok
  simp only at hk hs
  obtain ⟨qk, hqk⟩ : ∃ qk : Nat, q / 2 ^ k = qk := ⟨_, rfl⟩
  have hqle : qk ≤ q := hqk ▸ Nat.div_le_self _ _
  rw [hqk] at hs
  have hsl := gPath_length (d := d) (ep := ep) (ls := ls) (q := q) (lv := lv) (by omega) (by omega) k hk
  refine wp_seq ?_
  refine wp_seq ?_
  refine wp_reg ?_
  refine s_q hs (c_move (hs.ev rfl)) rfl fun ac hs => ?_
  refine s_q hs (c_move (hs.ev rfl)) rfl fun ac hs => ?_
  refine s_q hs (c_lenS un109 (hs.ev rfl)) rfl fun ac hs => ?_
  refine s_call hs fu96 (.cons (hs.ev rfl) .nil) ((by have h := ref07_Height (n : Int) ww; rw [hxl] at h; exact h)) rfl fun ac ww v17 hf hp hs => ?_
  obtain rfl := hp
  replace hs := hs [] (.nil _ _)
  refine s_q hs (c_lssI (hs.ev rfl) (hs.ev rfl)) rfl fun ac hs => ?_
  refine s_end ?_
  refine then_n ?_
  refine s_cond hs rfl (fun hc => ?_) (fun hc => ?_)
  · try simp only [decide_eq_true_eq, decide_eq_false_iff_not, Bool.not_eq_true', Bool.not_eq_false', Bool.and_eq_true, Bool.or_eq_true, Bool.or_eq_false_iff] at hc
    have hkl : k < lv := by omega
    have hbl := beside_fit (k := k) (by rw [← hnk]; exact hqn) hkl
    rw [hqk, ← hnk] at hbl
    refine wp_skip ?_
    refine then_n ?_
    refine wp_seq ?_
    refine wp_block ?_
    refine wp_seq ?_
    refine wp_reg ?_
    refine s_q hs (c_move (hs.ev rfl)) rfl fun ac hs => ?_
    refine s_q hs (c_addI (hs.ev rfl) (hs.ev rfl) (by omega) (by omega)) rfl fun ac hs => ?_
    refine s_q hs (c_assign (hs.ev rfl)) rfl fun ac hs => ?_
    refine s_end ?_
    refine then_n ?_
    refine wp_seq ?_
    refine wp_seq ?_
    refine wp_reg ?_
    refine s_q hs (c_move (hs.ev rfl)) rfl fun ac hs => ?_
    refine s_q hs (c_remI (hs.ev rfl) (hs.ev rfl) (by omega) (by omega)) rfl fun ac hs => ?_
    refine s_q hs (c_eqlI (hs.ev rfl) (hs.ev rfl)) rfl fun ac hs => ?_
    refine s_end ?_
    refine then_n ?_
    refine s_cond hs rfl (fun hc => ?_) (fun hc => ?_)
    · try simp only [decide_eq_true_eq, decide_eq_false_iff_not, Bool.not_eq_true', Bool.not_eq_false', Bool.and_eq_true, Bool.or_eq_true, Bool.or_eq_false_iff] at hc
      refine wp_reg ?_
      refine s_q hs (c_move (hs.ev rfl)) rfl fun ac hs => ?_
      refine s_q hs (c_subI (hs.ev rfl) (hs.ev rfl) (by omega) (by omega)) rfl fun ac hs => ?_
      refine s_q hs (c_assign (hs.ev rfl)) rfl fun ac hs => ?_
      refine s_end ?_
      have hbe : ((qk : Int) - 1) = ((besideI qk : Nat) : Int) := by unfold besideI; rw [if_pos (by omega)]; omega
      rw [hbe] at hs
      refine then_n ?_
      refine wp_seq ?_
      refine wp_reg ?_
      refine s_q hs (c_move (hs.ev rfl)) rfl fun ac hs => ?_
      refine s_q hs (c_move (hs.ev rfl)) rfl fun ac hs => ?_
      refine s_q hs (c_move (hs.ev rfl)) rfl fun ac hs => ?_
      refine s_q hs (c_move (hs.ev rfl)) rfl fun ac hs => ?_
      refine s_q hs (c_move (hs.ev rfl)) rfl fun ac hs => ?_
      refine s_call hs fu122 (.cons (hs.ev rfl) (.cons (hs.ev rfl) (.cons (hs.ev rfl) (.cons (hs.ev rfl) (.cons (hs.ev rfl) .nil))))) (ref07_Node d ep ls n _ hls hn k (by omega) (besideI qk) hbl _ (hq.fr0 hs.fr)) rfl fun ac ww v34 hf hp hs => ?_
      obtain ⟨L', ⟨tv2, rfl, ps2, hps2, rfl⟩, hh⟩ := hp
      replace hs := hs _ hh
      refine s_q hs (c_move (hs.ev rfl)) rfl fun ac hs => ?_
      refine s_q hs (c_extract (hs.ev rfl) rfl) rfl fun ac hs => ?_
      refine s_q hs (c_extract (hs.ev rfl) rfl) rfl fun ac hs => ?_
      refine s_alloc hs ty22 rfl fun ac ww g12 hs => ?_
      refine s_storeW (i := 0) hs ty22 rfl rfl rfl (by rw [List.length_map]; exact (gNode_length hls16 k (besideI qk) hbl)) (all_map_B _) rfl fun ww hs => ?_
      refine s_q hs (c_assign (hs.ev rfl)) rfl fun ac hs => ?_
      refine s_end ?_
      replace hs := hs.sub (F' := [(0, _), (1, _), (2, _), (3, _), (8, _), (9, _), (10, _), (11, _), (12, _), (14, _), (15, _), (16, _), (17, _), (18, _), (21, _), (22, _), (23, _), (24, _), (25, _), (26, _), (27, _), (28, _), (29, _), (30, _), (31, _), (32, _), (33, _), (34, _), (35, _), (36, _)]) ⟨rfl, rfl, rfl, rfl, rfl, rfl, rfl, rfl, rfl, rfl, rfl, rfl, rfl, rfl, rfl, rfl, rfl, rfl, rfl, rfl, rfl, rfl, rfl, rfl, rfl, rfl, rfl, rfl, rfl, rfl, trivial⟩
      refine then_n ?_
      refine wp_seq ?_
      refine wp_reg ?_
      refine s_q hs (c_move (hs.ev rfl)) rfl fun ac hs => ?_
      refine s_q hs (c_loadW ty22 rfl (hs.ev rfl) (hs.seg (i := 0) rfl) (by rw [List.length_map]; exact (gNode_length hls16 k (besideI qk) hbl))) rfl fun ac hs => ?_
      refine s_bslice hs un109 ty22 (.cons (hs.ev rfl) .nil) rfl (by intro v hv; simp only [List.mem_singleton] at hv; subst hv; simp [Value.cells, (gNode_length hls16 k (besideI qk) hbl)]) (by decide) (show _ = (gNode d ep ls k (besideI qk)).map B by simp [flatCells, Value.cells]) rfl fun ac ww g39 hs => ?_
      refine s_append (i := 3) hs un109 ty22 (by decide) rfl rfl rfl (Rd.of_seg (n := 1) (hs.seg (i := 0) rfl) (Nat.le_refl _) (by decide) (List.take_of_length_le (by simp))) (by rw [List.length_map, (gNode_length hls16 k (besideI qk) hbl)]) (all_map_B _) (by unfold maxLen; omega) (by omega) rfl fun ac ww v40 hf hnil hs => ?_
      refine s_q hs (c_assign (hs.ev rfl)) rfl fun ac hs => ?_
      refine s_end ?_
      refine then_n ?_
      refine wp_reg ?_
      refine s_q hs (c_move (hs.ev rfl)) rfl fun ac hs => ?_
      refine s_q hs (c_quoI (hs.ev rfl) (hs.ev rfl) (by omega) (by omega) (by omega)) rfl fun ac hs => ?_
      refine s_q hs (c_assign (hs.ev rfl)) rfl fun ac hs => ?_
      refine s_end ?_
      refine blk_n ?_
      refine then_n ?_
      refine wp_reg ?_
      refine s_q hs (c_move (hs.ev rfl)) rfl fun ac hs => ?_
      refine s_q hs (c_addI (hs.ev rfl) (hs.ev rfl) (by omega) (by omega)) rfl fun ac hs => ?_
      refine s_q hs (c_assign (hs.ev rfl)) rfl fun ac hs => ?_
      refine s_end ?_
      refine then_n ?_
      replace hs := hs.pick (L' := [_]) (.cons _ (.cons _ (.cons _ (.refl _))))
      exact ⟨lv - (k + 1), by (try simp only); omega, (k + 1, _), ⟨by (try simp only); omega, rfl⟩, St.next hs ⟨(congrArg (fun z => some (I z)) (by rw [half_pow, hqk]; omega)), rfl, rfl, rfl, rfl, rfl, rfl, trivial⟩ (by simp only [gPath_succ, List.map_append, gWay, wayN, hqk])⟩
    · try simp only [decide_eq_true_eq, decide_eq_false_iff_not, Bool.not_eq_true', Bool.not_eq_false', Bool.and_eq_true, Bool.or_eq_true, Bool.or_eq_false_iff] at hc
      have hbe : ((qk : Int) + 1) = ((besideI qk : Nat) : Int) := by unfold besideI; rw [if_neg (by omega)]; rfl
      rw [hbe] at hs
      refine wp_skip ?_
      refine then_n ?_
      refine wp_seq ?_
      refine wp_reg ?_
      refine s_q hs (c_move (hs.ev rfl)) rfl fun ac hs => ?_
      refine s_q hs (c_move (hs.ev rfl)) rfl fun ac hs => ?_
      refine s_q hs (c_move (hs.ev rfl)) rfl fun ac hs => ?_
      refine s_q hs (c_move (hs.ev rfl)) rfl fun ac hs => ?_
      refine s_q hs (c_move (hs.ev rfl)) rfl fun ac hs => ?_
      refine s_call hs fu122 (.cons (hs.ev rfl) (.cons (hs.ev rfl) (.cons (hs.ev rfl) (.cons (hs.ev rfl) (.cons (hs.ev rfl) .nil))))) (ref07_Node d ep ls n _ hls hn k (by omega) (besideI qk) hbl _ (hq.fr0 hs.fr)) rfl fun ac ww v34 hf hp hs => ?_
      obtain ⟨L', ⟨tv2, rfl, ps2, hps2, rfl⟩, hh⟩ := hp
      replace hs := hs _ hh
      refine s_q hs (c_move (hs.ev rfl)) rfl fun ac hs => ?_
      refine s_q hs (c_extract (hs.ev rfl) rfl) rfl fun ac hs => ?_
      refine s_q hs (c_extract (hs.ev rfl) rfl) rfl fun ac hs => ?_
      refine s_alloc hs ty22 rfl fun ac ww g12 hs => ?_
      refine s_storeW (i := 0) hs ty22 rfl rfl rfl (by rw [List.length_map]; exact (gNode_length hls16 k (besideI qk) hbl)) (all_map_B _) rfl fun ww hs => ?_
      refine s_q hs (c_assign (hs.ev rfl)) rfl fun ac hs => ?_
      refine s_end ?_
      replace hs := hs.sub (F' := [(0, _), (1, _), (2, _), (3, _), (8, _), (9, _), (10, _), (11, _), (12, _), (14, _), (15, _), (16, _), (17, _), (18, _), (21, _), (22, _), (23, _), (24, _), (25, _), (28, _), (29, _), (30, _), (31, _), (32, _), (33, _), (34, _), (35, _), (36, _)]) ⟨rfl, rfl, rfl, rfl, rfl, rfl, rfl, rfl, rfl, rfl, rfl, rfl, rfl, rfl, rfl, rfl, rfl, rfl, rfl, rfl, rfl, rfl, rfl, rfl, rfl, rfl, rfl, rfl, trivial⟩
      refine then_n ?_
      refine wp_seq ?_
      refine wp_reg ?_
      refine s_q hs (c_move (hs.ev rfl)) rfl fun ac hs => ?_
      refine s_q hs (c_loadW ty22 rfl (hs.ev rfl) (hs.seg (i := 0) rfl) (by rw [List.length_map]; exact (gNode_length hls16 k (besideI qk) hbl))) rfl fun ac hs => ?_
      refine s_bslice hs un109 ty22 (.cons (hs.ev rfl) .nil) rfl (by intro v hv; simp only [List.mem_singleton] at hv; subst hv; simp [Value.cells, (gNode_length hls16 k (besideI qk) hbl)]) (by decide) (show _ = (gNode d ep ls k (besideI qk)).map B by simp [flatCells, Value.cells]) rfl fun ac ww g39 hs => ?_
      refine s_append (i := 3) hs un109 ty22 (by decide) rfl rfl rfl (Rd.of_seg (n := 1) (hs.seg (i := 0) rfl) (Nat.le_refl _) (by decide) (List.take_of_length_le (by simp))) (by rw [List.length_map, (gNode_length hls16 k (besideI qk) hbl)]) (all_map_B _) (by unfold maxLen; omega) (by omega) rfl fun ac ww v40 hf hnil hs => ?_
      refine s_q hs (c_assign (hs.ev rfl)) rfl fun ac hs => ?_
      refine s_end ?_
      refine then_n ?_
      refine wp_reg ?_
      refine s_q hs (c_move (hs.ev rfl)) rfl fun ac hs => ?_
      refine s_q hs (c_quoI (hs.ev rfl) (hs.ev rfl) (by omega) (by omega) (by omega)) rfl fun ac hs => ?_
      refine s_q hs (c_assign (hs.ev rfl)) rfl fun ac hs => ?_
      refine s_end ?_
      refine blk_n ?_
      refine then_n ?_
      refine wp_reg ?_
      refine s_q hs (c_move (hs.ev rfl)) rfl fun ac hs => ?_
      refine s_q hs (c_addI (hs.ev rfl) (hs.ev rfl) (by omega) (by omega)) rfl fun ac hs => ?_
      refine s_q hs (c_assign (hs.ev rfl)) rfl fun ac hs => ?_
      refine s_end ?_
      refine then_n ?_
      replace hs := hs.pick (L' := [_]) (.cons _ (.cons _ (.cons _ (.refl _))))
      exact ⟨lv - (k + 1), by (try simp only); omega, (k + 1, _), ⟨by (try simp only); omega, rfl⟩, St.next hs ⟨(congrArg (fun z => some (I z)) (by rw [half_pow, hqk]; omega)), rfl, rfl, rfl, rfl, rfl, rfl, trivial⟩ (by simp only [gPath_succ, List.map_append, gWay, wayN, hqk])⟩
  · try simp only [decide_eq_true_eq, decide_eq_false_iff_not, Bool.not_eq_true', Bool.not_eq_false', Bool.and_eq_true, Bool.or_eq_true, Bool.or_eq_false_iff] at hc
    obtain rfl : lv = k := by omega
    refine wp_exit ?_
    refine then_e ?_
    refine then_e ?_
    refine blk_hit ?_
    refine then_n ?_
    refine wp_seq ?_
    refine wp_reg ?_
    refine s_q hs (c_move (hs.ev rfl)) rfl fun ac hs => ?_
    refine s_q hs (c_assign (hs.ev rfl)) rfl fun ac hs => ?_
    refine s_end ?_
    replace hs := hs.sub (F' := [(8, _)]) ⟨rfl, trivial⟩
    refine then_n ?_
    refine wp_ret ?_
    refine s_ret hs rfl (.tmp (hs.tmp rfl) .nil) rfl ⟨_, rfl, hs.fr, ?_⟩
    exact ⟨_, rfl, hs.made⟩
set_option maxHeartbeats 4000000 in
theorem ref07_Fold (d : Int) (ep : UInt32) (i : Int) (m : Nat) (l ws : List UInt8) (wv : Value) (hll : l.length = 16) (hwl : ws.length = m * 16) (w : World) (hqw : Rd w wv m (ws.map B)) : Ctr Try.prog 116 [I d, U ep, I i, .agg (l.map B).toArray, wv] w (fun _ => False) (outE (tup3E (.agg ((foldB d ep i l ws m).map B).toArray) (I (foldE i m)) (textsE 34 5 (foldX d ep i l ws m))) w) := by
  have hml := hqw.le
  obtain ⟨wad, wcap, rfl, hwc, hwm⟩ := Rd.sl hqw
  refine fn_start (N := 77) Try.func116 rfl rfl rfl fun ac hk => ?_
  have hs := St.start hk w
  refine wp_seq ?_
  refine wp_reg ?_
  refine s_box hs rfl rfl rfl fun ac ww g8 hs => ?_
  refine s_alloc hs ty22 rfl fun ac ww g10 hs => ?_
  refine s_q hs (c_assign (hs.ev rfl)) rfl fun ac hs => ?_
  refine s_q hs (c_assign (hs.ev rfl)) rfl fun ac hs => ?_
  refine s_end ?_
  replace hs := hs.sub (F' := [(0, _), (1, _), (2, _), (4, _), (8, _), (10, _), (11, _), (12, _)]) ⟨rfl, rfl, rfl, rfl, rfl, rfl, rfl, rfl, trivial⟩
  refine then_n ?_
  refine wp_seq ?_
  refine wp_seq ?_
  refine wp_reg ?_
  refine s_q hs (c_move (hs.ev rfl)) rfl fun ac hs => ?_
  refine s_q hs (c_lssI (hs.ev rfl) (hs.ev rfl)) rfl fun ac hs => ?_
  refine s_q hs (c_move (hs.ev rfl)) rfl fun ac hs => ?_
  refine s_g hs rfl rfl (fun hg => c_move (hs.ev rfl)) rfl fun ac hs => ?_
  refine s_g hs rfl rfl (fun hg => c_lenS un109 (gev (hs.ev rfl) hg)) rfl fun ac hs => ?_
  refine s_g hs rfl rfl (fun hg => c_gtrI (gev (hs.ev rfl) hg) (hs.ev rfl)) rfl fun ac hs => ?_
  refine s_q hs (c_or (hs.ev rfl) (hs.ev rfl)) rfl fun ac hs => ?_
  refine s_end ?_
  replace hs := hs.sub (F' := [(0, _), (1, _), (2, _), (4, _), (8, _), (10, _), (11, _), (12, _), (24, _)]) ⟨rfl, rfl, rfl, rfl, rfl, rfl, rfl, rfl, rfl, trivial⟩
  refine then_n ?_
  refine s_cond hs rfl (fun hc => ?_) (fun hc => ?_)
  · skip
    simp only [Bool.or_eq_true, decide_eq_true_eq] at hc
    have hno : ¬ foldOk i m = true := fold_bad (by omega)
    
    refine wp_seq ?_
    refine wp_reg ?_
    refine s_q hs (c_buildA ty22 un22 ty5 (zc := (List.replicate 16 (0 : UInt8)).map B) (vs := []) .nil (by simp) (by simp [flatCells]) rfl) rfl fun ac hs => ?_
    refine s_storeW (i := 0) hs ty22 rfl rfl rfl (by simp) (all_map_B _) rfl fun ww hs => ?_
    refine s_q hs (c_assign (hs.ev rfl)) rfl fun ac hs => ?_
    refine s_q hs (c_assign (hs.ev rfl)) rfl fun ac hs => ?_
    refine s_end ?_
    replace hs := hs.sub (F' := [(0, _), (1, _), (2, _), (4, _), (8, _), (10, _), (11, _), (12, _)]) ⟨rfl, rfl, rfl, rfl, rfl, rfl, rfl, rfl, trivial⟩
    refine then_n ?_
    refine wp_ret ?_
    refine then_r ?_
    refine s_ret hs rfl (.cell (hs.tmp rfl) (run_loadA ty22 rfl (hs.seg (i := 0) rfl) (List.take_of_length_le (by simp)) (by simp)) (.tmp (hs.tmp rfl) (.tmp (hs.tmp rfl) .nil))) rfl ⟨_, rfl, hs.fr, ?_⟩
    rw [foldB, foldE, foldX, if_neg hno, if_neg hno, if_neg hno]
    exact ⟨_, ⟨_, rfl, [], rfl, rfl⟩, ((hs.texts0 34 (Ent.part 5)).pick (L' := [_]) (.cons_cons _ (List.nil_sublist _))).made⟩
  · skip
    simp only [Bool.or_eq_false_iff, decide_eq_false_iff_not] at hc
    have hi0 : 0 ≤ i := by omega
    have hm6 : m ≤ 6 := by omega
    have hp64 := pow_le64 m (by omega)
    refine wp_skip ?_
    refine then_n ?_
    refine wp_seq ?_
    refine wp_reg ?_
    refine s_q hs (c_assign (hs.ev rfl)) rfl fun ac hs => ?_
    refine s_end ?_
    replace hs := hs.sub (F' := [(0, _), (1, _), (2, _), (4, _), (8, _), (10, _), (11, _), (12, _), (13, _)]) ⟨rfl, rfl, rfl, rfl, rfl, rfl, rfl, rfl, rfl, trivial⟩
    refine then_n ?_
    refine wp_seq ?_
    refine wp_seq ?_
    refine wp_reg ?_
    refine s_q hs (c_assign (hs.ev rfl)) rfl fun ac hs => ?_
    refine s_end ?_
    refine then_n ?_
    refine wp_block ?_
    refine s_loop hs (X := Nat) (fun k => [(13, I ((2 : Int) ^ k)), (14, I k)]) [(0, _), (1, _), (2, _), (4, _), (8, _), (10, _), (11, _), (12, _)] (fun _ => [_, _]) (fun j k => k ≤ m ∧ j = m - k) (_) (0) (⟨Nat.zero_le _, rfl⟩) ⟨rfl, rfl, rfl, rfl, rfl, rfl, rfl, rfl, rfl, rfl, trivial⟩ rfl ?_
    rintro n k ac ww hok hs
    simp only [List.cons_append, List.nil_append] at hs
    obtain ⟨hk, rfl⟩ := hok
    have hp8 := pow_le64 k (by omega)
    have hp0 := pow_pos k
    refine wp_seq ?_
    refine wp_seq ?_
    refine wp_reg ?_
    refine s_q hs (c_move (hs.ev rfl)) rfl fun ac hs => ?_
    refine s_q hs (c_move (hs.ev rfl)) rfl fun ac hs => ?_
    refine s_q hs (c_lenS un109 (hs.ev rfl)) rfl fun ac hs => ?_
    refine s_q hs (c_lssI (hs.ev rfl) (hs.ev rfl)) rfl fun ac hs => ?_
    refine s_end ?_
    refine then_n ?_
    refine s_cond hs rfl (fun hc => ?_) (fun hc => ?_)
    · try simp only [decide_eq_true_eq, decide_eq_false_iff_not, Bool.not_eq_true', Bool.not_eq_false', Bool.and_eq_true, Bool.or_eq_true, Bool.or_eq_false_iff] at hc
      refine wp_skip ?_
      refine then_n ?_
      refine wp_seq ?_
      refine wp_block ?_
      refine wp_reg ?_
      refine s_q hs (c_move (hs.ev rfl)) rfl fun ac hs => ?_
      refine s_q hs (c_mulI (hs.ev rfl) (hs.ev rfl) (by omega) (by omega)) rfl fun ac hs => ?_
      refine s_q hs (c_assign (hs.ev rfl)) rfl fun ac hs => ?_
      refine s_end ?_
      refine blk_n ?_
      refine then_n ?_
      refine wp_reg ?_
      refine s_q hs (c_move (hs.ev rfl)) rfl fun ac hs => ?_
      refine s_q hs (c_addI (hs.ev rfl) (hs.ev rfl) (by omega) (by omega)) rfl fun ac hs => ?_
      refine s_q hs (c_assign (hs.ev rfl)) rfl fun ac hs => ?_
      refine s_end ?_
      refine then_n ?_
      exact ⟨m - (k + 1), by omega, k + 1, ⟨by omega, rfl⟩, St.next hs ⟨(congrArg (fun z => some (I z)) (by rw [Int.pow_succ]; omega)), rfl, rfl, rfl, rfl, rfl, rfl, rfl, rfl, rfl, trivial⟩ rfl⟩
    · try simp only [decide_eq_true_eq, decide_eq_false_iff_not, Bool.not_eq_true', Bool.not_eq_false', Bool.and_eq_true, Bool.or_eq_true, Bool.or_eq_false_iff] at hc
      obtain rfl : m = k := by omega
      refine wp_exit ?_
      refine then_e ?_
      refine then_e ?_
      refine blk_hit ?_
      refine then_n ?_
      refine wp_seq ?_
      refine wp_seq ?_
      refine wp_reg ?_
      refine s_q hs (c_move (hs.ev rfl)) rfl fun ac hs => ?_
      refine s_q hs (c_move (hs.ev rfl)) rfl fun ac hs => ?_
      refine s_q hs (c_geqI (hs.ev rfl) (hs.ev rfl)) rfl fun ac hs => ?_
      refine s_end ?_
      replace hs := hs.sub (F' := [(0, _), (1, _), (2, _), (4, _), (8, _), (10, _), (11, _), (12, _), (36, _)]) ⟨rfl, rfl, rfl, rfl, rfl, rfl, rfl, rfl, rfl, trivial⟩
      refine then_n ?_
      refine s_cond hs rfl (fun hc => ?_) (fun hc => ?_)
      · try simp only [decide_eq_true_eq, decide_eq_false_iff_not, Bool.not_eq_true', Bool.not_eq_false', Bool.and_eq_true, Bool.or_eq_true, Bool.or_eq_false_iff] at hc
        have hno : ¬ foldOk i m = true := fold_bad (by omega)
        
        refine wp_seq ?_
        refine wp_reg ?_
        refine s_q hs (c_buildA ty22 un22 ty5 (zc := (List.replicate 16 (0 : UInt8)).map B) (vs := []) .nil (by simp) (by simp [flatCells]) rfl) rfl fun ac hs => ?_
        refine s_storeW (i := 0) hs ty22 rfl rfl rfl (by simp) (all_map_B _) rfl fun ww hs => ?_
        refine s_q hs (c_assign (hs.ev rfl)) rfl fun ac hs => ?_
        refine s_q hs (c_assign (hs.ev rfl)) rfl fun ac hs => ?_
        refine s_end ?_
        replace hs := hs.sub (F' := [(0, _), (1, _), (2, _), (4, _), (8, _), (10, _), (11, _), (12, _)]) ⟨rfl, rfl, rfl, rfl, rfl, rfl, rfl, rfl, trivial⟩
        refine then_n ?_
        refine wp_ret ?_
        refine then_r ?_
        refine s_ret hs rfl (.cell (hs.tmp rfl) (run_loadA ty22 rfl (hs.seg (i := 0) rfl) (List.take_of_length_le (by simp)) (by simp)) (.tmp (hs.tmp rfl) (.tmp (hs.tmp rfl) .nil))) rfl ⟨_, rfl, hs.fr, ?_⟩
        rw [foldB, foldE, foldX, if_neg hno, if_neg hno, if_neg hno]
        exact ⟨_, ⟨_, rfl, [], rfl, rfl⟩, ((hs.texts0 34 (Ent.part 5)).pick (L' := [_]) (.cons_cons _ (List.nil_sublist _))).made⟩
      · try simp only [decide_eq_true_eq, decide_eq_false_iff_not, Bool.not_eq_true', Bool.not_eq_false', Bool.and_eq_true, Bool.or_eq_true, Bool.or_eq_false_iff] at hc
        have hok1 : foldOk i m = true := fold_good hi0 hm6 (by omega)
        obtain ⟨q, rfl⟩ : ∃ q : Nat, i = q := ⟨i.toNat, by omega⟩
        have hq64 : q < 64 := by omega
        refine wp_skip ?_
        refine then_n ?_
        refine wp_seq ?_
        refine wp_reg ?_
        refine s_q hs (c_assign (hs.ev rfl)) rfl fun ac hs => ?_
        refine s_end ?_
        replace hs := hs.texts0 34 (Ent.part 5)
        replace hs := hs.sub (F' := [(0, _), (1, _), (2, _), (4, _), (8, _), (10, _), (11, _), (12, _), (15, _)]) ⟨rfl, rfl, rfl, rfl, rfl, rfl, rfl, rfl, rfl, trivial⟩
        refine then_n ?_
        refine wp_seq ?_
        refine wp_seq ?_
        refine wp_reg ?_
        refine s_q hs (c_assign (hs.ev rfl)) rfl fun ac hs => ?_
        refine s_end ?_
        refine then_n ?_
        refine wp_block ?_
        refine s_loop hs (X := Nat × Value × List (Value × List UInt8)) (fun x => [(2, I (q / 2 ^ x.1 : Nat)), (15, x.2.1), (16, I x.1)]) [(0, _), (1, _), (4, _), (8, _), (10, _), (11, _), (12, _)] (fun x => [.texts 34 (Ent.part 5) x.2.1 x.2.2, _, .seg g8 ((gRise d ep q l ws x.1).map B) 22]) (fun j x => x.1 ≤ m ∧ j = m - x.1 ∧ x.2.2.map (·.2) = gRiseTs d ep q l ws x.1) (_) ((0, _, [])) (⟨Nat.zero_le _, rfl, rfl⟩) ⟨(congrArg (fun z : Nat => some (I z)) (by simp)), rfl, rfl, rfl, rfl, rfl, rfl, rfl, rfl, rfl, trivial⟩ rfl ?_
        rintro n ⟨k, v, ps⟩ ac ww hok hs
        simp only [List.cons_append, List.nil_append] at hs
        obtain ⟨hk, rfl, hps⟩ := hok
        simp only at hk hps hs
        have hpl : ps.length = k := by have := congrArg List.length hps; rwa [List.length_map, gRiseTs_length] at this
        have hrl := gRise_length (d := d) (ep := ep) (q := q) (ws := ws) hll k
        obtain ⟨qk, hqk⟩ : ∃ qk : Nat, q / 2 ^ k = qk := ⟨_, rfl⟩
        have hqle : qk ≤ q := hqk ▸ Nat.div_le_self _ _
        rw [hqk] at hs
        refine wp_seq ?_
        refine wp_seq ?_
        refine wp_reg ?_
        refine s_q hs (c_move (hs.ev rfl)) rfl fun ac hs => ?_
        refine s_q hs (c_move (hs.ev rfl)) rfl fun ac hs => ?_
        refine s_q hs (c_lenS un109 (hs.ev rfl)) rfl fun ac hs => ?_
        refine s_q hs (c_lssI (hs.ev rfl) (hs.ev rfl)) rfl fun ac hs => ?_
        refine s_end ?_
        refine then_n ?_
        refine s_cond hs rfl (fun hc => ?_) (fun hc => ?_)
        · try simp only [decide_eq_true_eq, decide_eq_false_iff_not, Bool.not_eq_true', Bool.not_eq_false', Bool.and_eq_true, Bool.or_eq_true, Bool.or_eq_false_iff] at hc
          have hkn : k < m := by omega
          have hcl := chunk_l hwl hkn
          obtain ⟨pb, po, pT, pf, pall, rfl, hpb, hps2⟩ := Rd.bytes_at hqw hwl (by omega)
          refine wp_skip ?_
          refine then_n ?_
          refine wp_seq ?_
          refine wp_block ?_
          refine wp_seq ?_
          refine wp_region_rg pmix 9 (by kernel_rfl) rfl hs ?_
          simp only [List.take_succ_cons, List.take_zero]
          refine rg_q (fun ac ww h => c_move (h.ev rfl)) rfl ?_
          refine rg_q (fun ac ww h => c_move (h.ev rfl)) rfl ?_
          refine rg_q (fun ac ww h => c_move (h.ev rfl)) rfl ?_
          refine rg_q (fun ac ww h => c_to (c_addI (h.ev rfl) (h.ev rfl) (by omega) (by omega)) ((congrArg I (show ((k : Int) + 1 = ((k + 1 : Nat) : Int)) by omega)))) rfl ?_
          refine rg_q (fun ac ww h => c_loadW ty22 rfl (h.ev rfl) (h.blk (hs.seg (i := 2) rfl)) (by rw [List.length_map, hrl])) rfl ?_
          refine rg_q (fun ac ww h => c_move (h.ev rfl)) rfl ?_
          refine rg_q (fun ac ww h => c_move (h.ev rfl)) rfl ?_
          refine rg_q (fun ac ww h => c_idxS (j := k) un109 ty22 (h.ev rfl) (h.ev rfl) (by omega) (by omega)) rfl ?_
          refine rg_q (fun ac ww h => c_loadA ty22 rfl (h.ev rfl) (h.blk (hs.old hpb id)) (rdpiece hps2 hwl hkn) (by rw [List.length_map, hcl])) rfl ?_
          refine rg_nil fun ac ww L' hf hfe hs => ?_
          simp only [List.drop_succ_cons, List.drop_zero]
          obtain rfl : L' = [] := hfe
          replace hs := hs.toL (List.nil_append _)
          refine s_call hs fu118 (.cons (hs.ev rfl) (.cons (hs.ev rfl) (.cons (hs.ev rfl) (.cons (hs.ev rfl) (.cons (hs.ev rfl) .nil))))) (ref07_Text d ep (k + 1 : Nat) (gRise d ep q l ws k) (chunk ws k) hrl hcl _) rfl fun ac ww v53 hf hp hs => ?_
          obtain ⟨L', hv, hh⟩ := hp
          subst hv
          replace hs := hs _ hh
          obtain ⟨qad, qcap, rfl, _, _⟩ := Rd.sl (RdB.row (hs.get (i := 0) rfl))
          refine s_q hs (c_assign (hs.ev rfl)) rfl fun ac hs => ?_
          refine s_end ?_
          refine then_n ?_
          refine wp_seq ?_
          refine wp_seq ?_
          refine wp_reg ?_
          refine s_q hs (c_move (hs.ev rfl)) rfl fun ac hs => ?_
          refine s_q hs (c_remI (hs.ev rfl) (hs.ev rfl) (by omega) (by omega)) rfl fun ac hs => ?_
          refine s_q hs (c_eqlI (hs.ev rfl) (hs.ev rfl)) rfl fun ac hs => ?_
          refine s_end ?_
          refine then_n ?_
          refine s_cond hs rfl (fun hc => ?_) (fun hc => ?_)
          · try simp only [decide_eq_true_eq, decide_eq_false_iff_not, Bool.not_eq_true', Bool.not_eq_false', Bool.and_eq_true, Bool.or_eq_true, Bool.or_eq_false_iff] at hc
            refine wp_region_rg pmix 9 (by kernel_rfl) rfl hs ?_
            simp only [List.take_succ_cons, List.take_zero]
            refine rg_q (fun ac ww h => c_move (h.ev rfl)) rfl ?_
            refine rg_q (fun ac ww h => c_move (h.ev rfl)) rfl ?_
            refine rg_q (fun ac ww h => c_move (h.ev rfl)) rfl ?_
            refine rg_q (fun ac ww h => c_to (c_addI (h.ev rfl) (h.ev rfl) (by omega) (by omega)) ((congrArg I (show ((k : Int) + 1 = ((k + 1 : Nat) : Int)) by omega)))) rfl ?_
            refine rg_q (fun ac ww h => c_move (h.ev rfl)) rfl ?_
            refine rg_q (fun ac ww h => c_move (h.ev rfl)) rfl ?_
            refine rg_q (fun ac ww h => c_idxS (j := k) un109 ty22 (h.ev rfl) (h.ev rfl) (by omega) (by omega)) rfl ?_
            refine rg_q (fun ac ww h => c_loadA ty22 rfl (h.ev rfl) (h.blk (hs.old hpb id)) (rdpiece hps2 hwl hkn) (by rw [List.length_map, hcl])) rfl ?_
            refine rg_q (fun ac ww h => c_loadW ty22 rfl (h.ev rfl) (h.blk (hs.seg (i := 3) rfl)) (by rw [List.length_map, hrl])) rfl ?_
            refine rg_nil fun ac ww L' hf hfe hs => ?_
            simp only [List.drop_succ_cons, List.drop_zero]
            obtain rfl : L' = [] := hfe
            replace hs := hs.toL (List.nil_append _)
            refine s_call hs fu118 (.cons (hs.ev rfl) (.cons (hs.ev rfl) (.cons (hs.ev rfl) (.cons (hs.ev rfl) (.cons (hs.ev rfl) .nil))))) (ref07_Text d ep (k + 1 : Nat) (chunk ws k) (gRise d ep q l ws k) hcl hrl _) rfl fun ac ww v66 hf hp hs => ?_
            obtain ⟨L', hv, hh⟩ := hp
            subst hv
            replace hs := hs _ hh
            obtain ⟨qad, qcap, rfl, _, _⟩ := Rd.sl (RdB.row (hs.get (i := 0) rfl))
            refine s_q hs (c_assign (hs.ev rfl)) rfl fun ac hs => ?_
            refine s_end ?_
            obtain ⟨body, hbody, hbl⟩ : ∃ body, stepX (gJ d ep) k qk (gRise d ep q l ws k) (chunk ws k) = 71 :: body ∧ body.length ≤ 100 := ⟨_, by rw [stepX, if_pos (by omega)]; rfl, by simp [hrl, hcl]⟩
            have hst : stepX (gJ d ep) k qk (gRise d ep q l ws k) (chunk ws k) = aboveX d ep (k + 1 : Nat) (chunk ws k) (gRise d ep q l ws k) := by rw [stepX, if_pos (by omega)]; rfl
            rw [← hst] at hs
            replace hs := hs.pick (L' := [_, _, _, _]) (.cons_cons _ (.cons _ (.refl _)))
            refine then_n ?_
            refine wp_seq ?_
            refine wp_reg ?_
            refine s_q hs (c_move (hs.ev rfl)) rfl fun ac hs => ?_
            refine s_q hs (c_move (hs.ev rfl)) rfl fun ac hs => ?_
            refine s_bslice hs un30 ty34 (.cons (hs.ev rfl) .nil) rfl (by simp [Value.cells]) (by decide) rfl rfl fun ac ww g69 hs => ?_
            refine s_appT (i := 2) (j := 1) hs un30 ty34 rfl rfl rfl rfl rfl (hs.seg (i := 0) rfl) rfl (by omega) rfl fun ac ww v70 hs => ?_
            refine s_q hs (c_assign (hs.ev rfl)) rfl fun ac hs => ?_
            refine s_end ?_
            refine then_n ?_
            refine wp_seq ?_
            refine wp_reg ?_
            refine s_q hs (c_move (hs.ev rfl)) rfl fun ac hs => ?_
            refine s_call hs fu54 (.cons (hs.ev rfl) .nil) (ref06_Of 71 body _ (by omega) _ (hbody ▸ ((RdP.texts (hs.get (i := 2) rfl)).2 (_, stepX (gJ d ep) k qk (gRise d ep q l ws k) (chunk ws k)) (by simp)))) rfl fun ac ww v72 hf hp hs => ?_
            obtain rfl := hp
            replace hs := hs [] (.nil _ _)
            have hof : short 71 body = ofT (stepX (gJ d ep) k qk (gRise d ep q l ws k) (chunk ws k)) := by rw [hbody]; rfl
            rw [hof] at hs
            have hfin : gRise d ep q l ws (k + 1) = ofT (stepX (gJ d ep) k qk (gRise d ep q l ws k) (chunk ws k)) := by rw [gRise, riseN, hqk]
            refine s_storeW (i := 4) hs ty22 rfl rfl rfl (by simp) (all_map_B _) (by rw [List.length_map, hrl]) fun ww hs => ?_
            refine s_end ?_
            refine then_n ?_
            refine wp_reg ?_
            refine s_q hs (c_move (hs.ev rfl)) rfl fun ac hs => ?_
            refine s_q hs (c_quoI (hs.ev rfl) (hs.ev rfl) (by omega) (by omega) (by omega)) rfl fun ac hs => ?_
            refine s_q hs (c_assign (hs.ev rfl)) rfl fun ac hs => ?_
            refine s_end ?_
            refine blk_n ?_
            refine then_n ?_
            refine wp_reg ?_
            refine s_q hs (c_move (hs.ev rfl)) rfl fun ac hs => ?_
            refine s_q hs (c_addI (hs.ev rfl) (hs.ev rfl) (by omega) (by omega)) rfl fun ac hs => ?_
            refine s_q hs (c_assign (hs.ev rfl)) rfl fun ac hs => ?_
            refine s_end ?_
            refine then_n ?_
            replace hs := hs.pick (L' := [_, _, _]) (.cons _ (.cons _ (.refl _)))
            exact ⟨m - (k + 1), by (try simp only); omega, (k + 1, _, ps ++ [(.slice qad (stepX (gJ d ep) k qk (gRise d ep q l ws k) (chunk ws k)).length qcap, stepX (gJ d ep) k qk (gRise d ep q l ws k) (chunk ws k))]), ⟨by (try simp only); omega, rfl, by simp only [List.map_append]; rw [hps]; simp only [gRiseTs, riseTs, hqk]; rfl⟩, St.next hs ⟨(congrArg (fun z => some (I z)) (by rw [half_pow, hqk]; omega)), rfl, rfl, rfl, rfl, rfl, rfl, rfl, rfl, rfl, trivial⟩ (by rw [hfin]; try rfl)⟩
          · try simp only [decide_eq_true_eq, decide_eq_false_iff_not, Bool.not_eq_true', Bool.not_eq_false', Bool.and_eq_true, Bool.or_eq_true, Bool.or_eq_false_iff] at hc
            obtain ⟨body, hbody, hbl⟩ : ∃ body, stepX (gJ d ep) k qk (gRise d ep q l ws k) (chunk ws k) = 71 :: body ∧ body.length ≤ 100 := ⟨_, by rw [stepX, if_neg (by omega)]; rfl, by simp [hrl, hcl]⟩
            have hst : stepX (gJ d ep) k qk (gRise d ep q l ws k) (chunk ws k) = aboveX d ep (k + 1 : Nat) (gRise d ep q l ws k) (chunk ws k) := by rw [stepX, if_neg (by omega)]; rfl
            rw [← hst] at hs
            refine wp_skip ?_
            refine then_n ?_
            refine wp_seq ?_
            refine wp_reg ?_
            refine s_q hs (c_move (hs.ev rfl)) rfl fun ac hs => ?_
            refine s_q hs (c_move (hs.ev rfl)) rfl fun ac hs => ?_
            refine s_bslice hs un30 ty34 (.cons (hs.ev rfl) .nil) rfl (by simp [Value.cells]) (by decide) rfl rfl fun ac ww g69 hs => ?_
            refine s_appT (i := 2) (j := 1) hs un30 ty34 rfl rfl rfl rfl rfl (hs.seg (i := 0) rfl) rfl (by omega) rfl fun ac ww v70 hs => ?_
            refine s_q hs (c_assign (hs.ev rfl)) rfl fun ac hs => ?_
            refine s_end ?_
            refine then_n ?_
            refine wp_seq ?_
            refine wp_reg ?_
            refine s_q hs (c_move (hs.ev rfl)) rfl fun ac hs => ?_
            refine s_call hs fu54 (.cons (hs.ev rfl) .nil) (ref06_Of 71 body _ (by omega) _ (hbody ▸ ((RdP.texts (hs.get (i := 2) rfl)).2 (_, stepX (gJ d ep) k qk (gRise d ep q l ws k) (chunk ws k)) (by simp)))) rfl fun ac ww v72 hf hp hs => ?_
            obtain rfl := hp
            replace hs := hs [] (.nil _ _)
            have hof : short 71 body = ofT (stepX (gJ d ep) k qk (gRise d ep q l ws k) (chunk ws k)) := by rw [hbody]; rfl
            rw [hof] at hs
            have hfin : gRise d ep q l ws (k + 1) = ofT (stepX (gJ d ep) k qk (gRise d ep q l ws k) (chunk ws k)) := by rw [gRise, riseN, hqk]
            refine s_storeW (i := 4) hs ty22 rfl rfl rfl (by simp) (all_map_B _) (by rw [List.length_map, hrl]) fun ww hs => ?_
            refine s_end ?_
            refine then_n ?_
            refine wp_reg ?_
            refine s_q hs (c_move (hs.ev rfl)) rfl fun ac hs => ?_
            refine s_q hs (c_quoI (hs.ev rfl) (hs.ev rfl) (by omega) (by omega) (by omega)) rfl fun ac hs => ?_
            refine s_q hs (c_assign (hs.ev rfl)) rfl fun ac hs => ?_
            refine s_end ?_
            refine blk_n ?_
            refine then_n ?_
            refine wp_reg ?_
            refine s_q hs (c_move (hs.ev rfl)) rfl fun ac hs => ?_
            refine s_q hs (c_addI (hs.ev rfl) (hs.ev rfl) (by omega) (by omega)) rfl fun ac hs => ?_
            refine s_q hs (c_assign (hs.ev rfl)) rfl fun ac hs => ?_
            refine s_end ?_
            refine then_n ?_
            replace hs := hs.pick (L' := [_, _, _]) (.cons _ (.cons _ (.refl _)))
            exact ⟨m - (k + 1), by (try simp only); omega, (k + 1, _, ps ++ [(.slice qad (stepX (gJ d ep) k qk (gRise d ep q l ws k) (chunk ws k)).length qcap, stepX (gJ d ep) k qk (gRise d ep q l ws k) (chunk ws k))]), ⟨by (try simp only); omega, rfl, by simp only [List.map_append]; rw [hps]; simp only [gRiseTs, riseTs, hqk]; rfl⟩, St.next hs ⟨(congrArg (fun z => some (I z)) (by rw [half_pow, hqk]; omega)), rfl, rfl, rfl, rfl, rfl, rfl, rfl, rfl, rfl, trivial⟩ (by rw [hfin]; try rfl)⟩
        · try simp only [decide_eq_true_eq, decide_eq_false_iff_not, Bool.not_eq_true', Bool.not_eq_false', Bool.and_eq_true, Bool.or_eq_true, Bool.or_eq_false_iff] at hc
          obtain rfl : m = k := by omega
          refine wp_exit ?_
          refine then_e ?_
          refine then_e ?_
          refine blk_hit ?_
          refine then_n ?_
          refine wp_seq ?_
          refine wp_reg ?_
          refine s_q hs (c_loadW ty22 rfl (hs.ev rfl) (hs.seg (i := 2) rfl) (by rw [List.length_map, hrl])) rfl fun ac hs => ?_
          refine s_q hs (c_move (hs.ev rfl)) rfl fun ac hs => ?_
          refine s_storeW (i := 1) hs ty22 rfl rfl rfl (by rw [List.length_map, hrl]) (all_map_B _) rfl fun ww hs => ?_
          refine s_q hs (c_assign (hs.ev rfl)) rfl fun ac hs => ?_
          refine s_q hs (c_assign (hs.ev rfl)) rfl fun ac hs => ?_
          refine s_end ?_
          replace hs := hs.sub (F' := [(10, _), (11, _), (12, _)]) ⟨rfl, rfl, rfl, trivial⟩
          refine then_n ?_
          refine wp_ret ?_
          refine s_ret hs rfl (.cell (hs.tmp rfl) (run_loadA ty22 rfl (hs.seg (i := 1) rfl) (List.take_of_length_le (show (List.map B (gRise d ep q l ws m)).length ≤ 16 by rw [List.length_map, hrl]; exact Nat.le_refl _)) (show (List.map B (gRise d ep q l ws m)).length = 16 by rw [List.length_map, hrl])) (.tmp (hs.tmp rfl) (.tmp (hs.tmp rfl) .nil))) rfl ⟨_, rfl, hs.fr, ?_⟩
          rw [foldB, foldE, foldX, if_pos hok1, if_pos hok1, if_pos hok1]
          exact ⟨_, ⟨_, rfl, ps, hps, rfl⟩, (hs.pick (L' := [_]) (.cons_cons _ (List.nil_sublist _))).made⟩
set_option maxHeartbeats 4000000 in
theorem ref07_Check (hh : Int) (rt : List UInt8) (hrt : rt.length = 16) (d : Int) (ep : UInt32) (i : Int) (m : Nat) (l ws : List UInt8) (wv : Value) (hll : l.length = 16) (hwl : ws.length = m * 16) (w : World) (hqw : Rd w wv m (ws.map B)) : Ctr Try.prog 120 [I d, U ep, I hh, .agg (rt.map B).toArray, I i, .agg (l.map B).toArray, wv] w (fun _ => False) (fun v _ => v = .bool (chkB d ep hh rt i l ws m)) := by
  have hml := hqw.le
  obtain ⟨wad, wcap, rfl, hwc, hwm⟩ := Rd.sl hqw
  refine fn_start (N := 39) Try.func120 rfl rfl rfl fun ac hk => ?_
  have hs := St.start hk w
  refine wp_seq ?_
  refine wp_reg ?_
  refine s_box hs rfl rfl rfl fun ac ww g10 hs => ?_
  refine s_box hs rfl rfl rfl fun ac ww g12 hs => ?_
  refine s_q hs (c_assign (hs.ev rfl)) rfl fun ac hs => ?_
  refine s_end ?_
  replace hs := hs.sub (F' := [(0, _), (1, _), (2, _), (4, _), (6, _), (10, _), (12, _), (14, _)]) ⟨rfl, rfl, rfl, rfl, rfl, rfl, rfl, rfl, trivial⟩
  refine then_n ?_
  refine wp_seq ?_
  refine wp_seq ?_
  refine wp_reg ?_
  refine s_q hs (c_move (hs.ev rfl)) rfl fun ac hs => ?_
  refine s_q hs (c_lenS un109 (hs.ev rfl)) rfl fun ac hs => ?_
  refine s_q hs (c_move (hs.ev rfl)) rfl fun ac hs => ?_
  refine s_q hs (c_neqI (hs.ev rfl) (hs.ev rfl)) rfl fun ac hs => ?_
  refine s_end ?_
  replace hs := hs.sub (F' := [(0, _), (1, _), (4, _), (6, _), (10, _), (12, _), (14, _), (21, _)]) ⟨rfl, rfl, rfl, rfl, rfl, rfl, rfl, rfl, trivial⟩
  refine then_n ?_
  refine s_cond hs rfl (fun hc => ?_) (fun hc => ?_)
  · try simp only [decide_eq_true_eq, decide_eq_false_iff_not, Bool.not_eq_true', Bool.not_eq_false', Bool.and_eq_true, Bool.or_eq_true, Bool.or_eq_false_iff] at hc
    have hne : ¬ ((m : Int) = hh) := hc
    refine wp_seq ?_
    refine wp_reg ?_
    refine s_q hs (c_assign (hs.ev rfl)) rfl fun ac hs => ?_
    refine s_end ?_
    replace hs := hs.sub (F' := [(0, _), (1, _), (4, _), (6, _), (10, _), (12, _), (14, _)]) ⟨rfl, rfl, rfl, rfl, rfl, rfl, rfl, trivial⟩
    refine then_n ?_
    refine wp_ret ?_
    refine then_r ?_
    refine s_ret hs rfl (.tmp (hs.tmp rfl) .nil) rfl ⟨_, rfl, hs.fr, ?_⟩
    show Value.bool _ = Value.bool _
    rw [chkB, decide_eq_false hne]; rfl
  · try simp only [decide_eq_true_eq, decide_eq_false_iff_not, Bool.not_eq_true', Bool.not_eq_false', Bool.and_eq_true, Bool.or_eq_true, Bool.or_eq_false_iff] at hc
    have heq : (m : Int) = hh := by omega
    refine wp_skip ?_
    refine then_n ?_
    refine wp_seq ?_
    refine wp_reg ?_
    refine s_q hs (c_move (hs.ev rfl)) rfl fun ac hs => ?_
    refine s_q hs (c_move (hs.ev rfl)) rfl fun ac hs => ?_
    refine s_q hs (c_move (hs.ev rfl)) rfl fun ac hs => ?_
    refine s_q hs (c_loadW ty22 rfl (hs.ev rfl) (hs.seg (i := 0) rfl) (by rw [List.length_map, hll])) rfl fun ac hs => ?_
    refine s_q hs (c_move (hs.ev rfl)) rfl fun ac hs => ?_
    refine s_call hs fu116 (.cons (hs.ev rfl) (.cons (hs.ev rfl) (.cons (hs.ev rfl) (.cons (hs.ev rfl) (.cons (hs.ev rfl) .nil))))) (ref07_Fold d ep i m l ws _ hll hwl _ (hqw.fr0 hs.fr)) rfl fun ac ww v28 hf hp hs => ?_
    obtain ⟨L', ⟨tv1, rfl, ps1, hps1, rfl⟩, hh1⟩ := hp
    replace hs := hs _ hh1
    refine s_q hs (c_move (hs.ev rfl)) rfl fun ac hs => ?_
    refine s_q hs (c_extract (hs.ev rfl) rfl) rfl fun ac hs => ?_
    refine s_q hs (c_extract (hs.ev rfl) rfl) rfl fun ac hs => ?_
    refine s_q hs (c_extract (hs.ev rfl) rfl) rfl fun ac hs => ?_
    refine s_alloc hs ty22 rfl fun ac ww g15 hs => ?_
    refine s_storeW (i := 0) hs ty22 rfl rfl rfl (by rw [List.length_map, (foldB_length hll)]) (all_map_B _) rfl fun ww hs => ?_
    refine s_q hs (c_assign (hs.ev rfl)) rfl fun ac hs => ?_
    refine s_q hs (c_assign (hs.ev rfl)) rfl fun ac hs => ?_
    refine s_end ?_
    replace hs := hs.sub (F' := [(10, _), (14, _), (15, _), (17, _)]) ⟨rfl, rfl, rfl, rfl, trivial⟩
    refine then_n ?_
    refine wp_seq ?_
    refine wp_reg ?_
    refine s_q hs (c_move (hs.ev rfl)) rfl fun ac hs => ?_
    refine s_q hs (c_eqlI (hs.ev rfl) (hs.ev rfl)) rfl fun ac hs => ?_
    refine s_q hs (c_move (hs.ev rfl)) rfl fun ac hs => ?_
    refine s_g hs rfl rfl (fun hg => c_loadW ty22 rfl (hs.ev rfl) (hs.seg (i := 0) rfl) (by rw [List.length_map, (foldB_length hll)])) rfl fun ac hs => ?_
    refine s_g hs rfl rfl (fun hg => c_loadW ty22 rfl (hs.ev rfl) (hs.seg (i := 3) rfl) (by rw [List.length_map, hrt])) rfl fun ac hs => ?_
    refine s_g hs rfl rfl (fun hg => c_eqlAB un22 ty5 eg22 (gev (hs.ev rfl) hg) (gev (hs.ev rfl) hg) (foldB_length hll) hrt) rfl fun ac hs => ?_
    refine s_q hs (c_and (hs.ev rfl) (hs.ev rfl)) rfl fun ac hs => ?_
    refine s_q hs (c_assign (hs.ev rfl)) rfl fun ac hs => ?_
    refine s_end ?_
    replace hs := hs.sub (F' := [(14, _)]) ⟨rfl, trivial⟩
    refine then_n ?_
    refine wp_ret ?_
    refine s_ret hs rfl (.tmp (hs.tmp rfl) .nil) rfl ⟨_, rfl, hs.fr, ?_⟩
    show Value.bool _ = Value.bool _
    rw [chkB, decide_eq_true heq]
    by_cases h1 : foldE i m = 0 <;> simp [h1]
end Go.Proofs.Ytmgnnclkjkbmdaa
end

section
/- Laws of keyed sums, walked: what holds. -/
set_option linter.unusedSimpArgs false
set_option linter.unusedVariables false
set_option maxRecDepth 100000
namespace Go.Proofs.Ytmgnnclkjkbmdaa
open Go Go.Fw
open Sha
theorem or_zero_iff (a b : UInt8) : a ||| b = 0 ↔ a = 0 ∧ b = 0 := by
  constructor
  · intro h
    have h1 := congrArg UInt8.toNat h
    rw [UInt8.toNat_or] at h1
    have h2 : a.toNat ||| b.toNat = 0 := h1
    have h3 := Nat.or_eq_zero_iff.1 h2
    exact ⟨UInt8.toNat_inj.1 (by simpa using h3.1), UInt8.toNat_inj.1 (by simpa using h3.2)⟩
  · rintro ⟨rfl, rfl⟩; rfl
theorem diff_step (a b : List UInt8) (k : Nat) (ha : k < a.length) (hb : k < b.length) (x : UInt8) (h : x = 0 ↔ a.take k = b.take k) :
    (x ||| (a.getD k 0 ^^^ b.getD k 0)) = 0 ↔ a.take (k + 1) = b.take (k + 1) := by
  have e1 : a.getD k 0 = a[k] := by simp [List.getD, ha]
  have e2 : b.getD k 0 = b[k] := by simp [List.getD, hb]
  rw [or_zero_iff, h, UInt8.xor_eq_zero_iff, e1, e2, List.take_succ_eq_append_getElem ha, List.take_succ_eq_append_getElem hb]
  constructor
  · rintro ⟨h1, h2⟩; rw [h1, h2]
  · intro h1
    have h2 := List.append_inj h1 (by simp; omega)
    exact ⟨h2.1, by simpa using h2.2⟩
set_option maxHeartbeats 4000000 in
theorem mac_Equal (a b : List UInt8) (av bv : Value) (w : World) (hqa : RdB w av a) (hqb : RdB w bv b) : Ctr Try.prog 111 [av, bv] w (fun _ => False) (fun v _ => v = .bool (decide (a = b))) := by
  have hal := hqa.le
  have hbl := hqb.le
  obtain ⟨aad, acap, rfl, hac, ham⟩ := Rd.sl hqa
  obtain ⟨bad, bcap, rfl, hbc, hbm⟩ := Rd.sl hqb
  refine fn_start (N := 31) Try.func111 rfl rfl rfl fun ac hk => ?_
  have hs := St.start hk w
  refine wp_seq ?_
  refine wp_reg ?_
  refine s_q hs (c_assign (hs.ev rfl)) rfl fun ac hs => ?_
  refine s_end ?_
  refine then_n ?_
  refine wp_seq ?_
  refine wp_seq ?_
  refine wp_reg ?_
  refine s_q hs (c_move (hs.ev rfl)) rfl fun ac hs => ?_
  refine s_q hs (c_lenS un34 (hs.ev rfl)) rfl fun ac hs => ?_
  refine s_q hs (c_move (hs.ev rfl)) rfl fun ac hs => ?_
  refine s_q hs (c_lenS un34 (hs.ev rfl)) rfl fun ac hs => ?_
  refine s_q hs (c_neqI (hs.ev rfl) (hs.ev rfl)) rfl fun ac hs => ?_
  refine s_end ?_
  replace hs := hs.sub (F' := [(0, _), (1, _), (4, _), (11, _)]) ⟨rfl, rfl, rfl, rfl, trivial⟩
  refine then_n ?_
  refine s_cond hs rfl (fun hc => ?_) (fun hc => ?_)
  · try simp only [decide_eq_true_eq, decide_eq_false_iff_not, Bool.not_eq_true', Bool.not_eq_false', Bool.and_eq_true, Bool.or_eq_true, Bool.or_eq_false_iff] at hc
    have hne : a ≠ b := fun e => by subst e; simp at hc
    refine wp_seq ?_
    refine wp_reg ?_
    refine s_q hs (c_assign (hs.ev rfl)) rfl fun ac hs => ?_
    refine s_end ?_
    replace hs := hs.sub (F' := [(0, _), (1, _), (4, _)]) ⟨rfl, rfl, rfl, trivial⟩
    refine then_n ?_
    refine wp_ret ?_
    refine then_r ?_
    refine s_ret hs rfl (.tmp (hs.tmp rfl) .nil) rfl ⟨_, rfl, hs.fr, ?_⟩
    show Value.bool false = _
    rw [decide_eq_false hne]
  · try simp only [decide_eq_true_eq, decide_eq_false_iff_not, Bool.not_eq_true', Bool.not_eq_false', Bool.and_eq_true, Bool.or_eq_true, Bool.or_eq_false_iff] at hc
    have hlen : a.length = b.length := Int.ofNat_inj.1 (by simpa using hc)
    refine wp_skip ?_
    refine then_n ?_
    refine wp_seq ?_
    refine wp_reg ?_
    refine s_q hs (c_assign (St.ev (v := B 0) hs rfl)) rfl fun ac hs => ?_
    refine s_end ?_
    replace hs := hs.sub (F' := [(0, _), (1, _), (4, _), (5, _)]) ⟨rfl, rfl, rfl, rfl, trivial⟩
    refine then_n ?_
    refine wp_seq ?_
    refine wp_seq ?_
    refine wp_reg ?_
    refine s_q hs (c_move (hs.ev rfl)) rfl fun ac hs => ?_
    refine s_q hs (c_lenS un34 (hs.ev rfl)) rfl fun ac hs => ?_
    refine s_q hs (c_move (hs.ev rfl)) rfl fun ac hs => ?_
    refine s_end ?_
    replace hs := hs.sub (F' := [(0, _), (1, _), (4, _), (5, _), (13, _), (14, _)]) ⟨rfl, rfl, rfl, rfl, rfl, rfl, trivial⟩
    refine then_n ?_
    refine wp_block ?_
    refine s_loop hs (X := Nat × UInt8) (fun x => [(5, B x.2), (14, I x.1)]) [(0, _), (1, _), (4, _), (13, _)] (fun _ => []) (fun n x => x.1 ≤ a.length ∧ n = a.length - x.1 ∧ (x.2 = 0 ↔ a.take x.1 = b.take x.1)) (a.length) ((0, 0)) (⟨Nat.zero_le _, rfl, by simp⟩) ⟨rfl, rfl, rfl, rfl, rfl, rfl, trivial⟩ rfl ?_
    rintro n ⟨k, x⟩ ac ww hok hs
    simp only [List.cons_append, List.nil_append] at hs
    obtain ⟨hk, rfl, hx⟩ := hok
    simp only at hk hx hs
    refine wp_seq ?_
    refine wp_reg ?_
    refine s_q hs (c_lssI (hs.ev rfl) (hs.ev rfl)) rfl fun ac hs => ?_
    refine s_end ?_
    refine then_n ?_
    refine wp_seq ?_
    refine s_cond hs rfl (fun hc => ?_) (fun hc => ?_)
    · try simp only [decide_eq_true_eq, decide_eq_false_iff_not, Bool.not_eq_true', Bool.not_eq_false', Bool.and_eq_true, Bool.or_eq_true, Bool.or_eq_false_iff] at hc
      obtain ⟨pb, po, pT, pf, pall, rfl, hpb, hps⟩ := hqa.at' (by omega)
      obtain ⟨rb, ro, rT, rf, rall, rfl, hrb, hrs⟩ := hqb.at' (by omega)
      refine wp_skip ?_
      refine then_n ?_
      refine wp_seq ?_
      refine wp_block ?_
      refine wp_seq ?_
      refine wp_reg ?_
      refine s_q hs (c_move (hs.ev rfl)) rfl fun ac hs => ?_
      refine s_q hs (c_assign (hs.ev rfl)) rfl fun ac hs => ?_
      refine s_end ?_
      refine then_n ?_
      refine wp_region_rg pmix 12 (by kernel_rfl) rfl hs ?_
      simp only [List.take_succ_cons, List.take_zero]
      refine rg_q (fun ac ww h => c_move (h.ev rfl)) rfl ?_
      refine rg_q (fun ac ww h => c_move (h.ev rfl)) rfl ?_
      refine rg_q (fun ac ww h => c_move (h.ev rfl)) rfl ?_
      refine rg_q (fun ac ww h => c_idxS (j := k) un34 ty5 (h.ev rfl) (h.ev rfl) (by omega) (by omega)) rfl ?_
      refine rg_q (fun ac ww h => c_loadS un5 rfl (h.ev rfl) (h.blk (hs.old hpb id)) (seg_get 0 hps (by omega))) rfl ?_
      refine rg_q (fun ac ww h => c_move (h.ev rfl)) rfl ?_
      refine rg_q (fun ac ww h => c_move (h.ev rfl)) rfl ?_
      refine rg_q (fun ac ww h => c_idxS (j := k) un34 ty5 (h.ev rfl) (h.ev rfl) (by omega) (by omega)) rfl ?_
      refine rg_q (fun ac ww h => c_loadS un5 rfl (h.ev rfl) (h.blk (hs.old hrb id)) (seg_get 0 hrs (by omega))) rfl ?_
      refine rg_q (fun ac ww h => c_xorB (h.ev rfl) (h.ev rfl)) rfl ?_
      refine rg_q (fun ac ww h => c_orB (h.ev rfl) (h.ev rfl)) rfl ?_
      refine rg_q (fun ac ww h => c_assign (h.ev rfl)) rfl ?_
      refine rg_nil fun ac ww L' hf hfe hs => ?_
      simp only [List.drop_succ_cons, List.drop_zero]
      obtain rfl : L' = [] := hfe
      replace hs := hs.toL (List.nil_append _)
      refine s_end ?_
      refine blk_n ?_
      refine then_n ?_
      refine wp_reg ?_
      refine s_q hs (c_addI (hs.ev rfl) (hs.ev rfl) (by omega) (by omega)) rfl fun ac hs => ?_
      refine s_q hs (c_move (hs.ev rfl)) rfl fun ac hs => ?_
      refine s_end ?_
      refine then_n ?_
      exact ⟨a.length - (k + 1), by (try simp only); omega, (k + 1, _), ⟨by (try simp only); omega, rfl, diff_step a b k (by omega) (by omega) x hx⟩, St.next hs ⟨rfl, rfl, rfl, rfl, rfl, rfl, trivial⟩ rfl⟩
    · try simp only [decide_eq_true_eq, decide_eq_false_iff_not, Bool.not_eq_true', Bool.not_eq_false', Bool.and_eq_true, Bool.or_eq_true, Bool.or_eq_false_iff] at hc
      obtain rfl : k = a.length := by omega
      rw [List.take_length, hlen, List.take_length] at hx
      refine wp_exit ?_
      refine then_e ?_
      refine then_e ?_
      refine blk_hit ?_
      refine then_n ?_
      refine wp_seq ?_
      refine wp_reg ?_
      refine s_q hs (c_move (hs.ev rfl)) rfl fun ac hs => ?_
      refine s_q hs (c_eqlB (hs.ev rfl) (St.ev (v := B 0) hs rfl)) rfl fun ac hs => ?_
      refine s_q hs (c_assign (hs.ev rfl)) rfl fun ac hs => ?_
      refine s_end ?_
      replace hs := hs.sub (F' := [(4, _)]) ⟨rfl, trivial⟩
      refine then_n ?_
      refine wp_ret ?_
      refine s_ret hs rfl (.tmp (hs.tmp rfl) .nil) rfl ⟨_, rfl, hs.fr, ?_⟩
      show Value.bool _ = Value.bool _
      refine congrArg Value.bool ?_
      by_cases e : a = b
      · rw [hx.2 e]; simp [e]
      · have := fun h => e (hx.1 h)
        simp [e]
        exact this
end Go.Proofs.Ytmgnnclkjkbmdaa
end

section
/- Laws of keyed sums, walked: picking. -/
set_option linter.unusedSimpArgs false
set_option linter.unusedVariables false
set_option maxRecDepth 100000
namespace Go.Proofs.Ytmgnnclkjkbmdaa
open Go Go.Fw
open Sha
set_option maxHeartbeats 4000000 in
theorem mac_Same (a b : List UInt8) (ha : a.length = 16) (hb : b.length = 16) (w : World)  : Ctr Try.prog 112 [.agg (a.map B).toArray, .agg (b.map B).toArray] w (fun _ => False) (fun v _ => v = .bool (decide (a = b))) := by
  refine fn_start (N := 8) Try.func112 rfl rfl rfl fun ac hk => ?_
  have hs := St.start hk w
  refine wp_seq ?_
  refine wp_reg ?_
  refine s_box hs rfl rfl rfl fun ac ww g2 hs => ?_
  refine s_box hs rfl rfl rfl fun ac ww g3 hs => ?_
  refine s_q hs (c_assign (hs.ev rfl)) rfl fun ac hs => ?_
  refine s_end ?_
  replace hs := hs.sub (F' := [(2, _), (3, _), (4, _)]) ⟨rfl, rfl, rfl, trivial⟩
  refine then_n ?_
  refine wp_seq ?_
  refine wp_region_rg pmix 2 (by kernel_rfl) rfl hs ?_
  simp only [List.take_succ_cons, List.take_zero]
  refine rg_q (fun ac ww h => c_sliceA un54 ty5 (h.ev rfl)) rfl ?_
  refine rg_q (fun ac ww h => c_sliceA un54 ty5 (h.ev rfl)) rfl ?_
  refine rg_nil fun ac ww L' hf hfe hs => ?_
  simp only [List.drop_succ_cons, List.drop_zero]
  obtain rfl : L' = [] := hfe
  replace hs := hs.toL (List.nil_append _)
  refine s_call hs fu111 (.cons (hs.ev rfl) (.cons (hs.ev rfl) .nil)) (mac_Equal a b _ _ _ (RdB.segn (hs.seg (i := 1) rfl) ha (by decide)) (RdB.segn (hs.seg (i := 0) rfl) hb (by decide))) rfl fun ac ww v7 hf hp hs => ?_
  obtain rfl := hp
  replace hs := hs [] (.nil _ _)
  refine s_q hs (c_assign (hs.ev rfl)) rfl fun ac hs => ?_
  refine s_end ?_
  replace hs := hs.sub (F' := [(4, _)]) ⟨rfl, trivial⟩
  refine then_n ?_
  refine wp_ret ?_
  refine s_ret hs rfl (.tmp (hs.tmp rfl) .nil) rfl ⟨_, rfl, hs.fr, ?_⟩
  rfl
end Go.Proofs.Ytmgnnclkjkbmdaa
end

section
/- Folds of groves. -/
set_option linter.unusedSimpArgs false
set_option linter.unusedVariables false
set_option maxRecDepth 100000
namespace Go.Proofs.Ytmgnnclkjkbmdaa
open Go Go.Fw
open Sha
set_option maxHeartbeats 4000000 in
theorem grove_Fold (d : Int) (ep : UInt32) (i : Int) (m : Nat) (l ws : List UInt8) (wv : Value) (hll : l.length = 16) (hwl : ws.length = m * 16) (w : World) (hqw : Rd w wv m (ws.map B)) : Ctr Try.prog 115 [I d, U ep, I i, .agg (l.map B).toArray, wv] w (fun _ => False) (fun v _ => v = .tuple #[.agg ((foldB d ep i l ws m).map B).toArray, I (foldE i m)]) := by
  have hml := hqw.le
  obtain ⟨wad, wcap, rfl, hwc, hwm⟩ := Rd.sl hqw
  refine fn_start (N := 56) Try.func115 rfl rfl rfl fun ac hk => ?_
  have hs := St.start hk w
  refine wp_seq ?_
  refine wp_reg ?_
  refine s_box hs rfl rfl rfl fun ac ww g8 hs => ?_
  refine s_alloc hs ty54 rfl fun ac ww g10 hs => ?_
  refine s_q hs (c_assign (hs.ev rfl)) rfl fun ac hs => ?_
  refine s_end ?_
  replace hs := hs.sub (F' := [(0, _), (1, _), (2, _), (4, _), (8, _), (10, _), (11, _)]) ⟨rfl, rfl, rfl, rfl, rfl, rfl, rfl, trivial⟩
  refine then_n ?_
  refine wp_seq ?_
  refine wp_seq ?_
  refine wp_reg ?_
  refine s_q hs (c_move (hs.ev rfl)) rfl fun ac hs => ?_
  refine s_q hs (c_lssI (hs.ev rfl) (hs.ev rfl)) rfl fun ac hs => ?_
  refine s_q hs (c_move (hs.ev rfl)) rfl fun ac hs => ?_
  refine s_g hs rfl rfl (fun hg => c_move (hs.ev rfl)) rfl fun ac hs => ?_
  refine s_g hs rfl rfl (fun hg => c_lenS un110 (gev (hs.ev rfl) hg)) rfl fun ac hs => ?_
  refine s_g hs rfl rfl (fun hg => c_gtrI (gev (hs.ev rfl) hg) (hs.ev rfl)) rfl fun ac hs => ?_
  refine s_q hs (c_or (hs.ev rfl) (hs.ev rfl)) rfl fun ac hs => ?_
  refine s_q hs (c_move (hs.ev rfl)) rfl fun ac hs => ?_
  refine s_g hs rfl rfl (fun hg => c_move (hs.ev rfl)) rfl fun ac hs => ?_
  refine s_g hs rfl rfl (fun hg => c_move (hs.ev rfl)) rfl fun ac hs => ?_
  refine s_g hs rfl rfl (fun hg => c_lenS un110 (gev (hs.ev rfl) hg)) rfl fun ac hs => ?_
  refine s_g hs rfl rfl (fun hg => c_shlI (hs.ev rfl) (gev (hs.ev rfl) hg) (by have h7 : m ≤ 6 := (by simp at hg; omega); omega) (by have h7 : m ≤ 6 := (by simp at hg; omega); have := pow_pos m; rw [Int.one_mul]; omega) (by have h7 : m ≤ 6 := (by simp at hg; omega); have := pow_le64 m (by omega); rw [Int.one_mul]; omega)) rfl fun ac hs => ?_
  refine s_g hs rfl rfl (fun hg => c_geqI (gev (hs.ev rfl) hg) (gev (hs.ev rfl) hg)) rfl fun ac hs => ?_
  refine s_q hs (c_or (hs.ev rfl) (hs.ev rfl)) rfl fun ac hs => ?_
  refine s_end ?_
  replace hs := hs.sub (F' := [(0, _), (1, _), (2, _), (4, _), (8, _), (10, _), (11, _), (29, _)]) ⟨rfl, rfl, rfl, rfl, rfl, rfl, rfl, rfl, trivial⟩
  refine then_n ?_
  refine s_cond hs rfl (fun hc => ?_) (fun hc => ?_)
  · try simp only [decide_eq_true_eq, decide_eq_false_iff_not, Bool.not_eq_true', Bool.not_eq_false', Bool.and_eq_true, Bool.or_eq_true, Bool.or_eq_false_iff] at hc
    have hno : ¬ foldOk i m = true := fold_bad (by omega)
    refine wp_seq ?_
    refine wp_reg ?_
    refine s_q hs (c_buildA ty54 un54 ty5 (zc := (List.replicate 16 (0 : UInt8)).map B) (vs := []) .nil (by simp) (by simp [flatCells]) rfl) rfl fun ac hs => ?_
    refine s_storeW (i := 0) hs ty54 rfl rfl rfl (by simp) (all_map_B _) rfl fun ww hs => ?_
    refine s_q hs (c_assign (hs.ev rfl)) rfl fun ac hs => ?_
    refine s_end ?_
    replace hs := hs.sub (F' := [(0, _), (1, _), (2, _), (4, _), (8, _), (10, _), (11, _)]) ⟨rfl, rfl, rfl, rfl, rfl, rfl, rfl, trivial⟩
    refine then_n ?_
    refine wp_ret ?_
    refine then_r ?_
    refine s_ret hs rfl (.cell (hs.tmp rfl) (run_loadA ty54 rfl (hs.seg (i := 0) rfl) (List.take_of_length_le (by simp)) (by simp)) (.tmp (hs.tmp rfl) .nil)) rfl ⟨_, rfl, hs.fr, ?_⟩
    show Value.tuple _ = Value.tuple _
    rw [foldB, foldE, if_neg hno, if_neg hno]
    rfl
  · try simp only [decide_eq_true_eq, decide_eq_false_iff_not, Bool.not_eq_true', Bool.not_eq_false', Bool.and_eq_true, Bool.or_eq_true, Bool.or_eq_false_iff] at hc
    have hok1 : foldOk i m = true := fold_good (by omega) (by omega) (by omega)
    obtain ⟨q, rfl⟩ : ∃ q : Nat, i = q := ⟨i.toNat, by omega⟩
    have hm6 : m ≤ 6 := by omega
    have hp64 := pow_le64 m (by omega)
    have hq64 : q < 64 := by omega
    refine wp_skip ?_
    refine then_n ?_
    refine wp_seq ?_
    refine wp_seq ?_
    refine wp_reg ?_
    refine s_q hs (c_move (hs.ev rfl)) rfl fun ac hs => ?_
    refine s_q hs (c_lenS un110 (hs.ev rfl)) rfl fun ac hs => ?_
    refine s_q hs (c_move (hs.ev rfl)) rfl fun ac hs => ?_
    refine s_end ?_
    replace hs := hs.sub (F' := [(0, _), (1, _), (2, _), (8, _), (10, _), (11, _), (31, _), (32, _), (33, _)]) ⟨rfl, rfl, rfl, rfl, rfl, rfl, rfl, rfl, rfl, trivial⟩
    refine then_n ?_
    refine wp_block ?_
    refine s_loop hs (X := Nat) (fun k => [(2, I (q / 2 ^ k : Nat)), (33, I k)]) [(0, _), (1, _), (8, _), (10, _), (11, _), (31, _), (32, _)] (fun k => [_, .seg g8 ((gRise d ep q l ws k).map B) 54]) (fun j k => k ≤ m ∧ j = m - k) (_) (0) (⟨Nat.zero_le _, rfl⟩) ⟨(congrArg (fun z : Nat => some (I z)) (by simp)), rfl, rfl, rfl, rfl, rfl, rfl, rfl, rfl, trivial⟩ rfl ?_
    rintro n k ac ww hok hs
    simp only [List.cons_append, List.nil_append] at hs
    obtain ⟨hk, rfl⟩ := hok
    have hrl := gRise_length (d := d) (ep := ep) (q := q) (ws := ws) hll k
    obtain ⟨qk, hqk⟩ : ∃ qk : Nat, q / 2 ^ k = qk := ⟨_, rfl⟩
    have hqle : qk ≤ q := hqk ▸ Nat.div_le_self _ _
    rw [hqk] at hs
    refine wp_seq ?_
    refine wp_reg ?_
    refine s_q hs (c_lssI (hs.ev rfl) (hs.ev rfl)) rfl fun ac hs => ?_
    refine s_end ?_
    refine then_n ?_
    refine wp_seq ?_
    refine s_cond hs rfl (fun hc => ?_) (fun hc => ?_)
    · try simp only [decide_eq_true_eq, decide_eq_false_iff_not, Bool.not_eq_true', Bool.not_eq_false', Bool.and_eq_true, Bool.or_eq_true, Bool.or_eq_false_iff] at hc
      have hkn : k < m := by omega
      have hcl := chunk_l hwl hkn
      obtain ⟨pb, po, pT, pf, pall, rfl, hpb, hps⟩ := Rd.bytes_at hqw hwl (by omega)
      refine wp_skip ?_
      refine then_n ?_
      refine wp_seq ?_
      refine wp_block ?_
      refine wp_seq ?_
      refine wp_reg ?_
      refine s_q hs (c_move (hs.ev rfl)) rfl fun ac hs => ?_
      refine s_q hs (c_idxS (j := k) un110 ty54 (hs.ev rfl) (hs.ev rfl) (by omega) (by omega)) rfl fun ac hs => ?_
      refine s_q hs (c_loadA ty54 rfl (hs.ev rfl) (hs.old hpb id) (rdpiece hps hwl hkn) (by rw [List.length_map, hcl])) rfl fun ac hs => ?_
      refine s_alloc hs ty54 rfl fun ac ww g13 hs => ?_
      refine s_q hs (c_assign (hs.ev rfl)) rfl fun ac hs => ?_
      refine s_storeW (i := 0) hs ty54 rfl rfl rfl (by rw [List.length_map, hcl]) (all_map_B _) rfl fun ww hs => ?_
      refine s_end ?_
      refine then_n ?_
      refine wp_seq ?_
      refine wp_region_rgX (J := [1]) pmix 4 (by kernel_rfl) (by kernel_rfl) rfl rfl hs ?_
      simp only [List.take_succ_cons, List.take_zero]
      refine rg_q (fun ac ww h => c_loadW ty54 rfl (h.ev rfl) (h.blk (hs.seg (i := 2) rfl)) (by rw [List.length_map, hrl])) rfl ?_
      refine rg_q (fun ac ww h => c_loadW ty54 rfl (h.ev rfl) (h.blk (hs.seg (i := 0) rfl)) (by rw [List.length_map, hcl])) rfl ?_
      refine rg_alloc ty54 rfl ?_
      refine rg_alloc ty54 rfl ?_
      refine rg_nil fun ac ww L' hf hfe hs hlk => ?_
      simp only [List.drop_succ_cons, List.drop_zero]
      obtain ⟨v15, L15, M15, h15, e15, ⟨v14, L14, M14, h14, e14, rfl, rfl⟩, rfl⟩ := hfe
      replace hs := hs.add h15
      replace hs := hs.add h14
      obtain ⟨g15, rfl, rfl⟩ := e15
      obtain ⟨g14, rfl, rfl⟩ := e14
      refine sk_storeW (i := 1) hs ty54 rfl rfl rfl (by rw [List.length_map, hrl]) (all_map_B _) rfl (fun ww hs => late_read rfl rfl (hs.know.at_ 39 _ rfl) (c_loadW ty54 rfl (hs.ev rfl) (hs.seg (i := 2) rfl) (by rw [List.length_map, hcl])) (late_nil)) fun ww hs => ?_
      refine s_storeW (i := 0) hs ty54 rfl rfl rfl (by rw [List.length_map, hcl]) (all_map_B _) rfl fun ww hs => ?_
      refine s_end ?_
      refine then_n ?_
      refine wp_seq ?_
      refine wp_seq ?_
      refine wp_reg ?_
      refine s_q hs (c_move (hs.ev rfl)) rfl fun ac hs => ?_
      refine s_q hs (c_remI (hs.ev rfl) (hs.ev rfl) (by omega) (by omega)) rfl fun ac hs => ?_
      refine s_q hs (c_eqlI (hs.ev rfl) (hs.ev rfl)) rfl fun ac hs => ?_
      refine s_end ?_
      refine then_n ?_
      refine s_cond hs rfl (fun hc => ?_) (fun hc => ?_)
      · try simp only [decide_eq_true_eq, decide_eq_false_iff_not, Bool.not_eq_true', Bool.not_eq_false', Bool.and_eq_true, Bool.or_eq_true, Bool.or_eq_false_iff] at hc
        have hstep : gRise d ep q l ws (k + 1) = ofT (aboveX d ep (k + 1 : Nat) (chunk ws k) (gRise d ep q l ws k)) := by rw [gRise, riseN, stepX, hqk, if_pos (by omega)]; rfl
        refine wp_region_rgX (J := [1]) pmix 2 (by kernel_rfl) (by kernel_rfl) rfl rfl hs ?_
        simp only [List.take_succ_cons, List.take_zero]
        refine rg_q (fun ac ww h => c_loadW ty54 rfl (h.ev rfl) (h.blk (hs.seg (i := 2) rfl)) (by rw [List.length_map, hcl])) rfl ?_
        refine rg_q (fun ac ww h => c_loadW ty54 rfl (h.ev rfl) (h.blk (hs.seg (i := 4) rfl)) (by rw [List.length_map, hrl])) rfl ?_
        refine rg_nil fun ac ww L' hf hfe hs hlk => ?_
        simp only [List.drop_succ_cons, List.drop_zero]
        obtain rfl : L' = [] := hfe
        replace hs := hs.toL (List.nil_append _)
        refine sk_storeW (i := 1) hs ty54 rfl rfl rfl (by rw [List.length_map, hcl]) (all_map_B _) (by rw [List.length_map, hrl]) (fun ww hs => late_read rfl rfl (hs.know.at_ 44 _ rfl) (c_loadW ty54 rfl (hs.ev rfl) (hs.seg (i := 4) rfl) (by rw [List.length_map, hrl])) (late_nil)) fun ww hs => ?_
        refine s_storeW (i := 0) hs ty54 rfl rfl rfl (by rw [List.length_map, hrl]) (all_map_B _) (by rw [List.length_map, hcl]) fun ww hs => ?_
        refine s_end ?_
        refine then_n ?_
        refine wp_seq ?_
        refine wp_reg ?_
        refine s_q hs (c_move (hs.ev rfl)) rfl fun ac hs => ?_
        refine s_q hs (c_move (hs.ev rfl)) rfl fun ac hs => ?_
        refine s_q hs (c_move (hs.ev rfl)) rfl fun ac hs => ?_
        refine s_q hs (c_to (c_addI (hs.ev rfl) (hs.ev rfl) (by omega) (by omega)) ((congrArg I (show ((k : Int) + 1 = ((k + 1 : Nat) : Int)) by omega)))) rfl fun ac hs => ?_
        refine s_q hs (c_loadW ty54 rfl (hs.ev rfl) (hs.seg (i := 1) rfl) (by rw [List.length_map, hcl])) rfl fun ac hs => ?_
        refine s_q hs (c_loadW ty54 rfl (hs.ev rfl) (hs.seg (i := 0) rfl) (by rw [List.length_map, hrl])) rfl fun ac hs => ?_
        refine s_call hs fu117 (.cons (hs.ev rfl) (.cons (hs.ev rfl) (.cons (hs.ev rfl) (.cons (hs.ev rfl) (.cons (hs.ev rfl) .nil))))) (grove_Above d ep (k + 1 : Nat) (chunk ws k) (gRise d ep q l ws k) hcl hrl _) rfl fun ac ww v51 hf hp hs => ?_
        obtain rfl := hp
        replace hs := hs [] (.nil _ _)
        refine s_storeW (i := 4) hs ty54 rfl rfl rfl (by simp) (all_map_B _) (by rw [List.length_map, hrl]) fun ww hs => ?_
        refine s_end ?_
        refine then_n ?_
        refine wp_reg ?_
        refine s_q hs (c_move (hs.ev rfl)) rfl fun ac hs => ?_
        refine s_q hs (c_quoI (hs.ev rfl) (hs.ev rfl) (by omega) (by omega) (by omega)) rfl fun ac hs => ?_
        refine s_q hs (c_assign (hs.ev rfl)) rfl fun ac hs => ?_
        refine s_end ?_
        refine blk_n ?_
        refine then_n ?_
        refine wp_reg ?_
        refine s_q hs (c_addI (hs.ev rfl) (hs.ev rfl) (by omega) (by omega)) rfl fun ac hs => ?_
        refine s_q hs (c_move (hs.ev rfl)) rfl fun ac hs => ?_
        refine s_end ?_
        refine then_n ?_
        replace hs := hs.pick (L' := [_, _]) (.cons _ (.cons _ (.cons _ (.refl _))))
        exact ⟨m - (k + 1), by omega, k + 1, ⟨by omega, rfl⟩, St.next hs ⟨(congrArg (fun z => some (I z)) (by rw [half_pow, hqk]; omega)), rfl, rfl, rfl, rfl, rfl, rfl, rfl, rfl, trivial⟩ (by rw [hstep]; try rfl)⟩
      · try simp only [decide_eq_true_eq, decide_eq_false_iff_not, Bool.not_eq_true', Bool.not_eq_false', Bool.and_eq_true, Bool.or_eq_true, Bool.or_eq_false_iff] at hc
        have hstep : gRise d ep q l ws (k + 1) = ofT (aboveX d ep (k + 1 : Nat) (gRise d ep q l ws k) (chunk ws k)) := by rw [gRise, riseN, stepX, hqk, if_neg (by omega)]; rfl
        refine wp_skip ?_
        refine then_n ?_
        refine wp_seq ?_
        refine wp_reg ?_
        refine s_q hs (c_move (hs.ev rfl)) rfl fun ac hs => ?_
        refine s_q hs (c_move (hs.ev rfl)) rfl fun ac hs => ?_
        refine s_q hs (c_move (hs.ev rfl)) rfl fun ac hs => ?_
        refine s_q hs (c_to (c_addI (hs.ev rfl) (hs.ev rfl) (by omega) (by omega)) ((congrArg I (show ((k : Int) + 1 = ((k + 1 : Nat) : Int)) by omega)))) rfl fun ac hs => ?_
        refine s_q hs (c_loadW ty54 rfl (hs.ev rfl) (hs.seg (i := 1) rfl) (by rw [List.length_map, hrl])) rfl fun ac hs => ?_
        refine s_q hs (c_loadW ty54 rfl (hs.ev rfl) (hs.seg (i := 0) rfl) (by rw [List.length_map, hcl])) rfl fun ac hs => ?_
        refine s_call hs fu117 (.cons (hs.ev rfl) (.cons (hs.ev rfl) (.cons (hs.ev rfl) (.cons (hs.ev rfl) (.cons (hs.ev rfl) .nil))))) (grove_Above d ep (k + 1 : Nat) (gRise d ep q l ws k) (chunk ws k) hrl hcl _) rfl fun ac ww v51 hf hp hs => ?_
        obtain rfl := hp
        replace hs := hs [] (.nil _ _)
        refine s_storeW (i := 4) hs ty54 rfl rfl rfl (by simp) (all_map_B _) (by rw [List.length_map, hrl]) fun ww hs => ?_
        refine s_end ?_
        refine then_n ?_
        refine wp_reg ?_
        refine s_q hs (c_move (hs.ev rfl)) rfl fun ac hs => ?_
        refine s_q hs (c_quoI (hs.ev rfl) (hs.ev rfl) (by omega) (by omega) (by omega)) rfl fun ac hs => ?_
        refine s_q hs (c_assign (hs.ev rfl)) rfl fun ac hs => ?_
        refine s_end ?_
        refine blk_n ?_
        refine then_n ?_
        refine wp_reg ?_
        refine s_q hs (c_addI (hs.ev rfl) (hs.ev rfl) (by omega) (by omega)) rfl fun ac hs => ?_
        refine s_q hs (c_move (hs.ev rfl)) rfl fun ac hs => ?_
        refine s_end ?_
        refine then_n ?_
        replace hs := hs.pick (L' := [_, _]) (.cons _ (.cons _ (.cons _ (.refl _))))
        exact ⟨m - (k + 1), by omega, k + 1, ⟨by omega, rfl⟩, St.next hs ⟨(congrArg (fun z => some (I z)) (by rw [half_pow, hqk]; omega)), rfl, rfl, rfl, rfl, rfl, rfl, rfl, rfl, trivial⟩ (by rw [hstep]; try rfl)⟩
    · try simp only [decide_eq_true_eq, decide_eq_false_iff_not, Bool.not_eq_true', Bool.not_eq_false', Bool.and_eq_true, Bool.or_eq_true, Bool.or_eq_false_iff] at hc
      obtain rfl : m = k := by omega
      refine wp_exit ?_
      refine then_e ?_
      refine then_e ?_
      refine blk_hit ?_
      refine then_n ?_
      refine wp_seq ?_
      refine wp_reg ?_
      refine s_q hs (c_loadW ty54 rfl (hs.ev rfl) (hs.seg (i := 1) rfl) (by rw [List.length_map, hrl])) rfl fun ac hs => ?_
      refine s_storeW (i := 0) hs ty54 rfl rfl rfl (by rw [List.length_map, hrl]) (all_map_B _) rfl fun ww hs => ?_
      refine s_q hs (c_assign (hs.ev rfl)) rfl fun ac hs => ?_
      refine s_end ?_
      replace hs := hs.sub (F' := [(10, _), (11, _)]) ⟨rfl, rfl, trivial⟩
      refine then_n ?_
      refine wp_ret ?_
      refine s_ret hs rfl (.cell (hs.tmp rfl) (run_loadA ty54 rfl (hs.seg (i := 0) rfl) (List.take_of_length_le (show (List.map B (gRise d ep q l ws m)).length ≤ 16 by rw [List.length_map, hrl]; exact Nat.le_refl _)) (show (List.map B (gRise d ep q l ws m)).length = 16 by rw [List.length_map, hrl])) (.tmp (hs.tmp rfl) .nil)) rfl ⟨_, rfl, hs.fr, ?_⟩
      show Value.tuple _ = Value.tuple _
      rw [foldB, foldE, if_pos hok1, if_pos hok1]
      rfl
set_option maxHeartbeats 4000000 in
theorem grove_Check (hh : Int) (rt : List UInt8) (hrt : rt.length = 16) (d : Int) (ep : UInt32) (i : Int) (m : Nat) (l ws : List UInt8) (wv : Value) (hll : l.length = 16) (hwl : ws.length = m * 16) (w : World) (hqw : Rd w wv m (ws.map B)) : Ctr Try.prog 119 [I d, U ep, I hh, .agg (rt.map B).toArray, I i, .agg (l.map B).toArray, wv] w (fun _ => False) (fun v _ => v = .bool (chkB d ep hh rt i l ws m)) := by
  have hml := hqw.le
  obtain ⟨wad, wcap, rfl, hwc, hwm⟩ := Rd.sl hqw
  refine fn_start (N := 37) Try.func119 rfl rfl rfl fun ac hk => ?_
  have hs := St.start hk w
  refine wp_seq ?_
  refine wp_reg ?_
  refine s_box hs rfl rfl rfl fun ac ww g10 hs => ?_
  refine s_box hs rfl rfl rfl fun ac ww g12 hs => ?_
  refine s_q hs (c_assign (hs.ev rfl)) rfl fun ac hs => ?_
  refine s_end ?_
  replace hs := hs.sub (F' := [(0, _), (1, _), (2, _), (4, _), (6, _), (10, _), (12, _), (14, _)]) ⟨rfl, rfl, rfl, rfl, rfl, rfl, rfl, rfl, trivial⟩
  refine then_n ?_
  refine wp_seq ?_
  refine wp_seq ?_
  refine wp_reg ?_
  refine s_q hs (c_move (hs.ev rfl)) rfl fun ac hs => ?_
  refine s_q hs (c_lenS un110 (hs.ev rfl)) rfl fun ac hs => ?_
  refine s_q hs (c_move (hs.ev rfl)) rfl fun ac hs => ?_
  refine s_q hs (c_neqI (hs.ev rfl) (hs.ev rfl)) rfl fun ac hs => ?_
  refine s_end ?_
  replace hs := hs.sub (F' := [(0, _), (1, _), (4, _), (6, _), (10, _), (12, _), (14, _), (20, _)]) ⟨rfl, rfl, rfl, rfl, rfl, rfl, rfl, rfl, trivial⟩
  refine then_n ?_
  refine s_cond hs rfl (fun hc => ?_) (fun hc => ?_)
  · try simp only [decide_eq_true_eq, decide_eq_false_iff_not, Bool.not_eq_true', Bool.not_eq_false', Bool.and_eq_true, Bool.or_eq_true, Bool.or_eq_false_iff] at hc
    have hne : ¬ ((m : Int) = hh) := hc
    refine wp_seq ?_
    refine wp_reg ?_
    refine s_q hs (c_assign (hs.ev rfl)) rfl fun ac hs => ?_
    refine s_end ?_
    replace hs := hs.sub (F' := [(0, _), (1, _), (4, _), (6, _), (10, _), (12, _), (14, _)]) ⟨rfl, rfl, rfl, rfl, rfl, rfl, rfl, trivial⟩
    refine then_n ?_
    refine wp_ret ?_
    refine then_r ?_
    refine s_ret hs rfl (.tmp (hs.tmp rfl) .nil) rfl ⟨_, rfl, hs.fr, ?_⟩
    show Value.bool _ = Value.bool _
    rw [chkB, decide_eq_false hne]; rfl
  · try simp only [decide_eq_true_eq, decide_eq_false_iff_not, Bool.not_eq_true', Bool.not_eq_false', Bool.and_eq_true, Bool.or_eq_true, Bool.or_eq_false_iff] at hc
    have heq : (m : Int) = hh := by omega
    refine wp_skip ?_
    refine then_n ?_
    refine wp_seq ?_
    refine wp_reg ?_
    refine s_q hs (c_move (hs.ev rfl)) rfl fun ac hs => ?_
    refine s_q hs (c_move (hs.ev rfl)) rfl fun ac hs => ?_
    refine s_q hs (c_move (hs.ev rfl)) rfl fun ac hs => ?_
    refine s_q hs (c_loadW ty54 rfl (hs.ev rfl) (hs.seg (i := 0) rfl) (by rw [List.length_map, hll])) rfl fun ac hs => ?_
    refine s_q hs (c_move (hs.ev rfl)) rfl fun ac hs => ?_
    refine s_call hs fu115 (.cons (hs.ev rfl) (.cons (hs.ev rfl) (.cons (hs.ev rfl) (.cons (hs.ev rfl) (.cons (hs.ev rfl) .nil))))) (grove_Fold d ep i m l ws _ hll hwl _ (hqw.fr0 hs.fr)) rfl fun ac ww v27 hf hp hs => ?_
    obtain rfl := hp
    replace hs := hs [] (.nil _ _)
    refine s_q hs (c_move (hs.ev rfl)) rfl fun ac hs => ?_
    refine s_q hs (c_extract (hs.ev rfl) rfl) rfl fun ac hs => ?_
    refine s_q hs (c_extract (hs.ev rfl) rfl) rfl fun ac hs => ?_
    refine s_alloc hs ty54 rfl fun ac ww g15 hs => ?_
    refine s_storeW (i := 0) hs ty54 rfl rfl rfl (by rw [List.length_map, (foldB_length hll)]) (all_map_B _) rfl fun ww hs => ?_
    refine s_q hs (c_assign (hs.ev rfl)) rfl fun ac hs => ?_
    refine s_end ?_
    replace hs := hs.sub (F' := [(10, _), (14, _), (15, _), (16, _)]) ⟨rfl, rfl, rfl, rfl, trivial⟩
    refine then_n ?_
    refine wp_seq ?_
    refine wp_reg ?_
    refine s_q hs (c_move (hs.ev rfl)) rfl fun ac hs => ?_
    refine s_q hs (c_eqlI (hs.ev rfl) (hs.ev rfl)) rfl fun ac hs => ?_
    refine s_q hs (c_move (hs.ev rfl)) rfl fun ac hs => ?_
    refine s_g hs rfl rfl (fun hg => c_loadW ty54 rfl (hs.ev rfl) (hs.seg (i := 0) rfl) (by rw [List.length_map, (foldB_length hll)])) rfl fun ac hs => ?_
    refine s_g hs rfl rfl (fun hg => c_loadW ty54 rfl (hs.ev rfl) (hs.seg (i := 2) rfl) (by rw [List.length_map, hrt])) rfl fun ac hs => ?_
    refine s_gcall hs rfl rfl fu112 (fun hg => (.cons (gev (hs.ev rfl) hg) (.cons (gev (hs.ev rfl) hg) .nil))) (fun hg => mac_Same (foldB d ep i l ws m) rt (foldB_length hll) hrt _) rfl fun ac ww hf hs => ?_
    refine s_q hs (c_and (hs.ev rfl) (hs.ev rfl)) rfl fun ac hs => ?_
    refine s_q hs (c_assign (hs.ev rfl)) rfl fun ac hs => ?_
    refine s_end ?_
    replace hs := hs.sub (F' := [(14, _)]) ⟨rfl, trivial⟩
    refine then_n ?_
    refine wp_ret ?_
    refine s_ret hs rfl (.tmp (hs.tmp rfl) .nil) rfl ⟨_, rfl, hs.fr, ?_⟩
    show Value.bool _ = Value.bool _
    rw [chkB, decide_eq_true heq]
    by_cases h1 : foldE i m = 0 <;> simp [h1]
end Go.Proofs.Ytmgnnclkjkbmdaa
end

section
/- Groves of the program. -/
set_option linter.unusedSimpArgs false
set_option linter.unusedVariables false
set_option maxRecDepth 100000
namespace Go.Proofs.Ytmgnnclkjkbmdaa
open Go Go.Fw
open Sha
/-- A level of a grove: how many stand there, and what. -/
def gRow (d : Int) (ep : UInt32) (ls : List UInt8) (lv n : Nat) : Nat × List UInt8 := (2 ^ (lv - n), rows (gNode d ep ls n) (2 ^ (lv - n)))
def groveL (d : Int) (ep : UInt32) (g : Nat) (v : Value) (ps : List (Value × Nat × List UInt8)) : List Ent := [.texts 110 (Ent.partS 54 16) v ps, .seg g [I d, U ep, v] 231]
def groveE (d : Int) (ep : UInt32) (ls : List UInt8) (lv : Nat) : Value → List Ent → World → Prop := fun pv L _ =>
  ∃ g v ps, pv = .pointer (some ⟨g, 0, none⟩) ∧ ps.map (·.2) = (List.range (lv + 1)).map (gRow d ep ls lv) ∧ L = groveL d ep g v ps
/-- A grove that stands in memory. -/
def GroveAt (w : World) (pv : Value) (d : Int) (ep : UInt32) (ls : List UInt8) (lv : Nat) : Prop :=
  ∃ g v ps, pv = .pointer (some ⟨g, 0, none⟩) ∧ ps.map (·.2) = (List.range (lv + 1)).map (gRow d ep ls lv) ∧ Has 0 w (groveL d ep g v ps)
theorem GroveAt.fr0 {w w' : World} {pv : Value} {d : Int} {ep : UInt32} {ls : List UInt8} {lv : Nat} (h : GroveAt w pv d ep ls lv) (hf : Fr0 w w') : GroveAt w' pv d ep ls lv := by
  obtain ⟨g, v, ps, h1, h2, h3⟩ := h
  exact ⟨g, v, ps, h1, h2, h3.fr0 hf⟩
theorem grow_length {d : Int} {ep : UInt32} {ls : List UInt8} {n lv k : Nat} (hls16 : ls.length = 16 * n) (hn : n = 2 ^ lv) (hk : k ≤ lv) : ∀ m, m ≤ 2 ^ (lv - k) → (rows (gNode d ep ls k) m).length = 16 * m := fun m hm =>
  rows_length (N := 2 ^ (lv - k)) (fun q hq => gNode_length hls16 k q (by
    have h1 : (q + 1) * 2 ^ k ≤ 2 ^ (lv - k) * 2 ^ k := Nat.mul_le_mul_right _ (by omega)
    rw [← Nat.pow_add, show lv - k + k = lv by omega, ← hn] at h1
    exact h1)) m hm
theorem gfits {n lv k q : Nat} (hn : n = 2 ^ lv) (hk : k ≤ lv) (hq : q < 2 ^ (lv - k)) : (q + 1) * 2 ^ k ≤ n := by
  have h1 : (q + 1) * 2 ^ k ≤ 2 ^ (lv - k) * 2 ^ k := Nat.mul_le_mul_right _ (by omega)
  rw [← Nat.pow_add, show lv - k + k = lv by omega, ← hn] at h1
  exact h1
theorem gpiece {d : Int} {ep : UInt32} {ls : List UInt8} {n lv k i : Nat} (hls16 : ls.length = 16 * n) (hn : n = 2 ^ lv) (hk : k ≤ lv) (h : i < 2 ^ (lv - k)) : ((rows (gNode d ep ls k) (2 ^ (lv - k))).drop (i * 16)).take 16 = gNode d ep ls k i := by
  have := rows_chunk (f := gNode d ep ls k) (N := 2 ^ (lv - k)) (fun c hc => gNode_length hls16 k c (gfits hn hk hc)) (2 ^ (lv - k)) (Nat.le_refl _) i h
  rw [chunk, Nat.mul_comm] at this
  exact this
theorem rows_all (d : Int) (ep : UInt32) (ls : List UInt8) : ∀ k, rows (gNode d ep ls 0) k = ls.take (16 * k)
  | 0 => by simp [rows]
  | k + 1 => by rw [rows_succ, rows_all d ep ls k, take_chunk]; rfl
theorem tv_one {n sz : Nat} {v : Value} {xs : List Value} {T : TypeId} {w : World} (h : w.ownsRow 0 T sz v n xs) : v.oneCell' = true := by
  rcases h.2 with ⟨rfl, _⟩ | ⟨g, cap, cur, rfl, _⟩ <;> rfl
/-- What is found in it. -/
theorem GroveAt.look {w : World} {pv : Value} {d : Int} {ep : UInt32} {ls : List UInt8} {n lv : Nat} (h : GroveAt w pv d ep ls lv) (hls16 : ls.length = 16 * n) (hnk : n = 2 ^ lv) :
    ∃ g og ocap ocur, pv = .pointer (some ⟨g, 0, none⟩) ∧ w.heap[g]? = some (.cells [I d, U ep, .slice (some ⟨og, 0, none⟩) (lv + 1) ocap].toArray 231 (0, 0)) ∧ w.heap[og]? = some (.cells ocur 110 (0, 0)) ∧ lv + 1 ≤ ocap ∧
      ∀ k, k ≤ lv → ∃ rg rcap rcur, ocur.toList[0 + k * 1]? = some (.slice (some ⟨rg, 0, none⟩) (2 ^ (lv - k)) rcap) ∧ w.heap[rg]? = some (.cells rcur 54 (0, 0)) ∧ ∀ i, i < 2 ^ (lv - k) → (rcur.toList.drop (0 + i * 16)).take 16 = (gNode d ep ls k i).map B := by
  obtain ⟨g, v, ps, h1, hps, hh⟩ := h
  have hpl : ps.length = lv + 1 := by have := congrArg List.length hps; simpa using this
  have hT : (Ent.texts 110 (Ent.partS 54 16) v ps).holds w := hh.holds _ (by simp [groveL])
  obtain ⟨og, ocap, ocur, rfl, hog, hon, hom, hot⟩ := texts_at hT (by omega)
  have hg : (Ent.seg g [I d, U ep, .slice (some ⟨og, 0, none⟩) ps.length ocap] 231).holds w := hh.holds _ (by simp [groveL])
  rw [hpl] at hg
  refine ⟨g, og, ocap, ocur, h1, hg, hog, by omega, fun k hk => ?_⟩
  have hz := snd_at hps (show k < lv + 1 by omega) (.nilIface, 0, [])
  have ho : w.ownsRow 0 54 16 (ps.getD k (.nilIface, 0, [])).1 (ps.getD k (.nilIface, 0, [])).2.1 ((ps.getD k (.nilIface, 0, [])).2.2.map B) := texts_part hT (k := k) (by omega) (.nilIface, 0, [])
  rw [hz] at ho
  simp only [gRow] at ho
  obtain ⟨rg, rcap, rcur, hre, hrg, hrn, hrm, hrt⟩ := owns_at ho (pow_pos' _)
  refine ⟨rg, rcap, rcur, (outcell (.nilIface, 0, []) hot (by omega)).trans (congrArg some hre), hrg, fun i hi => ?_⟩
  exact (rowpiece hrt (by rw [grow_length hls16 hnk hk _ (Nat.le_refl _)]; omega) hi).trans (by rw [gpiece hls16 hnk hk hi])
set_option maxHeartbeats 4000000 in
theorem grove_New (d : Int) (ep : UInt32) (ls : List UInt8) (n lv : Nat) (av : Value) (hls : ls.length = n * 16) (hk6 : lv ≤ 6) (hnk : n = 2 ^ lv) (hxl : height n = lv) (w : World) (hq : Rd w av n (ls.map B)) : Ctr Try.prog 94 [I d, U ep, av] w (fun _ => False) (outE (tupG [] [I 0] (groveE d ep ls lv)) w) := by
  have hls16 : ls.length = 16 * n := by omega
  have h64 := pow64 hk6
  obtain ⟨lad, lcap, rfl, hlc, hlm⟩ := Rd.sl hq
  refine fn_start (N := 77) Try.func94 rfl rfl rfl fun ac hk => ?_
  have hs := St.start hk w
  refine wp_seq ?_
  refine wp_reg ?_
  refine s_q hs (c_assign (hs.ev rfl)) rfl fun ac hs => ?_
  refine s_q hs (c_assign (hs.ev rfl)) rfl fun ac hs => ?_
  refine s_end ?_
  refine then_n ?_
  refine wp_seq ?_
  refine wp_seq ?_
  refine wp_reg ?_
  refine s_q hs (c_move (hs.ev rfl)) rfl fun ac hs => ?_
  refine s_q hs (c_lenS un110 (hs.ev rfl)) rfl fun ac hs => ?_
  refine s_call hs fu95 (.cons (hs.ev rfl) .nil) ((by have h := grove_Height (n : Int) w; rw [hxl] at h; exact h)) rfl fun ac ww v15 hf hp hs => ?_
  obtain rfl := hp
  replace hs := hs [] (.nil _ _)
  refine s_q hs (c_ff (c_lssI (hs.ev rfl) (hs.ev rfl)) (by simp; try omega)) rfl fun ac hs => ?_
  refine s_end ?_
  replace hs := hs.sub (F' := [(0, _), (1, _), (2, _), (6, _), (7, _), (16, _)]) ⟨rfl, rfl, rfl, rfl, rfl, rfl, trivial⟩
  refine then_n ?_
  refine wp_cond_false (hs.ev rfl) ?_
  refine wp_skip ?_
  refine then_n ?_
  refine wp_seq ?_
  refine wp_reg ?_
  refine s_q hs (c_move (hs.ev rfl)) rfl fun ac hs => ?_
  refine s_q hs (c_move (hs.ev rfl)) rfl fun ac hs => ?_
  refine s_q hs (c_buildS ty231 bp231 (.cons (hs.ev rfl) (.cons (hs.ev rfl) .nil)) ⟨rfl, rfl, trivial⟩ (by simp [flatCells, Value.cells]) rfl) rfl fun ac hs => ?_
  refine s_box hs rfl (show _ = [I d, U ep, .slice none 0 0].toArray from rfl) rfl fun ac ww g20 hs => ?_
  refine s_q hs (c_assign (hs.ev rfl)) rfl fun ac hs => ?_
  refine s_end ?_
  replace hs := hs.sub (F' := [(0, _), (1, _), (2, _), (6, _), (7, _), (8, _)]) ⟨rfl, rfl, rfl, rfl, rfl, rfl, trivial⟩
  refine then_n ?_
  refine wp_seq ?_
  refine wp_reg ?_
  refine s_bslice hs un110 ty54 .nil rfl (by simp [Value.cells]) (by decide) rfl rfl fun ac ww g21 hs => ?_
  refine s_q hs (c_move (hs.ev rfl)) rfl fun ac hs => ?_
  replace hs := hs.segrow (i := 0) (n := 0) (sz := 16) rfl rfl (by decide)
  refine s_append (i := 0) hs un110 ty54 (by decide) rfl rfl rfl (hq.fr0 hs.fr) (by rw [List.length_map, hls]) (all_map_B _) (by unfold maxLen; omega) (by omega) rfl fun ac ww v23 hf hnil hs => ?_
  rw [Nat.zero_add, List.nil_append] at hs
  have ho0 : ww.ownsRow 0 54 16 v23 n (ls.map B) := hs.get (i := 0) rfl
  obtain ⟨rg0, rcap0, rcur0, rfl, _⟩ := owns_at ho0 (by rw [hnk]; exact pow_pos' _)
  refine s_q hs (c_assign (hs.ev rfl)) rfl fun ac hs => ?_
  refine s_end ?_
  replace hs := hs.sub (F' := [(0, _), (1, _), (6, _), (7, _), (8, _), (9, _)]) ⟨rfl, rfl, rfl, rfl, rfl, rfl, trivial⟩
  refine then_n ?_
  refine wp_seq ?_
  refine wp_reg ?_
  refine s_q hs (c_move (hs.ev rfl)) rfl fun ac hs => ?_
  refine s_q hs (c_move (hs.ev rfl)) rfl fun ac hs => ?_
  refine s_q hs (c_nil (hs.ev rfl)) rfl fun ac hs => ?_
  refine s_q hs (c_fld fl231_2 (hs.ev rfl)) rfl fun ac hs => ?_
  refine s_q hs (c_loadS un222 rfl (hs.ev rfl) (hs.seg (i := 1) rfl) rfl) rfl fun ac hs => ?_
  refine s_q hs (c_move (hs.ev rfl)) rfl fun ac hs => ?_
  refine s_bslice hs un222 ty110 (.cons (hs.ev rfl) .nil) rfl (by simp [Value.cells]) (by decide) rfl rfl fun ac ww g30 hs => ?_
  replace hs := hs.texts0 110 (Ent.partS 54 16)
  refine s_appP (i := 0) (j := 2) (pt := Ent.partS 54 16) (z := (n, ls)) hs un222 ty110 rfl rfl rfl rfl rfl (hs.seg (i := 1) rfl) (tv_one (hs.get (i := 2) rfl)) (by simp) rfl fun ac ww v31 hs => ?_
  obtain ⟨og31, oc31, _, hv31, _⟩ := texts_at (hs.get (i := 0) rfl) (by simp)
  subst hv31
  refine s_q hs (c_nil (hs.ev rfl)) rfl fun ac hs => ?_
  refine s_q hs (c_fld fl231_2 (hs.ev rfl)) rfl fun ac hs => ?_
  refine s_store (i := 3) hs ty222 rfl rfl rfl rfl (by rfl) (by rfl) (by simp) rfl fun ww hs => ?_
  refine s_end ?_
  replace hs := hs.pick (L' := [_, _]) (.cons_cons _ (.cons _ (.cons _ (.cons_cons _ (List.nil_sublist _)))))
  replace hs := hs.sub (F' := [(0, _), (1, _), (6, _), (7, _), (8, _), (9, _)]) ⟨rfl, rfl, rfl, rfl, rfl, rfl, trivial⟩
  refine then_n ?_
  refine wp_seq ?_
  refine wp_seq ?_
  refine wp_reg ?_
  refine s_q hs (c_assign (hs.ev rfl)) rfl fun ac hs => ?_
  refine s_end ?_
  refine then_n ?_
  refine wp_block ?_
  refine s_loop hs (X := Nat × Nat × Value × Value × List (Value × Nat × List UInt8)) (fun x => [(9, x.2.2.1), (10, I ((x.1 + 1 : Nat) : Int))]) [(0, _), (1, _), (6, _), (7, _), (8, _)] (fun x => [.texts 110 (Ent.partS 54 16) x.2.2.2.1 x.2.2.2.2, .seg g20 [I d, U ep, x.2.2.2.1] 231]) (fun j x => x.1 ≤ lv ∧ j = lv - x.1 ∧ x.2.1 = 2 ^ (lv - x.1) ∧ x.2.2.2.2.map (·.2) = (List.range (x.1 + 1)).map (gRow d ep ls lv) ∧ (x.2.2.2.2.getD x.1 (.nilIface, 0, [])).1 = x.2.2.1) (_) ((0, n, _, _, [(_, n, ls)])) (⟨Nat.zero_le _, rfl, hnk, by simp [gRow, rows_all, ← hnk, ← hls16], rfl⟩) ⟨rfl, rfl, rfl, rfl, rfl, rfl, rfl, trivial⟩ rfl ?_
  rintro n ⟨k, m, rv, ov, ps⟩ ac ww hok hs
  simp only [List.cons_append, List.nil_append] at hs
  obtain ⟨hn, rfl, hm, hps, hrv⟩ := hok
  simp only at hn hm hps hrv hs
  have hpl : ps.length = k + 1 := by have := congrArg List.length hps; simpa using this
  have hz := snd_at hps (Nat.lt_succ_self k) (.nilIface, 0, [])
  have ho : ww.ownsRow 0 54 16 (ps.getD k (.nilIface, 0, [])).1 (ps.getD k (.nilIface, 0, [])).2.1 ((ps.getD k (.nilIface, 0, [])).2.2.map B) := texts_part (hs.get (i := 0) rfl) (k := k) (by omega) (.nilIface, 0, [])
  rw [hrv, hz] at ho
  simp only [gRow, ← hm] at ho
  have hmp : 0 < m := by rw [hm]; exact pow_pos' _
  have hm64 : m ≤ 64 := by rw [hm]; exact pow64 (by omega)
  obtain ⟨rg, rcap, rcur, rfl, hrg, hrn, hrm, hrt⟩ := owns_at ho hmp
  refine wp_seq ?_
  refine wp_seq ?_
  refine wp_reg ?_
  refine s_q hs (c_move (hs.ev rfl)) rfl fun ac hs => ?_
  refine s_q hs (c_lenS un110 (hs.ev rfl)) rfl fun ac hs => ?_
  refine s_q hs (c_gtrI (hs.ev rfl) (hs.ev rfl)) rfl fun ac hs => ?_
  refine s_end ?_
  refine then_n ?_
  refine s_cond hs rfl (fun hc => ?_) (fun hc => ?_)
  · try simp only [decide_eq_true_eq, decide_eq_false_iff_not, Bool.not_eq_true', Bool.not_eq_false', Bool.and_eq_true, Bool.or_eq_true, Bool.or_eq_false_iff] at hc
    have hkl : k < lv := by have := pow_more (k := lv - k) (by rw [← hm]; omega); omega
    obtain ⟨h, hh, hh2⟩ : ∃ h, m = 2 * h ∧ h = 2 ^ (lv - (k + 1)) := ⟨_, by rw [hm, show lv - k = lv - (k + 1) + 1 from by omega, Nat.pow_succ]; omega, rfl⟩
    refine wp_skip ?_
    refine then_n ?_
    refine wp_seq ?_
    refine wp_block ?_
    refine wp_seq ?_
    refine wp_reg ?_
    refine s_q hs (c_move (hs.ev rfl)) rfl fun ac hs => ?_
    refine s_q hs (c_lenS un110 (hs.ev rfl)) rfl fun ac hs => ?_
    refine s_q hs (c_quoI (hs.ev rfl) (hs.ev rfl) (by omega) (by omega) (by omega)) rfl fun ac hs => ?_
    refine s_makeC (m := h) hs un110 ty54 rfl rfl rfl (by omega) (by omega) (by unfold maxLen; omega) rfl fun ac ww g42 hs => ?_
    refine s_q hs (c_assign (hs.ev rfl)) rfl fun ac hs => ?_
    refine s_end ?_
    refine then_n ?_
    refine wp_seq ?_
    refine wp_seq ?_
    refine wp_reg ?_
    refine s_q hs (c_assign (hs.ev rfl)) rfl fun ac hs => ?_
    refine s_end ?_
    refine then_n ?_
    refine wp_block ?_
    refine s_loop hs (X := Nat × Value) (fun x => [(11, x.2), (12, I ((2 * x.1 : Nat) : Int))]) [(0, _), (1, _), (6, _), (7, _), (8, _), (9, _), (10, _), (34, _), (35, _), (36, _), (39, _), (40, _), (41, _), (42, _)] (fun x => [.row x.2 x.1 ((rows (gNode d ep ls (k + 1)) x.1).map B) 54 16, _, _]) (fun j x => x.1 ≤ h ∧ j = h - x.1) (_) ((0, _)) (⟨Nat.zero_le _, rfl⟩) ⟨rfl, rfl, rfl, rfl, rfl, rfl, rfl, rfl, rfl, rfl, rfl, rfl, rfl, rfl, rfl, rfl, trivial⟩ rfl ?_
    rintro n ⟨q, uv⟩ ac ww hok hs
    simp only [List.cons_append, List.nil_append] at hs
    obtain ⟨hq2, rfl⟩ := hok
    simp only at hq2 hs
    have ho2 : ww.ownsRow 0 54 16 (ps.getD k (.nilIface, 0, [])).1 (ps.getD k (.nilIface, 0, [])).2.1 ((ps.getD k (.nilIface, 0, [])).2.2.map B) := texts_part (hs.get (i := 1) rfl) (k := k) (by omega) (.nilIface, 0, [])
    rw [hrv, hz] at ho2
    simp only [gRow, ← hm] at ho2
    obtain ⟨rg2, rcap2, rcur2, hre, hrg2, _, _, hrt2⟩ := owns_at ho2 hmp
    cases hre
    have hrl := grow_length (d := d) (ep := ep) hls16 hnk (k := k + 1) (by omega) q (by rw [← hh2]; omega)
    refine wp_seq ?_
    refine wp_seq ?_
    refine wp_reg ?_
    refine s_q hs (c_move (hs.ev rfl)) rfl fun ac hs => ?_
    refine s_q hs (c_move (hs.ev rfl)) rfl fun ac hs => ?_
    refine s_q hs (c_lenS un110 (hs.ev rfl)) rfl fun ac hs => ?_
    refine s_q hs (c_lssI (hs.ev rfl) (hs.ev rfl)) rfl fun ac hs => ?_
    refine s_end ?_
    refine then_n ?_
    refine s_cond hs rfl (fun hc => ?_) (fun hc => ?_)
    · try simp only [decide_eq_true_eq, decide_eq_false_iff_not, Bool.not_eq_true', Bool.not_eq_false', Bool.and_eq_true, Bool.or_eq_true, Bool.or_eq_false_iff] at hc
      have hqh : q < h := by omega
      refine wp_skip ?_
      refine then_n ?_
      refine wp_seq ?_
      refine wp_block ?_
      refine wp_region_rg pmix 15 (by kernel_rfl) rfl hs ?_
      simp only [List.take_succ_cons, List.take_zero]
      refine rg_q (fun ac ww h => c_move (h.ev rfl)) rfl ?_
      refine rg_q (fun ac ww h => c_move (h.ev rfl)) rfl ?_
      refine rg_q (fun ac ww h => c_move (h.ev rfl)) rfl ?_
      refine rg_q (fun ac ww h => c_move (h.ev rfl)) rfl ?_
      refine rg_q (fun ac ww h => c_move (h.ev rfl)) rfl ?_
      refine rg_q (fun ac ww h => c_move (h.ev rfl)) rfl ?_
      refine rg_q (fun ac ww h => c_idxS (j := 2 * q) un110 ty54 (h.ev rfl) (h.ev rfl) (by omega) (by omega)) rfl ?_
      refine rg_q (fun ac ww h => c_loadA ty54 rfl (h.ev rfl) (h.blk hrg2) ((rowpiece hrt2 (by rw [hm, grow_length hls16 hnk (by omega) _ (Nat.le_refl _)]; omega) (show 2 * q < m by omega)).trans (by rw [hm, gpiece hls16 hnk (by omega) (show 2 * q < 2 ^ (lv - k) by rw [← hm]; omega)])) (by rw [List.length_map]; exact (gNode_length hls16 k (2 * q) (gfits hnk (by omega) (show 2 * q < 2 ^ (lv - k) by rw [← hm]; omega))))) rfl ?_
      refine rg_q (fun ac ww h => c_move (h.ev rfl)) rfl ?_
      refine rg_q (fun ac ww h => c_move (h.ev rfl)) rfl ?_
      refine rg_q (fun ac ww h => c_addI (h.ev rfl) (h.ev rfl) (by omega) (by omega)) rfl ?_
      refine rg_q (fun ac ww h => c_idxS (j := 2 * q + 1) un110 ty54 (h.ev rfl) (h.ev rfl) (by omega) (by omega)) rfl ?_
      refine rg_q (fun ac ww h => c_loadA ty54 rfl (h.ev rfl) (h.blk hrg2) ((rowpiece hrt2 (by rw [hm, grow_length hls16 hnk (by omega) _ (Nat.le_refl _)]; omega) (show 2 * q + 1 < m by omega)).trans (by rw [hm, gpiece hls16 hnk (by omega) (show 2 * q + 1 < 2 ^ (lv - k) by rw [← hm]; omega)])) (by rw [List.length_map]; exact (gNode_length hls16 k (2 * q + 1) (gfits hnk (by omega) (show 2 * q + 1 < 2 ^ (lv - k) by rw [← hm]; omega))))) rfl ?_
      refine rg_call fu117 (fun ac ww h => (.cons (h.ev rfl) (.cons (h.ev rfl) (.cons (h.ev rfl) (.cons (h.ev rfl) (.cons (h.ev rfl) .nil)))))) (fun ww hf => grove_Above d ep (k + 1 : Nat) (gNode d ep ls k (2 * q)) (gNode d ep ls k (2 * q + 1)) (gNode_length hls16 k (2 * q) (gfits hnk (by omega) (show 2 * q < 2 ^ (lv - k) by rw [← hm]; omega))) (gNode_length hls16 k (2 * q + 1) (gfits hnk (by omega) (show 2 * q + 1 < 2 ^ (lv - k) by rw [← hm]; omega))) ww) rfl ?_
      refine rg_bslice un110 ty54 (fun ac ww h => (.cons (h.ev rfl) .nil)) rfl (by intro v hv; simp only [List.mem_singleton] at hv; subst hv; simp [Value.cells]) (by decide) (show _ = (ofT (aboveX d ep (k + 1 : Nat) (gNode d ep ls k (2 * q)) (gNode d ep ls k (2 * q + 1)))).map B by simp [flatCells, Value.cells]) rfl ?_
      refine rg_nil fun ac ww L' hf hfe hs => ?_
      simp only [List.drop_succ_cons, List.drop_zero]
      obtain ⟨v63, L63, M63, h63, e63, rfl, rfl⟩ := hfe
      replace hs := hs.add h63
      obtain ⟨g63, rfl, rfl⟩ := e63
      refine s_append (i := 1) hs un110 ty54 (by decide) rfl rfl rfl (Rd.of_seg (n := 1) (hs.seg (i := 0) rfl) (Nat.le_refl _) (by decide) (List.take_of_length_le (by simp))) (by simp) (all_map_B _) (by unfold maxLen; omega) (by omega) rfl fun ac ww v64 hf hnil hs => ?_
      refine s_q hs (c_assign (hs.ev rfl)) rfl fun ac hs => ?_
      refine s_end ?_
      refine blk_n ?_
      refine then_n ?_
      refine wp_reg ?_
      refine s_q hs (c_move (hs.ev rfl)) rfl fun ac hs => ?_
      refine s_q hs (c_addI (hs.ev rfl) (hs.ev rfl) (by omega) (by omega)) rfl fun ac hs => ?_
      refine s_q hs (c_assign (hs.ev rfl)) rfl fun ac hs => ?_
      refine s_end ?_
      refine then_n ?_
      replace hs := hs.pick (L' := [_, _, _]) (.cons _ (.refl _))
      exact ⟨h - (q + 1), by (try simp only); omega, (q + 1, _), ⟨by (try simp only); omega, rfl⟩, St.next hs ⟨rfl, (congrArg (fun z => some (I z)) (by omega)), rfl, rfl, rfl, rfl, rfl, rfl, rfl, rfl, rfl, rfl, rfl, rfl, rfl, rfl, trivial⟩ (by rw [rows_succ, List.map_append]; rfl)⟩
    · try simp only [decide_eq_true_eq, decide_eq_false_iff_not, Bool.not_eq_true', Bool.not_eq_false', Bool.and_eq_true, Bool.or_eq_true, Bool.or_eq_false_iff] at hc
      obtain rfl : q = h := by omega
      have ho3 : ww.ownsRow 0 54 16 uv q ((rows (gNode d ep ls (k + 1)) q).map B) := hs.get (i := 0) rfl
      obtain ⟨ug, ucap, ucur, rfl, _⟩ := owns_at ho3 (by omega)
      refine wp_exit ?_
      refine then_e ?_
      refine then_e ?_
      refine blk_hit ?_
      refine then_n ?_
      refine wp_reg ?_
      refine s_q hs (c_move (hs.ev rfl)) rfl fun ac hs => ?_
      refine s_q hs (c_move (hs.ev rfl)) rfl fun ac hs => ?_
      refine s_q hs (c_nil (hs.ev rfl)) rfl fun ac hs => ?_
      refine s_q hs (c_fld fl231_2 (hs.ev rfl)) rfl fun ac hs => ?_
      refine s_q hs (c_loadS un222 rfl (hs.ev rfl) (hs.seg (i := 2) rfl) rfl) rfl fun ac hs => ?_
      refine s_q hs (c_move (hs.ev rfl)) rfl fun ac hs => ?_
      refine s_bslice hs un222 ty110 (.cons (hs.ev rfl) .nil) rfl (by simp [Value.cells]) (by decide) rfl rfl fun ac ww g71 hs => ?_
      refine s_appP (i := 2) (j := 1) (pt := Ent.partS 54 16) (z := (q, rows (gNode d ep ls (k + 1)) q)) hs un222 ty110 rfl rfl rfl rfl rfl (hs.seg (i := 0) rfl) (tv_one (hs.get (i := 1) rfl)) (by omega) rfl fun ac ww v72 hs => ?_
      obtain ⟨og72, oc72, _, hv72, _⟩ := texts_at (hs.get (i := 2) rfl) (by simp)
      subst hv72
      refine s_q hs (c_move (hs.ev rfl)) rfl fun ac hs => ?_
      refine s_q hs (c_nil (hs.ev rfl)) rfl fun ac hs => ?_
      refine s_q hs (c_fld fl231_2 (hs.ev rfl)) rfl fun ac hs => ?_
      refine s_store (i := 3) hs ty222 rfl rfl rfl rfl (by rfl) (by rfl) (by simp) rfl fun ww hs => ?_
      refine s_q hs (c_assign (hs.ev rfl)) rfl fun ac hs => ?_
      refine s_end ?_
      replace hs := hs.pick (L' := [_, _]) (.cons _ (.cons _ (.refl _)))
      refine blk_n ?_
      refine then_n ?_
      refine wp_reg ?_
      refine s_q hs (c_move (hs.ev rfl)) rfl fun ac hs => ?_
      refine s_q hs (c_addI (hs.ev rfl) (hs.ev rfl) (by omega) (by omega)) rfl fun ac hs => ?_
      refine s_q hs (c_assign (hs.ev rfl)) rfl fun ac hs => ?_
      refine s_end ?_
      refine then_n ?_
      exact ⟨lv - (k + 1), by (try simp only); omega, (k + 1, q, .slice (some ⟨ug, 0, none⟩) q ucap, _, ps ++ [(.slice (some ⟨ug, 0, none⟩) q ucap, q, rows (gNode d ep ls (k + 1)) q)]), ⟨by (try simp only); omega, rfl, hh2, by simp only [List.map_append]; rw [hps, List.range_succ (n := k + 1), List.map_append]; simp only [List.map_cons, List.map_nil, gRow, ← hh2], by simp only; rw [List.getD, List.getElem?_append_right (by omega), show k + 1 - ps.length = 0 from by omega]; rfl⟩, St.next hs ⟨rfl, rfl, rfl, rfl, rfl, rfl, rfl, trivial⟩ rfl⟩
  · try simp only [decide_eq_true_eq, decide_eq_false_iff_not, Bool.not_eq_true', Bool.not_eq_false', Bool.and_eq_true, Bool.or_eq_true, Bool.or_eq_false_iff] at hc
    have hkl : lv - k = 0 := pow_one (by rw [← hm]; omega)
    have hkl2 : k = lv := by omega
    refine wp_exit ?_
    refine then_e ?_
    refine then_e ?_
    refine blk_hit ?_
    refine then_n ?_
    refine wp_seq ?_
    refine wp_reg ?_
    refine s_q hs (c_move (hs.ev rfl)) rfl fun ac hs => ?_
    refine s_q hs (c_assign (hs.ev rfl)) rfl fun ac hs => ?_
    refine s_q hs (c_assign (hs.ev rfl)) rfl fun ac hs => ?_
    refine s_end ?_
    replace hs := hs.sub (F' := [(6, _), (7, _)]) ⟨rfl, rfl, trivial⟩
    refine then_n ?_
    refine wp_ret ?_
    refine s_ret hs rfl (.tmp (hs.tmp rfl) (.tmp (hs.tmp rfl) .nil)) rfl ⟨_, rfl, hs.fr, ?_⟩
    have hmd := hs.made
    subst hkl2
    exact ⟨_, ⟨_, rfl, g20, _, ps, rfl, hps, rfl⟩, hmd⟩
end Go.Proofs.Ytmgnnclkjkbmdaa
end

section
/- Leaves, paths, roots of groves. -/
set_option linter.unusedSimpArgs false
set_option linter.unusedVariables false
set_option maxRecDepth 100000
namespace Go.Proofs.Ytmgnnclkjkbmdaa
open Go Go.Fw
open Sha
def lfOk (n : Nat) (i : Int) : Bool := decide (0 ≤ i) && decide (i < (n : Int))
def lfB (ls : List UInt8) (n : Nat) (i : Int) : List UInt8 := if lfOk n i = true then chunk ls i.toNat else List.replicate 16 0
def lfE (n : Nat) (i : Int) : Int := if lfOk n i = true then 0 else 1
theorem lf_bad {n : Nat} {i : Int} (h : ¬ (0 ≤ i ∧ i < (n : Int))) : ¬ lfOk n i = true := by
  intro h2
  unfold lfOk at h2
  simp only [Bool.and_eq_true, decide_eq_true_eq] at h2
  exact h h2
theorem lf_good {n : Nat} {i : Int} (h1 : 0 ≤ i) (h2 : i < (n : Int)) : lfOk n i = true := by simp [lfOk, h1, h2]
theorem lf_spec {n : Nat} {i : Int} (h : lfOk n i = true) : ∃ q : Nat, i = q ∧ q < n := by
  unfold lfOk at h
  simp only [Bool.and_eq_true, decide_eq_true_eq] at h
  exact ⟨i.toNat, by omega, by omega⟩
theorem lfB_length {ls : List UInt8} {n : Nat} {i : Int} (hls : ls.length = n * 16) : (lfB ls n i).length = 16 := by
  unfold lfB
  split
  · rename_i h
    obtain ⟨q, rfl, hq⟩ := lf_spec h
    rw [Int.toNat_natCast]
    exact chunk_l hls hq
  · simp
def pN (n lv : Nat) (i : Int) : Nat := if lfOk n i = true then lv else 0
def pW (d : Int) (ep : UInt32) (ls : List UInt8) (n lv : Nat) (i : Int) : List UInt8 := if lfOk n i = true then gPath d ep ls i.toNat lv else []
theorem pW_length {d : Int} {ep : UInt32} {ls : List UInt8} {n lv : Nat} {i : Int} (hls16 : ls.length = 16 * n) (hnk : n = 2 ^ lv) : (pW d ep ls n lv i).length = pN n lv i * 16 := by
  unfold pW pN
  split
  · rename_i h
    obtain ⟨q, rfl, hq⟩ := lf_spec h
    rw [Int.toNat_natCast]
    exact gPath_length (by rw [hls16, hnk]) (by omega) lv (Nat.le_refl _)
  · rfl
theorem gWay_length {d : Int} {ep : UInt32} {ls : List UInt8} {n lv k q : Nat} (hls16 : ls.length = 16 * n) (hnk : n = 2 ^ lv) (hq : q < n) (hk : k < lv) : (gNode d ep ls k (besideI (q / 2 ^ k))).length = 16 := gNode_length hls16 k _ (by rw [hnk]; exact beside_fit (by omega) hk)
theorem beside_row {lv k q : Nat} (h : q < 2 ^ lv) (hk : k < lv) : besideI (q / 2 ^ k) < 2 ^ (lv - k) := by
  obtain ⟨m, rfl⟩ : ∃ m, lv = k + (m + 1) := ⟨lv - k - 1, by omega⟩
  have h1 : q / 2 ^ k < 2 ^ (m + 1) := by
    rw [Nat.div_lt_iff_lt_mul (Nat.two_pow_pos k), ← Nat.pow_add, Nat.add_comm (m + 1) k]
    exact h
  rw [show k + (m + 1) - k = m + 1 by omega]
  rw [Nat.pow_succ] at h1 ⊢
  generalize q / 2 ^ k = z at h1 ⊢
  unfold besideI
  split <;> omega
set_option maxHeartbeats 4000000 in
theorem grove_NewBad (d : Int) (ep : UInt32) (n : Nat) (ls : List UInt8) (av : Value) (hxl : height n = -1) (w : World) (hq : Rd w av n (ls.map B)) : Ctr Try.prog 94 [I d, U ep, av] w (fun _ => False) (fun v _ => v = .tuple #[.pointer none, I 1]) := by
  have hnl := hq.le
  obtain ⟨lad, lcap, rfl, hlc, hlm⟩ := Rd.sl hq
  refine fn_start (N := 77) Try.func94 rfl rfl rfl fun ac hk => ?_
  have hs := St.start hk w
  refine wp_seq ?_
  refine wp_reg ?_
  refine s_q hs (c_assign (hs.ev rfl)) rfl fun ac hs => ?_
  refine s_q hs (c_assign (hs.ev rfl)) rfl fun ac hs => ?_
  refine s_end ?_
  refine then_n ?_
  refine wp_seq ?_
  refine wp_seq ?_
  refine wp_reg ?_
  refine s_q hs (c_move (hs.ev rfl)) rfl fun ac hs => ?_
  refine s_q hs (c_lenS un110 (hs.ev rfl)) rfl fun ac hs => ?_
  refine s_call hs fu95 (.cons (hs.ev rfl) .nil) ((by have h := grove_Height (n : Int) w; rw [hxl] at h; exact h)) rfl fun ac ww v15 hf hp hs => ?_
  obtain rfl := hp
  replace hs := hs [] (.nil _ _)
  refine s_q hs (c_tt (c_lssI (hs.ev rfl) (hs.ev rfl)) (by simp)) rfl fun ac hs => ?_
  refine s_end ?_
  replace hs := hs.sub (F' := [(0, _), (1, _), (2, _), (6, _), (7, _), (16, _)]) ⟨rfl, rfl, rfl, rfl, rfl, rfl, trivial⟩
  refine then_n ?_
  refine wp_cond_true (hs.ev rfl) ?_
  refine wp_seq ?_
  refine wp_reg ?_
  refine s_q hs (c_assign (hs.ev rfl)) rfl fun ac hs => ?_
  refine s_q hs (c_assign (hs.ev rfl)) rfl fun ac hs => ?_
  refine s_end ?_
  replace hs := hs.sub (F' := [(0, _), (1, _), (2, _), (6, _), (7, _)]) ⟨rfl, rfl, rfl, rfl, rfl, trivial⟩
  refine then_n ?_
  refine wp_ret ?_
  refine then_r ?_
  refine s_ret hs rfl (.tmp (hs.tmp rfl) (.tmp (hs.tmp rfl) .nil)) rfl ⟨_, rfl, hs.fr, ?_⟩
  rfl
set_option maxHeartbeats 4000000 in
theorem grove_LeafNil (i : Int) (w : World)  : Ctr Try.prog 100 [.pointer none, I i] w (fun _ => False) (fun v _ => v = .tuple #[.agg ((List.replicate 16 (0 : UInt8)).map B).toArray, I 2]) := by
  refine fn_start (N := 34) Try.func100 rfl rfl rfl fun ac hk => ?_
  have hs := St.start hk w
  refine wp_seq ?_
  refine wp_reg ?_
  refine s_alloc hs ty54 rfl fun ac ww g4 hs => ?_
  refine s_q hs (c_assign (hs.ev rfl)) rfl fun ac hs => ?_
  refine s_end ?_
  refine then_n ?_
  refine wp_seq ?_
  refine wp_block ?_
  refine wp_seq ?_
  refine wp_reg ?_
  refine s_q hs (c_move (hs.ev rfl)) rfl fun ac hs => ?_
  refine s_q hs (c_eqlNil0 un112 (hs.ev rfl) (hs.ev rfl)) rfl fun ac hs => ?_
  refine s_q hs (c_assign (hs.ev rfl)) rfl fun ac hs => ?_
  refine s_end ?_
  replace hs := hs.sub (F' := [(0, _), (1, _), (4, _), (5, _), (6, _)]) ⟨rfl, rfl, rfl, rfl, rfl, trivial⟩
  refine then_n ?_
  refine wp_cond_true (hs.ev rfl) ?_
  refine wp_seq ?_
  refine wp_reg ?_
  refine s_q hs (c_buildA ty54 un54 ty5 (zc := (List.replicate 16 (0 : UInt8)).map B) (vs := []) .nil (by simp) (by simp [flatCells]) rfl) rfl fun ac hs => ?_
  refine s_storeW (i := 0) hs ty54 rfl rfl rfl (by simp) (all_map_B _) rfl fun ww hs => ?_
  refine s_q hs (c_assign (hs.ev rfl)) rfl fun ac hs => ?_
  refine s_end ?_
  replace hs := hs.sub (F' := [(0, _), (1, _), (4, _), (5, _)]) ⟨rfl, rfl, rfl, rfl, trivial⟩
  refine then_n ?_
  refine wp_ret ?_
  refine blk_r ?_
  refine then_r ?_
  refine s_ret hs rfl (.cell (hs.tmp rfl) (run_loadA ty54 rfl (hs.seg (i := 0) rfl) (List.take_of_length_le (by simp)) (by simp)) (.tmp (hs.tmp rfl) .nil)) rfl ⟨_, rfl, hs.fr, ?_⟩
  rfl
set_option maxHeartbeats 4000000 in
theorem grove_RootNil  (w : World)  : Ctr Try.prog 98 [.pointer none] w (fun _ => False) (fun v _ => v = .agg ((List.replicate 16 (0 : UInt8)).map B).toArray) := by
  refine fn_start (N := 20) Try.func98 rfl rfl rfl fun ac hk => ?_
  have hs := St.start hk w
  refine wp_seq ?_
  refine wp_reg ?_
  refine s_alloc hs ty54 rfl fun ac ww g2 hs => ?_
  refine s_end ?_
  refine then_n ?_
  refine wp_seq ?_
  refine wp_seq ?_
  refine wp_reg ?_
  refine s_q hs (c_move (hs.ev rfl)) rfl fun ac hs => ?_
  refine s_q hs (c_eqlNil0 un112 (hs.ev rfl) (hs.ev rfl)) rfl fun ac hs => ?_
  refine s_end ?_
  replace hs := hs.sub (F' := [(0, _), (2, _), (4, _)]) ⟨rfl, rfl, rfl, trivial⟩
  refine then_n ?_
  refine wp_cond_true (hs.ev rfl) ?_
  refine wp_seq ?_
  refine wp_reg ?_
  refine s_q hs (c_buildA ty54 un54 ty5 (zc := (List.replicate 16 (0 : UInt8)).map B) (vs := []) .nil (by simp) (by simp [flatCells]) rfl) rfl fun ac hs => ?_
  refine s_storeW (i := 0) hs ty54 rfl rfl rfl (by simp) (all_map_B _) rfl fun ww hs => ?_
  refine s_end ?_
  replace hs := hs.sub (F' := [(0, _), (2, _)]) ⟨rfl, rfl, trivial⟩
  refine then_n ?_
  refine wp_ret ?_
  refine then_r ?_
  refine s_ret hs rfl (.cell (hs.tmp rfl) (run_loadA ty54 rfl (hs.seg (i := 0) rfl) (List.take_of_length_le (by simp)) (by simp)) .nil) rfl ⟨_, rfl, hs.fr, ?_⟩
  rfl
set_option maxHeartbeats 4000000 in
theorem grove_PathNil (i : Int) (w : World)  : Ctr Try.prog 101 [.pointer none, I i] w (fun _ => False) (fun v _ => v = .tuple #[.slice none 0 0, I 2]) := by
  refine fn_start (N := 56) Try.func101 rfl rfl rfl fun ac hk => ?_
  have hs := St.start hk w
  refine wp_seq ?_
  refine wp_reg ?_
  refine s_q hs (c_assign (hs.ev rfl)) rfl fun ac hs => ?_
  refine s_q hs (c_assign (hs.ev rfl)) rfl fun ac hs => ?_
  refine s_end ?_
  refine then_n ?_
  refine wp_seq ?_
  refine wp_seq ?_
  refine wp_reg ?_
  refine s_q hs (c_move (hs.ev rfl)) rfl fun ac hs => ?_
  refine s_q hs (c_move (hs.ev rfl)) rfl fun ac hs => ?_
  refine s_call hs fu100 (.cons (hs.ev rfl) (.cons (hs.ev rfl) .nil)) (grove_LeafNil i _) rfl fun ac ww v15 hf hp hs => ?_
  obtain rfl := hp
  replace hs := hs [] (.nil _ _)
  refine s_q hs (c_move (hs.ev rfl)) rfl fun ac hs => ?_
  refine s_q hs (c_extract (hs.ev rfl) rfl) rfl fun ac hs => ?_
  refine s_q hs (c_extract (hs.ev rfl) rfl) rfl fun ac hs => ?_
  refine s_alloc hs ty54 rfl fun ac ww g6 hs => ?_
  refine s_storeW (i := 0) hs ty54 rfl rfl rfl (by simp) (all_map_B _) rfl fun ww hs => ?_
  refine s_q hs (c_assign (hs.ev rfl)) rfl fun ac hs => ?_
  refine s_end ?_
  replace hs := hs.sub (F' := [(0, _), (1, _), (4, _), (5, _), (7, _)]) ⟨rfl, rfl, rfl, rfl, rfl, trivial⟩
  refine then_n ?_
  refine wp_seq ?_
  refine wp_reg ?_
  refine s_q hs (c_move (hs.ev rfl)) rfl fun ac hs => ?_
  refine s_q hs (c_tt (c_neqI (hs.ev rfl) (hs.ev rfl)) (by decide)) rfl fun ac hs => ?_
  refine s_end ?_
  replace hs := hs.sub (F' := [(0, _), (1, _), (4, _), (5, _), (7, _), (19, _)]) ⟨rfl, rfl, rfl, rfl, rfl, rfl, trivial⟩
  refine then_n ?_
  refine wp_cond_true (hs.ev rfl) ?_
  refine wp_seq ?_
  refine wp_reg ?_
  refine s_q hs (c_move (hs.ev rfl)) rfl fun ac hs => ?_
  refine s_q hs (c_assign (hs.ev rfl)) rfl fun ac hs => ?_
  refine s_q hs (c_assign (hs.ev rfl)) rfl fun ac hs => ?_
  refine s_end ?_
  replace hs := hs.sub (F' := [(0, _), (1, _), (4, _), (5, _)]) ⟨rfl, rfl, rfl, rfl, trivial⟩
  refine then_n ?_
  refine wp_ret ?_
  refine then_r ?_
  refine s_ret hs rfl (.tmp (hs.tmp rfl) (.tmp (hs.tmp rfl) .nil)) rfl ⟨_, rfl, hs.fr, ?_⟩
  rfl
set_option maxHeartbeats 4000000 in
theorem grove_Leaf (d : Int) (ep : UInt32) (ls : List UInt8) (n lv : Nat) (pv : Value) (hls : ls.length = n * 16) (hk6 : lv ≤ 6) (hnk : n = 2 ^ lv) (i : Int) (w : World) (hg : GroveAt w pv d ep ls lv) : Ctr Try.prog 100 [pv, I i] w (fun _ => False) (fun v _ => v = .tuple #[.agg ((lfB ls n i).map B).toArray, I (lfE n i)]) := by
  have hls16 : ls.length = 16 * n := by omega
  have h64 := pow64 hk6
  obtain ⟨g, og, ocap, ocur, rfl, hgb, hog, hocap, hrows⟩ := hg.look hls16 hnk
  obtain ⟨rg0, rcap0, rcur0, hre0, hrg0, hrt0⟩ := hrows 0 (by omega)
  refine fn_start (N := 34) Try.func100 rfl rfl rfl fun ac hk => ?_
  have hs := St.start hk w
  refine wp_seq ?_
  refine wp_reg ?_
  refine s_alloc hs ty54 rfl fun ac ww g4 hs => ?_
  refine s_q hs (c_assign (hs.ev rfl)) rfl fun ac hs => ?_
  refine s_end ?_
  refine then_n ?_
  refine wp_seq ?_
  refine wp_block ?_
  refine wp_seq ?_
  refine wp_reg ?_
  refine s_q hs (c_move (hs.ev rfl)) rfl fun ac hs => ?_
  refine s_q hs (c_eqlNil un112 (hs.ev rfl) (hs.ev rfl)) rfl fun ac hs => ?_
  refine s_q hs (c_assign (hs.ev rfl)) rfl fun ac hs => ?_
  refine s_end ?_
  replace hs := hs.sub (F' := [(0, _), (1, _), (4, _), (5, _), (6, _)]) ⟨rfl, rfl, rfl, rfl, rfl, trivial⟩
  refine then_n ?_
  refine wp_cond_false (hs.ev rfl) ?_
  refine wp_seq ?_
  refine wp_reg ?_
  refine s_q hs (c_move (hs.ev rfl)) rfl fun ac hs => ?_
  refine s_q hs (c_lssI (hs.ev rfl) (hs.ev rfl)) rfl fun ac hs => ?_
  refine s_q hs (c_move (hs.ev rfl)) rfl fun ac hs => ?_
  refine s_g hs rfl rfl (fun hg => c_move (hs.ev rfl)) rfl fun ac hs => ?_
  refine s_g hs rfl rfl (fun hg => c_move (hs.ev rfl)) rfl fun ac hs => ?_
  refine s_g hs rfl rfl (fun hg => c_nil (gev (hs.ev rfl) hg)) rfl fun ac hs => ?_
  refine s_g hs rfl rfl (fun hg => c_fld fl231_2 (gev (hs.ev rfl) hg)) rfl fun ac hs => ?_
  refine s_g hs rfl rfl (fun hg => c_loadS un222 rfl (gev (hs.ev rfl) hg) (hs.old hgb id) rfl) rfl fun ac hs => ?_
  refine s_g hs rfl rfl (fun hg => c_idxS (j := 0) un222 ty110 (gev (hs.ev rfl) hg) (hs.ev rfl) (by omega) (by omega)) rfl fun ac hs => ?_
  refine s_g hs rfl rfl (fun hg => c_loadS un110 rfl (gev (hs.ev rfl) hg) (hs.old hog id) hre0) rfl fun ac hs => ?_
  refine s_g hs rfl rfl (fun hg => c_lenS un110 (gev (hs.ev rfl) hg)) rfl fun ac hs => ?_
  refine s_g hs rfl rfl (fun hg => c_geqI (gev (hs.ev rfl) hg) (gev (hs.ev rfl) hg)) rfl fun ac hs => ?_
  refine s_q hs (c_or (hs.ev rfl) (hs.ev rfl)) rfl fun ac hs => ?_
  refine s_q hs (c_assign (hs.ev rfl)) rfl fun ac hs => ?_
  refine s_end ?_
  replace hs := hs.sub (F' := [(0, _), (1, _), (4, _), (5, _), (10, _)]) ⟨rfl, rfl, rfl, rfl, rfl, trivial⟩
  refine then_n ?_
  refine s_cond hs rfl (fun hc => ?_) (fun hc => ?_)
  · try simp only [decide_eq_true_eq, decide_eq_false_iff_not, Bool.not_eq_true', Bool.not_eq_false', Bool.and_eq_true, Bool.or_eq_true, Bool.or_eq_false_iff] at hc
    have hno : ¬ lfOk n i = true := lf_bad (by rw [Nat.sub_zero, ← hnk] at hc; omega)
    refine wp_seq ?_
    refine wp_reg ?_
    refine s_q hs (c_buildA ty54 un54 ty5 (zc := (List.replicate 16 (0 : UInt8)).map B) (vs := []) .nil (by simp) (by simp [flatCells]) rfl) rfl fun ac hs => ?_
    refine s_storeW (i := 0) hs ty54 rfl rfl rfl (by simp) (all_map_B _) rfl fun ww hs => ?_
    refine s_q hs (c_assign (hs.ev rfl)) rfl fun ac hs => ?_
    refine s_end ?_
    replace hs := hs.sub (F' := [(0, _), (1, _), (4, _), (5, _)]) ⟨rfl, rfl, rfl, rfl, trivial⟩
    refine then_n ?_
    refine wp_ret ?_
    refine blk_r ?_
    refine then_r ?_
    refine s_ret hs rfl (.cell (hs.tmp rfl) (run_loadA ty54 rfl (hs.seg (i := 0) rfl) (List.take_of_length_le (by simp)) (by simp)) (.tmp (hs.tmp rfl) .nil)) rfl ⟨_, rfl, hs.fr, ?_⟩
    show Value.tuple _ = Value.tuple _
    rw [lfB, lfE, if_neg hno, if_neg hno]
    rfl
  · try simp only [decide_eq_true_eq, decide_eq_false_iff_not, Bool.not_eq_true', Bool.not_eq_false', Bool.and_eq_true, Bool.or_eq_true, Bool.or_eq_false_iff] at hc
    rw [Nat.sub_zero, ← hnk] at hc
    have hok1 : lfOk n i = true := lf_good (by omega) (by omega)
    obtain ⟨q, rfl, hqn⟩ := lf_spec hok1
    have hcl := chunk_l hls hqn
    refine wp_skip ?_
    refine blk_n ?_
    refine then_n ?_
    refine wp_seq ?_
    refine wp_reg ?_
    refine s_q hs (c_move (hs.ev rfl)) rfl fun ac hs => ?_
    refine s_q hs (c_nil (hs.ev rfl)) rfl fun ac hs => ?_
    refine s_q hs (c_fld fl231_2 (hs.ev rfl)) rfl fun ac hs => ?_
    refine s_q hs (c_loadS un222 rfl (hs.ev rfl) (hs.old hgb id) rfl) rfl fun ac hs => ?_
    refine s_q hs (c_idxS (j := 0) un222 ty110 (hs.ev rfl) (hs.ev rfl) (by omega) (by omega)) rfl fun ac hs => ?_
    refine s_q hs (c_loadS un110 rfl (hs.ev rfl) (hs.old hog id) hre0) rfl fun ac hs => ?_
    refine s_q hs (c_move (hs.ev rfl)) rfl fun ac hs => ?_
    refine s_q hs (c_idxS (j := q) un110 ty54 (hs.ev rfl) (hs.ev rfl) (by omega) (show q < 2 ^ (lv - 0) by rw [Nat.sub_zero, ← hnk]; omega)) rfl fun ac hs => ?_
    refine s_q hs (c_loadA ty54 rfl (hs.ev rfl) (hs.old hrg0 id) (hrt0 q (show q < 2 ^ (lv - 0) by rw [Nat.sub_zero, ← hnk]; omega)) (by rw [List.length_map]; exact hcl)) rfl fun ac hs => ?_
    refine s_storeW (i := 0) hs ty54 rfl rfl rfl (by rw [List.length_map]; exact hcl) (all_map_B _) rfl fun ww hs => ?_
    refine s_q hs (c_assign (hs.ev rfl)) rfl fun ac hs => ?_
    refine s_end ?_
    replace hs := hs.sub (F' := [(4, _), (5, _)]) ⟨rfl, rfl, trivial⟩
    refine then_n ?_
    refine wp_ret ?_
    refine s_ret hs rfl (.cell (hs.tmp rfl) (run_loadA ty54 rfl (hs.seg (i := 0) rfl) (List.take_of_length_le (show (List.map B (gNode d ep ls 0 q)).length ≤ 16 by rw [List.length_map, show (gNode d ep ls 0 q).length = 16 from hcl]; exact Nat.le_refl _)) (show (List.map B (gNode d ep ls 0 q)).length = 16 by rw [List.length_map, show (gNode d ep ls 0 q).length = 16 from hcl])) (.tmp (hs.tmp rfl) .nil)) rfl ⟨_, rfl, hs.fr, ?_⟩
    show Value.tuple _ = Value.tuple _
    rw [lfB, lfE, if_pos hok1, if_pos hok1]
    rfl
set_option maxHeartbeats 4000000 in
theorem grove_Root (d : Int) (ep : UInt32) (ls : List UInt8) (n lv : Nat) (pv : Value) (hls : ls.length = n * 16) (hk6 : lv ≤ 6) (hnk : n = 2 ^ lv) (w : World) (hg : GroveAt w pv d ep ls lv) : Ctr Try.prog 98 [pv] w (fun _ => False) (fun v _ => v = .agg ((gNode d ep ls lv 0).map B).toArray) := by
  have hls16 : ls.length = 16 * n := by omega
  have h64 := pow64 hk6
  obtain ⟨g, og, ocap, ocur, rfl, hgb, hog, hocap, hrows⟩ := hg.look hls16 hnk
  obtain ⟨rg1, rcap1, rcur1, hre1, hrg1, hrt1⟩ := hrows lv (by omega)
  have hrl : (gNode d ep ls lv 0).length = 16 := gNode_length hls16 lv 0 (by rw [hnk]; omega)
  refine fn_start (N := 20) Try.func98 rfl rfl rfl fun ac hk => ?_
  have hs := St.start hk w
  refine wp_seq ?_
  refine wp_reg ?_
  refine s_alloc hs ty54 rfl fun ac ww g2 hs => ?_
  refine s_end ?_
  refine then_n ?_
  refine wp_seq ?_
  refine wp_seq ?_
  refine wp_reg ?_
  refine s_q hs (c_move (hs.ev rfl)) rfl fun ac hs => ?_
  refine s_q hs (c_eqlNil un112 (hs.ev rfl) (hs.ev rfl)) rfl fun ac hs => ?_
  refine s_end ?_
  replace hs := hs.sub (F' := [(0, _), (2, _), (4, _)]) ⟨rfl, rfl, rfl, trivial⟩
  refine then_n ?_
  refine wp_cond_false (hs.ev rfl) ?_
  refine wp_skip ?_
  refine then_n ?_
  refine wp_seq ?_
  refine wp_region_rg pmix 10 (by kernel_rfl) rfl hs ?_
  simp only [List.take_succ_cons, List.take_zero]
  refine rg_q (fun ac ww h => c_move (h.ev rfl)) rfl ?_
  refine rg_q (fun ac ww h => c_nil (h.ev rfl)) rfl ?_
  refine rg_q (fun ac ww h => c_fld fl231_2 (h.ev rfl)) rfl ?_
  refine rg_q (fun ac ww h => c_loadS un222 rfl (h.ev rfl) (h.blk (hs.old hgb id)) rfl) rfl ?_
  refine rg_q (fun ac ww h => c_move (h.ev rfl)) rfl ?_
  refine rg_q (fun ac ww h => c_nil (h.ev rfl)) rfl ?_
  refine rg_q (fun ac ww h => c_fld fl231_2 (h.ev rfl)) rfl ?_
  refine rg_q (fun ac ww h => c_loadS un222 rfl (h.ev rfl) (h.blk (hs.old hgb id)) rfl) rfl ?_
  refine rg_q (fun ac ww h => c_lenS un222 (h.ev rfl)) rfl ?_
  refine rg_q (fun ac ww h => c_to (c_subI (h.ev rfl) (h.ev rfl) (by omega) (by omega)) ((congrArg I (show (((lv + 1 : Nat) : Int) - 1 = (lv : Int)) by omega)))) rfl ?_
  refine rg_nil fun ac ww L' hf hfe hs => ?_
  simp only [List.drop_succ_cons, List.drop_zero]
  obtain rfl : L' = [] := hfe
  replace hs := hs.toL (List.nil_append _)
  refine s_q hs (c_idxS (j := lv) un222 ty110 (hs.ev rfl) (hs.ev rfl) (by omega) (by omega)) rfl fun ac hs => ?_
  refine s_q hs (c_loadS un110 rfl (hs.ev rfl) (hs.old hog id) hre1) rfl fun ac hs => ?_
  refine s_q hs (c_idxS (j := 0) un110 ty54 (hs.ev rfl) (hs.ev rfl) (by omega) (show 0 < 2 ^ (lv - lv) from pow_pos' _)) rfl fun ac hs => ?_
  refine s_q hs (c_loadA ty54 rfl (hs.ev rfl) (hs.old hrg1 id) (hrt1 0 (pow_pos' _)) (by rw [List.length_map]; exact hrl)) rfl fun ac hs => ?_
  refine s_storeW (i := 0) hs ty54 rfl rfl rfl (by rw [List.length_map]; exact hrl) (all_map_B _) rfl fun ww hs => ?_
  refine s_end ?_
  replace hs := hs.sub (F' := [(2, _)]) ⟨rfl, trivial⟩
  refine then_n ?_
  refine wp_ret ?_
  refine s_ret hs rfl (.cell (hs.tmp rfl) (run_loadA ty54 rfl (hs.seg (i := 0) rfl) (List.take_of_length_le (show (List.map B (gNode d ep ls lv 0)).length ≤ 16 by rw [List.length_map, hrl]; exact Nat.le_refl _)) (show (List.map B (gNode d ep ls lv 0)).length = 16 by rw [List.length_map, hrl])) .nil) rfl ⟨_, rfl, hs.fr, ?_⟩
  rfl
set_option maxHeartbeats 4000000 in
theorem grove_Path (d : Int) (ep : UInt32) (ls : List UInt8) (n lv : Nat) (pv : Value) (hls : ls.length = n * 16) (hk6 : lv ≤ 6) (hnk : n = 2 ^ lv) (i : Int) (w : World) (hg : GroveAt w pv d ep ls lv) : Ctr Try.prog 101 [pv, I i] w (fun _ => False) (outE (tupG [] [I (lfE n i)] (rowS (pN n lv i) (pW d ep ls n lv i))) w) := by
  have hls16 : ls.length = 16 * n := by omega
  have h64 := pow64 hk6
  obtain ⟨g, og, ocap, ocur, rfl, hgb, hog, hocap, hrows⟩ := hg.look hls16 hnk
  refine fn_start (N := 56) Try.func101 rfl rfl rfl fun ac hk => ?_
  have hs := St.start hk w
  refine wp_seq ?_
  refine wp_reg ?_
  refine s_q hs (c_assign (hs.ev rfl)) rfl fun ac hs => ?_
  refine s_q hs (c_assign (hs.ev rfl)) rfl fun ac hs => ?_
  refine s_end ?_
  refine then_n ?_
  refine wp_seq ?_
  refine wp_seq ?_
  refine wp_reg ?_
  refine s_q hs (c_move (hs.ev rfl)) rfl fun ac hs => ?_
  refine s_q hs (c_move (hs.ev rfl)) rfl fun ac hs => ?_
  refine s_call hs fu100 (.cons (hs.ev rfl) (.cons (hs.ev rfl) .nil)) (grove_Leaf d ep ls n lv _ hls hk6 hnk i _ hg) rfl fun ac ww v15 hf hp hs => ?_
  obtain rfl := hp
  replace hs := hs [] (.nil _ _)
  refine s_q hs (c_move (hs.ev rfl)) rfl fun ac hs => ?_
  refine s_q hs (c_extract (hs.ev rfl) rfl) rfl fun ac hs => ?_
  refine s_q hs (c_extract (hs.ev rfl) rfl) rfl fun ac hs => ?_
  refine s_alloc hs ty54 rfl fun ac ww g6 hs => ?_
  refine s_storeW (i := 0) hs ty54 rfl rfl rfl (by rw [List.length_map, lfB_length hls]) (all_map_B _) rfl fun ww hs => ?_
  refine s_q hs (c_assign (hs.ev rfl)) rfl fun ac hs => ?_
  refine s_end ?_
  replace hs := hs.sub (F' := [(0, _), (1, _), (4, _), (5, _), (7, _)]) ⟨rfl, rfl, rfl, rfl, rfl, trivial⟩
  refine then_n ?_
  refine wp_seq ?_
  refine wp_reg ?_
  refine s_q hs (c_move (hs.ev rfl)) rfl fun ac hs => ?_
  refine s_q hs (c_neqI (hs.ev rfl) (hs.ev rfl)) rfl fun ac hs => ?_
  refine s_end ?_
  replace hs := hs.sub (F' := [(0, _), (1, _), (4, _), (5, _), (7, _), (19, _)]) ⟨rfl, rfl, rfl, rfl, rfl, rfl, trivial⟩
  refine then_n ?_
  refine s_cond hs rfl (fun hc => ?_) (fun hc => ?_)
  · try simp only [decide_eq_true_eq, decide_eq_false_iff_not, Bool.not_eq_true', Bool.not_eq_false', Bool.and_eq_true, Bool.or_eq_true, Bool.or_eq_false_iff] at hc
    have hno : ¬ lfOk n i = true := fun h => hc (if_pos h)
    refine wp_seq ?_
    refine wp_reg ?_
    refine s_q hs (c_move (hs.ev rfl)) rfl fun ac hs => ?_
    refine s_q hs (c_assign (hs.ev rfl)) rfl fun ac hs => ?_
    refine s_q hs (c_assign (hs.ev rfl)) rfl fun ac hs => ?_
    refine s_end ?_
    replace hs := hs.sub (F' := [(0, _), (1, _), (4, _), (5, _)]) ⟨rfl, rfl, rfl, rfl, trivial⟩
    refine then_n ?_
    refine wp_ret ?_
    refine then_r ?_
    refine s_ret hs rfl (.tmp (hs.tmp rfl) (.tmp (hs.tmp rfl) .nil)) rfl ⟨_, rfl, hs.fr, ?_⟩
    rw [pN, pW, lfE, if_neg hno, if_neg hno, if_neg hno]
    exact ⟨_, ⟨_, rfl, rfl⟩, ((hs.nilrow 54 16).pick (L' := [_]) (.cons_cons _ (List.nil_sublist _))).made⟩
  · try simp only [decide_eq_true_eq, decide_eq_false_iff_not, Bool.not_eq_true', Bool.not_eq_false', Bool.and_eq_true, Bool.or_eq_true, Bool.or_eq_false_iff] at hc
    have hok1 : lfOk n i = true := Classical.byContradiction fun h => by rw [lfE, if_neg h] at hc; exact absurd hc (by decide)
    obtain ⟨q, rfl, hqn⟩ := lf_spec hok1
    refine wp_skip ?_
    refine then_n ?_
    refine wp_seq ?_
    refine wp_reg ?_
    refine s_bslice hs un110 ty54 .nil rfl (by simp [Value.cells]) (by decide) rfl rfl fun ac ww g21 hs => ?_
    refine s_q hs (c_assign (hs.ev rfl)) rfl fun ac hs => ?_
    refine s_end ?_
    replace hs := hs.segrow (i := 0) (n := 0) (sz := 16) rfl rfl (by decide)
    replace hs := hs.sub (F' := [(0, _), (1, _), (4, _), (5, _), (8, _)]) ⟨rfl, rfl, rfl, rfl, rfl, trivial⟩
    refine then_n ?_
    refine wp_seq ?_
    refine wp_seq ?_
    refine wp_region_rg pmix 13 (by kernel_rfl) rfl hs ?_
    simp only [List.take_succ_cons, List.take_zero]
    refine rg_q (fun ac ww h => c_move (h.ev rfl)) rfl ?_
    refine rg_q (fun ac ww h => c_nil (h.ev rfl)) rfl ?_
    refine rg_q (fun ac ww h => c_fld fl231_2 (h.ev rfl)) rfl ?_
    refine rg_q (fun ac ww h => c_loadS un222 rfl (h.ev rfl) (h.blk (hs.old hgb id)) rfl) rfl ?_
    refine rg_q (fun ac ww h => c_move (h.ev rfl)) rfl ?_
    refine rg_q (fun ac ww h => c_nil (h.ev rfl)) rfl ?_
    refine rg_q (fun ac ww h => c_fld fl231_2 (h.ev rfl)) rfl ?_
    refine rg_q (fun ac ww h => c_loadS un222 rfl (h.ev rfl) (h.blk (hs.old hgb id)) rfl) rfl ?_
    refine rg_q (fun ac ww h => c_lenS un222 (h.ev rfl)) rfl ?_
    refine rg_q (fun ac ww h => c_to (c_subI (h.ev rfl) (h.ev rfl) (by omega) (by omega)) ((congrArg I (show (((lv + 1 : Nat) : Int) - 1 = (lv : Int)) by omega)))) rfl ?_
    refine rg_q (fun ac ww h => c_to (c_sliceH (j := lv) un222 ty110 (h.ev rfl) (h.ev rfl) (by omega) (by omega)) ((show Value.slice _ lv ocap = Value.slice (some ⟨og, 0, none⟩) lv ocap from by rw [if_neg (by omega)]; simp [Addr.add]))) rfl ?_
    refine rg_q (fun ac ww h => c_lenS un222 (h.ev rfl)) rfl ?_
    refine rg_q (fun ac ww h => c_move (h.ev rfl)) rfl ?_
    refine rg_nil fun ac ww L' hf hfe hs => ?_
    simp only [List.drop_succ_cons, List.drop_zero]
    obtain rfl : L' = [] := hfe
    replace hs := hs.toL (List.nil_append _)
    refine s_end ?_
    replace hs := hs.sub (F' := [(1, _), (4, _), (5, _), (8, _), (32, _), (33, _), (34, _)]) ⟨rfl, rfl, rfl, rfl, rfl, rfl, rfl, trivial⟩
    refine then_n ?_
    refine wp_block ?_
    refine s_loop hs (X := Nat × Value) (fun x => [(1, I (q / 2 ^ x.1 : Nat)), (8, x.2), (34, I x.1)]) [(4, _), (5, _), (32, _), (33, _)] (fun x => [.row x.2 x.1 ((gPath d ep ls q x.1).map B) 54 16, _]) (fun j x => x.1 ≤ lv ∧ j = lv - x.1) (_) ((0, _)) (⟨Nat.zero_le _, rfl⟩) ⟨(congrArg (fun z : Nat => some (I z)) (by simp)), rfl, rfl, rfl, rfl, rfl, rfl, trivial⟩ rfl ?_
    rintro n ⟨k, v⟩ ac ww hok hs
    simp only [List.cons_append, List.nil_append] at hs
    obtain ⟨hk, rfl⟩ := hok
    simp only at hk hs
    obtain ⟨qk, hqk⟩ : ∃ qk : Nat, q / 2 ^ k = qk := ⟨_, rfl⟩
    have hqle : qk ≤ q := hqk ▸ Nat.div_le_self _ _
    rw [hqk] at hs
    have hsl := gPath_length (d := d) (ep := ep) (ls := ls) (q := q) (lv := lv) (by omega) (by omega) k hk
    refine wp_seq ?_
    refine wp_reg ?_
    refine s_q hs (c_lssI (hs.ev rfl) (hs.ev rfl)) rfl fun ac hs => ?_
    refine s_end ?_
    refine then_n ?_
    refine wp_seq ?_
    refine s_cond hs rfl (fun hc => ?_) (fun hc => ?_)
    · try simp only [decide_eq_true_eq, decide_eq_false_iff_not, Bool.not_eq_true', Bool.not_eq_false', Bool.and_eq_true, Bool.or_eq_true, Bool.or_eq_false_iff] at hc
      have hkl : k < lv := by omega
      obtain ⟨rgk, rcapk, rcurk, hrek, hrgk, hrtk⟩ := hrows k (by omega)
      have hbl := beside_row (by rw [← hnk]; exact hqn) hkl
      have hwl := gWay_length (d := d) (ep := ep) hls16 hnk hqn hkl
      rw [hqk] at hbl hwl
      refine wp_skip ?_
      refine then_n ?_
      refine wp_seq ?_
      refine wp_block ?_
      refine wp_seq ?_
      refine wp_reg ?_
      refine s_q hs (c_idxS (j := k) un222 ty110 (hs.ev rfl) (hs.ev rfl) (by omega) (by omega)) rfl fun ac hs => ?_
      refine s_q hs (c_loadS un110 rfl (hs.ev rfl) (hs.old hog id) hrek) rfl fun ac hs => ?_
      refine s_q hs (c_assign (hs.ev rfl)) rfl fun ac hs => ?_
      refine s_end ?_
      refine then_n ?_
      refine wp_seq ?_
      refine wp_reg ?_
      refine s_q hs (c_move (hs.ev rfl)) rfl fun ac hs => ?_
      refine s_q hs (c_addI (hs.ev rfl) (hs.ev rfl) (by omega) (by omega)) rfl fun ac hs => ?_
      refine s_q hs (c_assign (hs.ev rfl)) rfl fun ac hs => ?_
      refine s_end ?_
      refine then_n ?_
      refine wp_seq ?_
      refine wp_seq ?_
      refine wp_reg ?_
      refine s_q hs (c_move (hs.ev rfl)) rfl fun ac hs => ?_
      refine s_q hs (c_remI (hs.ev rfl) (hs.ev rfl) (by omega) (by omega)) rfl fun ac hs => ?_
      refine s_q hs (c_eqlI (hs.ev rfl) (hs.ev rfl)) rfl fun ac hs => ?_
      refine s_end ?_
      refine then_n ?_
      refine s_cond hs rfl (fun hc => ?_) (fun hc => ?_)
      · try simp only [decide_eq_true_eq, decide_eq_false_iff_not, Bool.not_eq_true', Bool.not_eq_false', Bool.and_eq_true, Bool.or_eq_true, Bool.or_eq_false_iff] at hc
        refine wp_reg ?_
        refine s_q hs (c_move (hs.ev rfl)) rfl fun ac hs => ?_
        refine s_q hs (c_subI (hs.ev rfl) (hs.ev rfl) (by omega) (by omega)) rfl fun ac hs => ?_
        refine s_q hs (c_assign (hs.ev rfl)) rfl fun ac hs => ?_
        refine s_end ?_
        have hbe : ((qk : Int) - 1) = ((besideI qk : Nat) : Int) := by unfold besideI; rw [if_pos (by omega)]; omega
        rw [hbe] at hs
        refine then_n ?_
        refine wp_seq ?_
        refine wp_reg ?_
        refine s_q hs (c_move (hs.ev rfl)) rfl fun ac hs => ?_
        refine s_q hs (c_move (hs.ev rfl)) rfl fun ac hs => ?_
        refine s_q hs (c_move (hs.ev rfl)) rfl fun ac hs => ?_
        refine s_q hs (c_idxS (j := besideI qk) un110 ty54 (hs.ev rfl) (hs.ev rfl) (by omega) hbl) rfl fun ac hs => ?_
        refine s_q hs (c_loadA ty54 rfl (hs.ev rfl) (hs.old hrgk id) (hrtk (besideI qk) hbl) (by rw [List.length_map]; exact hwl)) rfl fun ac hs => ?_
        refine s_bslice hs un110 ty54 (.cons (hs.ev rfl) .nil) rfl (by intro v hv; simp only [List.mem_singleton] at hv; subst hv; simp [Value.cells, hwl]) (by decide) (show _ = (gNode d ep ls k (besideI qk)).map B by simp [flatCells, Value.cells]) rfl fun ac ww g50 hs => ?_
        refine s_append (i := 1) hs un110 ty54 (by decide) rfl rfl rfl (Rd.of_seg (n := 1) (hs.seg (i := 0) rfl) (Nat.le_refl _) (by decide) (List.take_of_length_le (by simp))) (by rw [List.length_map, hwl]) (all_map_B _) (by unfold maxLen; omega) (by omega) rfl fun ac ww v51 hf hnil hs => ?_
        refine s_q hs (c_assign (hs.ev rfl)) rfl fun ac hs => ?_
        refine s_end ?_
        refine then_n ?_
        refine wp_reg ?_
        refine s_q hs (c_move (hs.ev rfl)) rfl fun ac hs => ?_
        refine s_q hs (c_quoI (hs.ev rfl) (hs.ev rfl) (by omega) (by omega) (by omega)) rfl fun ac hs => ?_
        refine s_q hs (c_assign (hs.ev rfl)) rfl fun ac hs => ?_
        refine s_end ?_
        refine blk_n ?_
        refine then_n ?_
        refine wp_reg ?_
        refine s_q hs (c_addI (hs.ev rfl) (hs.ev rfl) (by omega) (by omega)) rfl fun ac hs => ?_
        refine s_q hs (c_move (hs.ev rfl)) rfl fun ac hs => ?_
        refine s_end ?_
        refine then_n ?_
        replace hs := hs.pick (L' := [_, _]) (.cons _ (.refl _))
        exact ⟨lv - (k + 1), by (try simp only); omega, (k + 1, _), ⟨by (try simp only); omega, rfl⟩, St.next hs ⟨(congrArg (fun z => some (I z)) (by rw [half_pow, hqk]; omega)), rfl, rfl, rfl, rfl, rfl, rfl, trivial⟩ (by simp only [gPath_succ, List.map_append, gWay, wayN, hqk])⟩
      · try simp only [decide_eq_true_eq, decide_eq_false_iff_not, Bool.not_eq_true', Bool.not_eq_false', Bool.and_eq_true, Bool.or_eq_true, Bool.or_eq_false_iff] at hc
        have hbe : ((qk : Int) + 1) = ((besideI qk : Nat) : Int) := by unfold besideI; rw [if_neg (by omega)]; rfl
        rw [hbe] at hs
        refine wp_skip ?_
        refine then_n ?_
        refine wp_seq ?_
        refine wp_reg ?_
        refine s_q hs (c_move (hs.ev rfl)) rfl fun ac hs => ?_
        refine s_q hs (c_move (hs.ev rfl)) rfl fun ac hs => ?_
        refine s_q hs (c_move (hs.ev rfl)) rfl fun ac hs => ?_
        refine s_q hs (c_idxS (j := besideI qk) un110 ty54 (hs.ev rfl) (hs.ev rfl) (by omega) hbl) rfl fun ac hs => ?_
        refine s_q hs (c_loadA ty54 rfl (hs.ev rfl) (hs.old hrgk id) (hrtk (besideI qk) hbl) (by rw [List.length_map]; exact hwl)) rfl fun ac hs => ?_
        refine s_bslice hs un110 ty54 (.cons (hs.ev rfl) .nil) rfl (by intro v hv; simp only [List.mem_singleton] at hv; subst hv; simp [Value.cells, hwl]) (by decide) (show _ = (gNode d ep ls k (besideI qk)).map B by simp [flatCells, Value.cells]) rfl fun ac ww g50 hs => ?_
        refine s_append (i := 1) hs un110 ty54 (by decide) rfl rfl rfl (Rd.of_seg (n := 1) (hs.seg (i := 0) rfl) (Nat.le_refl _) (by decide) (List.take_of_length_le (by simp))) (by rw [List.length_map, hwl]) (all_map_B _) (by unfold maxLen; omega) (by omega) rfl fun ac ww v51 hf hnil hs => ?_
        refine s_q hs (c_assign (hs.ev rfl)) rfl fun ac hs => ?_
        refine s_end ?_
        refine then_n ?_
        refine wp_reg ?_
        refine s_q hs (c_move (hs.ev rfl)) rfl fun ac hs => ?_
        refine s_q hs (c_quoI (hs.ev rfl) (hs.ev rfl) (by omega) (by omega) (by omega)) rfl fun ac hs => ?_
        refine s_q hs (c_assign (hs.ev rfl)) rfl fun ac hs => ?_
        refine s_end ?_
        refine blk_n ?_
        refine then_n ?_
        refine wp_reg ?_
        refine s_q hs (c_addI (hs.ev rfl) (hs.ev rfl) (by omega) (by omega)) rfl fun ac hs => ?_
        refine s_q hs (c_move (hs.ev rfl)) rfl fun ac hs => ?_
        refine s_end ?_
        refine then_n ?_
        replace hs := hs.pick (L' := [_, _]) (.cons _ (.refl _))
        exact ⟨lv - (k + 1), by (try simp only); omega, (k + 1, _), ⟨by (try simp only); omega, rfl⟩, St.next hs ⟨(congrArg (fun z => some (I z)) (by rw [half_pow, hqk]; omega)), rfl, rfl, rfl, rfl, rfl, rfl, trivial⟩ (by simp only [gPath_succ, List.map_append, gWay, wayN, hqk])⟩
    · try simp only [decide_eq_true_eq, decide_eq_false_iff_not, Bool.not_eq_true', Bool.not_eq_false', Bool.and_eq_true, Bool.or_eq_true, Bool.or_eq_false_iff] at hc
      have hkl2 : k = lv := by omega
      refine wp_exit ?_
      refine then_e ?_
      refine then_e ?_
      refine blk_hit ?_
      refine then_n ?_
      refine wp_seq ?_
      refine wp_reg ?_
      refine s_q hs (c_move (hs.ev rfl)) rfl fun ac hs => ?_
      refine s_q hs (c_assign (hs.ev rfl)) rfl fun ac hs => ?_
      refine s_q hs (c_assign (hs.ev rfl)) rfl fun ac hs => ?_
      refine s_end ?_
      replace hs := hs.sub (F' := [(4, _), (5, _)]) ⟨rfl, rfl, trivial⟩
      refine then_n ?_
      refine wp_ret ?_
      refine s_ret hs rfl (.tmp (hs.tmp rfl) (.tmp (hs.tmp rfl) .nil)) rfl ⟨_, rfl, hs.fr, ?_⟩
      have hmd := (hs.pick (L' := [_]) (.cons_cons _ (List.nil_sublist _))).made
      subst hkl2
      rw [pN, pW, lfE, if_pos hok1, if_pos hok1, if_pos hok1, Int.toNat_natCast]
      exact ⟨_, ⟨_, rfl, rfl⟩, hmd⟩
end Go.Proofs.Ytmgnnclkjkbmdaa
end

section
/- Why whatever rises is what a node shows, or two unlike texts have one short sum. -/
set_option linter.unusedSimpArgs false
set_option linter.unusedVariables false
set_option maxRecDepth 100000
namespace Go.Proofs.Ytmgnnclkjkbmdaa
open Go Go.Fw
open Sha
theorem rise_congr {J : Nat → List UInt8 → List UInt8 → List UInt8} {id : Nat} {l : List UInt8} {w1 w2 : Nat → List UInt8} : ∀ n, (∀ k, k < n → w1 k = w2 k) → riseN J id l w1 n = riseN J id l w2 n
  | 0, _ => rfl
  | n + 1, h => by rw [riseN, riseN, rise_congr n (fun k hk => h k (by omega)), h n (by omega)]
theorem Rd.head {w : World} {ad : Option Addr} {cap n m : Nat} {ws : List UInt8} (h : Rd w (.slice ad n cap) n (ws.map B)) (hw : ws.length = n * 16) (hm : m ≤ n) (hp : 0 < m) : Rd w (.slice ad m cap) m ((ws.take (16 * m)).map B) := by
  obtain ⟨b, o, T, fr, all, rfl, hb, hc⟩ := Rd.bytes_at h hw (by omega)
  obtain ⟨_, cap', e, h1, h2, _, _⟩ := h
  cases e
  refine ⟨_, _, rfl, by omega, h2, (fun e => by cases e), .inr ⟨b, o, T, fr, all, rfl, hb, ?_⟩⟩
  have hle : (ws.take (16 * m)).length ≤ ws.length := by rw [List.length_take]; omega
  rw [List.length_map, List.map_take]
  have h3 := congrArg (List.take (ws.take (16 * m)).length) hc
  rw [List.take_take, List.length_map, Nat.min_eq_left hle] at h3
  rw [h3, List.length_take, ← List.map_take, ← List.map_take]
  congr 1
  rw [List.take_eq_take_iff]
  omega
end Go.Proofs.Ytmgnnclkjkbmdaa
end

section
/- An example of a grove; nil groves. -/
set_option linter.unusedSimpArgs false
set_option linter.unusedVariables false
set_option maxRecDepth 100000
namespace Go.Proofs.Ytmgnnclkjkbmdaa
open Go Go.Fw
open Sha
/-- A list of a length that a grove may have. -/
def cutE (w : World) : Value → List Ent → World → Prop := fun v L _ => ∃ (e : Ent) (k m : Nat) (ls : List UInt8), L = [e] ∧ m = 2 ^ k ∧ k ≤ 4 ∧ ls.length = m * 16 ∧ ∀ w2, Fr0 w w2 → e.holds w2 → Rd w2 v m (ls.map B)
theorem gPath_chunk {d : Int} {ep : UInt32} {ls : List UInt8} {q lv : Nat} (hls : ls.length = 16 * 2 ^ lv) (hq : q < 2 ^ lv) {k : Nat} (hk : k < lv) : chunk (gPath d ep ls q lv) k = gWay d ep ls q k := by
  have := rows_chunk (f := gWay d ep ls q) (N := lv) (fun j hj => by
    have := gNode_length (d := d) (ep := ep) hls j _ (beside_fit hq hj)
    simpa only [gWay, wayN, gNode] using this) lv (Nat.le_refl _) k hk
  exact this
theorem gpath_leads {d : Int} {ep : UInt32} {ls : List UInt8} {q lv : Nat} (hls : ls.length = 16 * 2 ^ lv) (hq : q < 2 ^ lv) : gRise d ep q (chunk ls q) (gPath d ep ls q lv) lv = gNode d ep ls lv 0 := by
  have h1 : gRise d ep q (chunk ls q) (gPath d ep ls q lv) lv = riseN (gJ d ep) q (gLf ls q) (wayN (gJ d ep) (gLf ls) q) lv := rise_congr lv fun k hk => gPath_chunk hls hq hk
  rw [h1, rise_node, Nat.div_eq_of_lt hq]
theorem gchk_own {d : Int} {ep : UInt32} {ls : List UInt8} {q lv : Nat} (hls : ls.length = 16 * 2 ^ lv) (hlv : lv ≤ 6) (hq : q < 2 ^ lv) : chkB d ep (lv : Nat) (gNode d ep ls lv 0) (q : Nat) (chunk ls q) (gPath d ep ls q lv) lv = true := by
  have h1 : foldOk (q : Nat) lv = true := fold_good (by omega) hlv (by exact_mod_cast hq)
  rw [chkB, foldE, foldB, if_pos h1, if_pos h1, Int.toNat_natCast, gpath_leads hls hq]
  simp
set_option maxHeartbeats 4000000 in
theorem law07_awake  (w : World)  : Ctr Try.prog 97 [] w (fun _ => False) (fun v _ => v = .bool true) := by
  refine fn_start (N := 39) Try.func97 rfl rfl rfl fun ac hk => ?_
  have hs := St.start hk w
  refine wp_seq ?_
  refine wp_reg ?_
  refine s_q hs (c_assign (hs.ev rfl)) rfl fun ac hs => ?_
  refine s_end ?_
  refine then_n ?_
  refine wp_seq ?_
  refine wp_reg ?_
  refine s_q hs (c_buildA ty54 un54 ty5 (zc := (7 :: List.replicate 15 (0 : UInt8)).map B) (vs := [B 7]) (.cons (St.ev (v := B 7) hs rfl) .nil) (by simp [Value.cells]) (by simp [flatCells, Value.cells]) rfl) rfl fun ac hs => ?_
  refine s_bslice hs un110 ty54 (.cons (hs.ev rfl) .nil) rfl (by intro v hv; simp only [List.mem_singleton] at hv; subst hv; simp [Value.cells]) (by decide) (show _ = ((7 :: List.replicate 15 (0 : UInt8))).map B by simp [flatCells, Value.cells]) rfl fun ac ww g7 hs => ?_
  refine s_call hs fu94 (.cons (hs.ev rfl) (.cons (hs.ev rfl) (.cons (hs.ev rfl) .nil))) (grove_New 1 2 (7 :: List.replicate 15 (0 : UInt8)) 1 0 _ rfl (by decide) rfl (by rfl) _ (Rd.of_seg (n := 1) (hs.seg (i := 0) rfl) (Nat.le_refl _) (by decide) (List.take_of_length_le (by simp)))) rfl fun ac ww v8 hf hp hs => ?_
  obtain ⟨L', ⟨tv, rfl, g0, v0, ps0, rfl, hps0, rfl⟩, hh⟩ := hp
  replace hs := hs _ hh
  refine s_q hs (c_move (hs.ev rfl)) rfl fun ac hs => ?_
  refine s_q hs (c_extract (hs.ev rfl) rfl) rfl fun ac hs => ?_
  refine s_q hs (c_extract (hs.ev rfl) rfl) rfl fun ac hs => ?_
  refine s_q hs (c_assign (hs.ev rfl)) rfl fun ac hs => ?_
  refine s_q hs (c_assign (hs.ev rfl)) rfl fun ac hs => ?_
  refine s_end ?_
  replace hs := hs.sub (F' := [(0, _), (1, _), (2, _)]) ⟨rfl, rfl, rfl, trivial⟩
  refine then_n ?_
  refine wp_seq ?_
  refine wp_seq ?_
  refine wp_reg ?_
  refine s_q hs (c_move (hs.ev rfl)) rfl fun ac hs => ?_
  refine s_q hs (c_ff (c_eqlNil un112 (hs.ev rfl) (hs.ev rfl)) (by rfl)) rfl fun ac hs => ?_
  refine s_q hs (c_move (hs.ev rfl)) rfl fun ac hs => ?_
  refine s_yes hs rfl rfl ?_
  refine s_q hs (c_move (hs.ev rfl)) rfl fun ac hs => ?_
  refine s_yes hs rfl rfl ?_
  refine s_q hs (c_ff (c_neqI (hs.ev rfl) (hs.ev rfl)) (by rfl)) rfl fun ac hs => ?_
  refine s_q hs (c_pick (hs.ev rfl) (hs.ev rfl) (hs.ev rfl)) rfl fun ac hs => ?_
  refine s_end ?_
  replace hs := hs.sub (F' := [(0, _), (1, _), (16, _)]) ⟨rfl, rfl, rfl, trivial⟩
  refine then_n ?_
  refine wp_cond_false (hs.ev rfl) ?_
  refine wp_skip ?_
  refine then_n ?_
  refine wp_seq ?_
  refine wp_reg ?_
  refine s_q hs (c_move (hs.ev rfl)) rfl fun ac hs => ?_
  refine s_call hs fu101 (.cons (hs.ev rfl) (.cons (hs.ev rfl) .nil)) (grove_Path 1 2 (7 :: List.replicate 15 (0 : UInt8)) 1 0 _ rfl (by decide) rfl 0 _ ⟨g0, v0, ps0, rfl, hps0, hs.has.pick (L' := groveL 1 2 g0 v0 ps0) (by simp only [groveL]; exact .cons_cons _ (.cons_cons _ (List.nil_sublist _)))⟩) rfl fun ac ww v19 hf hp hs => ?_
  obtain ⟨L', ⟨tv1, rfl, rfl⟩, hh⟩ := hp
  replace hs := hs _ hh
  obtain ⟨pad, pcap, rfl, _, _⟩ := Rd.sl (Rd.of_row (hs.get (i := 0) rfl))
  refine s_q hs (c_move (hs.ev rfl)) rfl fun ac hs => ?_
  refine s_q hs (c_extract (hs.ev rfl) rfl) rfl fun ac hs => ?_
  refine s_q hs (c_extract (hs.ev rfl) rfl) rfl fun ac hs => ?_
  refine s_q hs (c_assign (hs.ev rfl)) rfl fun ac hs => ?_
  refine s_q hs (c_assign (hs.ev rfl)) rfl fun ac hs => ?_
  refine s_end ?_
  replace hs := hs.sub (F' := [(0, _), (1, _), (3, _), (4, _)]) ⟨rfl, rfl, rfl, rfl, trivial⟩
  refine then_n ?_
  refine wp_seq ?_
  refine wp_reg ?_
  refine s_q hs (c_move (hs.ev rfl)) rfl fun ac hs => ?_
  refine s_q hs (c_tt (c_eqlI (hs.ev rfl) (hs.ev rfl)) (by rfl)) rfl fun ac hs => ?_
  refine s_q hs (c_move (hs.ev rfl)) rfl fun ac hs => ?_
  refine s_yes hs rfl rfl ?_
  refine s_q hs (c_move (hs.ev rfl)) rfl fun ac hs => ?_
  refine s_yes hs rfl rfl ?_
  refine s_q hs (c_lenS un110 (hs.ev rfl)) rfl fun ac hs => ?_
  refine s_yes hs rfl rfl ?_
  refine s_q hs (c_tt (c_eqlI (hs.ev rfl) (hs.ev rfl)) (by rfl)) rfl fun ac hs => ?_
  refine s_q hs (c_pick (hs.ev rfl) (hs.ev rfl) (hs.ev rfl)) rfl fun ac hs => ?_
  refine s_q hs (c_move (hs.ev rfl)) rfl fun ac hs => ?_
  refine s_yes hs rfl rfl ?_
  refine s_q hs (c_move (hs.ev rfl)) rfl fun ac hs => ?_
  refine s_yes hs rfl rfl ?_
  refine s_call hs fu98 (.cons (hs.ev rfl) .nil) (grove_Root 1 2 (7 :: List.replicate 15 (0 : UInt8)) 1 0 _ rfl (by decide) rfl _ ⟨g0, v0, ps0, rfl, hps0, hs.has.pick (L' := groveL 1 2 g0 v0 ps0) (by simp only [groveL]; exact .cons _ (.cons_cons _ (.cons_cons _ (List.nil_sublist _))))⟩) rfl fun ac ww v31 hf hp hs => ?_
  obtain rfl := hp
  replace hs := hs [] (.nil _ _)
  refine s_yes hs rfl rfl ?_
  refine s_q hs (c_buildA ty54 un54 ty5 (zc := (7 :: List.replicate 15 (0 : UInt8)).map B) (vs := [B 7]) (.cons (St.ev (v := B 7) hs rfl) .nil) (by simp [Value.cells]) (by simp [flatCells, Value.cells]) rfl) rfl fun ac hs => ?_
  refine s_yes hs rfl rfl ?_
  refine s_q hs (c_tt (c_eqlAB un54 ty5 eg54 (hs.ev rfl) (hs.ev rfl) (by rfl) (by rfl)) (by rfl)) rfl fun ac hs => ?_
  refine s_q hs (c_pick (hs.ev rfl) (hs.ev rfl) (hs.ev rfl)) rfl fun ac hs => ?_
  refine s_q hs (c_move (hs.ev rfl)) rfl fun ac hs => ?_
  refine s_yes hs rfl rfl ?_
  refine s_call hs fu95 (.cons (hs.ev rfl) .nil) (grove_Height 6 _) rfl fun ac ww v36 hf hp hs => ?_
  obtain rfl := hp
  replace hs := hs [] (.nil _ _)
  refine s_yes hs rfl rfl ?_
  refine s_q hs (c_tt (c_eqlI (hs.ev rfl) (hs.ev rfl)) (by rfl)) rfl fun ac hs => ?_
  refine s_q hs (c_pick (hs.ev rfl) (hs.ev rfl) (hs.ev rfl)) rfl fun ac hs => ?_
  refine s_q hs (c_assign (hs.ev rfl)) rfl fun ac hs => ?_
  refine s_end ?_
  replace hs := hs.sub (F' := [(0, _)]) ⟨rfl, trivial⟩
  refine then_n ?_
  refine wp_ret ?_
  refine s_ret hs rfl (.tmp (hs.tmp rfl) .nil) rfl ⟨_, rfl, hs.fr, ?_⟩
  rfl
set_option maxHeartbeats 4000000 in
theorem law_GroveNil (i : Int) (w : World)  : Ctr Try.prog 20 [I i] w (fun _ => False) (fun v _ => v = .bool true) := by
  refine fn_start (N := 40) Try.func20 rfl rfl rfl fun ac hk => ?_
  have hs := St.start hk w
  refine wp_seq ?_
  refine wp_reg ?_
  refine s_q hs (c_assign (hs.ev rfl)) rfl fun ac hs => ?_
  refine s_end ?_
  refine then_n ?_
  refine wp_seq ?_
  refine wp_reg ?_
  refine s_q hs (c_assign (hs.ev rfl)) rfl fun ac hs => ?_
  refine s_end ?_
  refine then_n ?_
  refine wp_seq ?_
  refine wp_reg ?_
  refine s_q hs (c_move (hs.ev rfl)) rfl fun ac hs => ?_
  refine s_q hs (c_move (hs.ev rfl)) rfl fun ac hs => ?_
  refine s_call hs fu100 (.cons (hs.ev rfl) (.cons (hs.ev rfl) .nil)) (grove_LeafNil i _) rfl fun ac ww v11 hf hp hs => ?_
  obtain rfl := hp
  replace hs := hs [] (.nil _ _)
  refine s_q hs (c_move (hs.ev rfl)) rfl fun ac hs => ?_
  refine s_q hs (c_extract (hs.ev rfl) rfl) rfl fun ac hs => ?_
  refine s_q hs (c_extract (hs.ev rfl) rfl) rfl fun ac hs => ?_
  refine s_alloc hs ty54 rfl fun ac ww g4 hs => ?_
  refine s_storeW (i := 0) hs ty54 rfl rfl rfl (by simp) (all_map_B _) rfl fun ww hs => ?_
  refine s_q hs (c_assign (hs.ev rfl)) rfl fun ac hs => ?_
  refine s_end ?_
  replace hs := hs.sub (F' := [(0, _), (2, _), (3, _), (5, _)]) ⟨rfl, rfl, rfl, rfl, trivial⟩
  refine then_n ?_
  refine wp_seq ?_
  refine wp_reg ?_
  refine s_q hs (c_move (hs.ev rfl)) rfl fun ac hs => ?_
  refine s_q hs (c_move (hs.ev rfl)) rfl fun ac hs => ?_
  refine s_call hs fu101 (.cons (hs.ev rfl) (.cons (hs.ev rfl) .nil)) (grove_PathNil i _) rfl fun ac ww v17 hf hp hs => ?_
  obtain rfl := hp
  replace hs := hs [] (.nil _ _)
  refine s_q hs (c_move (hs.ev rfl)) rfl fun ac hs => ?_
  refine s_q hs (c_extract (hs.ev rfl) rfl) rfl fun ac hs => ?_
  refine s_q hs (c_extract (hs.ev rfl) rfl) rfl fun ac hs => ?_
  refine s_q hs (c_assign (hs.ev rfl)) rfl fun ac hs => ?_
  refine s_q hs (c_assign (hs.ev rfl)) rfl fun ac hs => ?_
  refine s_end ?_
  replace hs := hs.sub (F' := [(2, _), (3, _), (5, _), (6, _), (7, _)]) ⟨rfl, rfl, rfl, rfl, rfl, trivial⟩
  refine then_n ?_
  refine wp_seq ?_
  refine wp_reg ?_
  refine s_call hs fu97 .nil (law07_awake _) rfl fun ac ww v20 hf hp hs => ?_
  obtain rfl := hp
  replace hs := hs [] (.nil _ _)
  refine s_q hs (c_move (hs.ev rfl)) rfl fun ac hs => ?_
  refine s_yes hs rfl rfl ?_
  refine s_q hs (c_move (hs.ev rfl)) rfl fun ac hs => ?_
  refine s_yes hs rfl rfl ?_
  refine s_q hs (c_tt (c_eqlI (hs.ev rfl) (hs.ev rfl)) (by rfl)) rfl fun ac hs => ?_
  refine s_q hs (c_pick (hs.ev rfl) (hs.ev rfl) (hs.ev rfl)) rfl fun ac hs => ?_
  refine s_q hs (c_move (hs.ev rfl)) rfl fun ac hs => ?_
  refine s_yes hs rfl rfl ?_
  refine s_q hs (c_move (hs.ev rfl)) rfl fun ac hs => ?_
  refine s_yes hs rfl rfl ?_
  refine s_q hs (c_tt (c_eqlI (hs.ev rfl) (hs.ev rfl)) (by rfl)) rfl fun ac hs => ?_
  refine s_q hs (c_pick (hs.ev rfl) (hs.ev rfl) (hs.ev rfl)) rfl fun ac hs => ?_
  refine s_q hs (c_move (hs.ev rfl)) rfl fun ac hs => ?_
  refine s_yes hs rfl rfl ?_
  refine s_q hs (c_move (hs.ev rfl)) rfl fun ac hs => ?_
  refine s_yes hs rfl rfl ?_
  refine s_q hs (c_lenS un110 (hs.ev rfl)) rfl fun ac hs => ?_
  refine s_yes hs rfl rfl ?_
  refine s_q hs (c_tt (c_eqlI (hs.ev rfl) (hs.ev rfl)) (by rfl)) rfl fun ac hs => ?_
  refine s_q hs (c_pick (hs.ev rfl) (hs.ev rfl) (hs.ev rfl)) rfl fun ac hs => ?_
  refine s_q hs (c_move (hs.ev rfl)) rfl fun ac hs => ?_
  refine s_yes hs rfl rfl ?_
  refine s_q hs (c_move (hs.ev rfl)) rfl fun ac hs => ?_
  refine s_yes hs rfl rfl ?_
  refine s_call hs fu98 (.cons (hs.ev rfl) .nil) (grove_RootNil _) rfl fun ac ww v36 hf hp hs => ?_
  obtain rfl := hp
  replace hs := hs [] (.nil _ _)
  refine s_yes hs rfl rfl ?_
  refine s_q hs (c_buildA ty54 un54 ty5 (zc := (List.replicate 16 (0 : UInt8)).map B) (vs := []) .nil (by simp) (by simp [flatCells]) rfl) rfl fun ac hs => ?_
  refine s_yes hs rfl rfl ?_
  refine s_q hs (c_tt (c_eqlAB un54 ty5 eg54 (hs.ev rfl) (hs.ev rfl) (by simp) (by simp)) (by simp)) rfl fun ac hs => ?_
  refine s_q hs (c_pick (hs.ev rfl) (hs.ev rfl) (hs.ev rfl)) rfl fun ac hs => ?_
  refine s_q hs (c_assign (hs.ev rfl)) rfl fun ac hs => ?_
  refine s_end ?_
  replace hs := hs.sub (F' := [(2, _)]) ⟨rfl, trivial⟩
  refine then_n ?_
  refine wp_ret ?_
  refine s_ret hs rfl (.tmp (hs.tmp rfl) .nil) rfl ⟨_, rfl, hs.fr, ?_⟩
  rfl
end Go.Proofs.Ytmgnnclkjkbmdaa
end

section
/- Lists of a length that a grove may have; paths lead up. -/
set_option linter.unusedSimpArgs false
set_option linter.unusedVariables false
set_option maxRecDepth 100000
namespace Go.Proofs.Ytmgnnclkjkbmdaa
open Go Go.Fw
open Sha
set_option maxHeartbeats 4000000 in
theorem law07_cut (n : Nat) (ws : List UInt8) (wv : Value) (hws : ws.length = n * 16) (w00 : World) (w : World) (h00 : Fr0 w00 w) (hq : Rd w00 wv n (ws.map B)) : Ctr Try.prog 121 [wv] w (fun _ => False) (outE (cutE w00) w) := by
  have hnl := hq.le
  obtain ⟨ad, cap, rfl, hlc, hlm⟩ := Rd.sl hq
  refine fn_start (N := 23) Try.func121 rfl rfl rfl fun ac hk => ?_
  have hs := St.start hk w
  refine wp_seq ?_
  refine wp_reg ?_
  refine s_q hs (c_assign (hs.ev rfl)) rfl fun ac hs => ?_
  refine s_end ?_
  refine then_n ?_
  refine wp_seq ?_
  refine wp_reg ?_
  refine s_q hs (c_assign (hs.ev rfl)) rfl fun ac hs => ?_
  refine s_end ?_
  refine then_n ?_
  refine wp_seq ?_
  refine wp_block ?_
  refine s_loop hs (X := Nat) (fun k => [(3, I (2 ^ k : Nat))]) [(0, _), (2, _)] (fun _ => []) (fun j k => k ≤ 4 ∧ j = 4 - k ∧ (0 < n → 2 ^ k ≤ n)) (_) (0) (⟨Nat.zero_le _, rfl, fun h => h⟩) ⟨rfl, rfl, rfl, trivial⟩ rfl ?_
  rintro n k ac ww hok hs
  simp only [List.cons_append, List.nil_append] at hs
  obtain ⟨hk, rfl, hle⟩ := hok
  have hp16 : 2 ^ k ≤ 16 := by have := Nat.pow_le_pow_right (show 0 < 2 by decide) hk; simpa using this
  have hp0 := Nat.two_pow_pos k
  have hsu : 2 ^ (k + 1) = 2 ^ k * 2 := Nat.pow_succ ..
  refine wp_seq ?_
  refine wp_seq ?_
  refine wp_reg ?_
  refine s_q hs (c_move (hs.ev rfl)) rfl fun ac hs => ?_
  refine s_q hs (c_lssI (hs.ev rfl) (hs.ev rfl)) rfl fun ac hs => ?_
  refine s_q hs (c_move (hs.ev rfl)) rfl fun ac hs => ?_
  refine s_g hs rfl rfl (fun hg => c_move (hs.ev rfl)) rfl fun ac hs => ?_
  refine s_g hs rfl rfl (fun hg => c_mulI (hs.ev rfl) (gev (hs.ev rfl) hg) (by omega) (by omega)) rfl fun ac hs => ?_
  refine s_g hs rfl rfl (fun hg => c_move (hs.ev rfl)) rfl fun ac hs => ?_
  refine s_g hs rfl rfl (fun hg => c_lenS un109 (gev (hs.ev rfl) hg)) rfl fun ac hs => ?_
  refine s_g hs rfl rfl (fun hg => c_leqI (gev (hs.ev rfl) hg) (gev (hs.ev rfl) hg)) rfl fun ac hs => ?_
  refine s_q hs (c_and (hs.ev rfl) (hs.ev rfl)) rfl fun ac hs => ?_
  refine s_end ?_
  refine then_n ?_
  refine s_cond hs rfl (fun hc => ?_) (fun hc => ?_)
  · simp only [Bool.and_eq_true, decide_eq_true_eq] at hc
    have hk4 : k + 1 ≤ 4 := Nat.le_of_not_lt fun h => by
      have h2 : k = 4 := by omega
      subst h2
      omega
    refine wp_skip ?_
    refine then_n ?_
    refine wp_block ?_
    refine wp_reg ?_
    refine s_q hs (c_move (hs.ev rfl)) rfl fun ac hs => ?_
    refine s_q hs (c_mulI (hs.ev rfl) (hs.ev rfl) (by omega) (by omega)) rfl fun ac hs => ?_
    refine s_q hs (c_assign (hs.ev rfl)) rfl fun ac hs => ?_
    refine s_end ?_
    refine blk_n ?_
    refine then_n ?_
    exact ⟨4 - (k + 1), by omega, k + 1, ⟨hk4, rfl, fun h => by omega⟩, St.next hs ⟨(congrArg (fun z => some (I z)) (by omega)), rfl, rfl, trivial⟩ rfl⟩
  · skip
    refine wp_exit ?_
    refine then_e ?_
    refine then_e ?_
    refine blk_hit ?_
    refine then_n ?_
    refine wp_seq ?_
    refine wp_seq ?_
    refine wp_reg ?_
    refine s_q hs (c_move (hs.ev rfl)) rfl fun ac hs => ?_
    refine s_q hs (c_lenS un109 (hs.ev rfl)) rfl fun ac hs => ?_
    refine s_q hs (c_eqlI (hs.ev rfl) (hs.ev rfl)) rfl fun ac hs => ?_
    refine s_end ?_
    replace hs := hs.sub (F' := [(0, _), (2, _), (3, _), (17, _)]) ⟨rfl, rfl, rfl, rfl, trivial⟩
    refine then_n ?_
    refine s_cond hs rfl (fun hc => ?_) (fun hc => ?_)
    · try simp only [decide_eq_true_eq, decide_eq_false_iff_not, Bool.not_eq_true', Bool.not_eq_false', Bool.and_eq_true, Bool.or_eq_true, Bool.or_eq_false_iff] at hc
      refine wp_seq ?_
      refine wp_reg ?_
      refine s_q hs (c_buildA ty22 un22 ty5 (zc := (List.replicate 16 (0 : UInt8)).map B) (vs := []) .nil (by simp) (by simp [flatCells]) rfl) rfl fun ac hs => ?_
      refine s_bslice hs un109 ty22 (.cons (hs.ev rfl) .nil) rfl (by intro v hv; simp only [List.mem_singleton] at hv; subst hv; simp [Value.cells]) (by decide) (show _ = (List.replicate 16 (0 : UInt8)).map B by simp [flatCells, Value.cells]) rfl fun ac ww g19 hs => ?_
      refine s_q hs (c_assign (hs.ev rfl)) rfl fun ac hs => ?_
      refine s_end ?_
      replace hs := hs.sub (F' := [(0, _), (2, _), (3, _)]) ⟨rfl, rfl, rfl, trivial⟩
      refine then_n ?_
      refine wp_ret ?_
      refine then_r ?_
      refine s_ret hs rfl (.tmp (hs.tmp rfl) .nil) rfl ⟨_, rfl, hs.fr, ?_⟩
      exact ⟨_, ⟨.seg g19 ((List.replicate 16 (0 : UInt8)).map B) 22, 0, 1, (List.replicate 16 (0 : UInt8)), rfl, rfl, by decide, rfl, fun w2 _ h2 => Rd.of_seg (n := 1) h2 (Nat.le_refl _) (by decide) (List.take_of_length_le (by simp))⟩, hs.made⟩
    · try simp only [decide_eq_true_eq, decide_eq_false_iff_not, Bool.not_eq_true', Bool.not_eq_false', Bool.and_eq_true, Bool.or_eq_true, Bool.or_eq_false_iff] at hc
      have hn0 : 0 < n := by omega
      have hle2 := hle hn0
      refine wp_skip ?_
      refine then_n ?_
      refine wp_seq ?_
      refine wp_reg ?_
      refine s_q hs (c_move (hs.ev rfl)) rfl fun ac hs => ?_
      refine s_q hs (c_move (hs.ev rfl)) rfl fun ac hs => ?_
      refine s_q hs (c_to (c_sliceH (j := 2 ^ k) un109 ty22 (hs.ev rfl) (hs.ev rfl) rfl (by omega)) ((show Value.slice _ (2 ^ k) cap = Value.slice ad (2 ^ k) cap from by rw [if_neg (by omega)]; cases ad <;> simp [Addr.add]))) rfl fun ac hs => ?_
      refine s_q hs (c_assign (hs.ev rfl)) rfl fun ac hs => ?_
      refine s_end ?_
      replace hs := hs.sub (F' := [(2, _)]) ⟨rfl, trivial⟩
      refine then_n ?_
      refine wp_ret ?_
      refine s_ret hs rfl (.tmp (hs.tmp rfl) .nil) rfl ⟨_, rfl, hs.fr, ?_⟩
      exact ⟨_, ⟨Ent.none, k, 2 ^ k, ws.take (16 * 2 ^ k), rfl, rfl, hk, by rw [List.length_take]; omega, fun w2 hf _ => Rd.head (hq.fr0 hf) hws hle2 hp0⟩, (Has.nil _ _).cons trivial (fun _ h => h.elim) (fun _ h => h.elim) (by simp)⟩
set_option maxHeartbeats 4000000 in
theorem law_GroveLeads (d : Int) (ep : UInt32) (n : Nat) (ws : List UInt8) (wv : Value) (hws : ws.length = n * 16) (w : World) (hqw : Rd w wv n (ws.map B)) : Ctr Try.prog 27 [I d, U ep, wv] w (fun _ => False) (fun v _ => v = .bool true) := by
  have hnl := hqw.le
  refine fn_start (N := 63) Try.func27 rfl rfl rfl fun ac hk => ?_
  have hs := St.start hk w
  refine wp_seq ?_
  refine wp_reg ?_
  refine s_q hs (c_assign (hs.ev rfl)) rfl fun ac hs => ?_
  refine s_end ?_
  refine then_n ?_
  refine wp_seq ?_
  refine wp_reg ?_
  refine s_q hs (c_move (hs.ev rfl)) rfl fun ac hs => ?_
  refine s_call hs fu121 (.cons (hs.ev rfl) .nil) (law07_cut n ws _ hws w _ (.refl _ _) hqw) rfl fun ac ww v13 hf hp hs => ?_
  obtain ⟨L', ⟨ce, lv, m, ls, rfl, hm, hlv, hls, hC⟩, hh⟩ := hp
  replace hs := hs _ hh
  have hm16 : m ≤ 16 := by have := Nat.pow_le_pow_right (show 0 < 2 by decide) hlv; rw [← hm] at this; simpa using this
  have hm0 : 0 < m := by rw [hm]; exact Nat.two_pow_pos _
  have hls16 : ls.length = 16 * m := by omega
  have hls2 : ls.length = 16 * 2 ^ lv := by rw [← hm]; exact hls16
  have hhl : height m = lv := by rw [hm]; have := height_pow lv (by omega); rw [← this]; push_cast; rfl
  obtain ⟨cad, ccap, rfl, hcc, hcm⟩ := Rd.sl (hC _ hs.fr (hs.get (i := 0) rfl))
  refine s_q hs (c_assign (hs.ev rfl)) rfl fun ac hs => ?_
  refine s_end ?_
  replace hs := hs.sub (F' := [(0, _), (1, _), (2, _), (6, _)]) ⟨rfl, rfl, rfl, rfl, trivial⟩
  refine then_n ?_
  refine wp_seq ?_
  refine wp_reg ?_
  refine s_q hs (c_move (hs.ev rfl)) rfl fun ac hs => ?_
  refine s_q hs (c_move (hs.ev rfl)) rfl fun ac hs => ?_
  refine s_q hs (c_move (hs.ev rfl)) rfl fun ac hs => ?_
  refine s_call hs fu93 (.cons (hs.ev rfl) .nil) (law03_To m ls _ hls (by omega) _ (hC _ hs.fr (hs.get (i := 0) rfl))) rfl fun ac ww v18 hf hp hs => ?_
  obtain ⟨L', hv, hh⟩ := hp
  subst hv
  replace hs := hs _ hh
  obtain ⟨tad, tcap, rfl, _, _⟩ := Rd.sl (Rd.of_row (hs.get (i := 0) rfl))
  refine s_call hs fu94 (.cons (hs.ev rfl) (.cons (hs.ev rfl) (.cons (hs.ev rfl) .nil))) (grove_New d ep ls m lv _ hls (by omega) hm hhl _ (Rd.of_row (hs.get (i := 0) rfl))) rfl fun ac ww v19 hf hp hs => ?_
  obtain ⟨L', ⟨tv, rfl, g0, v0, ps0, rfl, hps0, rfl⟩, hh⟩ := hp
  replace hs := hs _ hh
  refine s_q hs (c_move (hs.ev rfl)) rfl fun ac hs => ?_
  refine s_q hs (c_extract (hs.ev rfl) rfl) rfl fun ac hs => ?_
  refine s_q hs (c_extract (hs.ev rfl) rfl) rfl fun ac hs => ?_
  refine s_q hs (c_assign (hs.ev rfl)) rfl fun ac hs => ?_
  refine s_q hs (c_assign (hs.ev rfl)) rfl fun ac hs => ?_
  refine s_end ?_
  replace hs := hs.sub (F' := [(0, _), (1, _), (2, _), (6, _), (7, _), (8, _)]) ⟨rfl, rfl, rfl, rfl, rfl, rfl, trivial⟩
  refine then_n ?_
  refine wp_seq ?_
  refine wp_seq ?_
  refine wp_reg ?_
  refine s_call hs fu97 .nil (law07_awake _) rfl fun ac ww v22 hf hp hs => ?_
  obtain rfl := hp
  replace hs := hs [] (.nil _ _)
  refine s_q hs (c_not (hs.ev rfl)) rfl fun ac hs => ?_
  refine s_q hs (c_move (hs.ev rfl)) rfl fun ac hs => ?_
  refine s_yes hs rfl rfl ?_
  refine s_q hs (c_move (hs.ev rfl)) rfl fun ac hs => ?_
  refine s_yes hs rfl rfl ?_
  refine s_q hs (c_ff (c_eqlNil un112 (hs.ev rfl) (hs.ev rfl)) (by rfl)) rfl fun ac hs => ?_
  refine s_q hs (c_pick (hs.ev rfl) (hs.ev rfl) (hs.ev rfl)) rfl fun ac hs => ?_
  refine s_q hs (c_move (hs.ev rfl)) rfl fun ac hs => ?_
  refine s_yes hs rfl rfl ?_
  refine s_q hs (c_move (hs.ev rfl)) rfl fun ac hs => ?_
  refine s_yes hs rfl rfl ?_
  refine s_q hs (c_ff (c_neqI (hs.ev rfl) (hs.ev rfl)) (by rfl)) rfl fun ac hs => ?_
  refine s_q hs (c_pick (hs.ev rfl) (hs.ev rfl) (hs.ev rfl)) rfl fun ac hs => ?_
  refine s_end ?_
  replace hs := hs.pick (L' := [_, _, _]) (.cons_cons _ (.cons_cons _ (.cons _ (.refl _))))
  replace hs := hs.sub (F' := [(0, _), (1, _), (2, _), (6, _), (7, _), (31, _)]) ⟨rfl, rfl, rfl, rfl, rfl, rfl, trivial⟩
  refine then_n ?_
  refine wp_cond_false (hs.ev rfl) ?_
  refine wp_skip ?_
  refine then_n ?_
  refine wp_seq ?_
  refine wp_seq ?_
  refine wp_reg ?_
  refine s_q hs (c_move (hs.ev rfl)) rfl fun ac hs => ?_
  refine s_q hs (c_lenS un109 (hs.ev rfl)) rfl fun ac hs => ?_
  refine s_q hs (c_move (hs.ev rfl)) rfl fun ac hs => ?_
  refine s_end ?_
  replace hs := hs.sub (F' := [(0, _), (1, _), (2, _), (6, _), (7, _), (33, _), (34, _)]) ⟨rfl, rfl, rfl, rfl, rfl, rfl, rfl, trivial⟩
  refine then_n ?_
  refine wp_block ?_
  refine s_loop hs (X := Nat) (fun q => [(34, I q)]) [(0, _), (1, _), (2, _), (7, _), (33, _)] (fun _ => [_, _, _]) (fun j q => q ≤ m ∧ j = m - q) (_) (0) (⟨Nat.zero_le _, rfl⟩) ⟨rfl, rfl, rfl, rfl, rfl, rfl, trivial⟩ rfl ?_
  rintro n q ac ww hok hs
  simp only [List.cons_append, List.nil_append] at hs
  obtain ⟨hq, rfl⟩ := hok
  refine wp_seq ?_
  refine wp_reg ?_
  refine s_q hs (c_lssI (hs.ev rfl) (hs.ev rfl)) rfl fun ac hs => ?_
  refine s_end ?_
  refine then_n ?_
  refine wp_seq ?_
  refine s_cond hs rfl (fun hc => ?_) (fun hc => ?_)
  · try simp only [decide_eq_true_eq, decide_eq_false_iff_not, Bool.not_eq_true', Bool.not_eq_false', Bool.and_eq_true, Bool.or_eq_true, Bool.or_eq_false_iff] at hc
    have hqm : q < m := by omega
    have hok1 : lfOk m (q : Int) = true := lf_good (by omega) (by omega)
    have hown := gchk_own (d := d) (ep := ep) (q := q) hls2 (show lv ≤ 6 by omega) (show q < 2 ^ lv by omega)
    refine wp_skip ?_
    refine then_n ?_
    refine wp_seq ?_
    refine wp_block ?_
    refine wp_seq ?_
    refine wp_reg ?_
    refine s_q hs (c_move (hs.ev rfl)) rfl fun ac hs => ?_
    refine s_q hs (c_assign (hs.ev rfl)) rfl fun ac hs => ?_
    refine s_end ?_
    refine then_n ?_
    refine wp_seq ?_
    refine wp_reg ?_
    refine s_q hs (c_move (hs.ev rfl)) rfl fun ac hs => ?_
    refine s_q hs (c_move (hs.ev rfl)) rfl fun ac hs => ?_
    refine s_call hs fu101 (.cons (hs.ev rfl) (.cons (hs.ev rfl) .nil)) (grove_Path d ep ls m lv _ hls (by omega) hm (q : Int) _ ⟨g0, v0, ps0, rfl, hps0, hs.has.pick (L' := groveL d ep g0 v0 ps0) (by simp only [groveL]; exact .cons_cons _ (.cons_cons _ (List.nil_sublist _)))⟩) rfl fun ac ww v40 hf hp hs => ?_
    obtain ⟨L', ⟨tv1, rfl, rfl⟩, hh⟩ := hp
    replace hs := hs _ hh
    rw [lfE, if_pos hok1] at hs
    rw [pN, pW, if_pos hok1, if_pos hok1, Int.toNat_natCast] at hs
    obtain ⟨pad, pcap, rfl, _, _⟩ := Rd.sl (Rd.of_row (hs.get (i := 0) rfl))
    have hgl := gPath_length (d := d) (ep := ep) (q := q) hls2 (by omega) lv (Nat.le_refl _)
    refine s_q hs (c_move (hs.ev rfl)) rfl fun ac hs => ?_
    refine s_q hs (c_extract (hs.ev rfl) rfl) rfl fun ac hs => ?_
    refine s_q hs (c_extract (hs.ev rfl) rfl) rfl fun ac hs => ?_
    refine s_q hs (c_assign (hs.ev rfl)) rfl fun ac hs => ?_
    refine s_q hs (c_assign (hs.ev rfl)) rfl fun ac hs => ?_
    refine s_end ?_
    refine then_n ?_
    refine wp_seq ?_
    obtain ⟨cb, co, cT, cf, call_, rfl, hcb, hcs⟩ := Rd.bytes_at (hC _ hs.fr (hs.get (i := 3) rfl)) hls (by omega)
    have hgp := Rd.of_row (hs.get (i := 0) rfl)
    have hga : GroveAt ww (.pointer (some ⟨g0, 0, none⟩)) d ep ls lv := ⟨g0, v0, ps0, rfl, hps0, hs.has.pick (L' := groveL d ep g0 v0 ps0) (by simp only [groveL]; exact .cons _ (.cons_cons _ (.cons_cons _ (List.nil_sublist _))))⟩
    have hcl := chunk_l hls hqm
    refine wp_region_rg pmix 16 (by kernel_rfl) rfl hs ?_
    simp only [List.take_succ_cons, List.take_zero]
    refine rg_q (fun ac ww h => c_move (h.ev rfl)) rfl ?_
    refine rg_q (fun ac ww h => c_ff (c_neqI (h.ev rfl) (h.ev rfl)) (by rfl)) rfl ?_
    refine rg_q (fun ac ww h => c_move (h.ev rfl)) rfl ?_
    refine rg_yes rfl rfl (fun ac ww h => c_move (h.ev rfl)) rfl ?_
    refine rg_yes rfl rfl (fun ac ww h => c_move (h.ev rfl)) rfl ?_
    refine rg_yes rfl rfl (fun ac ww h => c_move (h.ev rfl)) rfl ?_
    refine rg_yes rfl rfl (fun ac ww h => c_lenS un109 (h.ev rfl)) rfl ?_
    refine rg_strip rfl rfl ?_
    refine rg_call fu95 (fun ac ww h => (.cons (h.ev rfl) .nil)) (fun ww hf => (hhl ▸ grove_Height (m : Int) _)) rfl ?_
    refine rg_yes rfl rfl (fun ac ww h => c_move (h.ev rfl)) rfl ?_
    refine rg_strip rfl rfl ?_
    refine rg_call fu98 (fun ac ww h => (.cons (h.ev rfl) .nil)) (fun ww hf => grove_Root d ep ls m lv _ hls (by omega) hm _ (hga.fr0 hf)) rfl ?_
    refine rg_yes rfl rfl (fun ac ww h => c_move (h.ev rfl)) rfl ?_
    refine rg_yes rfl rfl (fun ac ww h => c_move (h.ev rfl)) rfl ?_
    refine rg_yes rfl rfl (fun ac ww h => c_move (h.ev rfl)) rfl ?_
    refine rg_yes rfl rfl (fun ac ww h => c_idxS (j := q) un109 ty22 (h.ev rfl) (h.ev rfl) (by omega) (by omega)) rfl ?_
    refine rg_yes rfl rfl (fun ac ww h => c_loadA ty22 rfl (h.ev rfl) (h.blk hcb) (rdpiece hcs hls hqm) (by rw [List.length_map, hcl])) rfl ?_
    refine rg_yes rfl rfl (fun ac ww h => c_move (h.ev rfl)) rfl ?_
    refine rg_nil fun ac ww L' hf hfe hs => ?_
    simp only [List.drop_succ_cons, List.drop_zero]
    obtain rfl : L' = [] := hfe
    replace hs := hs.toL (List.nil_append _)
    refine s_yes hs rfl rfl ?_
    refine s_call hs fu119 (.cons (hs.ev rfl) (.cons (hs.ev rfl) (.cons (hs.ev rfl) (.cons (hs.ev rfl) (.cons (hs.ev rfl) (.cons (hs.ev rfl) (.cons (hs.ev rfl) .nil))))))) ((hown ▸ grove_Check (lv : Nat) (gNode d ep ls lv 0) (gNode_length hls16 lv 0 (by rw [hm]; omega)) d ep (q : Int) lv (chunk ls q) (gPath d ep ls q lv) _ hcl hgl _ (hgp.fr0 hf))) rfl fun ac ww v59 hf hp hs => ?_
    obtain rfl := hp
    replace hs := hs [] (.nil _ _)
    refine s_yes hs rfl rfl ?_
    refine s_q hs (c_not (hs.ev rfl)) rfl fun ac hs => ?_
    refine s_q hs (c_pick (hs.ev rfl) (hs.ev rfl) (hs.ev rfl)) rfl fun ac hs => ?_
    refine s_end ?_
    refine then_n ?_
    refine wp_cond_false (hs.ev rfl) ?_
    refine wp_skip ?_
    refine blk_n ?_
    refine then_n ?_
    refine wp_reg ?_
    refine s_q hs (c_addI (hs.ev rfl) (hs.ev rfl) (by omega) (by omega)) rfl fun ac hs => ?_
    refine s_q hs (c_move (hs.ev rfl)) rfl fun ac hs => ?_
    refine s_end ?_
    refine then_n ?_
    replace hs := hs.pick (L' := [_, _, _]) (.cons _ (.refl _))
    exact ⟨m - (q + 1), by omega, q + 1, ⟨by omega, rfl⟩, St.next hs ⟨rfl, rfl, rfl, rfl, rfl, rfl, trivial⟩ rfl⟩
  · try simp only [decide_eq_true_eq, decide_eq_false_iff_not, Bool.not_eq_true', Bool.not_eq_false', Bool.and_eq_true, Bool.or_eq_true, Bool.or_eq_false_iff] at hc
    obtain rfl : q = m := by omega
    refine wp_exit ?_
    refine then_e ?_
    refine then_e ?_
    refine blk_hit ?_
    refine then_n ?_
    refine wp_seq ?_
    refine wp_reg ?_
    refine s_q hs (c_assign (hs.ev rfl)) rfl fun ac hs => ?_
    refine s_end ?_
    replace hs := hs.sub (F' := [(6, _)]) ⟨rfl, trivial⟩
    refine then_n ?_
    refine wp_ret ?_
    refine s_ret hs rfl (.tmp (hs.tmp rfl) .nil) rfl ⟨_, rfl, hs.fr, ?_⟩
    rfl
end Go.Proofs.Ytmgnnclkjkbmdaa
end

section
/- The law of folds. -/
set_option linter.unusedSimpArgs false
set_option linter.unusedVariables false
set_option maxRecDepth 100000
namespace Go.Proofs.Ytmgnnclkjkbmdaa
open Go Go.Fw
open Sha
set_option maxHeartbeats 4000000 in
theorem law_GroveFolds (d : Int) (ep : UInt32) (i hh x : Int) (l rt : List UInt8) (n : Nat) (ws : List UInt8) (wv : Value) (hll : l.length = 16) (hrl : rt.length = 16) (hwl : ws.length = n * 16) (w : World) (hqw : Rd w wv n (ws.map B)) : Ctr Try.prog 26 [I d, U ep, I i, I hh, I x, .agg (l.map B).toArray, .agg (rt.map B).toArray, wv] w (fun _ => False) (fun v _ => v = .bool true) := by
  have hnl := hqw.le
  obtain ⟨wad, wcap, rfl, hwc, hwm⟩ := Rd.sl hqw
  refine fn_start (N := 104) Try.func26 rfl rfl rfl fun ac hk => ?_
  have hs := St.start hk w
  refine wp_seq ?_
  refine wp_reg ?_
  refine s_box hs rfl rfl rfl fun ac ww g13 hs => ?_
  refine s_box hs rfl rfl rfl fun ac ww g14 hs => ?_
  refine s_q hs (c_assign (hs.ev rfl)) rfl fun ac hs => ?_
  refine s_end ?_
  replace hs := hs.sub (F' := [(0, _), (1, _), (2, _), (3, _), (4, _), (7, _), (13, _), (14, _), (16, _)]) ⟨rfl, rfl, rfl, rfl, rfl, rfl, rfl, rfl, rfl, trivial⟩
  refine then_n ?_
  refine wp_seq ?_
  refine wp_seq ?_
  refine wp_reg ?_
  refine s_q hs (c_move (hs.ev rfl)) rfl fun ac hs => ?_
  refine s_q hs (c_lenS un109 (hs.ev rfl)) rfl fun ac hs => ?_
  refine s_q hs (c_gtrI (hs.ev rfl) (hs.ev rfl)) rfl fun ac hs => ?_
  refine s_end ?_
  replace hs := hs.sub (F' := [(0, _), (1, _), (2, _), (3, _), (4, _), (7, _), (13, _), (14, _), (16, _), (26, _)]) ⟨rfl, rfl, rfl, rfl, rfl, rfl, rfl, rfl, rfl, rfl, trivial⟩
  refine then_n ?_
  refine s_cond hs rfl (fun hc => ?_) (fun hc => ?_)
  · try simp only [decide_eq_true_eq, decide_eq_false_iff_not, Bool.not_eq_true', Bool.not_eq_false', Bool.and_eq_true, Bool.or_eq_true, Bool.or_eq_false_iff] at hc
    obtain ⟨n1, ws1, hn1, hn1l, hwl1, hq1⟩ : ∃ (n1 : Nat) (ws1 : List UInt8), n1 = 20 ∧ n1 ≤ 20 ∧ ws1.length = n1 * 16 ∧ Rd w (.slice wad 20 wcap) n1 (ws1.map B) := ⟨20, ws.take (16 * 20), rfl, by decide, by rw [List.length_take]; omega, Rd.head hqw hwl (by omega) (by decide)⟩
    refine wp_reg ?_
    refine s_q hs (c_move (hs.ev rfl)) rfl fun ac hs => ?_
    refine s_q hs (c_to (c_sliceH (j := 20) un109 ty22 (hs.ev rfl) (hs.ev rfl) rfl (by omega)) ((show Value.slice _ 20 wcap = Value.slice wad 20 wcap from by rw [if_neg (by omega)]; cases wad <;> simp [Addr.add]))) rfl fun ac hs => ?_
    refine s_q hs (c_assign (hs.ev rfl)) rfl fun ac hs => ?_
    refine s_end ?_
    replace hs := hs.sub (F' := [(0, _), (1, _), (2, _), (3, _), (4, _), (7, _), (13, _), (14, _), (16, _)]) ⟨rfl, rfl, rfl, rfl, rfl, rfl, rfl, rfl, rfl, trivial⟩
    refine then_n ?_
    refine wp_seq ?_
    refine wp_region_rgX (J := [9]) pmix 11 (by kernel_rfl) (by kernel_rfl) rfl rfl hs ?_
    simp only [List.take_succ_cons, List.take_zero]
    refine rg_q (fun ac ww h => c_move (h.ev rfl)) rfl ?_
    refine rg_q (fun ac ww h => c_move (h.ev rfl)) rfl ?_
    refine rg_q (fun ac ww h => c_move (h.ev rfl)) rfl ?_
    refine rg_q (fun ac ww h => c_loadW ty22 rfl (h.ev rfl) (h.blk (hs.seg (i := 1) rfl)) (by rw [List.length_map, hll])) rfl ?_
    refine rg_q (fun ac ww h => c_move (h.ev rfl)) rfl ?_
    refine rg_callE (rowS n1 ws1) (fun _ _ _ _ _ h => h) fu93 (fun ac ww h => ?_) rfl ?_
    · exact ⟨_, .cons (h.ev rfl) .nil, law03_To n1 ws1 _ hwl1 (by omega) _ ((hq1.fr0 hs.fr).fr0 h.fr)⟩
    refine rg_callV (c := .tuple #[.agg ((foldB d ep i l ws1 n1).map B).toArray, I (foldE i n1)]) fu115 (fun ac ww h => ?_) rfl ?_
    · obtain ⟨u35, L35, he35, hee, hh35⟩ := h.ent (n := 35) rfl rfl
      obtain rfl := hee
      exact ⟨_, .cons (h.ev rfl) (.cons (h.ev rfl) (.cons (h.ev rfl) (.cons (h.ev rfl) (.cons he35 .nil)))), grove_Fold d ep i n1 l ws1 _ hll hwl1 ww (Rd.of_row (hh35.holds _ (List.mem_singleton.2 rfl)))⟩
    refine rg_q (fun ac ww h => c_move (h.ev rfl)) rfl ?_
    refine rg_q (fun ac ww h => c_extract (h.ev rfl) rfl) rfl ?_
    refine rg_q (fun ac ww h => c_extract (h.ev rfl) rfl) rfl ?_
    refine rg_alloc ty54 rfl ?_
    refine rg_nil fun ac ww L' hf hfe hs hlk => ?_
    simp only [List.drop_succ_cons, List.drop_zero]
    obtain ⟨v17, L17, M17, h17, e17, ⟨v35, L35, M35, h35, e35, rfl, rfl⟩, rfl⟩ := hfe
    replace hs := hs.add h17
    replace hs := hs.add h35
    obtain ⟨g17, rfl, rfl⟩ := e17
    obtain rfl := e35
    refine sk_storeW (i := 0) hs ty54 rfl rfl rfl (by rw [List.length_map, foldB_length hll]) (all_map_B _) rfl (fun ww hs => late_turn rfl rfl (late_nil)) fun ww hs => ?_
    refine s_q hs (c_assign (hs.ev rfl)) rfl fun ac hs => ?_
    refine s_end ?_
    replace hs := hs.sub (F' := [(0, _), (1, _), (2, _), (3, _), (4, _), (7, _), (13, _), (14, _), (16, _), (17, _), (18, _)]) ⟨rfl, rfl, rfl, rfl, rfl, rfl, rfl, rfl, rfl, rfl, rfl, trivial⟩
    refine then_n ?_
    refine wp_seq ?_
    refine wp_reg ?_
    refine s_q hs (c_move (hs.ev rfl)) rfl fun ac hs => ?_
    refine s_q hs (c_move (hs.ev rfl)) rfl fun ac hs => ?_
    refine s_q hs (c_move (hs.ev rfl)) rfl fun ac hs => ?_
    refine s_q hs (c_loadW ty22 rfl (hs.ev rfl) (hs.seg (i := 3) rfl) (by rw [List.length_map, hll])) rfl fun ac hs => ?_
    refine s_q hs (c_move (hs.ev rfl)) rfl fun ac hs => ?_
    refine s_call hs fu116 (.cons (hs.ev rfl) (.cons (hs.ev rfl) (.cons (hs.ev rfl) (.cons (hs.ev rfl) (.cons (hs.ev rfl) .nil))))) (ref07_Fold d ep i n1 l ws1 _ hll hwl1 _ (hq1.fr0 hs.fr)) rfl fun ac ww v45 hf hp hs => ?_
    obtain ⟨L', ⟨tv1, rfl, ps1, hps1, rfl⟩, hh1⟩ := hp
    replace hs := hs _ hh1
    refine s_q hs (c_move (hs.ev rfl)) rfl fun ac hs => ?_
    refine s_q hs (c_extract (hs.ev rfl) rfl) rfl fun ac hs => ?_
    refine s_q hs (c_extract (hs.ev rfl) rfl) rfl fun ac hs => ?_
    refine s_q hs (c_extract (hs.ev rfl) rfl) rfl fun ac hs => ?_
    refine s_alloc hs ty22 rfl fun ac ww g19 hs => ?_
    refine s_storeW (i := 0) hs ty22 rfl rfl rfl (by rw [List.length_map, foldB_length hll]) (all_map_B _) rfl fun ww hs => ?_
    refine s_q hs (c_assign (hs.ev rfl)) rfl fun ac hs => ?_
    refine s_q hs (c_assign (hs.ev rfl)) rfl fun ac hs => ?_
    refine s_end ?_
    replace hs := hs.sub (F' := [(0, _), (1, _), (2, _), (3, _), (4, _), (7, _), (13, _), (14, _), (16, _), (17, _), (18, _), (19, _), (21, _)]) ⟨rfl, rfl, rfl, rfl, rfl, rfl, rfl, rfl, rfl, rfl, rfl, rfl, rfl, trivial⟩
    refine then_n ?_
    refine wp_seq ?_
    refine wp_seq ?_
    refine wp_region_rg pmix 24 (by kernel_rfl) rfl hs ?_
    simp only [List.take_succ_cons, List.take_zero]
    refine rg_call fu97 (fun ac ww h => .nil) (fun ww hf => law07_awake _) rfl ?_
    refine rg_q (fun ac ww h => c_ff (c_not (h.ev rfl)) (by rfl)) rfl ?_
    refine rg_q (fun ac ww h => c_move (h.ev rfl)) rfl ?_
    refine rg_yes rfl rfl (fun ac ww h => c_move (h.ev rfl)) rfl ?_
    refine rg_yes rfl rfl (fun ac ww h => c_move (h.ev rfl)) rfl ?_
    refine rg_yes rfl rfl (fun ac ww h => c_ff (c_neqI (h.ev rfl) (h.ev rfl)) (by simp)) rfl ?_
    refine rg_q (fun ac ww h => c_pick (h.ev rfl) (h.ev rfl) (h.ev rfl)) rfl ?_
    refine rg_q (fun ac ww h => c_move (h.ev rfl)) rfl ?_
    refine rg_yes rfl rfl (fun ac ww h => c_loadW ty54 rfl (h.ev rfl) (h.blk (hs.seg (i := 2) rfl)) (by rw [List.length_map, foldB_length hll])) rfl ?_
    refine rg_yes rfl rfl (fun ac ww h => c_loadW ty22 rfl (h.ev rfl) (h.blk (hs.seg (i := 0) rfl)) (by rw [List.length_map, foldB_length hll])) rfl ?_
    refine rg_yes rfl rfl (fun ac ww h => c_ff (c_neqAB un54 ty5 eg54 (h.ev rfl) (h.ev rfl) (foldB_length hll) (foldB_length hll)) (by simp)) rfl ?_
    refine rg_q (fun ac ww h => c_pick (h.ev rfl) (h.ev rfl) (h.ev rfl)) rfl ?_
    refine rg_q (fun ac ww h => c_move (h.ev rfl)) rfl ?_
    refine rg_yes rfl rfl (fun ac ww h => c_move (h.ev rfl)) rfl ?_
    refine rg_yes rfl rfl (fun ac ww h => c_move (h.ev rfl)) rfl ?_
    refine rg_yes rfl rfl (fun ac ww h => c_move (h.ev rfl)) rfl ?_
    refine rg_yes rfl rfl (fun ac ww h => c_loadW ty22 rfl (h.ev rfl) (h.blk (hs.seg (i := 5) rfl)) (by rw [List.length_map, hll])) rfl ?_
    refine rg_yes rfl rfl (fun ac ww h => c_loadW ty22 rfl (h.ev rfl) (h.blk (hs.seg (i := 4) rfl)) (by rw [List.length_map, hrl])) rfl ?_
    refine rg_strip rfl rfl ?_
    refine rg_call fu117 (fun ac ww h => (.cons (h.ev rfl) (.cons (h.ev rfl) (.cons (h.ev rfl) (.cons (h.ev rfl) (.cons (h.ev rfl) .nil)))))) (fun ww hf => grove_Above d ep x l rt hll hrl ww) rfl ?_
    refine rg_yes rfl rfl (fun ac ww h => c_move (h.ev rfl)) rfl ?_
    refine rg_yes rfl rfl (fun ac ww h => c_move (h.ev rfl)) rfl ?_
    refine rg_yes rfl rfl (fun ac ww h => c_move (h.ev rfl)) rfl ?_
    refine rg_yes rfl rfl (fun ac ww h => c_loadW ty22 rfl (h.ev rfl) (h.blk (hs.seg (i := 5) rfl)) (by rw [List.length_map, hll])) rfl ?_
    refine rg_yes rfl rfl (fun ac ww h => c_loadW ty22 rfl (h.ev rfl) (h.blk (hs.seg (i := 4) rfl)) (by rw [List.length_map, hrl])) rfl ?_
    refine rg_nil fun ac ww L' hf hfe hs => ?_
    simp only [List.drop_succ_cons, List.drop_zero]
    obtain rfl : L' = [] := hfe
    replace hs := hs.toL (List.nil_append _)
    refine s_yes hs rfl rfl ?_
    refine s_call hs fu118 (.cons (hs.ev rfl) (.cons (hs.ev rfl) (.cons (hs.ev rfl) (.cons (hs.ev rfl) (.cons (hs.ev rfl) .nil))))) (ref07_Text d ep x l rt hll hrl _) rfl fun ac ww v73 hf hp hs => ?_
    obtain ⟨L', hv, hh1⟩ := hp
    subst hv
    replace hs := hs _ hh1
    obtain ⟨qad, qcap, rfl, _, _⟩ := Rd.sl (RdB.row (hs.get (i := 0) rfl))
    refine s_yes hs rfl rfl ?_
    refine s_call hs fu54 (.cons (hs.ev rfl) .nil) (ref06_Of 71 (gHead d ep x ++ l ++ rt) _ (by rw [List.length_append, List.length_append, gHead_length, hll, hrl]; decide) _ (RdB.row (hs.get (i := 0) rfl))) rfl fun ac ww v74 hf hp hs => ?_
    obtain rfl := hp
    replace hs := hs [] (.nil _ _)
    refine s_yes hs rfl rfl ?_
    refine s_q hs (c_ff (c_neqAB un54 ty5 eg54 (hs.ev rfl) (hs.ev rfl) (by simp) (by simp)) (by rw [show short 71 (gHead d ep x ++ l ++ rt) = ofT (aboveX d ep x l rt) from rfl]; simp)) rfl fun ac hs => ?_
    refine s_q hs (c_pick (hs.ev rfl) (hs.ev rfl) (hs.ev rfl)) rfl fun ac hs => ?_
    refine s_end ?_
    replace hs := hs.sub (F' := [(0, _), (1, _), (2, _), (3, _), (7, _), (13, _), (14, _), (16, _), (19, _), (76, _)]) ⟨rfl, rfl, rfl, rfl, rfl, rfl, rfl, rfl, rfl, rfl, trivial⟩
    refine then_n ?_
    refine wp_cond_false (hs.ev rfl) ?_
    refine wp_skip ?_
    refine then_n ?_
    refine wp_seq ?_
    refine wp_seq ?_
    refine wp_reg ?_
    refine s_q hs (c_loadW ty22 rfl (hs.ev rfl) (hs.seg (i := 5) rfl) (by rw [List.length_map, hrl])) rfl fun ac hs => ?_
    refine s_q hs (c_loadW ty22 rfl (hs.ev rfl) (hs.seg (i := 1) rfl) (by rw [List.length_map, foldB_length hll])) rfl fun ac hs => ?_
    refine s_bslice hs un109 ty22 (.cons (hs.ev rfl) (.cons (hs.ev rfl) .nil)) rfl (by intro v hv; simp only [List.mem_cons, List.not_mem_nil, or_false] at hv; rcases hv with rfl | rfl <;> simp [Value.cells, hrl, foldB_length hll]) (by decide) (show _ = (rt ++ foldB d ep i l ws1 n1).map B by simp [flatCells, Value.cells]) rfl fun ac ww g79 hs => ?_
    refine s_q hs (c_lenS un109 (hs.ev rfl)) rfl fun ac hs => ?_
    refine s_q hs (c_move (hs.ev rfl)) rfl fun ac hs => ?_
    refine s_end ?_
    replace hs := hs.pick (L' := [_, _, _]) (.cons_cons _ (.cons _ (.cons _ (.cons _ (.cons _ (.cons _ (.refl _)))))))
    replace hs := hs.sub (F' := [(0, _), (1, _), (2, _), (3, _), (7, _), (13, _), (16, _), (79, _), (80, _), (81, _)]) ⟨rfl, rfl, rfl, rfl, rfl, rfl, rfl, rfl, rfl, rfl, trivial⟩
    refine then_n ?_
    refine wp_block ?_
    refine s_loop hs (X := Nat) (fun k => [(81, I k)]) [(0, _), (1, _), (2, _), (3, _), (7, _), (13, _), (79, _), (80, _)] (fun _ => [_, _, _]) (fun j k => k ≤ 2 ∧ j = 2 - k) (_) (0) (⟨Nat.zero_le _, rfl⟩) ⟨rfl, rfl, rfl, rfl, rfl, rfl, rfl, rfl, rfl, trivial⟩ rfl ?_
    rintro n k ac ww hok hs
    simp only [List.cons_append, List.nil_append] at hs
    obtain ⟨hk, rfl⟩ := hok
    refine wp_seq ?_
    refine wp_reg ?_
    refine s_q hs (c_lssI (hs.ev rfl) (hs.ev rfl)) rfl fun ac hs => ?_
    refine s_end ?_
    refine then_n ?_
    refine wp_seq ?_
    refine s_cond hs rfl (fun hc => ?_) (fun hc => ?_)
    · try simp only [decide_eq_true_eq, decide_eq_false_iff_not, Bool.not_eq_true', Bool.not_eq_false', Bool.and_eq_true, Bool.or_eq_true, Bool.or_eq_false_iff] at hc
      have hkn : k < 2 := by omega
      have hbl : (rt ++ foldB d ep i l ws1 n1).length = 2 * 16 := by rw [List.length_append, hrl, foldB_length hll]
      have hcl : (chunk (rt ++ foldB d ep i l ws1 n1) k).length = 16 := chunk_l hbl hkn
      refine wp_skip ?_
      refine then_n ?_
      refine wp_seq ?_
      refine wp_block ?_
      refine wp_seq ?_
      refine wp_reg ?_
      refine s_q hs (c_idxS (j := k) un109 ty22 (hs.ev rfl) (hs.ev rfl) (by omega) (by omega)) rfl fun ac hs => ?_
      refine s_q hs (c_loadA ty22 rfl (hs.ev rfl) (hs.seg (i := 0) rfl) (chunk_at _ _) (by rw [List.length_map, hcl])) rfl fun ac hs => ?_
      refine s_alloc hs ty22 rfl fun ac ww g23 hs => ?_
      refine s_storeW (i := 0) hs ty22 rfl rfl rfl (by rw [List.length_map, hcl]) (all_map_B _) rfl fun ww hs => ?_
      refine s_end ?_
      refine then_n ?_
      refine wp_seq ?_
      refine wp_region_rg pmix 16 (by kernel_rfl) rfl hs ?_
      simp only [List.take_succ_cons, List.take_zero]
      refine rg_q (fun ac ww h => c_move (h.ev rfl)) rfl ?_
      refine rg_q (fun ac ww h => c_move (h.ev rfl)) rfl ?_
      refine rg_q (fun ac ww h => c_move (h.ev rfl)) rfl ?_
      refine rg_q (fun ac ww h => c_loadW ty22 rfl (h.ev rfl) (h.blk (hs.seg (i := 0) rfl)) (by rw [List.length_map, hcl])) rfl ?_
      refine rg_q (fun ac ww h => c_move (h.ev rfl)) rfl ?_
      refine rg_q (fun ac ww h => c_loadW ty22 rfl (h.ev rfl) (h.blk (hs.seg (i := 3) rfl)) (by rw [List.length_map, hll])) rfl ?_
      refine rg_q (fun ac ww h => c_move (h.ev rfl)) rfl ?_
      refine rg_callE (rowS n1 ws1) (fun _ _ _ _ _ h => h) fu93 (fun ac ww h => ?_) rfl ?_
      · exact ⟨_, .cons (h.ev rfl) .nil, law03_To n1 ws1 _ hwl1 (by omega) _ ((hq1.fr0 hs.fr).fr0 h.fr)⟩
      refine rg_callV (c := .bool (chkB d ep hh (chunk (rt ++ foldB d ep i l ws1 n1) k) i l ws1 n1)) fu119 (fun ac ww h => ?_) rfl ?_
      · obtain ⟨u92, L92, he92, hee, hh92⟩ := h.ent (n := 92) rfl rfl
        obtain rfl := hee
        exact ⟨_, .cons (h.ev rfl) (.cons (h.ev rfl) (.cons (h.ev rfl) (.cons (h.ev rfl) (.cons (h.ev rfl) (.cons (h.ev rfl) (.cons he92 .nil)))))), grove_Check hh (chunk (rt ++ foldB d ep i l ws1 n1) k) hcl d ep i n1 l ws1 _ hll hwl1 ww (Rd.of_row (hh92.holds _ (List.mem_singleton.2 rfl)))⟩
      refine rg_q (fun ac ww h => c_move (h.ev rfl)) rfl ?_
      refine rg_q (fun ac ww h => c_move (h.ev rfl)) rfl ?_
      refine rg_q (fun ac ww h => c_move (h.ev rfl)) rfl ?_
      refine rg_q (fun ac ww h => c_loadW ty22 rfl (h.ev rfl) (h.blk (hs.seg (i := 0) rfl)) (by rw [List.length_map, hcl])) rfl ?_
      refine rg_q (fun ac ww h => c_move (h.ev rfl)) rfl ?_
      refine rg_q (fun ac ww h => c_loadW ty22 rfl (h.ev rfl) (h.blk (hs.seg (i := 3) rfl)) (by rw [List.length_map, hll])) rfl ?_
      refine rg_q (fun ac ww h => c_move (h.ev rfl)) rfl ?_
      refine rg_nil fun ac ww L' hf hfe hs => ?_
      simp only [List.drop_succ_cons, List.drop_zero]
      obtain ⟨v92, L92, M92, h92, e92, rfl, rfl⟩ := hfe
      replace hs := hs.add h92
      obtain rfl := e92
      refine s_call hs fu120 (.cons (hs.ev rfl) (.cons (hs.ev rfl) (.cons (hs.ev rfl) (.cons (hs.ev rfl) (.cons (hs.ev rfl) (.cons (hs.ev rfl) (.cons (hs.ev rfl) .nil))))))) (ref07_Check hh (chunk (rt ++ foldB d ep i l ws1 n1) k) hcl d ep i n1 l ws1 _ hll hwl1 _ (hq1.fr0 hs.fr)) rfl fun ac ww v101 hf hp hs => ?_
      obtain rfl := hp
      replace hs := hs [] (.nil _ _)
      refine s_q hs (c_ff (c_neqbool un4 (hs.ev rfl) (hs.ev rfl)) (by simp)) rfl fun ac hs => ?_
      refine s_end ?_
      refine then_n ?_
      refine wp_cond_false (hs.ev rfl) ?_
      refine wp_skip ?_
      refine blk_n ?_
      refine then_n ?_
      refine wp_reg ?_
      refine s_q hs (c_addI (hs.ev rfl) (hs.ev rfl) (by omega) (by omega)) rfl fun ac hs => ?_
      refine s_q hs (c_move (hs.ev rfl)) rfl fun ac hs => ?_
      refine s_end ?_
      refine then_n ?_
      replace hs := hs.pick (L' := [_, _, _]) (.cons _ (.cons _ (.refl _)))
      exact ⟨2 - (k + 1), by omega, k + 1, ⟨by omega, rfl⟩, St.next hs ⟨rfl, rfl, rfl, rfl, rfl, rfl, rfl, rfl, rfl, trivial⟩ rfl⟩
    · try simp only [decide_eq_true_eq, decide_eq_false_iff_not, Bool.not_eq_true', Bool.not_eq_false', Bool.and_eq_true, Bool.or_eq_true, Bool.or_eq_false_iff] at hc
      refine wp_exit ?_
      refine then_e ?_
      refine then_e ?_
      refine blk_hit ?_
      refine then_n ?_
      refine wp_seq ?_
      refine wp_reg ?_
      refine s_q hs (c_assign (hs.ev rfl)) rfl fun ac hs => ?_
      refine s_end ?_
      replace hs := hs.sub (F' := [(16, _)]) ⟨rfl, trivial⟩
      refine then_n ?_
      refine wp_ret ?_
      refine s_ret hs rfl (.tmp (hs.tmp rfl) .nil) rfl ⟨_, rfl, hs.fr, ?_⟩
      rfl
  · try simp only [decide_eq_true_eq, decide_eq_false_iff_not, Bool.not_eq_true', Bool.not_eq_false', Bool.and_eq_true, Bool.or_eq_true, Bool.or_eq_false_iff] at hc
    obtain ⟨n1, ws1, hn1, hn1l, hwl1, hq1⟩ : ∃ (n1 : Nat) (ws1 : List UInt8), n1 = n ∧ n1 ≤ 20 ∧ ws1.length = n1 * 16 ∧ Rd w (.slice wad n wcap) n1 (ws1.map B) := ⟨n, ws, rfl, by omega, hwl, hqw⟩
    refine wp_skip ?_
    refine then_n ?_
    refine wp_seq ?_
    refine wp_region_rgX (J := [9]) pmix 11 (by kernel_rfl) (by kernel_rfl) rfl rfl hs ?_
    simp only [List.take_succ_cons, List.take_zero]
    refine rg_q (fun ac ww h => c_move (h.ev rfl)) rfl ?_
    refine rg_q (fun ac ww h => c_move (h.ev rfl)) rfl ?_
    refine rg_q (fun ac ww h => c_move (h.ev rfl)) rfl ?_
    refine rg_q (fun ac ww h => c_loadW ty22 rfl (h.ev rfl) (h.blk (hs.seg (i := 1) rfl)) (by rw [List.length_map, hll])) rfl ?_
    refine rg_q (fun ac ww h => c_move (h.ev rfl)) rfl ?_
    refine rg_callE (rowS n1 ws1) (fun _ _ _ _ _ h => h) fu93 (fun ac ww h => ?_) rfl ?_
    · exact ⟨_, .cons (h.ev rfl) .nil, law03_To n1 ws1 _ hwl1 (by omega) _ ((hq1.fr0 hs.fr).fr0 h.fr)⟩
    refine rg_callV (c := .tuple #[.agg ((foldB d ep i l ws1 n1).map B).toArray, I (foldE i n1)]) fu115 (fun ac ww h => ?_) rfl ?_
    · obtain ⟨u35, L35, he35, hee, hh35⟩ := h.ent (n := 35) rfl rfl
      obtain rfl := hee
      exact ⟨_, .cons (h.ev rfl) (.cons (h.ev rfl) (.cons (h.ev rfl) (.cons (h.ev rfl) (.cons he35 .nil)))), grove_Fold d ep i n1 l ws1 _ hll hwl1 ww (Rd.of_row (hh35.holds _ (List.mem_singleton.2 rfl)))⟩
    refine rg_q (fun ac ww h => c_move (h.ev rfl)) rfl ?_
    refine rg_q (fun ac ww h => c_extract (h.ev rfl) rfl) rfl ?_
    refine rg_q (fun ac ww h => c_extract (h.ev rfl) rfl) rfl ?_
    refine rg_alloc ty54 rfl ?_
    refine rg_nil fun ac ww L' hf hfe hs hlk => ?_
    simp only [List.drop_succ_cons, List.drop_zero]
    obtain ⟨v17, L17, M17, h17, e17, ⟨v35, L35, M35, h35, e35, rfl, rfl⟩, rfl⟩ := hfe
    replace hs := hs.add h17
    replace hs := hs.add h35
    obtain ⟨g17, rfl, rfl⟩ := e17
    obtain rfl := e35
    refine sk_storeW (i := 0) hs ty54 rfl rfl rfl (by rw [List.length_map, foldB_length hll]) (all_map_B _) rfl (fun ww hs => late_turn rfl rfl (late_nil)) fun ww hs => ?_
    refine s_q hs (c_assign (hs.ev rfl)) rfl fun ac hs => ?_
    refine s_end ?_
    replace hs := hs.sub (F' := [(0, _), (1, _), (2, _), (3, _), (4, _), (7, _), (13, _), (14, _), (16, _), (17, _), (18, _)]) ⟨rfl, rfl, rfl, rfl, rfl, rfl, rfl, rfl, rfl, rfl, rfl, trivial⟩
    refine then_n ?_
    refine wp_seq ?_
    refine wp_reg ?_
    refine s_q hs (c_move (hs.ev rfl)) rfl fun ac hs => ?_
    refine s_q hs (c_move (hs.ev rfl)) rfl fun ac hs => ?_
    refine s_q hs (c_move (hs.ev rfl)) rfl fun ac hs => ?_
    refine s_q hs (c_loadW ty22 rfl (hs.ev rfl) (hs.seg (i := 3) rfl) (by rw [List.length_map, hll])) rfl fun ac hs => ?_
    refine s_q hs (c_move (hs.ev rfl)) rfl fun ac hs => ?_
    refine s_call hs fu116 (.cons (hs.ev rfl) (.cons (hs.ev rfl) (.cons (hs.ev rfl) (.cons (hs.ev rfl) (.cons (hs.ev rfl) .nil))))) (ref07_Fold d ep i n1 l ws1 _ hll hwl1 _ (hq1.fr0 hs.fr)) rfl fun ac ww v45 hf hp hs => ?_
    obtain ⟨L', ⟨tv1, rfl, ps1, hps1, rfl⟩, hh1⟩ := hp
    replace hs := hs _ hh1
    refine s_q hs (c_move (hs.ev rfl)) rfl fun ac hs => ?_
    refine s_q hs (c_extract (hs.ev rfl) rfl) rfl fun ac hs => ?_
    refine s_q hs (c_extract (hs.ev rfl) rfl) rfl fun ac hs => ?_
    refine s_q hs (c_extract (hs.ev rfl) rfl) rfl fun ac hs => ?_
    refine s_alloc hs ty22 rfl fun ac ww g19 hs => ?_
    refine s_storeW (i := 0) hs ty22 rfl rfl rfl (by rw [List.length_map, foldB_length hll]) (all_map_B _) rfl fun ww hs => ?_
    refine s_q hs (c_assign (hs.ev rfl)) rfl fun ac hs => ?_
    refine s_q hs (c_assign (hs.ev rfl)) rfl fun ac hs => ?_
    refine s_end ?_
    replace hs := hs.sub (F' := [(0, _), (1, _), (2, _), (3, _), (4, _), (7, _), (13, _), (14, _), (16, _), (17, _), (18, _), (19, _), (21, _)]) ⟨rfl, rfl, rfl, rfl, rfl, rfl, rfl, rfl, rfl, rfl, rfl, rfl, rfl, trivial⟩
    refine then_n ?_
    refine wp_seq ?_
    refine wp_seq ?_
    refine wp_region_rg pmix 24 (by kernel_rfl) rfl hs ?_
    simp only [List.take_succ_cons, List.take_zero]
    refine rg_call fu97 (fun ac ww h => .nil) (fun ww hf => law07_awake _) rfl ?_
    refine rg_q (fun ac ww h => c_ff (c_not (h.ev rfl)) (by rfl)) rfl ?_
    refine rg_q (fun ac ww h => c_move (h.ev rfl)) rfl ?_
    refine rg_yes rfl rfl (fun ac ww h => c_move (h.ev rfl)) rfl ?_
    refine rg_yes rfl rfl (fun ac ww h => c_move (h.ev rfl)) rfl ?_
    refine rg_yes rfl rfl (fun ac ww h => c_ff (c_neqI (h.ev rfl) (h.ev rfl)) (by simp)) rfl ?_
    refine rg_q (fun ac ww h => c_pick (h.ev rfl) (h.ev rfl) (h.ev rfl)) rfl ?_
    refine rg_q (fun ac ww h => c_move (h.ev rfl)) rfl ?_
    refine rg_yes rfl rfl (fun ac ww h => c_loadW ty54 rfl (h.ev rfl) (h.blk (hs.seg (i := 2) rfl)) (by rw [List.length_map, foldB_length hll])) rfl ?_
    refine rg_yes rfl rfl (fun ac ww h => c_loadW ty22 rfl (h.ev rfl) (h.blk (hs.seg (i := 0) rfl)) (by rw [List.length_map, foldB_length hll])) rfl ?_
    refine rg_yes rfl rfl (fun ac ww h => c_ff (c_neqAB un54 ty5 eg54 (h.ev rfl) (h.ev rfl) (foldB_length hll) (foldB_length hll)) (by simp)) rfl ?_
    refine rg_q (fun ac ww h => c_pick (h.ev rfl) (h.ev rfl) (h.ev rfl)) rfl ?_
    refine rg_q (fun ac ww h => c_move (h.ev rfl)) rfl ?_
    refine rg_yes rfl rfl (fun ac ww h => c_move (h.ev rfl)) rfl ?_
    refine rg_yes rfl rfl (fun ac ww h => c_move (h.ev rfl)) rfl ?_
    refine rg_yes rfl rfl (fun ac ww h => c_move (h.ev rfl)) rfl ?_
    refine rg_yes rfl rfl (fun ac ww h => c_loadW ty22 rfl (h.ev rfl) (h.blk (hs.seg (i := 5) rfl)) (by rw [List.length_map, hll])) rfl ?_
    refine rg_yes rfl rfl (fun ac ww h => c_loadW ty22 rfl (h.ev rfl) (h.blk (hs.seg (i := 4) rfl)) (by rw [List.length_map, hrl])) rfl ?_
    refine rg_strip rfl rfl ?_
    refine rg_call fu117 (fun ac ww h => (.cons (h.ev rfl) (.cons (h.ev rfl) (.cons (h.ev rfl) (.cons (h.ev rfl) (.cons (h.ev rfl) .nil)))))) (fun ww hf => grove_Above d ep x l rt hll hrl ww) rfl ?_
    refine rg_yes rfl rfl (fun ac ww h => c_move (h.ev rfl)) rfl ?_
    refine rg_yes rfl rfl (fun ac ww h => c_move (h.ev rfl)) rfl ?_
    refine rg_yes rfl rfl (fun ac ww h => c_move (h.ev rfl)) rfl ?_
    refine rg_yes rfl rfl (fun ac ww h => c_loadW ty22 rfl (h.ev rfl) (h.blk (hs.seg (i := 5) rfl)) (by rw [List.length_map, hll])) rfl ?_
    refine rg_yes rfl rfl (fun ac ww h => c_loadW ty22 rfl (h.ev rfl) (h.blk (hs.seg (i := 4) rfl)) (by rw [List.length_map, hrl])) rfl ?_
    refine rg_nil fun ac ww L' hf hfe hs => ?_
    simp only [List.drop_succ_cons, List.drop_zero]
    obtain rfl : L' = [] := hfe
    replace hs := hs.toL (List.nil_append _)
    refine s_yes hs rfl rfl ?_
    refine s_call hs fu118 (.cons (hs.ev rfl) (.cons (hs.ev rfl) (.cons (hs.ev rfl) (.cons (hs.ev rfl) (.cons (hs.ev rfl) .nil))))) (ref07_Text d ep x l rt hll hrl _) rfl fun ac ww v73 hf hp hs => ?_
    obtain ⟨L', hv, hh1⟩ := hp
    subst hv
    replace hs := hs _ hh1
    obtain ⟨qad, qcap, rfl, _, _⟩ := Rd.sl (RdB.row (hs.get (i := 0) rfl))
    refine s_yes hs rfl rfl ?_
    refine s_call hs fu54 (.cons (hs.ev rfl) .nil) (ref06_Of 71 (gHead d ep x ++ l ++ rt) _ (by rw [List.length_append, List.length_append, gHead_length, hll, hrl]; decide) _ (RdB.row (hs.get (i := 0) rfl))) rfl fun ac ww v74 hf hp hs => ?_
    obtain rfl := hp
    replace hs := hs [] (.nil _ _)
    refine s_yes hs rfl rfl ?_
    refine s_q hs (c_ff (c_neqAB un54 ty5 eg54 (hs.ev rfl) (hs.ev rfl) (by simp) (by simp)) (by rw [show short 71 (gHead d ep x ++ l ++ rt) = ofT (aboveX d ep x l rt) from rfl]; simp)) rfl fun ac hs => ?_
    refine s_q hs (c_pick (hs.ev rfl) (hs.ev rfl) (hs.ev rfl)) rfl fun ac hs => ?_
    refine s_end ?_
    replace hs := hs.sub (F' := [(0, _), (1, _), (2, _), (3, _), (7, _), (13, _), (14, _), (16, _), (19, _), (76, _)]) ⟨rfl, rfl, rfl, rfl, rfl, rfl, rfl, rfl, rfl, rfl, trivial⟩
    refine then_n ?_
    refine wp_cond_false (hs.ev rfl) ?_
    refine wp_skip ?_
    refine then_n ?_
    refine wp_seq ?_
    refine wp_seq ?_
    refine wp_reg ?_
    refine s_q hs (c_loadW ty22 rfl (hs.ev rfl) (hs.seg (i := 5) rfl) (by rw [List.length_map, hrl])) rfl fun ac hs => ?_
    refine s_q hs (c_loadW ty22 rfl (hs.ev rfl) (hs.seg (i := 1) rfl) (by rw [List.length_map, foldB_length hll])) rfl fun ac hs => ?_
    refine s_bslice hs un109 ty22 (.cons (hs.ev rfl) (.cons (hs.ev rfl) .nil)) rfl (by intro v hv; simp only [List.mem_cons, List.not_mem_nil, or_false] at hv; rcases hv with rfl | rfl <;> simp [Value.cells, hrl, foldB_length hll]) (by decide) (show _ = (rt ++ foldB d ep i l ws1 n1).map B by simp [flatCells, Value.cells]) rfl fun ac ww g79 hs => ?_
    refine s_q hs (c_lenS un109 (hs.ev rfl)) rfl fun ac hs => ?_
    refine s_q hs (c_move (hs.ev rfl)) rfl fun ac hs => ?_
    refine s_end ?_
    replace hs := hs.pick (L' := [_, _, _]) (.cons_cons _ (.cons _ (.cons _ (.cons _ (.cons _ (.cons _ (.refl _)))))))
    replace hs := hs.sub (F' := [(0, _), (1, _), (2, _), (3, _), (7, _), (13, _), (16, _), (79, _), (80, _), (81, _)]) ⟨rfl, rfl, rfl, rfl, rfl, rfl, rfl, rfl, rfl, rfl, trivial⟩
    refine then_n ?_
    refine wp_block ?_
    refine s_loop hs (X := Nat) (fun k => [(81, I k)]) [(0, _), (1, _), (2, _), (3, _), (7, _), (13, _), (79, _), (80, _)] (fun _ => [_, _, _]) (fun j k => k ≤ 2 ∧ j = 2 - k) (_) (0) (⟨Nat.zero_le _, rfl⟩) ⟨rfl, rfl, rfl, rfl, rfl, rfl, rfl, rfl, rfl, trivial⟩ rfl ?_
    rintro n k ac ww hok hs
    simp only [List.cons_append, List.nil_append] at hs
    obtain ⟨hk, rfl⟩ := hok
    refine wp_seq ?_
    refine wp_reg ?_
    refine s_q hs (c_lssI (hs.ev rfl) (hs.ev rfl)) rfl fun ac hs => ?_
    refine s_end ?_
    refine then_n ?_
    refine wp_seq ?_
    refine s_cond hs rfl (fun hc => ?_) (fun hc => ?_)
    · try simp only [decide_eq_true_eq, decide_eq_false_iff_not, Bool.not_eq_true', Bool.not_eq_false', Bool.and_eq_true, Bool.or_eq_true, Bool.or_eq_false_iff] at hc
      have hkn : k < 2 := by omega
      have hbl : (rt ++ foldB d ep i l ws1 n1).length = 2 * 16 := by rw [List.length_append, hrl, foldB_length hll]
      have hcl : (chunk (rt ++ foldB d ep i l ws1 n1) k).length = 16 := chunk_l hbl hkn
      refine wp_skip ?_
      refine then_n ?_
      refine wp_seq ?_
      refine wp_block ?_
      refine wp_seq ?_
      refine wp_reg ?_
      refine s_q hs (c_idxS (j := k) un109 ty22 (hs.ev rfl) (hs.ev rfl) (by omega) (by omega)) rfl fun ac hs => ?_
      refine s_q hs (c_loadA ty22 rfl (hs.ev rfl) (hs.seg (i := 0) rfl) (chunk_at _ _) (by rw [List.length_map, hcl])) rfl fun ac hs => ?_
      refine s_alloc hs ty22 rfl fun ac ww g23 hs => ?_
      refine s_storeW (i := 0) hs ty22 rfl rfl rfl (by rw [List.length_map, hcl]) (all_map_B _) rfl fun ww hs => ?_
      refine s_end ?_
      refine then_n ?_
      refine wp_seq ?_
      refine wp_region_rg pmix 16 (by kernel_rfl) rfl hs ?_
      simp only [List.take_succ_cons, List.take_zero]
      refine rg_q (fun ac ww h => c_move (h.ev rfl)) rfl ?_
      refine rg_q (fun ac ww h => c_move (h.ev rfl)) rfl ?_
      refine rg_q (fun ac ww h => c_move (h.ev rfl)) rfl ?_
      refine rg_q (fun ac ww h => c_loadW ty22 rfl (h.ev rfl) (h.blk (hs.seg (i := 0) rfl)) (by rw [List.length_map, hcl])) rfl ?_
      refine rg_q (fun ac ww h => c_move (h.ev rfl)) rfl ?_
      refine rg_q (fun ac ww h => c_loadW ty22 rfl (h.ev rfl) (h.blk (hs.seg (i := 3) rfl)) (by rw [List.length_map, hll])) rfl ?_
      refine rg_q (fun ac ww h => c_move (h.ev rfl)) rfl ?_
      refine rg_callE (rowS n1 ws1) (fun _ _ _ _ _ h => h) fu93 (fun ac ww h => ?_) rfl ?_
      · exact ⟨_, .cons (h.ev rfl) .nil, law03_To n1 ws1 _ hwl1 (by omega) _ ((hq1.fr0 hs.fr).fr0 h.fr)⟩
      refine rg_callV (c := .bool (chkB d ep hh (chunk (rt ++ foldB d ep i l ws1 n1) k) i l ws1 n1)) fu119 (fun ac ww h => ?_) rfl ?_
      · obtain ⟨u92, L92, he92, hee, hh92⟩ := h.ent (n := 92) rfl rfl
        obtain rfl := hee
        exact ⟨_, .cons (h.ev rfl) (.cons (h.ev rfl) (.cons (h.ev rfl) (.cons (h.ev rfl) (.cons (h.ev rfl) (.cons (h.ev rfl) (.cons he92 .nil)))))), grove_Check hh (chunk (rt ++ foldB d ep i l ws1 n1) k) hcl d ep i n1 l ws1 _ hll hwl1 ww (Rd.of_row (hh92.holds _ (List.mem_singleton.2 rfl)))⟩
      refine rg_q (fun ac ww h => c_move (h.ev rfl)) rfl ?_
      refine rg_q (fun ac ww h => c_move (h.ev rfl)) rfl ?_
      refine rg_q (fun ac ww h => c_move (h.ev rfl)) rfl ?_
      refine rg_q (fun ac ww h => c_loadW ty22 rfl (h.ev rfl) (h.blk (hs.seg (i := 0) rfl)) (by rw [List.length_map, hcl])) rfl ?_
      refine rg_q (fun ac ww h => c_move (h.ev rfl)) rfl ?_
      refine rg_q (fun ac ww h => c_loadW ty22 rfl (h.ev rfl) (h.blk (hs.seg (i := 3) rfl)) (by rw [List.length_map, hll])) rfl ?_
      refine rg_q (fun ac ww h => c_move (h.ev rfl)) rfl ?_
      refine rg_nil fun ac ww L' hf hfe hs => ?_
      simp only [List.drop_succ_cons, List.drop_zero]
      obtain ⟨v92, L92, M92, h92, e92, rfl, rfl⟩ := hfe
      replace hs := hs.add h92
      obtain rfl := e92
      refine s_call hs fu120 (.cons (hs.ev rfl) (.cons (hs.ev rfl) (.cons (hs.ev rfl) (.cons (hs.ev rfl) (.cons (hs.ev rfl) (.cons (hs.ev rfl) (.cons (hs.ev rfl) .nil))))))) (ref07_Check hh (chunk (rt ++ foldB d ep i l ws1 n1) k) hcl d ep i n1 l ws1 _ hll hwl1 _ (hq1.fr0 hs.fr)) rfl fun ac ww v101 hf hp hs => ?_
      obtain rfl := hp
      replace hs := hs [] (.nil _ _)
      refine s_q hs (c_ff (c_neqbool un4 (hs.ev rfl) (hs.ev rfl)) (by simp)) rfl fun ac hs => ?_
      refine s_end ?_
      refine then_n ?_
      refine wp_cond_false (hs.ev rfl) ?_
      refine wp_skip ?_
      refine blk_n ?_
      refine then_n ?_
      refine wp_reg ?_
      refine s_q hs (c_addI (hs.ev rfl) (hs.ev rfl) (by omega) (by omega)) rfl fun ac hs => ?_
      refine s_q hs (c_move (hs.ev rfl)) rfl fun ac hs => ?_
      refine s_end ?_
      refine then_n ?_
      replace hs := hs.pick (L' := [_, _, _]) (.cons _ (.cons _ (.refl _)))
      exact ⟨2 - (k + 1), by omega, k + 1, ⟨by omega, rfl⟩, St.next hs ⟨rfl, rfl, rfl, rfl, rfl, rfl, rfl, rfl, rfl, trivial⟩ rfl⟩
    · try simp only [decide_eq_true_eq, decide_eq_false_iff_not, Bool.not_eq_true', Bool.not_eq_false', Bool.and_eq_true, Bool.or_eq_true, Bool.or_eq_false_iff] at hc
      refine wp_exit ?_
      refine then_e ?_
      refine then_e ?_
      refine blk_hit ?_
      refine then_n ?_
      refine wp_seq ?_
      refine wp_reg ?_
      refine s_q hs (c_assign (hs.ev rfl)) rfl fun ac hs => ?_
      refine s_end ?_
      replace hs := hs.sub (F' := [(16, _)]) ⟨rfl, trivial⟩
      refine then_n ?_
      refine wp_ret ?_
      refine s_ret hs rfl (.tmp (hs.tmp rfl) .nil) rfl ⟨_, rfl, hs.fr, ?_⟩
      rfl
end Go.Proofs.Ytmgnnclkjkbmdaa
end

section
/- Stores of several cells into rows. -/
set_option linter.unusedSimpArgs false
set_option linter.unusedVariables false
namespace Go.Fw
open Go
section
variable {P : Program} {ops : Array Oper} {Q : Exit → Act → World → Prop} {rest : List Oper} {N : Nat} {F F' : List (Nat × Value)} {L L' : List Ent} {M : Nat → Prop} {w0 w : World} {a : Act}
variable {d : Tmp} {op : Op} {ty : TypeId} {pos : String} {aft : Array Edge} {x y z : Operand} {t u : TypeId}
/-- A value is stored into a slice that is owned; what comes of the slice's cells is left open. -/
theorem s_storeRk {i g j cap n sz o bytes : Nat} {xs c zz : List Value} {T' : TypeId} {td : TypeDesc} {v : Value} (hs : St N F L M w0 a w) (hT : Ty P t td sz bytes zz)
    (hx : ev F x = some (.pointer (some ⟨g, o, none⟩))) (ho : o = j * sz) (hy : ev F y = some v) (hv : v.cells.toList = c) (hl : c.length = sz) (h1 : c.all (·.oneCell') = true)
    (hi : L[i]? = some (.row (.slice (some ⟨g, 0, none⟩) n cap) n xs T' sz)) (hj : j < n)
    (k : ∀ w xs', St N F (L.set i (.row (.slice (some ⟨g, 0, none⟩) n cap) n xs' T' sz)) M w0 a w → wpList P ops Q rest a w) :
    wpList P ops Q (⟨none, .store t x y, ty, pos, aft, none⟩ :: rest) a w := by
  subst ho
  have h : w.ownsRow 0 T' sz (.slice (some ⟨g, 0, none⟩) n cap) n xs := hs.get hi
  obtain ⟨h1', h2⟩ := h
  rcases h2 with ⟨h3, _⟩ | ⟨g', cap', cur, h3, h0, hg, hnc, hcm, hcs, htk⟩
  · cases h3
  · cases h3
    have hcl : cur.toList.length = cap * sz := by simpa using hcs
    have hg' : w.heap[g]? = some (.cells cur.toList.toArray T' (0, 0)) := by simpa using hg
    have hfit : j * sz + sz ≤ cap * sz := by
      have := Nat.mul_le_mul_right sz (show j + 1 ≤ cap by omega)
      rw [Nat.succ_mul] at this
      exact this
    have hr := c_store (P := P) (w := w) (d := none) (ty := ty) (pos := pos) (aft := aft) (g := none) hT (hs.ev hx) (hs.ev hy) hv hl h1 hg' (by omega)
    refine wpList_plain rfl fun K hK => upon_skip hr (hK _ _ (k _ ((cur.toList.take (j * sz) ++ c ++ cur.toList.drop (j * sz + sz)).take (n * sz)) ?_))
    have hh := setRow_heap w g _ (cur.toList.take (j * sz) ++ c ++ cur.toList.drop (j * sz + sz)).toArray _ _ hg'
    have hnl : (cur.toList.take (j * sz) ++ c ++ cur.toList.drop (j * sz + sz)).length = cap * sz := by
      rw [List.length_append, List.length_append, List.length_take, List.length_drop]; omega
    have hns : n * sz ≤ cap * sz := Nat.mul_le_mul_right sz hnc
    refine hs.mod (e' := .row (.slice (some ⟨g, 0, none⟩) n cap) n ((cur.toList.take (j * sz) ++ c ++ cur.toList.drop (j * sz + sz)).take (n * sz)) T' sz) hi (Fr.mono (.setRow w g _) fun k _ hk => by subst hk; rfl) ⟨by rw [List.length_take]; omega, .inr ⟨g, cap, _, rfl, Nat.zero_le _, hh, hnc, hcm, by simpa using hnl, by simp⟩⟩ fun k hk => ⟨.inl (by simpa [Ent.keys, Value.ownBlock] using hk), ?_⟩
    simp [Ent.keys, Value.ownBlock] at hk
    subst hk
    exact heap_lt hh
end
end Go.Fw
end
