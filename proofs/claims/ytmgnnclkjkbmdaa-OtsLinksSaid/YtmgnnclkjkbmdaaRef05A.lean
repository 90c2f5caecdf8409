/- Short sums and numbers as the document has them. -/
import Derived.Test.YtmgnnclkjkbmdaaRefC
import Derived.Test.YtmgnnclkjkbmdaaMacA
import Derived.Test.YtmgnnclkjkbmdaaRef05Spec
set_option linter.unusedSimpArgs false
set_option linter.unusedVariables false
set_option maxRecDepth 100000
namespace Go.Proofs.Ytmgnnclkjkbmdaa
open Go Go.Fw

open Sha
theorem flat1' (n : Nat) : (List.replicate n [B 0]).flatten = (List.replicate n (0 : UInt8)).map B := by
  induction n with
  | zero => rfl
  | succ n ih => rw [List.replicate_succ, List.flatten_cons, ih, List.replicate_succ]; rfl

-- fingerpostref05.Half
set_option maxHeartbeats 4000000 in
theorem ref05_Half (d : List UInt8) (hd : d.length = 32) (w : World)  : Ctr Try.prog 171 [.agg (d.map B).toArray] w (fun _ => False) (fun v _ => v = .agg ((d.take 16).map B).toArray) := by
  refine fn_start (N := 15) Try.func171 rfl rfl rfl fun ac hk => ?_
  have hs := St.start hk w
  refine wp_seq ?_
  refine wp_reg ?_
  refine s_box hs rfl rfl rfl fun ac ww g1 hs => ?_
  refine s_alloc hs ty22 rfl fun ac ww g2 hs => ?_
  refine s_end ?_
  replace hs := hs.sub (F' := [(1, _), (2, _)]) ⟨rfl, rfl, trivial⟩
  refine then_n ?_
  refine wp_seq ?_
  refine wp_reg ?_
  refine s_alloc hs ty22 rfl fun ac ww g3 hs => ?_
  refine s_end ?_
  refine then_n ?_
  refine wp_seq ?_
  refine wp_seq ?_
  refine wp_reg ?_
  refine s_q hs (c_assign (hs.ev rfl)) rfl fun ac hs => ?_
  refine s_end ?_
  refine then_n ?_
  refine wp_block ?_
  refine s_loop hs (X := Nat) (fun k => [(4, I k)]) [(1, _), (2, _), (3, _)] (fun k => [.seg g3 ((upto d 16 k).map B) 22, .seg g2 ((List.replicate 16 (0 : UInt8)).map B) 22, .seg g1 (d.map B) 40]) (fun n k => k ≤ 16 ∧ n = 16 - k) (16) (0) (⟨Nat.zero_le _, rfl⟩) ⟨rfl, rfl, rfl, rfl, trivial⟩ (by rw [upto_zero]; try rfl) ?_
  rintro n k ac ww hok hs
  simp only [List.cons_append, List.nil_append] at hs
  obtain ⟨hk, rfl⟩ := hok
  have hz := upto_len d 16 k hk (by omega)
  refine wp_seq ?_
  refine wp_seq ?_
  refine wp_reg ?_
  refine s_q hs (c_move (hs.ev rfl)) rfl fun ac hs => ?_
  refine s_q hs (c_lssI (hs.ev rfl) (hs.ev rfl)) rfl fun ac hs => ?_
  refine s_end ?_
  refine then_n ?_
  refine s_cond hs rfl (fun hc => ?_) (fun hc => ?_)
  · try simp only [decide_eq_true_eq, decide_eq_false_iff_not, Bool.not_eq_true', Bool.not_eq_false', Bool.and_eq_true, Bool.or_eq_true, Bool.or_eq_false_iff] at hc
    refine wp_skip ?_
    refine then_n ?_
    refine wp_seq ?_
    refine wp_block ?_
    refine wp_reg ?_
    refine s_q hs (c_move (hs.ev rfl)) rfl fun ac hs => ?_
    refine s_q hs (c_move (hs.ev rfl)) rfl fun ac hs => ?_
    refine s_q hs (c_idxA (j := k) un40 ty5 (hs.ev rfl) (hs.ev rfl) (by omega) (by omega)) rfl fun ac hs => ?_
    refine s_q hs (c_loadS un5 rfl (hs.ev rfl) (hs.seg (i := 2) rfl) (map_get 0 (by omega))) rfl fun ac hs => ?_
    refine s_q hs (c_idxA (j := k) un22 ty5 (hs.ev rfl) (hs.ev rfl) (by omega) (by omega)) rfl fun ac hs => ?_
    refine s_store (i := 0) hs ty5 rfl rfl rfl rfl rfl rfl (by rw [List.length_map]; omega) ((map_set _ (by omega)).trans (congrArg (List.map B) (upto_set _ _ k (by omega) (by omega)))) fun ww hs => ?_
    refine s_end ?_
    refine blk_n ?_
    refine then_n ?_
    refine wp_reg ?_
    refine s_q hs (c_move (hs.ev rfl)) rfl fun ac hs => ?_
    refine s_q hs (c_addI (hs.ev rfl) (hs.ev rfl) (by omega) (by omega)) rfl fun ac hs => ?_
    refine s_q hs (c_assign (hs.ev rfl)) rfl fun ac hs => ?_
    refine s_end ?_
    refine then_n ?_
    exact ⟨16 - (k + 1), by omega, k + 1, ⟨by omega, rfl⟩, St.next hs ⟨rfl, rfl, rfl, rfl, trivial⟩ rfl⟩
  · try simp only [decide_eq_true_eq, decide_eq_false_iff_not, Bool.not_eq_true', Bool.not_eq_false', Bool.and_eq_true, Bool.or_eq_true, Bool.or_eq_false_iff] at hc
    obtain rfl : k = 16 := by omega
    rw [upto_half] at hs
    refine wp_exit ?_
    refine then_e ?_
    refine then_e ?_
    refine blk_hit ?_
    refine then_n ?_
    refine wp_seq ?_
    refine wp_reg ?_
    refine s_q hs (c_loadW ty22 rfl (hs.ev rfl) (hs.seg (i := 0) rfl) (by simp [hd])) rfl fun ac hs => ?_
    refine s_storeW (i := 1) hs ty22 rfl rfl rfl (by simp [hd]) (all_map_B _) rfl fun ww hs => ?_
    refine s_end ?_
    replace hs := hs.sub (F' := [(2, _)]) ⟨rfl, trivial⟩
    refine then_n ?_
    refine wp_ret ?_
    refine s_ret hs rfl (.cell (hs.tmp rfl) (run_loadA ty22 rfl (hs.seg (i := 1) rfl) (List.take_of_length_le (by simp [hd])) (by simp [hd])) .nil) rfl ⟨_, rfl, hs.fr, ?_⟩
    rfl

-- fingerpostref05.Text
set_option maxHeartbeats 4000000 in
theorem ref05_Text (k : UInt8) (ps : List (Value × List UInt8)) (pv : Value) (hle : (flat ps).length ≤ 140737488355200) (w : World) (hq : RdP w pv ps) : Ctr Try.prog 159 [B k, pv] w (fun _ => False) (fun v w' => ∃ v', v = v' ∧ Has w.heap.size w' [.row v' (k :: flat ps).length ((k :: flat ps).map B) 5 1]) := by
  have hpl := hq.1.le
  obtain ⟨pad_, pcap, rfl, hpc, hpm⟩ := hq.sl
  refine fn_start (N := 22) Try.func159 rfl rfl rfl fun ac hk => ?_
  have hs := St.start hk w
  refine wp_seq ?_
  refine wp_reg ?_
  refine s_q hs (c_assign (hs.ev rfl)) rfl fun ac hs => ?_
  refine s_end ?_
  refine then_n ?_
  refine wp_seq ?_
  refine wp_reg ?_
  refine s_q hs (c_move (hs.ev rfl)) rfl fun ac hs => ?_
  refine s_bslice hs un34 ty5 (.cons (hs.ev rfl) .nil) rfl (by simp [Value.cells]) (by decide) rfl rfl fun ac ww g8 hs => ?_
  refine s_q hs (c_assign (hs.ev rfl)) rfl fun ac hs => ?_
  refine s_end ?_
  replace hs := hs.segrow (i := 0) (n := 1) (sz := 1) rfl rfl (by decide)
  replace hs := hs.sub (F' := [(1, _), (4, _), (5, _)]) ⟨rfl, rfl, rfl, trivial⟩
  refine then_n ?_
  refine wp_seq ?_
  refine wp_seq ?_
  refine wp_reg ?_
  refine s_q hs (c_assign (hs.ev rfl)) rfl fun ac hs => ?_
  refine s_end ?_
  refine then_n ?_
  refine wp_block ?_
  refine s_loop hs (X := Nat × Value) (fun x => [(5, x.2), (6, I x.1)]) [(1, _), (4, _)] (fun x => [.row x.2 (k :: flat (ps.take x.1)).length ((k :: flat (ps.take x.1)).map B) 5 1]) (fun n x => x.1 ≤ ps.length ∧ n = ps.length - x.1) (ps.length) ((0, _)) (⟨Nat.zero_le _, rfl⟩) ⟨rfl, rfl, rfl, rfl, trivial⟩ rfl ?_
  rintro n ⟨i, v⟩ ac ww hok hs
  simp only [List.cons_append, List.nil_append] at hs
  obtain ⟨hi, rfl⟩ := hok
  simp only at hi hs
  refine wp_seq ?_
  refine wp_seq ?_
  refine wp_reg ?_
  refine s_q hs (c_move (hs.ev rfl)) rfl fun ac hs => ?_
  refine s_q hs (c_move (hs.ev rfl)) rfl fun ac hs => ?_
  refine s_q hs (c_lenS un30 (hs.ev rfl)) rfl fun ac hs => ?_
  refine s_q hs (c_lssI (hs.ev rfl) (hs.ev rfl)) rfl fun ac hs => ?_
  refine s_end ?_
  refine then_n ?_
  refine s_cond hs rfl (fun hc => ?_) (fun hc => ?_)
  · try simp only [decide_eq_true_eq, decide_eq_false_iff_not, Bool.not_eq_true', Bool.not_eq_false', Bool.and_eq_true, Bool.or_eq_true, Bool.or_eq_false_iff] at hc
    have hips : i < ps.length := by omega
    obtain ⟨pb, po, pT, pf, pall, rfl, hpb, hps⟩ := hq.at' (by omega)
    have hfl := flat_take_le ps i hips
    refine wp_skip ?_
    refine then_n ?_
    refine wp_seq ?_
    refine wp_block ?_
    refine wp_reg ?_
    refine s_q hs (c_move (hs.ev rfl)) rfl fun ac hs => ?_
    refine s_q hs (c_move (hs.ev rfl)) rfl fun ac hs => ?_
    refine s_q hs (c_move (hs.ev rfl)) rfl fun ac hs => ?_
    refine s_q hs (c_idxS (j := i) un30 ty34 (hs.ev rfl) (hs.ev rfl) (by omega) (by omega)) rfl fun ac hs => ?_
    refine s_q hs (c_loadS un34 rfl (hs.ev rfl) (hs.old hpb id) (seg_get (.nilIface, []) hps (by omega))) rfl fun ac hs => ?_
    refine s_appB (i := 0) hs un34 ty5 rfl rfl rfl ((hq.get hips).fr0 hs.fr) (by simp only [List.length_cons]; omega) rfl fun ac ww v20 hf hnil hs => ?_
    refine s_q hs (c_assign (hs.ev rfl)) rfl fun ac hs => ?_
    refine s_end ?_
    refine blk_n ?_
    refine then_n ?_
    refine wp_reg ?_
    refine s_q hs (c_move (hs.ev rfl)) rfl fun ac hs => ?_
    refine s_q hs (c_addI (hs.ev rfl) (hs.ev rfl) (by omega) (by omega)) rfl fun ac hs => ?_
    refine s_q hs (c_assign (hs.ev rfl)) rfl fun ac hs => ?_
    refine s_end ?_
    refine then_n ?_
    exact ⟨ps.length - (i + 1), by (try simp only); omega, (i + 1, _), ⟨by (try simp only); omega, rfl⟩, St.next hs ⟨rfl, rfl, rfl, rfl, trivial⟩ (by rw [flat_take ps i (by omega)]; rfl)⟩
  · try simp only [decide_eq_true_eq, decide_eq_false_iff_not, Bool.not_eq_true', Bool.not_eq_false', Bool.and_eq_true, Bool.or_eq_true, Bool.or_eq_false_iff] at hc
    obtain rfl : i = ps.length := by omega
    rw [flat_full] at hs
    refine wp_exit ?_
    refine then_e ?_
    refine then_e ?_
    refine blk_hit ?_
    refine then_n ?_
    refine wp_seq ?_
    refine wp_reg ?_
    refine s_q hs (c_move (hs.ev rfl)) rfl fun ac hs => ?_
    refine s_q hs (c_assign (hs.ev rfl)) rfl fun ac hs => ?_
    refine s_end ?_
    replace hs := hs.sub (F' := [(4, _)]) ⟨rfl, trivial⟩
    refine then_n ?_
    refine wp_ret ?_
    refine s_ret hs rfl (.tmp (hs.tmp rfl) .nil) rfl ⟨_, rfl, hs.fr, ?_⟩
    exact ⟨_, rfl, hs.made⟩

-- fingerpostref05.Short
set_option maxHeartbeats 4000000 in
theorem ref05_Short (k : UInt8) (ps : List (Value × List UInt8)) (pv : Value) (hle : (flat ps).length ≤ 140737488355199) (w : World) (hq : RdP w pv ps) : Ctr Try.prog 92 [B k, pv] w (fun _ => False) (fun v _ => v = .agg ((short k (flat ps)).map B).toArray) := by
  refine fn_start (N := 10) Try.func92 rfl rfl rfl fun ac hk => ?_
  have hs := St.start hk w
  refine wp_seq ?_
  refine wp_reg ?_
  refine s_alloc hs ty22 rfl fun ac ww g4 hs => ?_
  refine s_end ?_
  refine then_n ?_
  refine wp_seq ?_
  refine wp_reg ?_
  refine s_q hs (c_move (hs.ev rfl)) rfl fun ac hs => ?_
  refine s_q hs (c_move (hs.ev rfl)) rfl fun ac hs => ?_
  refine s_call hs fu159 (.cons (hs.ev rfl) (.cons (hs.ev rfl) .nil)) (ref05_Text k ps _ (by omega) _ (hq.fr0 hs.fr)) rfl fun ac ww v7 hf hp hs => ?_
  obtain ⟨qv, rfl, hh⟩ := hp
  replace hs := hs _ hh
  refine s_call hs fu45 (.cons (hs.ev rfl) .nil) (ref04_Sum (k :: flat ps) _ (by simp only [List.length_cons]; omega) _ (RdB.row (hs.get (i := 0) rfl))) rfl fun ac ww v8 hf hp hs => ?_
  obtain rfl := hp
  replace hs := hs [] (.nil _ _)
  refine s_call hs fu171 (.cons (hs.ev rfl) .nil) (ref05_Half _ (sum_length _) _) rfl fun ac ww v9 hf hp hs => ?_
  obtain rfl := hp
  replace hs := hs [] (.nil _ _)
  refine s_storeW (i := 1) hs ty22 rfl rfl rfl (by simp) (all_map_B _) (by simp) fun ww hs => ?_
  refine s_end ?_
  replace hs := hs.sub (F' := [(4, _)]) ⟨rfl, trivial⟩
  refine then_n ?_
  refine wp_ret ?_
  refine s_ret hs rfl (.cell (hs.tmp rfl) (run_loadA ty22 rfl (hs.seg (i := 1) rfl) (List.take_of_length_le (by simp)) (by simp)) .nil) rfl ⟨_, rfl, hs.fr, ?_⟩
  rfl

-- fingerpostref06.Of
set_option maxHeartbeats 4000000 in
theorem ref06_Of (k : UInt8) (p : List UInt8) (pv : Value) (hle : p.length ≤ 140737488355199) (w : World) (hq : RdB w pv (k :: p)) : Ctr Try.prog 54 [pv] w (fun _ => False) (fun v _ => v = .agg ((short k p).map B).toArray) := by
  obtain ⟨pad_, pcap, rfl, hpc, hpm⟩ := hq.sl
  obtain ⟨pb, po, pT, pf, pall, rfl, hpb, hps⟩ := hq.at' (by simp)
  refine fn_start (N := 10) Try.func54 rfl rfl rfl fun ac hk => ?_
  have hs := St.start hk w
  refine wp_seq ?_
  refine wp_reg ?_
  refine s_alloc hs ty22 rfl fun ac ww g2 hs => ?_
  refine s_end ?_
  refine then_n ?_
  refine wp_seq ?_
  refine wp_region_rg pmix 6 (by kernel_rfl) rfl hs ?_
  simp only [List.take_succ_cons, List.take_zero]
  refine rg_q (fun ac ww h => c_move (h.ev rfl)) rfl ?_
  refine rg_q (fun ac ww h => c_idxS un34 ty5 (h.ev rfl) (h.ev rfl) rfl (by simp)) rfl ?_
  refine rg_q (fun ac ww h => c_loadS un5 rfl (h.ev rfl) (h.blk (hs.old hpb id)) (seg_get 0 hps (by simp))) rfl ?_
  refine rg_q (fun ac ww h => c_move (h.ev rfl)) rfl ?_
  refine rg_q (fun ac ww h => c_sliceL (i := 1) un34 ty5 (h.ev rfl) (h.ev rfl) (by omega) (by simp)) rfl ?_
  refine rg_bslice un30 ty34 (fun ac ww h => (.cons (h.ev rfl) .nil)) rfl (by simp [Value.cells]) (by decide) rfl rfl ?_
  refine rg_nil fun ac ww L' hf hfe hs => ?_
  simp only [List.drop_succ_cons, List.drop_zero]
  obtain ⟨v8, L8, M8, h8, e8, rfl, rfl⟩ := hfe
  replace hs := hs.add h8
  obtain ⟨g8, rfl, rfl⟩ := e8
  refine s_call hs fu92 (.cons (hs.ev rfl) (.cons (hs.ev rfl) .nil)) (ref05_Short k [(_, p)] _ (by simpa [flat] using hle) _ (RdP.seg (ps := [(_, p)]) (hs.seg (i := 0) rfl) (by show 1 ≤ maxLen; decide) (.cons ((RdB.cut (i := 1) hq (by simp)).fr0 hs.fr) .nil))) rfl fun ac ww v9 hf hp hs => ?_
  obtain rfl := hp
  replace hs := hs [] (.nil _ _)
  rw [show flat [(_, p)] = p from List.append_nil p] at hs
  refine s_storeW (i := 1) hs ty22 rfl rfl rfl (by simp) (all_map_B _) (by simp) fun ww hs => ?_
  refine s_end ?_
  replace hs := hs.sub (F' := [(2, _)]) ⟨rfl, trivial⟩
  refine then_n ?_
  refine wp_ret ?_
  refine s_ret hs rfl (.cell (hs.tmp rfl) (run_loadA ty22 rfl (hs.seg (i := 1) rfl) (List.take_of_length_le (by simp)) (by simp)) .nil) rfl ⟨_, rfl, hs.fr, ?_⟩
  rfl

-- fingerpostref05.Num
set_option maxHeartbeats 4000000 in
theorem ref05_Num (x : UInt64) (s : Nat) (hs8 : s ≤ 8) (w : World)  : Ctr Try.prog 173 [V x, I s] w (fun _ => False) (fun v w' => ∃ g, v = .slice (some ⟨g, 0, none⟩) s s ∧ Has w.heap.size w' [.seg g ((num x s s).map B) 5]) := by
  refine fn_start (N := 24) Try.func173 rfl rfl rfl fun ac hk => ?_
  have hs := St.start hk w
  refine wp_seq ?_
  refine wp_reg ?_
  refine s_q hs (c_assign (hs.ev rfl)) rfl fun ac hs => ?_
  refine s_end ?_
  refine then_n ?_
  refine wp_seq ?_
  refine wp_reg ?_
  refine s_q hs (c_move (hs.ev rfl)) rfl fun ac hs => ?_
  refine s_make (n := s) hs un34 ty5 rfl rfl rfl rfl (by omega) (by unfold maxLen; omega) rfl fun ac ww g8 hs => ?_
  refine s_q hs (c_assign (hs.ev rfl)) rfl fun ac hs => ?_
  refine s_end ?_
  replace hs := hs.sub (F' := [(0, _), (1, _), (4, _), (5, _)]) ⟨rfl, rfl, rfl, rfl, trivial⟩
  refine then_n ?_
  refine wp_seq ?_
  refine wp_seq ?_
  refine wp_reg ?_
  refine s_q hs (c_move (hs.ev rfl)) rfl fun ac hs => ?_
  refine s_q hs (c_subI (hs.ev rfl) (hs.ev rfl) (by omega) (by omega)) rfl fun ac hs => ?_
  refine s_q hs (c_assign (hs.ev rfl)) rfl fun ac hs => ?_
  refine s_end ?_
  replace hs := hs.sub (F' := [(0, _), (4, _), (5, _), (6, _)]) ⟨rfl, rfl, rfl, rfl, trivial⟩
  refine then_n ?_
  refine wp_block ?_
  refine s_loop hs (X := Nat) (fun k => [(0, V (qd x k)), (6, I ((s : Int) - 1 - (k : Int)))]) [(4, _), (5, _)] (fun k => [.seg g8 ((num x s k).map B) 5]) (fun n k => k ≤ s ∧ n = s - k) (s) (0) (⟨Nat.zero_le _, rfl⟩) ⟨rfl, (congrArg (fun z => some (I z)) (by omega)), rfl, rfl, trivial⟩ (by rw [num_zero _ _ hs8, flat1']; try rfl) ?_
  rintro n k ac ww hok hs
  simp only [List.cons_append, List.nil_append] at hs
  obtain ⟨hk, rfl⟩ := hok
  have hz := num_len x s k hk hs8
  refine wp_seq ?_
  refine wp_seq ?_
  refine wp_reg ?_
  refine s_q hs (c_move (hs.ev rfl)) rfl fun ac hs => ?_
  refine s_q hs (c_geqI (hs.ev rfl) (hs.ev rfl)) rfl fun ac hs => ?_
  refine s_end ?_
  refine then_n ?_
  refine s_cond hs rfl (fun hc => ?_) (fun hc => ?_)
  · try simp only [decide_eq_true_eq, decide_eq_false_iff_not, Bool.not_eq_true', Bool.not_eq_false', Bool.and_eq_true, Bool.or_eq_true, Bool.or_eq_false_iff] at hc
    refine wp_skip ?_
    refine then_n ?_
    refine wp_seq ?_
    refine wp_block ?_
    refine wp_seq ?_
    refine wp_reg ?_
    refine s_q hs (c_move (hs.ev rfl)) rfl fun ac hs => ?_
    refine s_q hs (c_move (hs.ev rfl)) rfl fun ac hs => ?_
    refine s_q hs (c_move (hs.ev rfl)) rfl fun ac hs => ?_
    refine s_q hs (c_remV (hs.ev rfl) (St.ev (v := V 256) hs rfl) (by decide)) rfl fun ac hs => ?_
    refine s_q hs (c_cvVB un210 un5 (hs.ev rfl)) rfl fun ac hs => ?_
    refine s_q hs (c_idxS (j := s - 1 - k) un34 ty5 (hs.ev rfl) (hs.ev rfl) (by omega) (by omega)) rfl fun ac hs => ?_
    refine s_store (i := 0) hs ty5 rfl rfl rfl rfl rfl rfl (by rw [List.length_map]; omega) ((map_set _ (by omega)).trans (congrArg (List.map B) ((congrArg (fun z => List.set _ _ z) (qd_byte _ k (by omega))).trans (num_set x s k (by omega) hs8)))) fun ww hs => ?_
    refine s_end ?_
    refine then_n ?_
    refine wp_reg ?_
    refine s_q hs (c_move (hs.ev rfl)) rfl fun ac hs => ?_
    refine s_q hs (c_quoV (hs.ev rfl) (St.ev (v := V 256) hs rfl) (by decide)) rfl fun ac hs => ?_
    refine s_q hs (c_assign (hs.ev rfl)) rfl fun ac hs => ?_
    refine s_end ?_
    refine blk_n ?_
    refine then_n ?_
    refine wp_reg ?_
    refine s_q hs (c_move (hs.ev rfl)) rfl fun ac hs => ?_
    refine s_q hs (c_subI (hs.ev rfl) (hs.ev rfl) (by omega) (by omega)) rfl fun ac hs => ?_
    refine s_q hs (c_assign (hs.ev rfl)) rfl fun ac hs => ?_
    refine s_end ?_
    refine then_n ?_
    exact ⟨s - (k + 1), by omega, k + 1, ⟨by omega, rfl⟩, St.next hs ⟨rfl, (congrArg (fun z => some (I z)) (by omega)), rfl, rfl, trivial⟩ rfl⟩
  · try simp only [decide_eq_true_eq, decide_eq_false_iff_not, Bool.not_eq_true', Bool.not_eq_false', Bool.and_eq_true, Bool.or_eq_true, Bool.or_eq_false_iff] at hc
    obtain rfl : k = s := by omega
    refine wp_exit ?_
    refine then_e ?_
    refine then_e ?_
    refine blk_hit ?_
    refine then_n ?_
    refine wp_seq ?_
    refine wp_reg ?_
    refine s_q hs (c_move (hs.ev rfl)) rfl fun ac hs => ?_
    refine s_q hs (c_assign (hs.ev rfl)) rfl fun ac hs => ?_
    refine s_end ?_
    replace hs := hs.sub (F' := [(4, _)]) ⟨rfl, trivial⟩
    refine then_n ?_
    refine wp_ret ?_
    refine s_ret hs rfl (.tmp (hs.tmp rfl) .nil) rfl ⟨_, rfl, hs.fr, ?_⟩
    exact ⟨g8, rfl, hs.made⟩

end Go.Proofs.Ytmgnnclkjkbmdaa
