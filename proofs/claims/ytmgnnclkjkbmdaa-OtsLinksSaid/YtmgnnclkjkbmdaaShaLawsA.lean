/- The laws of the sums, walked. -/
import Derived.Test.YtmgnnclkjkbmdaaRefC
set_option linter.unusedSimpArgs false
set_option linter.unusedVariables false
set_option maxRecDepth 100000
namespace Go.Proofs.Ytmgnnclkjkbmdaa
open Go Go.Fw

open Sha
-- fingerpostlaw04.ShaSums
set_option maxHeartbeats 4000000 in
theorem law_ShaSums (p : List UInt8) (pv : Value) (hle : p.length ≤ 140737488351232) (w : World) (hq : RdB w pv p) : Ctr Try.prog 5 [pv] w (fun _ => False) (fun v _ => v = .bool true) := by
  refine fn_start (N := 11) Try.func5 rfl rfl rfl fun ac hk => ?_
  have hs := St.start hk w
  refine wp_seq ?_
  refine wp_reg ?_
  refine s_q hs (c_assign (hs.ev rfl)) rfl fun ac hs => ?_
  refine s_end ?_
  refine then_n ?_
  refine wp_seq ?_
  refine wp_reg ?_
  refine s_call hs fu43 .nil (law04_awake _) rfl fun ac ww v3 hf hp hs => ?_
  obtain rfl := hp
  replace hs := hs [] (.nil _ _)
  refine s_q hs (c_move (hs.ev rfl)) rfl fun ac hs => ?_
  refine s_yes hs rfl rfl ?_
  refine s_q hs (c_move (hs.ev rfl)) rfl fun ac hs => ?_
  refine s_yes hs rfl rfl ?_
  refine s_call hs fu44 (.cons (hs.ev rfl) .nil) (sha_Sum p _ (by omega) _ (hq.fr0 hs.fr)) rfl fun ac ww v6 hf hp hs => ?_
  obtain rfl := hp
  replace hs := hs [] (.nil _ _)
  refine s_yes hs rfl rfl ?_
  refine s_q hs (c_move (hs.ev rfl)) rfl fun ac hs => ?_
  refine s_yes hs rfl rfl ?_
  refine s_call hs fu45 (.cons (hs.ev rfl) .nil) (ref04_Sum p _ (by omega) _ (hq.fr0 hs.fr)) rfl fun ac ww v8 hf hp hs => ?_
  obtain rfl := hp
  replace hs := hs [] (.nil _ _)
  refine s_yes hs rfl rfl ?_
  refine s_q hs (c_tt (c_eqlAB un41 ty5 eg41 (hs.ev rfl) (hs.ev rfl) (sum_length _) (sum_length _)) (by simp)) rfl fun ac hs => ?_
  refine s_q hs (c_pick (hs.ev rfl) (hs.ev rfl) (hs.ev rfl)) rfl fun ac hs => ?_
  refine s_q hs (c_assign (hs.ev rfl)) rfl fun ac hs => ?_
  refine s_end ?_
  replace hs := hs.sub (F' := [(2, _)]) ⟨rfl, trivial⟩
  refine then_n ?_
  refine wp_ret ?_
  refine s_ret hs rfl (.tmp (hs.tmp rfl) .nil) rfl ⟨_, rfl, hs.fr, ?_⟩
  rfl

-- fingerpostlaw04.ShaBlocks
set_option maxHeartbeats 4000000 in
theorem law_ShaBlocks (n : Int) (h0 : -9223372036854775808 ≤ n) (h1 : n ≤ 9223372036854775807) (w : World)  : Ctr Try.prog 7 [I n] w (fun _ => False) (fun v _ => v = .bool true) := by
  refine fn_start (N := 11) Try.func7 rfl rfl rfl fun ac hk => ?_
  have hs := St.start hk w
  refine wp_seq ?_
  refine wp_reg ?_
  refine s_q hs (c_assign (hs.ev rfl)) rfl fun ac hs => ?_
  refine s_end ?_
  refine then_n ?_
  refine wp_seq ?_
  refine wp_reg ?_
  refine s_call hs fu43 .nil (law04_awake _) rfl fun ac ww v3 hf hp hs => ?_
  obtain rfl := hp
  replace hs := hs [] (.nil _ _)
  refine s_q hs (c_move (hs.ev rfl)) rfl fun ac hs => ?_
  refine s_yes hs rfl rfl ?_
  refine s_q hs (c_move (hs.ev rfl)) rfl fun ac hs => ?_
  refine s_yes hs rfl rfl ?_
  refine s_call hs fu39 (.cons (hs.ev rfl) .nil) (sha_Blocks n h0 h1 _) rfl fun ac ww v6 hf hp hs => ?_
  obtain rfl := hp
  replace hs := hs [] (.nil _ _)
  refine s_yes hs rfl rfl ?_
  refine s_q hs (c_move (hs.ev rfl)) rfl fun ac hs => ?_
  refine s_yes hs rfl rfl ?_
  refine s_call hs fu47 (.cons (hs.ev rfl) .nil) (ref04_Blocks n h0 h1 _) rfl fun ac ww v8 hf hp hs => ?_
  obtain rfl := hp
  replace hs := hs [] (.nil _ _)
  refine s_yes hs rfl rfl ?_
  refine s_q hs (c_tt (c_eqlI (hs.ev rfl) (hs.ev rfl)) (by simp)) rfl fun ac hs => ?_
  refine s_q hs (c_pick (hs.ev rfl) (hs.ev rfl) (hs.ev rfl)) rfl fun ac hs => ?_
  refine s_q hs (c_assign (hs.ev rfl)) rfl fun ac hs => ?_
  refine s_end ?_
  replace hs := hs.sub (F' := [(2, _)]) ⟨rfl, trivial⟩
  refine then_n ?_
  refine wp_ret ?_
  refine s_ret hs rfl (.tmp (hs.tmp rfl) .nil) rfl ⟨_, rfl, hs.fr, ?_⟩
  rfl

/-- Bytes that go on by a step. -/
def steps (a b : UInt8) : Nat → List UInt8
  | 0 => []
  | k + 1 => steps a b k ++ [a + UInt8.ofNat k * b]
theorem steps_len (a b : UInt8) (k : Nat) : (steps a b k).length = k := by
  induction k with
  | zero => rfl
  | succ k ih => simp [steps, ih]
theorem step_next (a b : UInt8) (k : Nat) : a + UInt8.ofNat k * b + b = a + UInt8.ofNat (k + 1) * b := by
  rw [UInt8.ofNat_add, UInt8.add_mul, ← UInt8.add_assoc]
  simp
def stepZ (a b : UInt8) (n k : Nat) : List UInt8 := steps a b k ++ List.replicate (n - k) 0
theorem stepZ_len (a b : UInt8) (n k : Nat) (h : k ≤ n) : (stepZ a b n k).length = n := by simp [stepZ, steps_len]; omega
theorem stepZ_set (a b : UInt8) (n k : Nat) (h : k < n) : (stepZ a b n k).set k (a + UInt8.ofNat k * b) = stepZ a b n (k + 1) := by
  have h2 := Sha.set_rep (steps a b k) (n - (k + 1)) (0 : UInt8) (a + UInt8.ofNat k * b)
  rw [steps_len, show n - (k + 1) + 1 = n - k from by omega] at h2
  exact h2

theorem flat1 (n : Nat) : (List.replicate n [B 0]).flatten = (List.replicate n (0 : UInt8)).map B := by
  induction n with
  | zero => rfl
  | succ n ih => rw [List.replicate_succ, List.flatten_cons, ih, List.replicate_succ]; rfl
theorem RdB.segn {w : World} {g n : Nat} {T : TypeId} {l : List UInt8} (h : w.heap[g]? = some (.cells (l.map B).toArray T (0, 0))) (hl : l.length = n) (hn : n ≤ maxLen) : RdB w (.slice (some ⟨g, 0, none⟩) n n) l := by
  subst hl; exact RdB.seg h hn

-- fingerpostlaw04.ShaEdges
set_option maxHeartbeats 4000000 in
theorem law_ShaEdges (n a b : UInt8) (w : World)  : Ctr Try.prog 6 [B n, B a, B b] w (fun _ => False) (fun v _ => v = .bool true) := by
  refine fn_start (N := 44) Try.func6 rfl rfl rfl fun ac hk => ?_
  have hs := St.start hk w
  refine wp_seq ?_
  refine wp_reg ?_
  refine s_q hs (c_assign (hs.ev rfl)) rfl fun ac hs => ?_
  refine s_end ?_
  refine then_n ?_
  refine wp_seq ?_
  refine wp_reg ?_
  refine s_q hs (c_move (hs.ev rfl)) rfl fun ac hs => ?_
  refine s_q hs (c_cvBI un5 un3 (hs.ev rfl)) rfl fun ac hs => ?_
  refine s_q hs (c_remI (hs.ev rfl) (hs.ev rfl) (by omega) (by omega)) rfl fun ac hs => ?_
  refine s_make (n := (n.toNat % 201)) hs un34 ty5 rfl rfl (by rw [Int.natCast_emod]; rfl) (by rw [Int.natCast_emod]; rfl) (by omega) (by unfold maxLen; omega) rfl fun ac ww g12 hs => ?_
  refine s_q hs (c_assign (hs.ev rfl)) rfl fun ac hs => ?_
  refine s_end ?_
  replace hs := hs.sub (F' := [(1, _), (2, _), (6, _), (7, _)]) ⟨rfl, rfl, rfl, rfl, trivial⟩
  refine then_n ?_
  refine wp_seq ?_
  refine wp_seq ?_
  refine wp_reg ?_
  refine s_q hs (c_move (hs.ev rfl)) rfl fun ac hs => ?_
  refine s_q hs (c_lenS un34 (hs.ev rfl)) rfl fun ac hs => ?_
  refine s_q hs (c_move (hs.ev rfl)) rfl fun ac hs => ?_
  refine s_end ?_
  replace hs := hs.sub (F' := [(1, _), (2, _), (6, _), (7, _), (14, _), (15, _)]) ⟨rfl, rfl, rfl, rfl, rfl, rfl, trivial⟩
  refine then_n ?_
  refine wp_block ?_
  refine s_loop hs (X := Nat) (fun k => [(1, B (a + UInt8.ofNat k * b)), (15, I k)]) [(2, _), (6, _), (7, _), (14, _)] (fun k => [.seg g12 ((stepZ a b (n.toNat % 201) k).map B) 5]) (fun m k => k ≤ (n.toNat % 201) ∧ m = (n.toNat % 201) - k) (_) (0) (⟨Nat.zero_le _, rfl⟩) ⟨(by simp; rfl), rfl, rfl, rfl, rfl, rfl, trivial⟩ (by rw [flat1]; rfl) ?_
  rintro n k ac ww hok hs
  simp only [List.cons_append, List.nil_append] at hs
  obtain ⟨hk, rfl⟩ := hok
  have hzl := stepZ_len a b (n.toNat % 201) k hk
  refine wp_seq ?_
  refine wp_reg ?_
  refine s_q hs (c_lssI (hs.ev rfl) (hs.ev rfl)) rfl fun ac hs => ?_
  refine s_end ?_
  refine then_n ?_
  refine wp_seq ?_
  refine s_cond hs rfl (fun hc => ?_) (fun hc => ?_)
  · try simp only [decide_eq_true_eq, decide_eq_false_iff_not, Bool.not_eq_true', Bool.not_eq_false', Bool.and_eq_true, Bool.or_eq_true, Bool.or_eq_false_iff] at hc
    refine wp_skip ?_
    refine then_n ?_
    refine wp_seq ?_
    refine wp_block ?_
    refine wp_seq ?_
    refine wp_reg ?_
    refine s_q hs (c_move (hs.ev rfl)) rfl fun ac hs => ?_
    refine s_q hs (c_assign (hs.ev rfl)) rfl fun ac hs => ?_
    refine s_end ?_
    refine then_n ?_
    refine wp_seq ?_
    refine wp_reg ?_
    refine s_q hs (c_move (hs.ev rfl)) rfl fun ac hs => ?_
    refine s_q hs (c_move (hs.ev rfl)) rfl fun ac hs => ?_
    refine s_q hs (c_move (hs.ev rfl)) rfl fun ac hs => ?_
    refine s_q hs (c_idxS (j := k) un34 ty5 (hs.ev rfl) (hs.ev rfl) (by omega) (by omega)) rfl fun ac hs => ?_
    refine s_store (i := 0) hs ty5 rfl rfl rfl rfl rfl rfl (by rw [List.length_map]; omega) ((map_set _ (by omega)).trans (congrArg (List.map B) (stepZ_set a b _ k (by omega)))) fun ww hs => ?_
    refine s_end ?_
    refine then_n ?_
    refine wp_reg ?_
    refine s_q hs (c_move (hs.ev rfl)) rfl fun ac hs => ?_
    refine s_q hs (c_move (hs.ev rfl)) rfl fun ac hs => ?_
    refine s_q hs (c_addB (hs.ev rfl) (hs.ev rfl)) rfl fun ac hs => ?_
    refine s_q hs (c_assign (hs.ev rfl)) rfl fun ac hs => ?_
    refine s_end ?_
    refine blk_n ?_
    refine then_n ?_
    refine wp_reg ?_
    refine s_q hs (c_addI (hs.ev rfl) (hs.ev rfl) (by omega) (by omega)) rfl fun ac hs => ?_
    refine s_q hs (c_move (hs.ev rfl)) rfl fun ac hs => ?_
    refine s_end ?_
    refine then_n ?_
    exact ⟨(n.toNat % 201) - (k + 1), by omega, k + 1, ⟨by omega, rfl⟩, St.next hs ⟨(by rw [← step_next]; rfl), rfl, rfl, rfl, rfl, rfl, trivial⟩ rfl⟩
  · try simp only [decide_eq_true_eq, decide_eq_false_iff_not, Bool.not_eq_true', Bool.not_eq_false', Bool.and_eq_true, Bool.or_eq_true, Bool.or_eq_false_iff] at hc
    obtain rfl : k = (n.toNat % 201) := by omega
    refine wp_exit ?_
    refine then_e ?_
    refine then_e ?_
    refine blk_hit ?_
    refine then_n ?_
    refine wp_seq ?_
    refine wp_reg ?_
    refine s_call hs fu43 .nil (law04_awake _) rfl fun ac ww v26 hf hp hs => ?_
    obtain rfl := hp
    replace hs := hs [] (.nil _ _)
    refine s_q hs (c_move (hs.ev rfl)) rfl fun ac hs => ?_
    refine s_yes hs rfl rfl ?_
    refine s_q hs (c_move (hs.ev rfl)) rfl fun ac hs => ?_
    refine s_yes hs rfl rfl ?_
    refine s_call hs fu44 (.cons (hs.ev rfl) .nil) (sha_Sum (stepZ a b (n.toNat % 201) (n.toNat % 201)) _ (by omega) _ (RdB.segn (l := (stepZ a b (n.toNat % 201) (n.toNat % 201))) (hs.seg (i := 0) rfl) hzl (by unfold maxLen; omega))) rfl fun ac ww v29 hf hp hs => ?_
    obtain rfl := hp
    replace hs := hs [] (.nil _ _)
    refine s_yes hs rfl rfl ?_
    refine s_q hs (c_move (hs.ev rfl)) rfl fun ac hs => ?_
    refine s_yes hs rfl rfl ?_
    refine s_call hs fu45 (.cons (hs.ev rfl) .nil) (ref04_Sum (stepZ a b (n.toNat % 201) (n.toNat % 201)) _ (by omega) _ (RdB.segn (l := (stepZ a b (n.toNat % 201) (n.toNat % 201))) (hs.seg (i := 0) rfl) hzl (by unfold maxLen; omega))) rfl fun ac ww v31 hf hp hs => ?_
    obtain rfl := hp
    replace hs := hs [] (.nil _ _)
    refine s_yes hs rfl rfl ?_
    refine s_q hs (c_tt (c_eqlAB un41 ty5 eg41 (hs.ev rfl) (hs.ev rfl) (sum_length _) (sum_length _)) (by simp)) rfl fun ac hs => ?_
    refine s_q hs (c_pick (hs.ev rfl) (hs.ev rfl) (hs.ev rfl)) rfl fun ac hs => ?_
    refine s_q hs (c_move (hs.ev rfl)) rfl fun ac hs => ?_
    refine s_yes hs rfl rfl ?_
    refine s_q hs (c_move (hs.ev rfl)) rfl fun ac hs => ?_
    refine s_yes hs rfl rfl ?_
    refine s_q hs (c_lenS un34 (hs.ev rfl)) rfl fun ac hs => ?_
    refine s_yes hs rfl rfl ?_
    refine s_call hs fu39 (.cons (hs.ev rfl) .nil) (sha_Blocks _ (by omega) (by omega) _) rfl fun ac ww v37 hf hp hs => ?_
    obtain rfl := hp
    replace hs := hs [] (.nil _ _)
    refine s_yes hs rfl rfl ?_
    refine s_q hs (c_move (hs.ev rfl)) rfl fun ac hs => ?_
    refine s_yes hs rfl rfl ?_
    refine s_call hs fu46 (.cons (hs.ev rfl) .nil) (ref04_Pad (stepZ a b (n.toNat % 201) (n.toNat % 201)) _ (by omega) _ (RdB.segn (l := (stepZ a b (n.toNat % 201) (n.toNat % 201))) (hs.seg (i := 0) rfl) hzl (by unfold maxLen; omega))) rfl fun ac ww v39 hf hp hs => ?_
    obtain ⟨qv, rfl, hh⟩ := hp
    replace hs := hs _ hh
    obtain ⟨qad, qcap, rfl, hqc, hqm⟩ := Rd.sl (RdB.row (hs.get (i := 0) rfl))
    have hpl := pad_length (stepZ a b (n.toNat % 201) (n.toNat % 201))
    have hbl : blocks (stepZ a b (n.toNat % 201) (n.toNat % 201)).length ≤ 202 := by rw [hzl]; simp only [blocks]; split <;> omega
    refine s_yes hs rfl rfl ?_
    refine s_q hs (c_lenS un34 (hs.ev rfl)) rfl fun ac hs => ?_
    refine s_yes hs rfl rfl ?_
    refine s_q hs (c_quoI (hs.ev rfl) (hs.ev rfl) (by omega) (by omega) (by omega)) rfl fun ac hs => ?_
    refine s_yes hs rfl rfl ?_
    refine s_q hs (c_tt (c_eqlI (hs.ev rfl) (hs.ev rfl)) (by rw [blI_nat, hpl, hzl]; simp)) rfl fun ac hs => ?_
    refine s_q hs (c_pick (hs.ev rfl) (hs.ev rfl) (hs.ev rfl)) rfl fun ac hs => ?_
    refine s_q hs (c_assign (hs.ev rfl)) rfl fun ac hs => ?_
    refine s_end ?_
    replace hs := hs.sub (F' := [(6, _)]) ⟨rfl, trivial⟩
    refine then_n ?_
    refine wp_ret ?_
    refine s_ret hs rfl (.tmp (hs.tmp rfl) .nil) rfl ⟨_, rfl, hs.fr, ?_⟩
    rfl

end Go.Proofs.Ytmgnnclkjkbmdaa
