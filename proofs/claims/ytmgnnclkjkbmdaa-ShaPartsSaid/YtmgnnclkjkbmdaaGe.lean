/- Own texts of this seat, laid together: ShaLawsA, MacSpec, MacA, Ref05Spec, Ref05A, Ref05B, MacB, MacLawsA, MacLawsB, MacLawsC. -/
import Derived.Test.YtmgnnclkjkbmdaaGa
import Derived.Test.YtmgnnclkjkbmdaaGb
import Derived.Test.YtmgnnclkjkbmdaaGc
import Derived.Test.YtmgnnclkjkbmdaaGd
/- The laws of the sums, walked. -/
section
set_option linter.unusedSimpArgs false
set_option linter.unusedVariables false
set_option maxRecDepth 100000
namespace Go.Proofs.Ytmgnnclkjkbmdaa
open Go Go.Fw

open Sha
-- fingerpostlaw04.ShaSums
set_option maxHeartbeats 4000000 in
theorem law_ShaSums (p : List UInt8) (pv : Value) (hle : p.length ≤ 140737488351232) (w : World) (hq : RdB w pv p) : Ctr Try.prog 5 [pv] w (fun _ => False) (fun v _ => v = .bool true) := by
  refine fn_start (N := 11) Try.func5 rfl rfl rfl fun ac hk => ?_
  have hs := St.start hk w
  refine wp_seq ?_
  refine wp_reg ?_
  refine s_q hs (c_assign (hs.ev rfl)) rfl fun ac hs => ?_
  refine s_end ?_
  refine then_n ?_
  refine wp_seq ?_
  refine wp_reg ?_
  refine s_call hs fu43 .nil (law04_awake _) rfl fun ac ww v3 hf hp hs => ?_
  obtain rfl := hp
  replace hs := hs [] (.nil _ _)
  refine s_q hs (c_move (hs.ev rfl)) rfl fun ac hs => ?_
  refine s_yes hs rfl rfl ?_
  refine s_q hs (c_move (hs.ev rfl)) rfl fun ac hs => ?_
  refine s_yes hs rfl rfl ?_
  refine s_call hs fu44 (.cons (hs.ev rfl) .nil) (sha_Sum p _ (by omega) _ (hq.fr0 hs.fr)) rfl fun ac ww v6 hf hp hs => ?_
  obtain rfl := hp
  replace hs := hs [] (.nil _ _)
  refine s_yes hs rfl rfl ?_
  refine s_q hs (c_move (hs.ev rfl)) rfl fun ac hs => ?_
  refine s_yes hs rfl rfl ?_
  refine s_call hs fu45 (.cons (hs.ev rfl) .nil) (ref04_Sum p _ (by omega) _ (hq.fr0 hs.fr)) rfl fun ac ww v8 hf hp hs => ?_
  obtain rfl := hp
  replace hs := hs [] (.nil _ _)
  refine s_yes hs rfl rfl ?_
  refine s_q hs (c_tt (c_eqlAB un41 ty5 eg41 (hs.ev rfl) (hs.ev rfl) (sum_length _) (sum_length _)) (by simp)) rfl fun ac hs => ?_
  refine s_q hs (c_pick (hs.ev rfl) (hs.ev rfl) (hs.ev rfl)) rfl fun ac hs => ?_
  refine s_q hs (c_assign (hs.ev rfl)) rfl fun ac hs => ?_
  refine s_end ?_
  replace hs := hs.sub (F' := [(2, _)]) ⟨rfl, trivial⟩
  refine then_n ?_
  refine wp_ret ?_
  refine s_ret hs rfl (.tmp (hs.tmp rfl) .nil) rfl ⟨_, rfl, hs.fr, ?_⟩
  rfl

-- fingerpostlaw04.ShaBlocks
set_option maxHeartbeats 4000000 in
theorem law_ShaBlocks (n : Int) (h0 : -9223372036854775808 ≤ n) (h1 : n ≤ 9223372036854775807) (w : World)  : Ctr Try.prog 7 [I n] w (fun _ => False) (fun v _ => v = .bool true) := by
  refine fn_start (N := 11) Try.func7 rfl rfl rfl fun ac hk => ?_
  have hs := St.start hk w
  refine wp_seq ?_
  refine wp_reg ?_
  refine s_q hs (c_assign (hs.ev rfl)) rfl fun ac hs => ?_
  refine s_end ?_
  refine then_n ?_
  refine wp_seq ?_
  refine wp_reg ?_
  refine s_call hs fu43 .nil (law04_awake _) rfl fun ac ww v3 hf hp hs => ?_
  obtain rfl := hp
  replace hs := hs [] (.nil _ _)
  refine s_q hs (c_move (hs.ev rfl)) rfl fun ac hs => ?_
  refine s_yes hs rfl rfl ?_
  refine s_q hs (c_move (hs.ev rfl)) rfl fun ac hs => ?_
  refine s_yes hs rfl rfl ?_
  refine s_call hs fu39 (.cons (hs.ev rfl) .nil) (sha_Blocks n h0 h1 _) rfl fun ac ww v6 hf hp hs => ?_
  obtain rfl := hp
  replace hs := hs [] (.nil _ _)
  refine s_yes hs rfl rfl ?_
  refine s_q hs (c_move (hs.ev rfl)) rfl fun ac hs => ?_
  refine s_yes hs rfl rfl ?_
  refine s_call hs fu47 (.cons (hs.ev rfl) .nil) (ref04_Blocks n h0 h1 _) rfl fun ac ww v8 hf hp hs => ?_
  obtain rfl := hp
  replace hs := hs [] (.nil _ _)
  refine s_yes hs rfl rfl ?_
  refine s_q hs (c_tt (c_eqlI (hs.ev rfl) (hs.ev rfl)) (by simp)) rfl fun ac hs => ?_
  refine s_q hs (c_pick (hs.ev rfl) (hs.ev rfl) (hs.ev rfl)) rfl fun ac hs => ?_
  refine s_q hs (c_assign (hs.ev rfl)) rfl fun ac hs => ?_
  refine s_end ?_
  replace hs := hs.sub (F' := [(2, _)]) ⟨rfl, trivial⟩
  refine then_n ?_
  refine wp_ret ?_
  refine s_ret hs rfl (.tmp (hs.tmp rfl) .nil) rfl ⟨_, rfl, hs.fr, ?_⟩
  rfl

/-- Bytes that go on by a step. -/
def steps (a b : UInt8) : Nat → List UInt8
  | 0 => []
  | k + 1 => steps a b k ++ [a + UInt8.ofNat k * b]
theorem steps_len (a b : UInt8) (k : Nat) : (steps a b k).length = k := by
  induction k with
  | zero => rfl
  | succ k ih => simp [steps, ih]
theorem step_next (a b : UInt8) (k : Nat) : a + UInt8.ofNat k * b + b = a + UInt8.ofNat (k + 1) * b := by
  rw [UInt8.ofNat_add, UInt8.add_mul, ← UInt8.add_assoc]
  simp
def stepZ (a b : UInt8) (n k : Nat) : List UInt8 := steps a b k ++ List.replicate (n - k) 0
theorem stepZ_len (a b : UInt8) (n k : Nat) (h : k ≤ n) : (stepZ a b n k).length = n := by simp [stepZ, steps_len]; omega
theorem stepZ_set (a b : UInt8) (n k : Nat) (h : k < n) : (stepZ a b n k).set k (a + UInt8.ofNat k * b) = stepZ a b n (k + 1) := by
  have h2 := Sha.set_rep (steps a b k) (n - (k + 1)) (0 : UInt8) (a + UInt8.ofNat k * b)
  rw [steps_len, show n - (k + 1) + 1 = n - k from by omega] at h2
  exact h2

theorem flat1 (n : Nat) : (List.replicate n [B 0]).flatten = (List.replicate n (0 : UInt8)).map B := by
  induction n with
  | zero => rfl
  | succ n ih => rw [List.replicate_succ, List.flatten_cons, ih, List.replicate_succ]; rfl
theorem RdB.segn {w : World} {g n : Nat} {T : TypeId} {l : List UInt8} (h : w.heap[g]? = some (.cells (l.map B).toArray T (0, 0))) (hl : l.length = n) (hn : n ≤ maxLen) : RdB w (.slice (some ⟨g, 0, none⟩) n n) l := by
  subst hl; exact RdB.seg h hn

-- fingerpostlaw04.ShaEdges
set_option maxHeartbeats 4000000 in
theorem law_ShaEdges (n a b : UInt8) (w : World)  : Ctr Try.prog 6 [B n, B a, B b] w (fun _ => False) (fun v _ => v = .bool true) := by
  refine fn_start (N := 44) Try.func6 rfl rfl rfl fun ac hk => ?_
  have hs := St.start hk w
  refine wp_seq ?_
  refine wp_reg ?_
  refine s_q hs (c_assign (hs.ev rfl)) rfl fun ac hs => ?_
  refine s_end ?_
  refine then_n ?_
  refine wp_seq ?_
  refine wp_reg ?_
  refine s_q hs (c_move (hs.ev rfl)) rfl fun ac hs => ?_
  refine s_q hs (c_cvBI un5 un3 (hs.ev rfl)) rfl fun ac hs => ?_
  refine s_q hs (c_remI (hs.ev rfl) (hs.ev rfl) (by omega) (by omega)) rfl fun ac hs => ?_
  refine s_make (n := (n.toNat % 201)) hs un34 ty5 rfl rfl (by rw [Int.natCast_emod]; rfl) (by rw [Int.natCast_emod]; rfl) (by omega) (by unfold maxLen; omega) rfl fun ac ww g12 hs => ?_
  refine s_q hs (c_assign (hs.ev rfl)) rfl fun ac hs => ?_
  refine s_end ?_
  replace hs := hs.sub (F' := [(1, _), (2, _), (6, _), (7, _)]) ⟨rfl, rfl, rfl, rfl, trivial⟩
  refine then_n ?_
  refine wp_seq ?_
  refine wp_seq ?_
  refine wp_reg ?_
  refine s_q hs (c_move (hs.ev rfl)) rfl fun ac hs => ?_
  refine s_q hs (c_lenS un34 (hs.ev rfl)) rfl fun ac hs => ?_
  refine s_q hs (c_move (hs.ev rfl)) rfl fun ac hs => ?_
  refine s_end ?_
  replace hs := hs.sub (F' := [(1, _), (2, _), (6, _), (7, _), (14, _), (15, _)]) ⟨rfl, rfl, rfl, rfl, rfl, rfl, trivial⟩
  refine then_n ?_
  refine wp_block ?_
  refine s_loop hs (X := Nat) (fun k => [(1, B (a + UInt8.ofNat k * b)), (15, I k)]) [(2, _), (6, _), (7, _), (14, _)] (fun k => [.seg g12 ((stepZ a b (n.toNat % 201) k).map B) 5]) (fun m k => k ≤ (n.toNat % 201) ∧ m = (n.toNat % 201) - k) (_) (0) (⟨Nat.zero_le _, rfl⟩) ⟨(by simp; rfl), rfl, rfl, rfl, rfl, rfl, trivial⟩ (by rw [flat1]; rfl) ?_
  rintro n k ac ww hok hs
  simp only [List.cons_append, List.nil_append] at hs
  obtain ⟨hk, rfl⟩ := hok
  have hzl := stepZ_len a b (n.toNat % 201) k hk
  refine wp_seq ?_
  refine wp_reg ?_
  refine s_q hs (c_lssI (hs.ev rfl) (hs.ev rfl)) rfl fun ac hs => ?_
  refine s_end ?_
  refine then_n ?_
  refine wp_seq ?_
  refine s_cond hs rfl (fun hc => ?_) (fun hc => ?_)
  · try simp only [decide_eq_true_eq, decide_eq_false_iff_not, Bool.not_eq_true', Bool.not_eq_false', Bool.and_eq_true, Bool.or_eq_true, Bool.or_eq_false_iff] at hc
    refine wp_skip ?_
    refine then_n ?_
    refine wp_seq ?_
    refine wp_block ?_
    refine wp_seq ?_
    refine wp_reg ?_
    refine s_q hs (c_move (hs.ev rfl)) rfl fun ac hs => ?_
    refine s_q hs (c_assign (hs.ev rfl)) rfl fun ac hs => ?_
    refine s_end ?_
    refine then_n ?_
    refine wp_seq ?_
    refine wp_reg ?_
    refine s_q hs (c_move (hs.ev rfl)) rfl fun ac hs => ?_
    refine s_q hs (c_move (hs.ev rfl)) rfl fun ac hs => ?_
    refine s_q hs (c_move (hs.ev rfl)) rfl fun ac hs => ?_
    refine s_q hs (c_idxS (j := k) un34 ty5 (hs.ev rfl) (hs.ev rfl) (by omega) (by omega)) rfl fun ac hs => ?_
    refine s_store (i := 0) hs ty5 rfl rfl rfl rfl rfl rfl (by rw [List.length_map]; omega) ((map_set _ (by omega)).trans (congrArg (List.map B) (stepZ_set a b _ k (by omega)))) fun ww hs => ?_
    refine s_end ?_
    refine then_n ?_
    refine wp_reg ?_
    refine s_q hs (c_move (hs.ev rfl)) rfl fun ac hs => ?_
    refine s_q hs (c_move (hs.ev rfl)) rfl fun ac hs => ?_
    refine s_q hs (c_addB (hs.ev rfl) (hs.ev rfl)) rfl fun ac hs => ?_
    refine s_q hs (c_assign (hs.ev rfl)) rfl fun ac hs => ?_
    refine s_end ?_
    refine blk_n ?_
    refine then_n ?_
    refine wp_reg ?_
    refine s_q hs (c_addI (hs.ev rfl) (hs.ev rfl) (by omega) (by omega)) rfl fun ac hs => ?_
    refine s_q hs (c_move (hs.ev rfl)) rfl fun ac hs => ?_
    refine s_end ?_
    refine then_n ?_
    exact ⟨(n.toNat % 201) - (k + 1), by omega, k + 1, ⟨by omega, rfl⟩, St.next hs ⟨(by rw [← step_next]; rfl), rfl, rfl, rfl, rfl, rfl, trivial⟩ rfl⟩
  · try simp only [decide_eq_true_eq, decide_eq_false_iff_not, Bool.not_eq_true', Bool.not_eq_false', Bool.and_eq_true, Bool.or_eq_true, Bool.or_eq_false_iff] at hc
    obtain rfl : k = (n.toNat % 201) := by omega
    refine wp_exit ?_
    refine then_e ?_
    refine then_e ?_
    refine blk_hit ?_
    refine then_n ?_
    refine wp_seq ?_
    refine wp_reg ?_
    refine s_call hs fu43 .nil (law04_awake _) rfl fun ac ww v26 hf hp hs => ?_
    obtain rfl := hp
    replace hs := hs [] (.nil _ _)
    refine s_q hs (c_move (hs.ev rfl)) rfl fun ac hs => ?_
    refine s_yes hs rfl rfl ?_
    refine s_q hs (c_move (hs.ev rfl)) rfl fun ac hs => ?_
    refine s_yes hs rfl rfl ?_
    refine s_call hs fu44 (.cons (hs.ev rfl) .nil) (sha_Sum (stepZ a b (n.toNat % 201) (n.toNat % 201)) _ (by omega) _ (RdB.segn (l := (stepZ a b (n.toNat % 201) (n.toNat % 201))) (hs.seg (i := 0) rfl) hzl (by unfold maxLen; omega))) rfl fun ac ww v29 hf hp hs => ?_
    obtain rfl := hp
    replace hs := hs [] (.nil _ _)
    refine s_yes hs rfl rfl ?_
    refine s_q hs (c_move (hs.ev rfl)) rfl fun ac hs => ?_
    refine s_yes hs rfl rfl ?_
    refine s_call hs fu45 (.cons (hs.ev rfl) .nil) (ref04_Sum (stepZ a b (n.toNat % 201) (n.toNat % 201)) _ (by omega) _ (RdB.segn (l := (stepZ a b (n.toNat % 201) (n.toNat % 201))) (hs.seg (i := 0) rfl) hzl (by unfold maxLen; omega))) rfl fun ac ww v31 hf hp hs => ?_
    obtain rfl := hp
    replace hs := hs [] (.nil _ _)
    refine s_yes hs rfl rfl ?_
    refine s_q hs (c_tt (c_eqlAB un41 ty5 eg41 (hs.ev rfl) (hs.ev rfl) (sum_length _) (sum_length _)) (by simp)) rfl fun ac hs => ?_
    refine s_q hs (c_pick (hs.ev rfl) (hs.ev rfl) (hs.ev rfl)) rfl fun ac hs => ?_
    refine s_q hs (c_move (hs.ev rfl)) rfl fun ac hs => ?_
    refine s_yes hs rfl rfl ?_
    refine s_q hs (c_move (hs.ev rfl)) rfl fun ac hs => ?_
    refine s_yes hs rfl rfl ?_
    refine s_q hs (c_lenS un34 (hs.ev rfl)) rfl fun ac hs => ?_
    refine s_yes hs rfl rfl ?_
    refine s_call hs fu39 (.cons (hs.ev rfl) .nil) (sha_Blocks _ (by omega) (by omega) _) rfl fun ac ww v37 hf hp hs => ?_
    obtain rfl := hp
    replace hs := hs [] (.nil _ _)
    refine s_yes hs rfl rfl ?_
    refine s_q hs (c_move (hs.ev rfl)) rfl fun ac hs => ?_
    refine s_yes hs rfl rfl ?_
    refine s_call hs fu46 (.cons (hs.ev rfl) .nil) (ref04_Pad (stepZ a b (n.toNat % 201) (n.toNat % 201)) _ (by omega) _ (RdB.segn (l := (stepZ a b (n.toNat % 201) (n.toNat % 201))) (hs.seg (i := 0) rfl) hzl (by unfold maxLen; omega))) rfl fun ac ww v39 hf hp hs => ?_
    obtain ⟨qv, rfl, hh⟩ := hp
    replace hs := hs _ hh
    obtain ⟨qad, qcap, rfl, hqc, hqm⟩ := Rd.sl (RdB.row (hs.get (i := 0) rfl))
    have hpl := pad_length (stepZ a b (n.toNat % 201) (n.toNat % 201))
    have hbl : blocks (stepZ a b (n.toNat % 201) (n.toNat % 201)).length ≤ 202 := by rw [hzl]; simp only [blocks]; split <;> omega
    refine s_yes hs rfl rfl ?_
    refine s_q hs (c_lenS un34 (hs.ev rfl)) rfl fun ac hs => ?_
    refine s_yes hs rfl rfl ?_
    refine s_q hs (c_quoI (hs.ev rfl) (hs.ev rfl) (by omega) (by omega) (by omega)) rfl fun ac hs => ?_
    refine s_yes hs rfl rfl ?_
    refine s_q hs (c_tt (c_eqlI (hs.ev rfl) (hs.ev rfl)) (by rw [blI_nat, hpl, hzl]; simp)) rfl fun ac hs => ?_
    refine s_q hs (c_pick (hs.ev rfl) (hs.ev rfl) (hs.ev rfl)) rfl fun ac hs => ?_
    refine s_q hs (c_assign (hs.ev rfl)) rfl fun ac hs => ?_
    refine s_end ?_
    replace hs := hs.sub (F' := [(6, _)]) ⟨rfl, trivial⟩
    refine then_n ?_
    refine wp_ret ?_
    refine s_ret hs rfl (.tmp (hs.tmp rfl) .nil) rfl ⟨_, rfl, hs.fr, ?_⟩
    rfl

end Go.Proofs.Ytmgnnclkjkbmdaa
end

/- Keyed sums and short sums, as plain Lean. -/
section
set_option linter.unusedSimpArgs false
set_option linter.unusedVariables false
set_option maxRecDepth 100000
namespace Go.Proofs.Ytmgnnclkjkbmdaa



namespace Sha
def short (k : UInt8) (p : List UInt8) : List UInt8 := (sum (k :: p)).take 16
@[simp] theorem short_length (k : UInt8) (p : List UInt8) : (short k p).length = 16 := rfl
def keyB (k : List UInt8) : List UInt8 := if k.length > 64 then sum k ++ List.replicate 32 0 else k ++ List.replicate (64 - k.length) 0
theorem keyB_length (k : List UInt8) : (keyB k).length = 64 := by
  unfold keyB
  split
  · rw [List.length_append, sum_length, List.length_replicate]
  · simp; omega
def hmac (k p : List UInt8) : List UInt8 := sum ((keyB k).map (· ^^^ 0x5c) ++ sum ((keyB k).map (· ^^^ 0x36) ++ p))
@[simp] theorem hmac_length (k p : List UInt8) : (hmac k p).length = 32 := rfl
def tag (k p : List UInt8) : List UInt8 := (hmac k p).take 16
@[simp] theorem tag_length (k p : List UInt8) : (tag k p).length = 16 := rfl
def prf (seed : List UInt8) (kind : UInt8) (nums : List UInt64) : List UInt8 := tag seed (kind :: UInt8.ofNat nums.length :: nums.flatMap be64)
@[simp] theorem prf_length (seed : List UInt8) (kind : UInt8) (nums : List UInt64) : (prf seed kind nums).length = 16 := rfl
/-- Each of the first k bytes is turned. -/
def xorZ (c : UInt8) (l : List UInt8) (k : Nat) : List UInt8 := (l.take k).map (· ^^^ c) ++ l.drop k
theorem xorZ_length (c : UInt8) (l : List UInt8) (k : Nat) : (xorZ c l k).length = l.length := by simp [xorZ]; omega
theorem xorZ_zero (c : UInt8) (l : List UInt8) : xorZ c l 0 = l := by simp [xorZ]
theorem xorZ_full (c : UInt8) (l : List UInt8) (k : Nat) (h : k = l.length) : xorZ c l k = l.map (· ^^^ c) := by subst h; simp [xorZ]
theorem xorZ_get (c : UInt8) (l : List UInt8) (k : Nat) (h : k < l.length) : (xorZ c l k).getD k 0 = l.getD k 0 := by
  have h1 : ((l.take k).map (· ^^^ c)).length = k := by simp; omega
  rw [xorZ, List.getD, List.getElem?_append_right (by omega), h1, Nat.sub_self, List.getElem?_drop]
  rfl
theorem xorZ_set (c : UInt8) (l : List UInt8) (k : Nat) (h : k < l.length) : (xorZ c l k).set k (l.getD k 0 ^^^ c) = xorZ c l (k + 1) := by
  have h1 : ((l.take k).map (· ^^^ c)).length = k := by simp; omega
  rw [xorZ, xorZ, List.set_append_right _ _ (by omega), h1, Nat.sub_self, List.take_succ_eq_append_getElem h, List.drop_eq_getElem_cons h, List.set_cons_zero, List.map_append, List.append_assoc]
  have h2 : l.getD k 0 = l[k] := by simp [List.getD, h]
  rw [h2]
  rfl
/-- The first k bytes of l in n places. -/
def upto (l : List UInt8) (n k : Nat) : List UInt8 := l.take k ++ List.replicate (n - k) 0
theorem upto_len (l : List UInt8) (n k : Nat) (h : k ≤ n) (hl : k ≤ l.length) : (upto l n k).length = n := by simp [upto]; omega
theorem upto_set (l : List UInt8) (n k : Nat) (h : k < n) (hl : k < l.length) : (upto l n k).set k (l.getD k 0) = upto l n (k + 1) := by
  have h2 := set_rep (l.take k) (n - (k + 1)) (0 : UInt8) (l.getD k 0)
  rw [List.length_take, Nat.min_eq_left (by omega), show n - (k + 1) + 1 = n - k from by omega] at h2
  rw [upto, upto, h2, List.take_succ_eq_append_getElem hl]
  simp [List.getD, hl]
theorem keyB_long (k : List UInt8) (h : 64 < k.length) : (sum k).take 64 ++ (List.replicate 64 (0 : UInt8)).drop (sum k).length = keyB k := by rw [keyB, if_pos h]; rfl
theorem keyB_small (k : List UInt8) (h : ¬ 64 < k.length) : k.take 64 ++ (List.replicate 64 (0 : UInt8)).drop k.length = keyB k := by
  rw [keyB, if_neg h, List.take_of_length_le (by omega), List.drop_replicate]
end Sha

end Go.Proofs.Ytmgnnclkjkbmdaa
end

/- Keyed sums and short sums. -/
section
set_option linter.unusedSimpArgs false
set_option linter.unusedVariables false
set_option maxRecDepth 100000
namespace Go.Proofs.Ytmgnnclkjkbmdaa
open Go Go.Fw

open Sha
-- mac.key
set_option maxHeartbeats 4000000 in
theorem mac_key (k : List UInt8) (kv : Value) (hle : k.length ≤ 140737488355328) (w : World) (hq : RdB w kv k) : Ctr Try.prog 169 [kv] w (fun _ => False) (fun v _ => v = .agg ((keyB k).map B).toArray) := by
  obtain ⟨kad, kcap, rfl, hkc, hkm⟩ := Rd.sl hq
  refine fn_start (N := 17) Try.func169 rfl rfl rfl fun ac hk => ?_
  have hs := St.start hk w
  refine wp_seq ?_
  refine wp_reg ?_
  refine s_alloc hs ty226 rfl fun ac ww g2 hs => ?_
  refine s_end ?_
  refine then_n ?_
  refine wp_seq ?_
  refine wp_reg ?_
  refine s_alloc hs ty226 rfl fun ac ww g3 hs => ?_
  refine s_end ?_
  refine then_n ?_
  refine wp_seq ?_
  refine wp_seq ?_
  refine wp_reg ?_
  refine s_q hs (c_move (hs.ev rfl)) rfl fun ac hs => ?_
  refine s_q hs (c_lenS un34 (hs.ev rfl)) rfl fun ac hs => ?_
  refine s_q hs (c_gtrI (hs.ev rfl) (hs.ev rfl)) rfl fun ac hs => ?_
  refine s_end ?_
  replace hs := hs.sub (F' := [(0, _), (2, _), (3, _), (7, _)]) ⟨rfl, rfl, rfl, rfl, trivial⟩
  refine then_n ?_
  refine s_cond hs rfl (fun hc => ?_) (fun hc => ?_)
  · try simp only [decide_eq_true_eq, decide_eq_false_iff_not, Bool.not_eq_true', Bool.not_eq_false', Bool.and_eq_true, Bool.or_eq_true, Bool.or_eq_false_iff] at hc
    refine wp_seq ?_
    refine wp_reg ?_
    refine s_q hs (c_move (hs.ev rfl)) rfl fun ac hs => ?_
    refine s_call hs fu44 (.cons (hs.ev rfl) .nil) (sha_Sum k _ hle _ (hq.fr0 hs.fr)) rfl fun ac ww v9 hf hp hs => ?_
    obtain rfl := hp
    replace hs := hs [] (.nil _ _)
    refine s_alloc hs ty41 rfl fun ac ww g4 hs => ?_
    refine s_storeW (i := 0) hs ty41 rfl rfl rfl (by simp) (all_map_B _) (by simp) fun ww hs => ?_
    refine s_end ?_
    replace hs := hs.sub (F' := [(0, _), (2, _), (3, _), (4, _)]) ⟨rfl, rfl, rfl, rfl, trivial⟩
    refine then_n ?_
    refine wp_region_rg pmix 2 (by kernel_rfl) rfl hs ?_
    simp only [List.take_succ_cons, List.take_zero]
    refine rg_q (fun ac ww h => c_sliceA un226 ty5 (h.ev rfl)) rfl ?_
    refine rg_q (fun ac ww h => c_sliceA un41 ty5 (h.ev rfl)) rfl ?_
    refine rg_nil fun ac ww L' hf hfe hs => ?_
    simp only [List.drop_succ_cons, List.drop_zero]
    obtain rfl : L' = [] := hfe
    replace hs := hs.toL (List.nil_append _)
    refine s_copy (i := 1) (n := 64) hs un34 ty5 rfl (by simp) rfl rfl (RdB.seg (l := sum k) (hs.seg (i := 0) rfl) (by rw [sum_length]; decide)) rfl fun ac ww hs => ?_
    rw [keyB_long k (by omega)] at hs
    refine s_end ?_
    replace hs := hs.sub (F' := [(0, _), (2, _), (3, _)]) ⟨rfl, rfl, rfl, trivial⟩
    refine then_n ?_
    refine wp_seq ?_
    refine wp_reg ?_
    refine s_q hs (c_loadW ty226 rfl (hs.ev rfl) (hs.seg (i := 1) rfl) (by rw [List.length_map, keyB_length])) rfl fun ac hs => ?_
    refine s_storeW (i := 2) hs ty226 rfl rfl rfl (by rw [List.length_map, keyB_length]) (all_map_B _) rfl fun ww hs => ?_
    refine s_end ?_
    replace hs := hs.sub (F' := [(2, _)]) ⟨rfl, trivial⟩
    refine then_n ?_
    refine wp_ret ?_
    refine s_ret hs rfl (.cell (hs.tmp rfl) (run_loadA ty226 rfl (hs.seg (i := 2) rfl) (List.take_of_length_le (by simp [keyB_length])) (by simp [keyB_length])) .nil) rfl ⟨_, rfl, hs.fr, ?_⟩
    rfl
  · try simp only [decide_eq_true_eq, decide_eq_false_iff_not, Bool.not_eq_true', Bool.not_eq_false', Bool.and_eq_true, Bool.or_eq_true, Bool.or_eq_false_iff] at hc
    refine wp_reg ?_
    refine s_q hs (c_sliceA un226 ty5 (hs.ev rfl)) rfl fun ac hs => ?_
    refine s_q hs (c_move (hs.ev rfl)) rfl fun ac hs => ?_
    refine s_copy (i := 0) (n := 64) hs un34 ty5 rfl (by simp) rfl rfl (hq.fr0 hs.fr) rfl fun ac ww hs => ?_
    rw [keyB_small k (by omega)] at hs
    refine s_end ?_
    replace hs := hs.sub (F' := [(2, _), (3, _)]) ⟨rfl, rfl, trivial⟩
    refine then_n ?_
    refine wp_seq ?_
    refine wp_reg ?_
    refine s_q hs (c_loadW ty226 rfl (hs.ev rfl) (hs.seg (i := 0) rfl) (by rw [List.length_map, keyB_length])) rfl fun ac hs => ?_
    refine s_storeW (i := 1) hs ty226 rfl rfl rfl (by rw [List.length_map, keyB_length]) (all_map_B _) rfl fun ww hs => ?_
    refine s_end ?_
    replace hs := hs.sub (F' := [(2, _)]) ⟨rfl, trivial⟩
    refine then_n ?_
    refine wp_ret ?_
    refine s_ret hs rfl (.cell (hs.tmp rfl) (run_loadA ty226 rfl (hs.seg (i := 1) rfl) (List.take_of_length_le (by simp [keyB_length])) (by simp [keyB_length])) .nil) rfl ⟨_, rfl, hs.fr, ?_⟩
    rfl

-- mac.first
set_option maxHeartbeats 4000000 in
theorem mac_first (d : List UInt8) (hd : d.length = 32) (w : World)  : Ctr Try.prog 170 [.agg (d.map B).toArray] w (fun _ => False) (fun v _ => v = .agg ((d.take 16).map B).toArray) := by
  refine fn_start (N := 8) Try.func170 rfl rfl rfl fun ac hk => ?_
  have hs := St.start hk w
  refine wp_seq ?_
  refine wp_reg ?_
  refine s_box hs rfl rfl rfl fun ac ww g1 hs => ?_
  refine s_alloc hs ty54 rfl fun ac ww g2 hs => ?_
  refine s_end ?_
  replace hs := hs.sub (F' := [(1, _), (2, _)]) ⟨rfl, rfl, trivial⟩
  refine then_n ?_
  refine wp_seq ?_
  refine wp_reg ?_
  refine s_alloc hs ty54 rfl fun ac ww g3 hs => ?_
  refine s_end ?_
  refine then_n ?_
  refine wp_seq ?_
  refine wp_region_rg pmix 2 (by kernel_rfl) rfl hs ?_
  simp only [List.take_succ_cons, List.take_zero]
  refine rg_q (fun ac ww h => c_sliceA un54 ty5 (h.ev rfl)) rfl ?_
  refine rg_q (fun ac ww h => c_sliceA un41 ty5 (h.ev rfl)) rfl ?_
  refine rg_nil fun ac ww L' hf hfe hs => ?_
  simp only [List.drop_succ_cons, List.drop_zero]
  obtain rfl : L' = [] := hfe
  replace hs := hs.toL (List.nil_append _)
  refine s_copy (i := 0) (n := 16) hs un34 ty5 rfl (by simp) rfl rfl (RdB.segn (l := d) (hs.seg (i := 2) rfl) hd (by decide)) rfl fun ac ww hs => ?_
  rw [show d.take 16 ++ (List.replicate 16 (0 : UInt8)).drop d.length = d.take 16 from by rw [hd]; simp] at hs
  refine s_end ?_
  replace hs := hs.sub (F' := [(2, _), (3, _)]) ⟨rfl, rfl, trivial⟩
  refine then_n ?_
  refine wp_seq ?_
  refine wp_reg ?_
  refine s_q hs (c_loadW ty54 rfl (hs.ev rfl) (hs.seg (i := 0) rfl) (by simp [hd])) rfl fun ac hs => ?_
  refine s_storeW (i := 1) hs ty54 rfl rfl rfl (by simp [hd]) (all_map_B _) rfl fun ww hs => ?_
  refine s_end ?_
  replace hs := hs.sub (F' := [(2, _)]) ⟨rfl, trivial⟩
  refine then_n ?_
  refine wp_ret ?_
  refine s_ret hs rfl (.cell (hs.tmp rfl) (run_loadA ty54 rfl (hs.seg (i := 1) rfl) (List.take_of_length_le (by simp [hd])) (by simp [hd])) .nil) rfl ⟨_, rfl, hs.fr, ?_⟩
  rfl

-- mac.Mac
set_option maxHeartbeats 4000000 in
theorem mac_Mac (k p : List UInt8) (kv pv : Value) (hkl : k.length ≤ 140737488355328) (hle : p.length ≤ 140737488355200) (w : World) (hqk : RdB w kv k) (hqp : RdB w pv p) : Ctr Try.prog 78 [kv, pv] w (fun _ => False) (fun v _ => v = .agg ((hmac k p).map B).toArray) := by
  refine fn_start (N := 46) Try.func78 rfl rfl rfl fun ac hk => ?_
  have hs := St.start hk w
  refine wp_seq ?_
  refine wp_reg ?_
  refine s_alloc hs ty41 rfl fun ac ww g4 hs => ?_
  refine s_end ?_
  refine then_n ?_
  refine wp_seq ?_
  refine wp_reg ?_
  refine s_q hs (c_move (hs.ev rfl)) rfl fun ac hs => ?_
  refine s_call hs fu169 (.cons (hs.ev rfl) .nil) (mac_key k _ hkl _ (hqk.fr0 hs.fr)) rfl fun ac ww v11 hf hp hs => ?_
  obtain rfl := hp
  replace hs := hs [] (.nil _ _)
  refine s_q hs (c_move (hs.ev rfl)) rfl fun ac hs => ?_
  refine s_call hs fu169 (.cons (hs.ev rfl) .nil) (mac_key k _ hkl _ (hqk.fr0 hs.fr)) rfl fun ac ww v13 hf hp hs => ?_
  obtain rfl := hp
  replace hs := hs [] (.nil _ _)
  refine s_alloc hs ty226 rfl fun ac ww g5 hs => ?_
  refine s_alloc hs ty226 rfl fun ac ww g6 hs => ?_
  refine s_storeW (i := 1) hs ty226 rfl rfl rfl (by rw [List.length_map, keyB_length]) (all_map_B _) rfl fun ww hs => ?_
  refine s_storeW (i := 0) hs ty226 rfl rfl rfl (by rw [List.length_map, keyB_length]) (all_map_B _) rfl fun ww hs => ?_
  refine s_end ?_
  replace hs := hs.sub (F' := [(1, _), (4, _), (5, _), (6, _)]) ⟨rfl, rfl, rfl, rfl, trivial⟩
  refine then_n ?_
  refine wp_seq ?_
  refine wp_seq ?_
  refine wp_reg ?_
  refine s_q hs (c_move (hs.ev rfl)) rfl fun ac hs => ?_
  refine s_end ?_
  refine then_n ?_
  refine wp_block ?_
  refine s_loop hs (X := Nat) (fun i => [(14, I i)]) [(1, _), (4, _), (5, _), (6, _)] (fun i => [.seg g6 ((xorZ 0x5c (keyB k) i).map B) 226, .seg g5 ((xorZ 0x36 (keyB k) i).map B) 226, .seg g4 ((List.replicate 32 (0 : UInt8)).map B) 41]) (fun n i => i ≤ 64 ∧ n = 64 - i) (64) (0) (⟨Nat.zero_le _, rfl⟩) ⟨rfl, rfl, rfl, rfl, rfl, trivial⟩ (by rw [xorZ_zero, xorZ_zero]; rfl) ?_
  rintro n i ac ww hok hs
  simp only [List.cons_append, List.nil_append] at hs
  obtain ⟨hi, rfl⟩ := hok
  have hz1 := (xorZ_length 0x36 (keyB k) i).trans (keyB_length k)
  have hz2 := (xorZ_length 0x5c (keyB k) i).trans (keyB_length k)
  have hkb := keyB_length k
  refine wp_seq ?_
  refine wp_reg ?_
  refine s_q hs (c_lssI (hs.ev rfl) (hs.ev rfl)) rfl fun ac hs => ?_
  refine s_end ?_
  refine then_n ?_
  refine wp_seq ?_
  refine s_cond hs rfl (fun hc => ?_) (fun hc => ?_)
  · try simp only [decide_eq_true_eq, decide_eq_false_iff_not, Bool.not_eq_true', Bool.not_eq_false', Bool.and_eq_true, Bool.or_eq_true, Bool.or_eq_false_iff] at hc
    refine wp_skip ?_
    refine then_n ?_
    refine wp_seq ?_
    refine wp_block ?_
    refine wp_seq ?_
    refine wp_reg ?_
    refine s_q hs (c_move (hs.ev rfl)) rfl fun ac hs => ?_
    refine s_q hs (c_assign (hs.ev rfl)) rfl fun ac hs => ?_
    refine s_end ?_
    refine then_n ?_
    refine wp_seq ?_
    refine wp_reg ?_
    refine s_q hs (c_move (hs.ev rfl)) rfl fun ac hs => ?_
    refine s_q hs (c_idxA (j := i) un226 ty5 (hs.ev rfl) (hs.ev rfl) (by omega) (by omega)) rfl fun ac hs => ?_
    refine s_q hs (c_loadS un5 rfl (hs.ev rfl) (hs.seg (i := 1) rfl) ((map_get 0 (by omega)).trans (by rw [xorZ_get _ _ _ (by omega)]))) rfl fun ac hs => ?_
    refine s_q hs (c_xorB (hs.ev rfl) (St.ev (v := B 54) hs rfl)) rfl fun ac hs => ?_
    refine s_q hs (c_idxA (j := i) un226 ty5 (hs.ev rfl) (hs.ev rfl) (by omega) (by omega)) rfl fun ac hs => ?_
    refine s_store (i := 1) hs ty5 rfl rfl rfl rfl rfl rfl (by rw [List.length_map]; omega) ((map_set _ (by omega)).trans (congrArg (List.map B) (xorZ_set _ _ i (by omega)))) fun ww hs => ?_
    refine s_end ?_
    refine then_n ?_
    refine wp_reg ?_
    refine s_q hs (c_move (hs.ev rfl)) rfl fun ac hs => ?_
    refine s_q hs (c_idxA (j := i) un226 ty5 (hs.ev rfl) (hs.ev rfl) (by omega) (by omega)) rfl fun ac hs => ?_
    refine s_q hs (c_loadS un5 rfl (hs.ev rfl) (hs.seg (i := 0) rfl) ((map_get 0 (by omega)).trans (by rw [xorZ_get _ _ _ (by omega)]))) rfl fun ac hs => ?_
    refine s_q hs (c_xorB (hs.ev rfl) (St.ev (v := B 92) hs rfl)) rfl fun ac hs => ?_
    refine s_q hs (c_idxA (j := i) un226 ty5 (hs.ev rfl) (hs.ev rfl) (by omega) (by omega)) rfl fun ac hs => ?_
    refine s_store (i := 0) hs ty5 rfl rfl rfl rfl rfl rfl (by rw [List.length_map]; omega) ((map_set _ (by omega)).trans (congrArg (List.map B) (xorZ_set _ _ i (by omega)))) fun ww hs => ?_
    refine s_end ?_
    refine blk_n ?_
    refine then_n ?_
    refine wp_reg ?_
    refine s_q hs (c_addI (hs.ev rfl) (hs.ev rfl) (by omega) (by omega)) rfl fun ac hs => ?_
    refine s_q hs (c_move (hs.ev rfl)) rfl fun ac hs => ?_
    refine s_end ?_
    refine then_n ?_
    exact ⟨64 - (i + 1), by omega, i + 1, ⟨by omega, rfl⟩, St.next hs ⟨rfl, rfl, rfl, rfl, rfl, trivial⟩ rfl⟩
  · try simp only [decide_eq_true_eq, decide_eq_false_iff_not, Bool.not_eq_true', Bool.not_eq_false', Bool.and_eq_true, Bool.or_eq_true, Bool.or_eq_false_iff] at hc
    obtain rfl : i = 64 := by omega
    refine wp_exit ?_
    refine then_e ?_
    refine then_e ?_
    refine blk_hit ?_
    refine then_n ?_
    refine wp_seq ?_
    refine wp_reg ?_
    refine s_call hs fu48 .nil (sha_New _) rfl fun ac ww v28 hf hp hs => ?_
    obtain ⟨ga, rfl, hh⟩ := hp
    replace hs := hs _ (Has.grp' hh)
    refine s_q hs (c_assign (hs.ev rfl)) rfl fun ac hs => ?_
    refine s_end ?_
    replace hs := hs.sub (F' := [(1, _), (4, _), (5, _), (6, _), (8, _)]) ⟨rfl, rfl, rfl, rfl, rfl, trivial⟩
    refine then_n ?_
    refine wp_seq ?_
    refine wp_reg ?_
    refine s_q hs (c_move (hs.ev rfl)) rfl fun ac hs => ?_
    refine s_q hs (c_sliceA un226 ty5 (hs.ev rfl)) rfl fun ac hs => ?_
    refine s_callM (i := 0) hs fu49 (.cons (hs.ev rfl) (.cons (hs.ev rfl) .nil)) rfl (sha_Write ([]) (xorZ 0x36 (keyB k) 64) ga _ _ (by rw [hz1]; decide) _ (hs.get (i := 0) rfl) (RdB.segn (hs.seg (i := 2) rfl) hz1 (by decide)) (fun _ => hs.apart_seg (i := 0) (j := 2) rfl rfl (by decide))) rfl fun ac ww v31 hf hp hs => ?_
    obtain ⟨rv, h1, h2⟩ := hp
    replace hs := hs (Ent.grp (hash ga rv (([]) ++ (xorZ 0x36 (keyB k) 64)))) h1 (fun k hk => ⟨h2 k hk, grp_lt h1 k hk⟩)
    refine s_end ?_
    replace hs := hs.sub (F' := [(1, _), (4, _), (6, _), (8, _)]) ⟨rfl, rfl, rfl, rfl, trivial⟩
    refine then_n ?_
    refine wp_seq ?_
    refine wp_reg ?_
    refine s_q hs (c_move (hs.ev rfl)) rfl fun ac hs => ?_
    refine s_q hs (c_move (hs.ev rfl)) rfl fun ac hs => ?_
    refine s_callM (i := 0) hs fu49 (.cons (hs.ev rfl) (.cons (hs.ev rfl) .nil)) rfl (sha_Write ([] ++ xorZ 0x36 (keyB k) 64) (p) ga rv _ (by rw [List.nil_append, hz1]; omega) _ (hs.get (i := 0) rfl) (hqp.fr0 hs.fr) (hs.far (i := 0) rfl hqp)) rfl fun ac ww v34 hf hp hs => ?_
    obtain ⟨rv, h1, h2⟩ := hp
    replace hs := hs (Ent.grp (hash ga rv (([] ++ xorZ 0x36 (keyB k) 64) ++ (p)))) h1 (fun k hk => ⟨h2 k hk, grp_lt h1 k hk⟩)
    refine s_end ?_
    replace hs := hs.sub (F' := [(4, _), (6, _), (8, _)]) ⟨rfl, rfl, rfl, trivial⟩
    refine then_n ?_
    refine wp_seq ?_
    refine wp_reg ?_
    refine s_q hs (c_move (hs.ev rfl)) rfl fun ac hs => ?_
    refine s_call hs fu50 (.cons (hs.ev rfl) .nil) (sha_HSum ([] ++ xorZ 0x36 (keyB k) 64 ++ p) ga rv (by rw [List.nil_append, List.length_append, hz1]; omega) _ (hash_get (hs.get (i := 0) rfl)).1 (hash_get (hs.get (i := 0) rfl)).2) rfl fun ac ww v36 hf hp hs => ?_
    obtain rfl := hp
    replace hs := hs [] (.nil _ _)
    refine s_alloc hs ty41 rfl fun ac ww g9 hs => ?_
    refine s_storeW (i := 0) hs ty41 rfl rfl rfl (by simp) (all_map_B _) (by simp) fun ww hs => ?_
    refine s_end ?_
    replace hs := hs.sub (F' := [(4, _), (6, _), (8, _), (9, _)]) ⟨rfl, rfl, rfl, rfl, trivial⟩
    refine then_n ?_
    refine wp_seq ?_
    refine wp_reg ?_
    refine s_call hs fu48 .nil (sha_New _) rfl fun ac ww v37 hf hp hs => ?_
    obtain ⟨gb, rfl, hh⟩ := hp
    replace hs := hs _ (Has.grp' hh)
    refine s_q hs (c_assign (hs.ev rfl)) rfl fun ac hs => ?_
    refine s_end ?_
    replace hs := hs.sub (F' := [(4, _), (6, _), (8, _), (9, _)]) ⟨rfl, rfl, rfl, rfl, trivial⟩
    refine then_n ?_
    refine wp_seq ?_
    refine wp_reg ?_
    refine s_q hs (c_move (hs.ev rfl)) rfl fun ac hs => ?_
    refine s_q hs (c_sliceA un226 ty5 (hs.ev rfl)) rfl fun ac hs => ?_
    refine s_callM (i := 0) hs fu49 (.cons (hs.ev rfl) (.cons (hs.ev rfl) .nil)) rfl (sha_Write ([]) (xorZ 0x5c (keyB k) 64) gb _ _ (by rw [hz2]; decide) _ (hs.get (i := 0) rfl) (RdB.segn (hs.seg (i := 3) rfl) hz2 (by decide)) (fun _ => hs.apart_seg (i := 0) (j := 3) rfl rfl (by decide))) rfl fun ac ww v40 hf hp hs => ?_
    obtain ⟨rv, h1, h2⟩ := hp
    replace hs := hs (Ent.grp (hash gb rv (([]) ++ (xorZ 0x5c (keyB k) 64)))) h1 (fun k hk => ⟨h2 k hk, grp_lt h1 k hk⟩)
    refine s_end ?_
    replace hs := hs.sub (F' := [(4, _), (8, _), (9, _)]) ⟨rfl, rfl, rfl, trivial⟩
    refine then_n ?_
    refine wp_seq ?_
    refine wp_reg ?_
    refine s_q hs (c_move (hs.ev rfl)) rfl fun ac hs => ?_
    refine s_q hs (c_sliceA un41 ty5 (hs.ev rfl)) rfl fun ac hs => ?_
    refine s_callM (i := 0) hs fu49 (.cons (hs.ev rfl) (.cons (hs.ev rfl) .nil)) rfl (sha_Write ([] ++ xorZ 0x5c (keyB k) 64) (sum ([] ++ xorZ 0x36 (keyB k) 64 ++ p)) gb rv _ (by rw [List.nil_append, hz2, sum_length]; decide) _ (hs.get (i := 0) rfl) (RdB.segn (hs.seg (i := 1) rfl) (sum_length _) (by decide)) (fun _ => hs.apart_seg (i := 0) (j := 1) rfl rfl (by decide))) rfl fun ac ww v43 hf hp hs => ?_
    obtain ⟨rv, h1, h2⟩ := hp
    replace hs := hs (Ent.grp (hash gb rv (([] ++ xorZ 0x5c (keyB k) 64) ++ (sum ([] ++ xorZ 0x36 (keyB k) 64 ++ p))))) h1 (fun k hk => ⟨h2 k hk, grp_lt h1 k hk⟩)
    refine s_end ?_
    replace hs := hs.sub (F' := [(4, _), (8, _)]) ⟨rfl, rfl, trivial⟩
    refine then_n ?_
    refine wp_seq ?_
    refine wp_reg ?_
    refine s_q hs (c_move (hs.ev rfl)) rfl fun ac hs => ?_
    refine s_call hs fu50 (.cons (hs.ev rfl) .nil) (sha_HSum ([] ++ xorZ 0x5c (keyB k) 64 ++ sum ([] ++ xorZ 0x36 (keyB k) 64 ++ p)) gb rv (by rw [List.nil_append, List.length_append, hz2, sum_length]; decide) _ (hash_get (hs.get (i := 0) rfl)).1 (hash_get (hs.get (i := 0) rfl)).2) rfl fun ac ww v45 hf hp hs => ?_
    obtain rfl := hp
    replace hs := hs [] (.nil _ _)
    refine s_storeW (i := 5) hs ty41 rfl rfl rfl (by simp) (all_map_B _) (by simp) fun ww hs => ?_
    refine s_end ?_
    replace hs := hs.sub (F' := [(4, _)]) ⟨rfl, trivial⟩
    refine then_n ?_
    refine wp_ret ?_
    refine s_ret hs rfl (.cell (hs.tmp rfl) (run_loadA ty41 rfl (hs.seg (i := 5) rfl) (List.take_of_length_le (by simp)) (by simp)) .nil) rfl ⟨_, rfl, hs.fr, ?_⟩
    show _ = _
    rw [List.nil_append, List.nil_append, xorZ_full _ _ _ hkb.symm, xorZ_full _ _ _ hkb.symm]
    rfl

-- mac.Tag
set_option maxHeartbeats 4000000 in
theorem mac_Tag (k p : List UInt8) (kv pv : Value) (hkl : k.length ≤ 140737488355328) (hle : p.length ≤ 140737488355200) (w : World) (hqk : RdB w kv k) (hqp : RdB w pv p) : Ctr Try.prog 80 [kv, pv] w (fun _ => False) (fun v _ => v = .agg ((tag k p).map B).toArray) := by
  refine fn_start (N := 9) Try.func80 rfl rfl rfl fun ac hk => ?_
  have hs := St.start hk w
  refine wp_seq ?_
  refine wp_reg ?_
  refine s_alloc hs ty54 rfl fun ac ww g4 hs => ?_
  refine s_end ?_
  refine then_n ?_
  refine wp_seq ?_
  refine wp_reg ?_
  refine s_q hs (c_move (hs.ev rfl)) rfl fun ac hs => ?_
  refine s_q hs (c_move (hs.ev rfl)) rfl fun ac hs => ?_
  refine s_call hs fu78 (.cons (hs.ev rfl) (.cons (hs.ev rfl) .nil)) (mac_Mac k p _ _ hkl hle _ (hqk.fr0 hs.fr) (hqp.fr0 hs.fr)) rfl fun ac ww v7 hf hp hs => ?_
  obtain rfl := hp
  replace hs := hs [] (.nil _ _)
  refine s_call hs fu170 (.cons (hs.ev rfl) .nil) (mac_first (hmac k p) (hmac_length k p) _) rfl fun ac ww v8 hf hp hs => ?_
  obtain rfl := hp
  replace hs := hs [] (.nil _ _)
  refine s_storeW (i := 0) hs ty54 rfl rfl rfl (by simp) (all_map_B _) (by simp) fun ww hs => ?_
  refine s_end ?_
  replace hs := hs.sub (F' := [(4, _)]) ⟨rfl, trivial⟩
  refine then_n ?_
  refine wp_ret ?_
  refine s_ret hs rfl (.cell (hs.tmp rfl) (run_loadA ty54 rfl (hs.seg (i := 0) rfl) (List.take_of_length_le (by simp)) (by simp)) .nil) rfl ⟨_, rfl, hs.fr, ?_⟩
  rfl

-- mac.Short
set_option maxHeartbeats 4000000 in
theorem mac_Short (k : UInt8) (ps : List (Value × List UInt8)) (pv : Value) (hle : (flat ps).length ≤ 140737488355200) (w : World) (hq : RdP w pv ps) : Ctr Try.prog 91 [B k, pv] w (fun _ => False) (fun v _ => v = .agg ((short k (flat ps)).map B).toArray) := by
  have hpl := hq.1.le
  obtain ⟨pad_, pcap, rfl, hpc, hpm⟩ := hq.sl
  refine fn_start (N := 26) Try.func91 rfl rfl rfl fun ac hk => ?_
  have hs := St.start hk w
  refine wp_seq ?_
  refine wp_reg ?_
  refine s_alloc hs ty54 rfl fun ac ww g4 hs => ?_
  refine s_end ?_
  refine then_n ?_
  refine wp_seq ?_
  refine wp_reg ?_
  refine s_call hs fu48 .nil (sha_New _) rfl fun ac ww v8 hf hp hs => ?_
  obtain ⟨ga, rfl, hh⟩ := hp
  replace hs := hs _ (Has.grp' hh)
  refine s_q hs (c_assign (hs.ev rfl)) rfl fun ac hs => ?_
  refine s_end ?_
  replace hs := hs.sub (F' := [(0, _), (1, _), (4, _), (5, _)]) ⟨rfl, rfl, rfl, rfl, trivial⟩
  refine then_n ?_
  refine wp_seq ?_
  refine wp_reg ?_
  refine s_q hs (c_move (hs.ev rfl)) rfl fun ac hs => ?_
  refine s_q hs (c_move (hs.ev rfl)) rfl fun ac hs => ?_
  refine s_bslice hs un34 ty5 (.cons (hs.ev rfl) .nil) rfl (by simp [Value.cells]) (by decide) rfl rfl fun ac ww g11 hs => ?_
  refine s_callM (i := 1) hs fu49 (.cons (hs.ev rfl) (.cons (hs.ev rfl) .nil)) rfl (sha_Write ([]) ([k]) ga _ _ (by simp) _ (hs.get (i := 1) rfl) (RdB.seg (l := [k]) (hs.seg (i := 0) rfl) (by show 1 ≤ maxLen; decide)) (fun _ => hs.seg_apart (i := 0) (j := 1) rfl rfl (by decide))) rfl fun ac ww v12 hf hp hs => ?_
  obtain ⟨rv, h1, h2⟩ := hp
  replace hs := hs (Ent.grp (hash ga rv (([]) ++ ([k])))) h1 (fun k hk => ⟨h2 k hk, grp_lt h1 k hk⟩)
  refine s_end ?_
  replace hs := hs.pick (L' := [_, _]) (.cons _ (.refl _))
  replace hs := hs.sub (F' := [(1, _), (4, _), (5, _)]) ⟨rfl, rfl, rfl, trivial⟩
  refine then_n ?_
  refine wp_seq ?_
  refine wp_seq ?_
  refine wp_reg ?_
  refine s_q hs (c_move (hs.ev rfl)) rfl fun ac hs => ?_
  refine s_q hs (c_lenS un30 (hs.ev rfl)) rfl fun ac hs => ?_
  refine s_q hs (c_move (hs.ev rfl)) rfl fun ac hs => ?_
  refine s_end ?_
  replace hs := hs.sub (F' := [(4, _), (5, _), (13, _), (14, _), (15, _)]) ⟨rfl, rfl, rfl, rfl, rfl, trivial⟩
  refine then_n ?_
  refine wp_block ?_
  refine s_loop hs (X := Nat × Value) (fun x => [(15, I x.1)]) [(4, _), (5, _), (13, _), (14, _)] (fun x => [Ent.grp (hash ga x.2 (k :: flat (ps.take x.1))), .seg g4 ((List.replicate 16 (0 : UInt8)).map B) 54]) (fun n x => x.1 ≤ ps.length ∧ n = ps.length - x.1) (ps.length) ((0, rv)) (⟨Nat.zero_le _, rfl⟩) ⟨rfl, rfl, rfl, rfl, rfl, trivial⟩ rfl ?_
  rintro n ⟨i, rv⟩ ac ww hok hs
  simp only [List.cons_append, List.nil_append] at hs
  obtain ⟨hi, rfl⟩ := hok
  simp only at hi hs
  refine wp_seq ?_
  refine wp_reg ?_
  refine s_q hs (c_lssI (hs.ev rfl) (hs.ev rfl)) rfl fun ac hs => ?_
  refine s_end ?_
  refine then_n ?_
  refine wp_seq ?_
  refine s_cond hs rfl (fun hc => ?_) (fun hc => ?_)
  · try simp only [decide_eq_true_eq, decide_eq_false_iff_not, Bool.not_eq_true', Bool.not_eq_false', Bool.and_eq_true, Bool.or_eq_true, Bool.or_eq_false_iff] at hc
    have hips : i < ps.length := by omega
    obtain ⟨pb, po, pT, pf, pall, rfl, hpb, hps⟩ := hq.at' (by omega)
    have hfl := flat_take_le ps i hips
    refine wp_skip ?_
    refine then_n ?_
    refine wp_seq ?_
    refine wp_block ?_
    refine wp_seq ?_
    refine wp_reg ?_
    refine s_q hs (c_idxS (j := i) un30 ty34 (hs.ev rfl) (hs.ev rfl) (by omega) (by omega)) rfl fun ac hs => ?_
    refine s_q hs (c_loadS un34 rfl (hs.ev rfl) (hs.old hpb id) (seg_get (.nilIface, []) hps (by omega))) rfl fun ac hs => ?_
    refine s_q hs (c_assign (hs.ev rfl)) rfl fun ac hs => ?_
    refine s_end ?_
    refine then_n ?_
    refine wp_reg ?_
    refine s_q hs (c_move (hs.ev rfl)) rfl fun ac hs => ?_
    refine s_q hs (c_move (hs.ev rfl)) rfl fun ac hs => ?_
    refine s_callM (i := 0) hs fu49 (.cons (hs.ev rfl) (.cons (hs.ev rfl) .nil)) rfl (sha_Write (k :: flat (ps.take i)) ((ps.getD i (.nilIface, [])).2) ga rv _ (by simp only [List.length_cons]; omega) _ (hs.get (i := 0) rfl) ((hq.get hips).fr0 hs.fr) (hs.far (i := 0) rfl (hq.get hips))) rfl fun ac ww v21 hf hp hs => ?_
    obtain ⟨rv, h1, h2⟩ := hp
    replace hs := hs (Ent.grp (hash ga rv ((k :: flat (ps.take i)) ++ ((ps.getD i (.nilIface, [])).2)))) h1 (fun k hk => ⟨h2 k hk, grp_lt h1 k hk⟩)
    refine s_end ?_
    replace hs := hs.sub (F' := [(4, _), (5, _), (7, _), (13, _), (14, _), (15, _), (16, _), (17, _), (18, _), (19, _), (20, _)]) ⟨rfl, rfl, rfl, rfl, rfl, rfl, rfl, rfl, rfl, rfl, rfl, trivial⟩
    refine blk_n ?_
    refine then_n ?_
    refine wp_reg ?_
    refine s_q hs (c_addI (hs.ev rfl) (hs.ev rfl) (by omega) (by omega)) rfl fun ac hs => ?_
    refine s_q hs (c_move (hs.ev rfl)) rfl fun ac hs => ?_
    refine s_end ?_
    refine then_n ?_
    exact ⟨ps.length - (i + 1), by (try simp only); omega, (i + 1, rv), ⟨by (try simp only); omega, rfl⟩, St.next hs ⟨rfl, rfl, rfl, rfl, rfl, trivial⟩ (by rw [flat_take ps i (by omega)]; rfl)⟩
  · try simp only [decide_eq_true_eq, decide_eq_false_iff_not, Bool.not_eq_true', Bool.not_eq_false', Bool.and_eq_true, Bool.or_eq_true, Bool.or_eq_false_iff] at hc
    obtain rfl : i = ps.length := by omega
    rw [flat_full] at hs
    refine wp_exit ?_
    refine then_e ?_
    refine then_e ?_
    refine blk_hit ?_
    refine then_n ?_
    refine wp_seq ?_
    refine wp_reg ?_
    refine s_q hs (c_move (hs.ev rfl)) rfl fun ac hs => ?_
    refine s_call hs fu50 (.cons (hs.ev rfl) .nil) (sha_HSum (k :: flat ps) ga rv (by simp only [List.length_cons]; omega) _ (hash_get (hs.get (i := 0) rfl)).1 (hash_get (hs.get (i := 0) rfl)).2) rfl fun ac ww v24 hf hp hs => ?_
    obtain rfl := hp
    replace hs := hs [] (.nil _ _)
    refine s_call hs fu170 (.cons (hs.ev rfl) .nil) (mac_first _ (sum_length _) _) rfl fun ac ww v25 hf hp hs => ?_
    obtain rfl := hp
    replace hs := hs [] (.nil _ _)
    refine s_storeW (i := 1) hs ty54 rfl rfl rfl (by simp) (all_map_B _) (by simp) fun ww hs => ?_
    refine s_end ?_
    replace hs := hs.sub (F' := [(4, _)]) ⟨rfl, trivial⟩
    refine then_n ?_
    refine wp_ret ?_
    refine s_ret hs rfl (.cell (hs.tmp rfl) (run_loadA ty54 rfl (hs.seg (i := 1) rfl) (List.take_of_length_le (by simp)) (by simp)) .nil) rfl ⟨_, rfl, hs.fr, ?_⟩
    rfl

end Go.Proofs.Ytmgnnclkjkbmdaa
end

/- Numbers as bytes. -/
section
set_option linter.unusedSimpArgs false
set_option linter.unusedVariables false
set_option maxRecDepth 100000
namespace Go.Proofs.Ytmgnnclkjkbmdaa



namespace Sha
def num (x : UInt64) (s k : Nat) : List UInt8 := List.replicate (s - k) 0 ++ (be64 x).drop (8 - k)
theorem num_len (x : UInt64) (s k : Nat) (h : k ≤ s) (hs : s ≤ 8) : (num x s k).length = s := by simp [num]; omega
theorem drop_back (x : UInt64) : ∀ k, k < 8 → (be64 x).drop (8 - (k + 1)) = (be64 x).getD (7 - k) 0 :: (be64 x).drop (8 - k)
  | 0, _ => rfl | 1, _ => rfl | 2, _ => rfl | 3, _ => rfl | 4, _ => rfl | 5, _ => rfl | 6, _ => rfl | 7, _ => rfl
  | k + 8, h => absurd h (by omega)
theorem num_set (x : UInt64) (s k : Nat) (h : k < s) (hs : s ≤ 8) : (num x s k).set (s - 1 - k) ((be64 x).getD (7 - k) 0) = num x s (k + 1) := by
  have e : List.replicate (s - k) (0 : UInt8) = List.replicate (s - 1 - k) 0 ++ [0] := by
    rw [show s - k = (s - 1 - k) + 1 from by omega, List.replicate_succ']
  rw [num, num, e, List.append_assoc, List.set_append_right _ _ (by simp), List.length_replicate, Nat.sub_self, drop_back x k (by omega), show s - (k + 1) = s - 1 - k from by omega]
  rfl
theorem num_zero (x : UInt64) (s : Nat) (hs : s ≤ 8) : num x s 0 = List.replicate s 0 := by rw [num, List.drop_of_length_le (by simp)]; simp
theorem num_8 (x : UInt64) : num x 8 8 = be64 x := rfl
theorem take_xor (c : UInt8) (l : List UInt8) (i : Nat) (h : i < l.length) : (l.take (i + 1)).map (· ^^^ c) = (l.take i).map (· ^^^ c) ++ [l.getD i 0 ^^^ c] := by
  rw [List.take_succ_eq_append_getElem h, List.map_append]
  have h2 : l.getD i 0 = l[i] := by simp [List.getD, h]
  rw [h2]
  rfl
theorem upto_zero (l : List UInt8) (n : Nat) : upto l n 0 = List.replicate n 0 := by simp [upto]
theorem upto_long (k : List UInt8) (h : 64 < k.length) : upto (sum k) 64 32 = keyB k := by rw [keyB, if_pos h]; rfl
theorem upto_small (k : List UInt8) (h : ¬ 64 < k.length) : upto k 64 k.length = keyB k := by rw [keyB, if_neg h, upto, List.take_length]
theorem upto_half (d : List UInt8) : upto d 16 16 = d.take 16 := by simp [upto]
end Sha

end Go.Proofs.Ytmgnnclkjkbmdaa
end

/- Short sums and numbers as the document has them. -/
section
set_option linter.unusedSimpArgs false
set_option linter.unusedVariables false
set_option maxRecDepth 100000
namespace Go.Proofs.Ytmgnnclkjkbmdaa
open Go Go.Fw

open Sha
theorem flat1' (n : Nat) : (List.replicate n [B 0]).flatten = (List.replicate n (0 : UInt8)).map B := by
  induction n with
  | zero => rfl
  | succ n ih => rw [List.replicate_succ, List.flatten_cons, ih, List.replicate_succ]; rfl

-- fingerpostref05.Half
set_option maxHeartbeats 4000000 in
theorem ref05_Half (d : List UInt8) (hd : d.length = 32) (w : World)  : Ctr Try.prog 171 [.agg (d.map B).toArray] w (fun _ => False) (fun v _ => v = .agg ((d.take 16).map B).toArray) := by
  refine fn_start (N := 15) Try.func171 rfl rfl rfl fun ac hk => ?_
  have hs := St.start hk w
  refine wp_seq ?_
  refine wp_reg ?_
  refine s_box hs rfl rfl rfl fun ac ww g1 hs => ?_
  refine s_alloc hs ty22 rfl fun ac ww g2 hs => ?_
  refine s_end ?_
  replace hs := hs.sub (F' := [(1, _), (2, _)]) ⟨rfl, rfl, trivial⟩
  refine then_n ?_
  refine wp_seq ?_
  refine wp_reg ?_
  refine s_alloc hs ty22 rfl fun ac ww g3 hs => ?_
  refine s_end ?_
  refine then_n ?_
  refine wp_seq ?_
  refine wp_seq ?_
  refine wp_reg ?_
  refine s_q hs (c_assign (hs.ev rfl)) rfl fun ac hs => ?_
  refine s_end ?_
  refine then_n ?_
  refine wp_block ?_
  refine s_loop hs (X := Nat) (fun k => [(4, I k)]) [(1, _), (2, _), (3, _)] (fun k => [.seg g3 ((upto d 16 k).map B) 22, .seg g2 ((List.replicate 16 (0 : UInt8)).map B) 22, .seg g1 (d.map B) 40]) (fun n k => k ≤ 16 ∧ n = 16 - k) (16) (0) (⟨Nat.zero_le _, rfl⟩) ⟨rfl, rfl, rfl, rfl, trivial⟩ (by rw [upto_zero]; try rfl) ?_
  rintro n k ac ww hok hs
  simp only [List.cons_append, List.nil_append] at hs
  obtain ⟨hk, rfl⟩ := hok
  have hz := upto_len d 16 k hk (by omega)
  refine wp_seq ?_
  refine wp_seq ?_
  refine wp_reg ?_
  refine s_q hs (c_move (hs.ev rfl)) rfl fun ac hs => ?_
  refine s_q hs (c_lssI (hs.ev rfl) (hs.ev rfl)) rfl fun ac hs => ?_
  refine s_end ?_
  refine then_n ?_
  refine s_cond hs rfl (fun hc => ?_) (fun hc => ?_)
  · try simp only [decide_eq_true_eq, decide_eq_false_iff_not, Bool.not_eq_true', Bool.not_eq_false', Bool.and_eq_true, Bool.or_eq_true, Bool.or_eq_false_iff] at hc
    refine wp_skip ?_
    refine then_n ?_
    refine wp_seq ?_
    refine wp_block ?_
    refine wp_reg ?_
    refine s_q hs (c_move (hs.ev rfl)) rfl fun ac hs => ?_
    refine s_q hs (c_move (hs.ev rfl)) rfl fun ac hs => ?_
    refine s_q hs (c_idxA (j := k) un40 ty5 (hs.ev rfl) (hs.ev rfl) (by omega) (by omega)) rfl fun ac hs => ?_
    refine s_q hs (c_loadS un5 rfl (hs.ev rfl) (hs.seg (i := 2) rfl) (map_get 0 (by omega))) rfl fun ac hs => ?_
    refine s_q hs (c_idxA (j := k) un22 ty5 (hs.ev rfl) (hs.ev rfl) (by omega) (by omega)) rfl fun ac hs => ?_
    refine s_store (i := 0) hs ty5 rfl rfl rfl rfl rfl rfl (by rw [List.length_map]; omega) ((map_set _ (by omega)).trans (congrArg (List.map B) (upto_set _ _ k (by omega) (by omega)))) fun ww hs => ?_
    refine s_end ?_
    refine blk_n ?_
    refine then_n ?_
    refine wp_reg ?_
    refine s_q hs (c_move (hs.ev rfl)) rfl fun ac hs => ?_
    refine s_q hs (c_addI (hs.ev rfl) (hs.ev rfl) (by omega) (by omega)) rfl fun ac hs => ?_
    refine s_q hs (c_assign (hs.ev rfl)) rfl fun ac hs => ?_
    refine s_end ?_
    refine then_n ?_
    exact ⟨16 - (k + 1), by omega, k + 1, ⟨by omega, rfl⟩, St.next hs ⟨rfl, rfl, rfl, rfl, trivial⟩ rfl⟩
  · try simp only [decide_eq_true_eq, decide_eq_false_iff_not, Bool.not_eq_true', Bool.not_eq_false', Bool.and_eq_true, Bool.or_eq_true, Bool.or_eq_false_iff] at hc
    obtain rfl : k = 16 := by omega
    rw [upto_half] at hs
    refine wp_exit ?_
    refine then_e ?_
    refine then_e ?_
    refine blk_hit ?_
    refine then_n ?_
    refine wp_seq ?_
    refine wp_reg ?_
    refine s_q hs (c_loadW ty22 rfl (hs.ev rfl) (hs.seg (i := 0) rfl) (by simp [hd])) rfl fun ac hs => ?_
    refine s_storeW (i := 1) hs ty22 rfl rfl rfl (by simp [hd]) (all_map_B _) rfl fun ww hs => ?_
    refine s_end ?_
    replace hs := hs.sub (F' := [(2, _)]) ⟨rfl, trivial⟩
    refine then_n ?_
    refine wp_ret ?_
    refine s_ret hs rfl (.cell (hs.tmp rfl) (run_loadA ty22 rfl (hs.seg (i := 1) rfl) (List.take_of_length_le (by simp [hd])) (by simp [hd])) .nil) rfl ⟨_, rfl, hs.fr, ?_⟩
    rfl

-- fingerpostref05.Text
set_option maxHeartbeats 4000000 in
theorem ref05_Text (k : UInt8) (ps : List (Value × List UInt8)) (pv : Value) (hle : (flat ps).length ≤ 140737488355200) (w : World) (hq : RdP w pv ps) : Ctr Try.prog 159 [B k, pv] w (fun _ => False) (fun v w' => ∃ v', v = v' ∧ Has w.heap.size w' [.row v' (k :: flat ps).length ((k :: flat ps).map B) 5 1]) := by
  have hpl := hq.1.le
  obtain ⟨pad_, pcap, rfl, hpc, hpm⟩ := hq.sl
  refine fn_start (N := 22) Try.func159 rfl rfl rfl fun ac hk => ?_
  have hs := St.start hk w
  refine wp_seq ?_
  refine wp_reg ?_
  refine s_q hs (c_assign (hs.ev rfl)) rfl fun ac hs => ?_
  refine s_end ?_
  refine then_n ?_
  refine wp_seq ?_
  refine wp_reg ?_
  refine s_q hs (c_move (hs.ev rfl)) rfl fun ac hs => ?_
  refine s_bslice hs un34 ty5 (.cons (hs.ev rfl) .nil) rfl (by simp [Value.cells]) (by decide) rfl rfl fun ac ww g8 hs => ?_
  refine s_q hs (c_assign (hs.ev rfl)) rfl fun ac hs => ?_
  refine s_end ?_
  replace hs := hs.segrow (i := 0) (n := 1) (sz := 1) rfl rfl (by decide)
  replace hs := hs.sub (F' := [(1, _), (4, _), (5, _)]) ⟨rfl, rfl, rfl, trivial⟩
  refine then_n ?_
  refine wp_seq ?_
  refine wp_seq ?_
  refine wp_reg ?_
  refine s_q hs (c_assign (hs.ev rfl)) rfl fun ac hs => ?_
  refine s_end ?_
  refine then_n ?_
  refine wp_block ?_
  refine s_loop hs (X := Nat × Value) (fun x => [(5, x.2), (6, I x.1)]) [(1, _), (4, _)] (fun x => [.row x.2 (k :: flat (ps.take x.1)).length ((k :: flat (ps.take x.1)).map B) 5 1]) (fun n x => x.1 ≤ ps.length ∧ n = ps.length - x.1) (ps.length) ((0, _)) (⟨Nat.zero_le _, rfl⟩) ⟨rfl, rfl, rfl, rfl, trivial⟩ rfl ?_
  rintro n ⟨i, v⟩ ac ww hok hs
  simp only [List.cons_append, List.nil_append] at hs
  obtain ⟨hi, rfl⟩ := hok
  simp only at hi hs
  refine wp_seq ?_
  refine wp_seq ?_
  refine wp_reg ?_
  refine s_q hs (c_move (hs.ev rfl)) rfl fun ac hs => ?_
  refine s_q hs (c_move (hs.ev rfl)) rfl fun ac hs => ?_
  refine s_q hs (c_lenS un30 (hs.ev rfl)) rfl fun ac hs => ?_
  refine s_q hs (c_lssI (hs.ev rfl) (hs.ev rfl)) rfl fun ac hs => ?_
  refine s_end ?_
  refine then_n ?_
  refine s_cond hs rfl (fun hc => ?_) (fun hc => ?_)
  · try simp only [decide_eq_true_eq, decide_eq_false_iff_not, Bool.not_eq_true', Bool.not_eq_false', Bool.and_eq_true, Bool.or_eq_true, Bool.or_eq_false_iff] at hc
    have hips : i < ps.length := by omega
    obtain ⟨pb, po, pT, pf, pall, rfl, hpb, hps⟩ := hq.at' (by omega)
    have hfl := flat_take_le ps i hips
    refine wp_skip ?_
    refine then_n ?_
    refine wp_seq ?_
    refine wp_block ?_
    refine wp_reg ?_
    refine s_q hs (c_move (hs.ev rfl)) rfl fun ac hs => ?_
    refine s_q hs (c_move (hs.ev rfl)) rfl fun ac hs => ?_
    refine s_q hs (c_move (hs.ev rfl)) rfl fun ac hs => ?_
    refine s_q hs (c_idxS (j := i) un30 ty34 (hs.ev rfl) (hs.ev rfl) (by omega) (by omega)) rfl fun ac hs => ?_
    refine s_q hs (c_loadS un34 rfl (hs.ev rfl) (hs.old hpb id) (seg_get (.nilIface, []) hps (by omega))) rfl fun ac hs => ?_
    refine s_appB (i := 0) hs un34 ty5 rfl rfl rfl ((hq.get hips).fr0 hs.fr) (by simp only [List.length_cons]; omega) rfl fun ac ww v20 hf hnil hs => ?_
    refine s_q hs (c_assign (hs.ev rfl)) rfl fun ac hs => ?_
    refine s_end ?_
    refine blk_n ?_
    refine then_n ?_
    refine wp_reg ?_
    refine s_q hs (c_move (hs.ev rfl)) rfl fun ac hs => ?_
    refine s_q hs (c_addI (hs.ev rfl) (hs.ev rfl) (by omega) (by omega)) rfl fun ac hs => ?_
    refine s_q hs (c_assign (hs.ev rfl)) rfl fun ac hs => ?_
    refine s_end ?_
    refine then_n ?_
    exact ⟨ps.length - (i + 1), by (try simp only); omega, (i + 1, _), ⟨by (try simp only); omega, rfl⟩, St.next hs ⟨rfl, rfl, rfl, rfl, trivial⟩ (by rw [flat_take ps i (by omega)]; rfl)⟩
  · try simp only [decide_eq_true_eq, decide_eq_false_iff_not, Bool.not_eq_true', Bool.not_eq_false', Bool.and_eq_true, Bool.or_eq_true, Bool.or_eq_false_iff] at hc
    obtain rfl : i = ps.length := by omega
    rw [flat_full] at hs
    refine wp_exit ?_
    refine then_e ?_
    refine then_e ?_
    refine blk_hit ?_
    refine then_n ?_
    refine wp_seq ?_
    refine wp_reg ?_
    refine s_q hs (c_move (hs.ev rfl)) rfl fun ac hs => ?_
    refine s_q hs (c_assign (hs.ev rfl)) rfl fun ac hs => ?_
    refine s_end ?_
    replace hs := hs.sub (F' := [(4, _)]) ⟨rfl, trivial⟩
    refine then_n ?_
    refine wp_ret ?_
    refine s_ret hs rfl (.tmp (hs.tmp rfl) .nil) rfl ⟨_, rfl, hs.fr, ?_⟩
    exact ⟨_, rfl, hs.made⟩

-- fingerpostref05.Short
set_option maxHeartbeats 4000000 in
theorem ref05_Short (k : UInt8) (ps : List (Value × List UInt8)) (pv : Value) (hle : (flat ps).length ≤ 140737488355199) (w : World) (hq : RdP w pv ps) : Ctr Try.prog 92 [B k, pv] w (fun _ => False) (fun v _ => v = .agg ((short k (flat ps)).map B).toArray) := by
  refine fn_start (N := 10) Try.func92 rfl rfl rfl fun ac hk => ?_
  have hs := St.start hk w
  refine wp_seq ?_
  refine wp_reg ?_
  refine s_alloc hs ty22 rfl fun ac ww g4 hs => ?_
  refine s_end ?_
  refine then_n ?_
  refine wp_seq ?_
  refine wp_reg ?_
  refine s_q hs (c_move (hs.ev rfl)) rfl fun ac hs => ?_
  refine s_q hs (c_move (hs.ev rfl)) rfl fun ac hs => ?_
  refine s_call hs fu159 (.cons (hs.ev rfl) (.cons (hs.ev rfl) .nil)) (ref05_Text k ps _ (by omega) _ (hq.fr0 hs.fr)) rfl fun ac ww v7 hf hp hs => ?_
  obtain ⟨qv, rfl, hh⟩ := hp
  replace hs := hs _ hh
  refine s_call hs fu45 (.cons (hs.ev rfl) .nil) (ref04_Sum (k :: flat ps) _ (by simp only [List.length_cons]; omega) _ (RdB.row (hs.get (i := 0) rfl))) rfl fun ac ww v8 hf hp hs => ?_
  obtain rfl := hp
  replace hs := hs [] (.nil _ _)
  refine s_call hs fu171 (.cons (hs.ev rfl) .nil) (ref05_Half _ (sum_length _) _) rfl fun ac ww v9 hf hp hs => ?_
  obtain rfl := hp
  replace hs := hs [] (.nil _ _)
  refine s_storeW (i := 1) hs ty22 rfl rfl rfl (by simp) (all_map_B _) (by simp) fun ww hs => ?_
  refine s_end ?_
  replace hs := hs.sub (F' := [(4, _)]) ⟨rfl, trivial⟩
  refine then_n ?_
  refine wp_ret ?_
  refine s_ret hs rfl (.cell (hs.tmp rfl) (run_loadA ty22 rfl (hs.seg (i := 1) rfl) (List.take_of_length_le (by simp)) (by simp)) .nil) rfl ⟨_, rfl, hs.fr, ?_⟩
  rfl

-- fingerpostref06.Of
set_option maxHeartbeats 4000000 in
theorem ref06_Of (k : UInt8) (p : List UInt8) (pv : Value) (hle : p.length ≤ 140737488355199) (w : World) (hq : RdB w pv (k :: p)) : Ctr Try.prog 54 [pv] w (fun _ => False) (fun v _ => v = .agg ((short k p).map B).toArray) := by
  obtain ⟨pad_, pcap, rfl, hpc, hpm⟩ := hq.sl
  obtain ⟨pb, po, pT, pf, pall, rfl, hpb, hps⟩ := hq.at' (by simp)
  refine fn_start (N := 10) Try.func54 rfl rfl rfl fun ac hk => ?_
  have hs := St.start hk w
  refine wp_seq ?_
  refine wp_reg ?_
  refine s_alloc hs ty22 rfl fun ac ww g2 hs => ?_
  refine s_end ?_
  refine then_n ?_
  refine wp_seq ?_
  refine wp_region_rg pmix 6 (by kernel_rfl) rfl hs ?_
  simp only [List.take_succ_cons, List.take_zero]
  refine rg_q (fun ac ww h => c_move (h.ev rfl)) rfl ?_
  refine rg_q (fun ac ww h => c_idxS un34 ty5 (h.ev rfl) (h.ev rfl) rfl (by simp)) rfl ?_
  refine rg_q (fun ac ww h => c_loadS un5 rfl (h.ev rfl) (h.blk (hs.old hpb id)) (seg_get 0 hps (by simp))) rfl ?_
  refine rg_q (fun ac ww h => c_move (h.ev rfl)) rfl ?_
  refine rg_q (fun ac ww h => c_sliceL (i := 1) un34 ty5 (h.ev rfl) (h.ev rfl) (by omega) (by simp)) rfl ?_
  refine rg_bslice un30 ty34 (fun ac ww h => (.cons (h.ev rfl) .nil)) rfl (by simp [Value.cells]) (by decide) rfl rfl ?_
  refine rg_nil fun ac ww L' hf hfe hs => ?_
  simp only [List.drop_succ_cons, List.drop_zero]
  obtain ⟨v8, L8, M8, h8, e8, rfl, rfl⟩ := hfe
  replace hs := hs.add h8
  obtain ⟨g8, rfl, rfl⟩ := e8
  refine s_call hs fu92 (.cons (hs.ev rfl) (.cons (hs.ev rfl) .nil)) (ref05_Short k [(_, p)] _ (by simpa [flat] using hle) _ (RdP.seg (ps := [(_, p)]) (hs.seg (i := 0) rfl) (by show 1 ≤ maxLen; decide) (.cons ((RdB.cut (i := 1) hq (by simp)).fr0 hs.fr) .nil))) rfl fun ac ww v9 hf hp hs => ?_
  obtain rfl := hp
  replace hs := hs [] (.nil _ _)
  rw [show flat [(_, p)] = p from List.append_nil p] at hs
  refine s_storeW (i := 1) hs ty22 rfl rfl rfl (by simp) (all_map_B _) (by simp) fun ww hs => ?_
  refine s_end ?_
  replace hs := hs.sub (F' := [(2, _)]) ⟨rfl, trivial⟩
  refine then_n ?_
  refine wp_ret ?_
  refine s_ret hs rfl (.cell (hs.tmp rfl) (run_loadA ty22 rfl (hs.seg (i := 1) rfl) (List.take_of_length_le (by simp)) (by simp)) .nil) rfl ⟨_, rfl, hs.fr, ?_⟩
  rfl

-- fingerpostref05.Num
set_option maxHeartbeats 4000000 in
theorem ref05_Num (x : UInt64) (s : Nat) (hs8 : s ≤ 8) (w : World)  : Ctr Try.prog 173 [V x, I s] w (fun _ => False) (fun v w' => ∃ g, v = .slice (some ⟨g, 0, none⟩) s s ∧ Has w.heap.size w' [.seg g ((num x s s).map B) 5]) := by
  refine fn_start (N := 24) Try.func173 rfl rfl rfl fun ac hk => ?_
  have hs := St.start hk w
  refine wp_seq ?_
  refine wp_reg ?_
  refine s_q hs (c_assign (hs.ev rfl)) rfl fun ac hs => ?_
  refine s_end ?_
  refine then_n ?_
  refine wp_seq ?_
  refine wp_reg ?_
  refine s_q hs (c_move (hs.ev rfl)) rfl fun ac hs => ?_
  refine s_make (n := s) hs un34 ty5 rfl rfl rfl rfl (by omega) (by unfold maxLen; omega) rfl fun ac ww g8 hs => ?_
  refine s_q hs (c_assign (hs.ev rfl)) rfl fun ac hs => ?_
  refine s_end ?_
  replace hs := hs.sub (F' := [(0, _), (1, _), (4, _), (5, _)]) ⟨rfl, rfl, rfl, rfl, trivial⟩
  refine then_n ?_
  refine wp_seq ?_
  refine wp_seq ?_
  refine wp_reg ?_
  refine s_q hs (c_move (hs.ev rfl)) rfl fun ac hs => ?_
  refine s_q hs (c_subI (hs.ev rfl) (hs.ev rfl) (by omega) (by omega)) rfl fun ac hs => ?_
  refine s_q hs (c_assign (hs.ev rfl)) rfl fun ac hs => ?_
  refine s_end ?_
  replace hs := hs.sub (F' := [(0, _), (4, _), (5, _), (6, _)]) ⟨rfl, rfl, rfl, rfl, trivial⟩
  refine then_n ?_
  refine wp_block ?_
  refine s_loop hs (X := Nat) (fun k => [(0, V (qd x k)), (6, I ((s : Int) - 1 - (k : Int)))]) [(4, _), (5, _)] (fun k => [.seg g8 ((num x s k).map B) 5]) (fun n k => k ≤ s ∧ n = s - k) (s) (0) (⟨Nat.zero_le _, rfl⟩) ⟨rfl, (congrArg (fun z => some (I z)) (by omega)), rfl, rfl, trivial⟩ (by rw [num_zero _ _ hs8, flat1']; try rfl) ?_
  rintro n k ac ww hok hs
  simp only [List.cons_append, List.nil_append] at hs
  obtain ⟨hk, rfl⟩ := hok
  have hz := num_len x s k hk hs8
  refine wp_seq ?_
  refine wp_seq ?_
  refine wp_reg ?_
  refine s_q hs (c_move (hs.ev rfl)) rfl fun ac hs => ?_
  refine s_q hs (c_geqI (hs.ev rfl) (hs.ev rfl)) rfl fun ac hs => ?_
  refine s_end ?_
  refine then_n ?_
  refine s_cond hs rfl (fun hc => ?_) (fun hc => ?_)
  · try simp only [decide_eq_true_eq, decide_eq_false_iff_not, Bool.not_eq_true', Bool.not_eq_false', Bool.and_eq_true, Bool.or_eq_true, Bool.or_eq_false_iff] at hc
    refine wp_skip ?_
    refine then_n ?_
    refine wp_seq ?_
    refine wp_block ?_
    refine wp_seq ?_
    refine wp_reg ?_
    refine s_q hs (c_move (hs.ev rfl)) rfl fun ac hs => ?_
    refine s_q hs (c_move (hs.ev rfl)) rfl fun ac hs => ?_
    refine s_q hs (c_move (hs.ev rfl)) rfl fun ac hs => ?_
    refine s_q hs (c_remV (hs.ev rfl) (St.ev (v := V 256) hs rfl) (by decide)) rfl fun ac hs => ?_
    refine s_q hs (c_cvVB un210 un5 (hs.ev rfl)) rfl fun ac hs => ?_
    refine s_q hs (c_idxS (j := s - 1 - k) un34 ty5 (hs.ev rfl) (hs.ev rfl) (by omega) (by omega)) rfl fun ac hs => ?_
    refine s_store (i := 0) hs ty5 rfl rfl rfl rfl rfl rfl (by rw [List.length_map]; omega) ((map_set _ (by omega)).trans (congrArg (List.map B) ((congrArg (fun z => List.set _ _ z) (qd_byte _ k (by omega))).trans (num_set x s k (by omega) hs8)))) fun ww hs => ?_
    refine s_end ?_
    refine then_n ?_
    refine wp_reg ?_
    refine s_q hs (c_move (hs.ev rfl)) rfl fun ac hs => ?_
    refine s_q hs (c_quoV (hs.ev rfl) (St.ev (v := V 256) hs rfl) (by decide)) rfl fun ac hs => ?_
    refine s_q hs (c_assign (hs.ev rfl)) rfl fun ac hs => ?_
    refine s_end ?_
    refine blk_n ?_
    refine then_n ?_
    refine wp_reg ?_
    refine s_q hs (c_move (hs.ev rfl)) rfl fun ac hs => ?_
    refine s_q hs (c_subI (hs.ev rfl) (hs.ev rfl) (by omega) (by omega)) rfl fun ac hs => ?_
    refine s_q hs (c_assign (hs.ev rfl)) rfl fun ac hs => ?_
    refine s_end ?_
    refine then_n ?_
    exact ⟨s - (k + 1), by omega, k + 1, ⟨by omega, rfl⟩, St.next hs ⟨rfl, (congrArg (fun z => some (I z)) (by omega)), rfl, rfl, trivial⟩ rfl⟩
  · try simp only [decide_eq_true_eq, decide_eq_false_iff_not, Bool.not_eq_true', Bool.not_eq_false', Bool.and_eq_true, Bool.or_eq_true, Bool.or_eq_false_iff] at hc
    obtain rfl : k = s := by omega
    refine wp_exit ?_
    refine then_e ?_
    refine then_e ?_
    refine blk_hit ?_
    refine then_n ?_
    refine wp_seq ?_
    refine wp_reg ?_
    refine s_q hs (c_move (hs.ev rfl)) rfl fun ac hs => ?_
    refine s_q hs (c_assign (hs.ev rfl)) rfl fun ac hs => ?_
    refine s_end ?_
    replace hs := hs.sub (F' := [(4, _)]) ⟨rfl, trivial⟩
    refine then_n ?_
    refine wp_ret ?_
    refine s_ret hs rfl (.tmp (hs.tmp rfl) .nil) rfl ⟨_, rfl, hs.fr, ?_⟩
    exact ⟨g8, rfl, hs.made⟩

end Go.Proofs.Ytmgnnclkjkbmdaa
end

/- Keyed sums as the document has them. -/
section
set_option linter.unusedSimpArgs false
set_option linter.unusedVariables false
set_option maxRecDepth 100000
namespace Go.Proofs.Ytmgnnclkjkbmdaa
open Go Go.Fw

open Sha
-- fingerpostref05.Mac
set_option maxHeartbeats 4000000 in
theorem ref05_Mac (k p : List UInt8) (kv pv : Value) (hkl : k.length ≤ 140737488355200) (hle : p.length ≤ 140737488355136) (w : World) (hqk : RdB w kv k) (hqp : RdB w pv p) : Ctr Try.prog 79 [kv, pv] w (fun _ => False) (fun v _ => v = .agg ((hmac k p).map B).toArray) := by
  obtain ⟨kad, kcap, rfl, hkc, hkm⟩ := Rd.sl hqk
  refine fn_start (N := 65) Try.func79 rfl rfl rfl fun ac hk => ?_
  have hs := St.start hk w
  refine wp_seq ?_
  refine wp_reg ?_
  refine s_alloc hs ty40 rfl fun ac ww g4 hs => ?_
  refine s_end ?_
  refine then_n ?_
  refine wp_seq ?_
  refine wp_reg ?_
  refine s_alloc hs ty226 rfl fun ac ww g5 hs => ?_
  refine s_end ?_
  refine then_n ?_
  refine wp_seq ?_
  refine wp_seq ?_
  refine wp_reg ?_
  refine s_q hs (c_move (hs.ev rfl)) rfl fun ac hs => ?_
  refine s_q hs (c_lenS un34 (hs.ev rfl)) rfl fun ac hs => ?_
  refine s_q hs (c_gtrI (hs.ev rfl) (hs.ev rfl)) rfl fun ac hs => ?_
  refine s_end ?_
  replace hs := hs.sub (F' := [(0, _), (1, _), (4, _), (5, _), (15, _)]) ⟨rfl, rfl, rfl, rfl, rfl, trivial⟩
  refine then_n ?_
  refine s_cond hs rfl (fun hc => ?_) (fun hc => ?_)
  · try simp only [decide_eq_true_eq, decide_eq_false_iff_not, Bool.not_eq_true', Bool.not_eq_false', Bool.and_eq_true, Bool.or_eq_true, Bool.or_eq_false_iff] at hc
    refine wp_seq ?_
    refine wp_reg ?_
    refine s_q hs (c_move (hs.ev rfl)) rfl fun ac hs => ?_
    refine s_call hs fu45 (.cons (hs.ev rfl) .nil) (ref04_Sum k _ hkl _ (hqk.fr0 hs.fr)) rfl fun ac ww v17 hf hp hs => ?_
    obtain rfl := hp
    replace hs := hs [] (.nil _ _)
    refine s_alloc hs ty40 rfl fun ac ww g6 hs => ?_
    refine s_storeW (i := 0) hs ty40 rfl rfl rfl (by simp) (all_map_B _) (by simp) fun ww hs => ?_
    refine s_end ?_
    replace hs := hs.sub (F' := [(0, _), (1, _), (4, _), (5, _), (6, _)]) ⟨rfl, rfl, rfl, rfl, rfl, trivial⟩
    refine then_n ?_
    refine wp_seq ?_
    refine wp_reg ?_
    refine s_q hs (c_assign (hs.ev rfl)) rfl fun ac hs => ?_
    refine s_end ?_
    refine then_n ?_
    refine wp_block ?_
    refine s_loop hs (X := Nat) (fun j => [(7, I j)]) [(0, _), (1, _), (4, _), (5, _), (6, _)] (fun j => [.seg g6 ((sum k).map B) 40, .seg g5 ((upto (sum k) 64 j).map B) 226, .seg g4 ((List.replicate 32 (0 : UInt8)).map B) 40]) (fun n j => j ≤ 32 ∧ n = 32 - j) (32) (0) (⟨Nat.zero_le _, rfl⟩) ⟨rfl, rfl, rfl, rfl, rfl, rfl, trivial⟩ (by rw [upto_zero]; try rfl) ?_
    rintro n j ac ww hok hs
    simp only [List.cons_append, List.nil_append] at hs
    obtain ⟨hj, rfl⟩ := hok
    have hsl := sum_length k
    have hz := upto_len (sum k) 64 j (by omega) (by omega)
    refine wp_seq ?_
    refine wp_seq ?_
    refine wp_reg ?_
    refine s_q hs (c_move (hs.ev rfl)) rfl fun ac hs => ?_
    refine s_q hs (c_lssI (hs.ev rfl) (hs.ev rfl)) rfl fun ac hs => ?_
    refine s_end ?_
    refine then_n ?_
    refine s_cond hs rfl (fun hc => ?_) (fun hc => ?_)
    · try simp only [decide_eq_true_eq, decide_eq_false_iff_not, Bool.not_eq_true', Bool.not_eq_false', Bool.and_eq_true, Bool.or_eq_true, Bool.or_eq_false_iff] at hc
      refine wp_skip ?_
      refine then_n ?_
      refine wp_seq ?_
      refine wp_block ?_
      refine wp_reg ?_
      refine s_q hs (c_move (hs.ev rfl)) rfl fun ac hs => ?_
      refine s_q hs (c_move (hs.ev rfl)) rfl fun ac hs => ?_
      refine s_q hs (c_idxA (j := j) un40 ty5 (hs.ev rfl) (hs.ev rfl) (by omega) (by omega)) rfl fun ac hs => ?_
      refine s_q hs (c_loadS un5 rfl (hs.ev rfl) (hs.seg (i := 0) rfl) (map_get 0 (by omega))) rfl fun ac hs => ?_
      refine s_q hs (c_idxA (j := j) un226 ty5 (hs.ev rfl) (hs.ev rfl) (by omega) (by omega)) rfl fun ac hs => ?_
      refine s_store (i := 1) hs ty5 rfl rfl rfl rfl rfl rfl (by rw [List.length_map]; omega) ((map_set _ (by omega)).trans (congrArg (List.map B) (upto_set _ _ j (by omega) (by omega)))) fun ww hs => ?_
      refine s_end ?_
      refine blk_n ?_
      refine then_n ?_
      refine wp_reg ?_
      refine s_q hs (c_move (hs.ev rfl)) rfl fun ac hs => ?_
      refine s_q hs (c_addI (hs.ev rfl) (hs.ev rfl) (by omega) (by omega)) rfl fun ac hs => ?_
      refine s_q hs (c_assign (hs.ev rfl)) rfl fun ac hs => ?_
      refine s_end ?_
      refine then_n ?_
      exact ⟨32 - (j + 1), by omega, j + 1, ⟨by omega, rfl⟩, St.next hs ⟨rfl, rfl, rfl, rfl, rfl, rfl, trivial⟩ rfl⟩
    · try simp only [decide_eq_true_eq, decide_eq_false_iff_not, Bool.not_eq_true', Bool.not_eq_false', Bool.and_eq_true, Bool.or_eq_true, Bool.or_eq_false_iff] at hc
      obtain rfl : j = 32 := by omega
      rw [upto_long k (by omega)] at hs
      replace hs := hs.pick (L' := [_, _]) (.cons _ (.refl _))
      refine wp_exit ?_
      refine then_e ?_
      refine then_e ?_
      refine blk_hit ?_
      refine then_n ?_
      refine wp_seq ?_
      refine wp_reg ?_
      refine s_q hs (c_assign (hs.ev rfl)) rfl fun ac hs => ?_
      refine s_q hs (c_assign (hs.ev rfl)) rfl fun ac hs => ?_
      refine s_end ?_
      replace hs := (hs.nilrow 5 1).nilrow 5 1
      replace hs := hs.sub (F' := [(1, _), (4, _), (5, _), (9, _), (10, _)]) ⟨rfl, rfl, rfl, rfl, rfl, trivial⟩
      refine then_n ?_
      refine wp_seq ?_
      refine wp_seq ?_
      refine wp_reg ?_
      refine s_q hs (c_assign (hs.ev rfl)) rfl fun ac hs => ?_
      refine s_end ?_
      refine then_n ?_
      refine wp_block ?_
      refine s_loop hs (X := Nat × Value × Value) (fun x => [(9, x.2.1), (10, x.2.2), (11, I x.1)]) [(1, _), (4, _), (5, _)] (fun x => [.row x.2.1 (((keyB k).take x.1).map (· ^^^ 0x36)).length ((((keyB k).take x.1).map (· ^^^ 0x36)).map B) 5 1, .row x.2.2 (((keyB k).take x.1).map (· ^^^ 0x5c)).length ((((keyB k).take x.1).map (· ^^^ 0x5c)).map B) 5 1, .seg g5 ((keyB k).map B) 226, .seg g4 ((List.replicate 32 (0 : UInt8)).map B) 40]) (fun n x => x.1 ≤ 64 ∧ n = 64 - x.1) (64) ((0, _, _)) (⟨Nat.zero_le _, rfl⟩) ⟨rfl, rfl, rfl, rfl, rfl, rfl, trivial⟩ rfl ?_
      rintro n ⟨i, v, u⟩ ac ww hok hs
      simp only [List.cons_append, List.nil_append] at hs
      obtain ⟨hi, rfl⟩ := hok
      simp only at hi hs
      have hkb := keyB_length k
      refine wp_seq ?_
      refine wp_seq ?_
      refine wp_reg ?_
      refine s_q hs (c_move (hs.ev rfl)) rfl fun ac hs => ?_
      refine s_q hs (c_lssI (hs.ev rfl) (hs.ev rfl)) rfl fun ac hs => ?_
      refine s_end ?_
      refine then_n ?_
      refine s_cond hs rfl (fun hc => ?_) (fun hc => ?_)
      · try simp only [decide_eq_true_eq, decide_eq_false_iff_not, Bool.not_eq_true', Bool.not_eq_false', Bool.and_eq_true, Bool.or_eq_true, Bool.or_eq_false_iff] at hc
        refine wp_skip ?_
        refine then_n ?_
        refine wp_seq ?_
        refine wp_block ?_
        refine wp_seq ?_
        refine wp_reg ?_
        refine s_q hs (c_move (hs.ev rfl)) rfl fun ac hs => ?_
        refine s_q hs (c_move (hs.ev rfl)) rfl fun ac hs => ?_
        refine s_q hs (c_idxA (j := i) un226 ty5 (hs.ev rfl) (hs.ev rfl) (by omega) (by omega)) rfl fun ac hs => ?_
        refine s_q hs (c_loadS un5 rfl (hs.ev rfl) (hs.seg (i := 2) rfl) (map_get 0 (by omega))) rfl fun ac hs => ?_
        refine s_q hs (c_xorB (hs.ev rfl) (St.ev (v := B 54) hs rfl)) rfl fun ac hs => ?_
        refine s_bslice hs un34 ty5 (.cons (hs.ev rfl) .nil) rfl (by simp [Value.cells]) (by decide) rfl rfl fun ac ww g48 hs => ?_
        refine s_appB (i := 1) hs un34 ty5 rfl rfl rfl (RdB.seg (l := [_]) (hs.seg (i := 0) rfl) (by show 1 ≤ maxLen; decide)) (by simp; omega) rfl fun ac ww v49 hf hnil hs => ?_
        replace hs := hs.pick (L' := [_, _, _, _]) (.cons _ (.refl _))
        refine s_q hs (c_assign (hs.ev rfl)) rfl fun ac hs => ?_
        refine s_end ?_
        refine then_n ?_
        refine wp_reg ?_
        refine s_q hs (c_move (hs.ev rfl)) rfl fun ac hs => ?_
        refine s_q hs (c_move (hs.ev rfl)) rfl fun ac hs => ?_
        refine s_q hs (c_idxA (j := i) un226 ty5 (hs.ev rfl) (hs.ev rfl) (by omega) (by omega)) rfl fun ac hs => ?_
        refine s_q hs (c_loadS un5 rfl (hs.ev rfl) (hs.seg (i := 2) rfl) (map_get 0 (by omega))) rfl fun ac hs => ?_
        refine s_q hs (c_xorB (hs.ev rfl) (St.ev (v := B 92) hs rfl)) rfl fun ac hs => ?_
        refine s_bslice hs un34 ty5 (.cons (hs.ev rfl) .nil) rfl (by simp [Value.cells]) (by decide) rfl rfl fun ac ww g55 hs => ?_
        refine s_appB (i := 2) hs un34 ty5 rfl rfl rfl (RdB.seg (l := [_]) (hs.seg (i := 0) rfl) (by show 1 ≤ maxLen; decide)) (by simp; omega) rfl fun ac ww v56 hf hnil hs => ?_
        refine s_q hs (c_assign (hs.ev rfl)) rfl fun ac hs => ?_
        refine s_end ?_
        refine blk_n ?_
        refine then_n ?_
        refine wp_reg ?_
        refine s_q hs (c_move (hs.ev rfl)) rfl fun ac hs => ?_
        refine s_q hs (c_addI (hs.ev rfl) (hs.ev rfl) (by omega) (by omega)) rfl fun ac hs => ?_
        refine s_q hs (c_assign (hs.ev rfl)) rfl fun ac hs => ?_
        refine s_end ?_
        refine then_n ?_
        replace hs := hs.pick (L' := [_, _, _, _]) (.cons _ (.refl _))
        exact ⟨64 - (i + 1), by (try simp only); omega, (i + 1, _, _), ⟨by (try simp only); omega, rfl⟩, St.next hs ⟨rfl, rfl, rfl, rfl, rfl, rfl, trivial⟩ (by simp only [take_xor _ _ i (show i < (keyB k).length by omega)]; try rfl)⟩
      · try simp only [decide_eq_true_eq, decide_eq_false_iff_not, Bool.not_eq_true', Bool.not_eq_false', Bool.and_eq_true, Bool.or_eq_true, Bool.or_eq_false_iff] at hc
        obtain rfl : i = 64 := by omega
        rw [List.take_of_length_le (by omega)] at hs
        refine wp_exit ?_
        refine then_e ?_
        refine then_e ?_
        refine blk_hit ?_
        refine then_n ?_
        refine wp_seq ?_
        refine wp_reg ?_
        refine s_q hs (c_move (hs.ev rfl)) rfl fun ac hs => ?_
        refine s_q hs (c_move (hs.ev rfl)) rfl fun ac hs => ?_
        refine s_appB (i := 0) hs un34 ty5 rfl rfl rfl (hqp.fr0 hs.fr) (by rw [List.length_map, hkb]; omega) rfl fun ac ww v59 hf hnil hs => ?_
        refine s_call hs fu45 (.cons (hs.ev rfl) .nil) (ref04_Sum (((keyB k).map (· ^^^ 0x36)) ++ p) _ (by rw [List.length_append, List.length_map, hkb]; omega) _ (RdB.row (hs.get (i := 0) rfl))) rfl fun ac ww v60 hf hp hs => ?_
        obtain rfl := hp
        replace hs := hs [] (.nil _ _)
        refine s_alloc hs ty40 rfl fun ac ww g12 hs => ?_
        refine s_storeW (i := 0) hs ty40 rfl rfl rfl (by simp) (all_map_B _) (by simp) fun ww hs => ?_
        refine s_end ?_
        replace hs := hs.sub (F' := [(4, _), (10, _), (12, _)]) ⟨rfl, rfl, rfl, trivial⟩
        refine then_n ?_
        refine wp_seq ?_
        refine wp_reg ?_
        refine s_q hs (c_move (hs.ev rfl)) rfl fun ac hs => ?_
        refine s_q hs (c_sliceA un40 ty5 (hs.ev rfl)) rfl fun ac hs => ?_
        refine s_appB (i := 2) hs un34 ty5 rfl rfl rfl (RdB.segn (l := sum (((keyB k).map (· ^^^ 0x36)) ++ p)) (hs.seg (i := 0) rfl) (sum_length _) (by decide)) (by rw [List.length_map, hkb, sum_length]; decide) rfl fun ac ww v63 hf hnil hs => ?_
        refine s_call hs fu45 (.cons (hs.ev rfl) .nil) (ref04_Sum (((keyB k).map (· ^^^ 0x5c)) ++ sum (((keyB k).map (· ^^^ 0x36)) ++ p)) _ (by rw [List.length_append, List.length_map, hkb, sum_length]; decide) _ (RdB.row (hs.get (i := 2) rfl))) rfl fun ac ww v64 hf hp hs => ?_
        obtain rfl := hp
        replace hs := hs [] (.nil _ _)
        refine s_storeW (i := 4) hs ty40 rfl rfl rfl (by simp) (all_map_B _) (by simp) fun ww hs => ?_
        refine s_end ?_
        replace hs := hs.sub (F' := [(4, _)]) ⟨rfl, trivial⟩
        refine then_n ?_
        refine wp_ret ?_
        refine s_ret hs rfl (.cell (hs.tmp rfl) (run_loadA ty40 rfl (hs.seg (i := 4) rfl) (List.take_of_length_le (by simp)) (by simp)) .nil) rfl ⟨_, rfl, hs.fr, ?_⟩
        rfl
  · try simp only [decide_eq_true_eq, decide_eq_false_iff_not, Bool.not_eq_true', Bool.not_eq_false', Bool.and_eq_true, Bool.or_eq_true, Bool.or_eq_false_iff] at hc
    refine wp_seq ?_
    refine wp_reg ?_
    refine s_q hs (c_assign (hs.ev rfl)) rfl fun ac hs => ?_
    refine s_end ?_
    replace hs := hs.sub (F' := [(0, _), (1, _), (4, _), (5, _), (8, _)]) ⟨rfl, rfl, rfl, rfl, rfl, trivial⟩
    refine then_n ?_
    refine wp_block ?_
    refine s_loop hs (X := Nat) (fun j => [(8, I j)]) [(0, _), (1, _), (4, _), (5, _)] (fun j => [.seg g5 ((upto k 64 j).map B) 226, .seg g4 ((List.replicate 32 (0 : UInt8)).map B) 40]) (fun n j => j ≤ k.length ∧ n = k.length - j) (k.length) (0) (⟨Nat.zero_le _, rfl⟩) ⟨rfl, rfl, rfl, rfl, rfl, trivial⟩ (by rw [upto_zero]; try rfl) ?_
    rintro n j ac ww hok hs
    simp only [List.cons_append, List.nil_append] at hs
    obtain ⟨hj, rfl⟩ := hok
    have hz := upto_len k 64 j (by omega) (by omega)
    refine wp_seq ?_
    refine wp_seq ?_
    refine wp_reg ?_
    refine s_q hs (c_move (hs.ev rfl)) rfl fun ac hs => ?_
    refine s_q hs (c_move (hs.ev rfl)) rfl fun ac hs => ?_
    refine s_q hs (c_lenS un34 (hs.ev rfl)) rfl fun ac hs => ?_
    refine s_q hs (c_lssI (hs.ev rfl) (hs.ev rfl)) rfl fun ac hs => ?_
    refine s_end ?_
    refine then_n ?_
    refine s_cond hs rfl (fun hc => ?_) (fun hc => ?_)
    · try simp only [decide_eq_true_eq, decide_eq_false_iff_not, Bool.not_eq_true', Bool.not_eq_false', Bool.and_eq_true, Bool.or_eq_true, Bool.or_eq_false_iff] at hc
      obtain ⟨pb, po, pT, pf, pall, rfl, hpb, hps⟩ := hqk.at' (by omega)
      refine wp_skip ?_
      refine then_n ?_
      refine wp_seq ?_
      refine wp_block ?_
      refine wp_reg ?_
      refine s_q hs (c_move (hs.ev rfl)) rfl fun ac hs => ?_
      refine s_q hs (c_move (hs.ev rfl)) rfl fun ac hs => ?_
      refine s_q hs (c_move (hs.ev rfl)) rfl fun ac hs => ?_
      refine s_q hs (c_idxS (j := j) un34 ty5 (hs.ev rfl) (hs.ev rfl) (by omega) (by omega)) rfl fun ac hs => ?_
      refine s_q hs (c_loadS un5 rfl (hs.ev rfl) (hs.old hpb id) (seg_get 0 hps (by omega))) rfl fun ac hs => ?_
      refine s_q hs (c_idxA (j := j) un226 ty5 (hs.ev rfl) (hs.ev rfl) (by omega) (by omega)) rfl fun ac hs => ?_
      refine s_store (i := 0) hs ty5 rfl rfl rfl rfl rfl rfl (by rw [List.length_map]; omega) ((map_set _ (by omega)).trans (congrArg (List.map B) (upto_set _ _ j (by omega) (by omega)))) fun ww hs => ?_
      refine s_end ?_
      refine blk_n ?_
      refine then_n ?_
      refine wp_reg ?_
      refine s_q hs (c_move (hs.ev rfl)) rfl fun ac hs => ?_
      refine s_q hs (c_addI (hs.ev rfl) (hs.ev rfl) (by omega) (by omega)) rfl fun ac hs => ?_
      refine s_q hs (c_assign (hs.ev rfl)) rfl fun ac hs => ?_
      refine s_end ?_
      refine then_n ?_
      exact ⟨k.length - (j + 1), by omega, j + 1, ⟨by omega, rfl⟩, St.next hs ⟨rfl, rfl, rfl, rfl, rfl, trivial⟩ rfl⟩
    · try simp only [decide_eq_true_eq, decide_eq_false_iff_not, Bool.not_eq_true', Bool.not_eq_false', Bool.and_eq_true, Bool.or_eq_true, Bool.or_eq_false_iff] at hc
      obtain rfl : j = k.length := by omega
      rw [upto_small k (by omega)] at hs
      refine wp_exit ?_
      refine then_e ?_
      refine then_e ?_
      refine blk_hit ?_
      refine then_n ?_
      refine wp_seq ?_
      refine wp_reg ?_
      refine s_q hs (c_assign (hs.ev rfl)) rfl fun ac hs => ?_
      refine s_q hs (c_assign (hs.ev rfl)) rfl fun ac hs => ?_
      refine s_end ?_
      replace hs := (hs.nilrow 5 1).nilrow 5 1
      replace hs := hs.sub (F' := [(1, _), (4, _), (5, _), (9, _), (10, _)]) ⟨rfl, rfl, rfl, rfl, rfl, trivial⟩
      refine then_n ?_
      refine wp_seq ?_
      refine wp_seq ?_
      refine wp_reg ?_
      refine s_q hs (c_assign (hs.ev rfl)) rfl fun ac hs => ?_
      refine s_end ?_
      refine then_n ?_
      refine wp_block ?_
      refine s_loop hs (X := Nat × Value × Value) (fun x => [(9, x.2.1), (10, x.2.2), (11, I x.1)]) [(1, _), (4, _), (5, _)] (fun x => [.row x.2.1 (((keyB k).take x.1).map (· ^^^ 0x36)).length ((((keyB k).take x.1).map (· ^^^ 0x36)).map B) 5 1, .row x.2.2 (((keyB k).take x.1).map (· ^^^ 0x5c)).length ((((keyB k).take x.1).map (· ^^^ 0x5c)).map B) 5 1, .seg g5 ((keyB k).map B) 226, .seg g4 ((List.replicate 32 (0 : UInt8)).map B) 40]) (fun n x => x.1 ≤ 64 ∧ n = 64 - x.1) (64) ((0, _, _)) (⟨Nat.zero_le _, rfl⟩) ⟨rfl, rfl, rfl, rfl, rfl, rfl, trivial⟩ rfl ?_
      rintro n ⟨i, v, u⟩ ac ww hok hs
      simp only [List.cons_append, List.nil_append] at hs
      obtain ⟨hi, rfl⟩ := hok
      simp only at hi hs
      have hkb := keyB_length k
      refine wp_seq ?_
      refine wp_seq ?_
      refine wp_reg ?_
      refine s_q hs (c_move (hs.ev rfl)) rfl fun ac hs => ?_
      refine s_q hs (c_lssI (hs.ev rfl) (hs.ev rfl)) rfl fun ac hs => ?_
      refine s_end ?_
      refine then_n ?_
      refine s_cond hs rfl (fun hc => ?_) (fun hc => ?_)
      · try simp only [decide_eq_true_eq, decide_eq_false_iff_not, Bool.not_eq_true', Bool.not_eq_false', Bool.and_eq_true, Bool.or_eq_true, Bool.or_eq_false_iff] at hc
        refine wp_skip ?_
        refine then_n ?_
        refine wp_seq ?_
        refine wp_block ?_
        refine wp_seq ?_
        refine wp_reg ?_
        refine s_q hs (c_move (hs.ev rfl)) rfl fun ac hs => ?_
        refine s_q hs (c_move (hs.ev rfl)) rfl fun ac hs => ?_
        refine s_q hs (c_idxA (j := i) un226 ty5 (hs.ev rfl) (hs.ev rfl) (by omega) (by omega)) rfl fun ac hs => ?_
        refine s_q hs (c_loadS un5 rfl (hs.ev rfl) (hs.seg (i := 2) rfl) (map_get 0 (by omega))) rfl fun ac hs => ?_
        refine s_q hs (c_xorB (hs.ev rfl) (St.ev (v := B 54) hs rfl)) rfl fun ac hs => ?_
        refine s_bslice hs un34 ty5 (.cons (hs.ev rfl) .nil) rfl (by simp [Value.cells]) (by decide) rfl rfl fun ac ww g48 hs => ?_
        refine s_appB (i := 1) hs un34 ty5 rfl rfl rfl (RdB.seg (l := [_]) (hs.seg (i := 0) rfl) (by show 1 ≤ maxLen; decide)) (by simp; omega) rfl fun ac ww v49 hf hnil hs => ?_
        replace hs := hs.pick (L' := [_, _, _, _]) (.cons _ (.refl _))
        refine s_q hs (c_assign (hs.ev rfl)) rfl fun ac hs => ?_
        refine s_end ?_
        refine then_n ?_
        refine wp_reg ?_
        refine s_q hs (c_move (hs.ev rfl)) rfl fun ac hs => ?_
        refine s_q hs (c_move (hs.ev rfl)) rfl fun ac hs => ?_
        refine s_q hs (c_idxA (j := i) un226 ty5 (hs.ev rfl) (hs.ev rfl) (by omega) (by omega)) rfl fun ac hs => ?_
        refine s_q hs (c_loadS un5 rfl (hs.ev rfl) (hs.seg (i := 2) rfl) (map_get 0 (by omega))) rfl fun ac hs => ?_
        refine s_q hs (c_xorB (hs.ev rfl) (St.ev (v := B 92) hs rfl)) rfl fun ac hs => ?_
        refine s_bslice hs un34 ty5 (.cons (hs.ev rfl) .nil) rfl (by simp [Value.cells]) (by decide) rfl rfl fun ac ww g55 hs => ?_
        refine s_appB (i := 2) hs un34 ty5 rfl rfl rfl (RdB.seg (l := [_]) (hs.seg (i := 0) rfl) (by show 1 ≤ maxLen; decide)) (by simp; omega) rfl fun ac ww v56 hf hnil hs => ?_
        refine s_q hs (c_assign (hs.ev rfl)) rfl fun ac hs => ?_
        refine s_end ?_
        refine blk_n ?_
        refine then_n ?_
        refine wp_reg ?_
        refine s_q hs (c_move (hs.ev rfl)) rfl fun ac hs => ?_
        refine s_q hs (c_addI (hs.ev rfl) (hs.ev rfl) (by omega) (by omega)) rfl fun ac hs => ?_
        refine s_q hs (c_assign (hs.ev rfl)) rfl fun ac hs => ?_
        refine s_end ?_
        refine then_n ?_
        replace hs := hs.pick (L' := [_, _, _, _]) (.cons _ (.refl _))
        exact ⟨64 - (i + 1), by (try simp only); omega, (i + 1, _, _), ⟨by (try simp only); omega, rfl⟩, St.next hs ⟨rfl, rfl, rfl, rfl, rfl, rfl, trivial⟩ (by simp only [take_xor _ _ i (show i < (keyB k).length by omega)]; try rfl)⟩
      · try simp only [decide_eq_true_eq, decide_eq_false_iff_not, Bool.not_eq_true', Bool.not_eq_false', Bool.and_eq_true, Bool.or_eq_true, Bool.or_eq_false_iff] at hc
        obtain rfl : i = 64 := by omega
        rw [List.take_of_length_le (by omega)] at hs
        refine wp_exit ?_
        refine then_e ?_
        refine then_e ?_
        refine blk_hit ?_
        refine then_n ?_
        refine wp_seq ?_
        refine wp_reg ?_
        refine s_q hs (c_move (hs.ev rfl)) rfl fun ac hs => ?_
        refine s_q hs (c_move (hs.ev rfl)) rfl fun ac hs => ?_
        refine s_appB (i := 0) hs un34 ty5 rfl rfl rfl (hqp.fr0 hs.fr) (by rw [List.length_map, hkb]; omega) rfl fun ac ww v59 hf hnil hs => ?_
        refine s_call hs fu45 (.cons (hs.ev rfl) .nil) (ref04_Sum (((keyB k).map (· ^^^ 0x36)) ++ p) _ (by rw [List.length_append, List.length_map, hkb]; omega) _ (RdB.row (hs.get (i := 0) rfl))) rfl fun ac ww v60 hf hp hs => ?_
        obtain rfl := hp
        replace hs := hs [] (.nil _ _)
        refine s_alloc hs ty40 rfl fun ac ww g12 hs => ?_
        refine s_storeW (i := 0) hs ty40 rfl rfl rfl (by simp) (all_map_B _) (by simp) fun ww hs => ?_
        refine s_end ?_
        replace hs := hs.sub (F' := [(4, _), (10, _), (12, _)]) ⟨rfl, rfl, rfl, trivial⟩
        refine then_n ?_
        refine wp_seq ?_
        refine wp_reg ?_
        refine s_q hs (c_move (hs.ev rfl)) rfl fun ac hs => ?_
        refine s_q hs (c_sliceA un40 ty5 (hs.ev rfl)) rfl fun ac hs => ?_
        refine s_appB (i := 2) hs un34 ty5 rfl rfl rfl (RdB.segn (l := sum (((keyB k).map (· ^^^ 0x36)) ++ p)) (hs.seg (i := 0) rfl) (sum_length _) (by decide)) (by rw [List.length_map, hkb, sum_length]; decide) rfl fun ac ww v63 hf hnil hs => ?_
        refine s_call hs fu45 (.cons (hs.ev rfl) .nil) (ref04_Sum (((keyB k).map (· ^^^ 0x5c)) ++ sum (((keyB k).map (· ^^^ 0x36)) ++ p)) _ (by rw [List.length_append, List.length_map, hkb, sum_length]; decide) _ (RdB.row (hs.get (i := 2) rfl))) rfl fun ac ww v64 hf hp hs => ?_
        obtain rfl := hp
        replace hs := hs [] (.nil _ _)
        refine s_storeW (i := 4) hs ty40 rfl rfl rfl (by simp) (all_map_B _) (by simp) fun ww hs => ?_
        refine s_end ?_
        replace hs := hs.sub (F' := [(4, _)]) ⟨rfl, trivial⟩
        refine then_n ?_
        refine wp_ret ?_
        refine s_ret hs rfl (.cell (hs.tmp rfl) (run_loadA ty40 rfl (hs.seg (i := 4) rfl) (List.take_of_length_le (by simp)) (by simp)) .nil) rfl ⟨_, rfl, hs.fr, ?_⟩
        rfl

-- fingerpostref05.Tag
set_option maxHeartbeats 4000000 in
theorem ref05_Tag (k p : List UInt8) (kv pv : Value) (hkl : k.length ≤ 140737488355200) (hle : p.length ≤ 140737488355136) (w : World) (hqk : RdB w kv k) (hqp : RdB w pv p) : Ctr Try.prog 81 [kv, pv] w (fun _ => False) (fun v _ => v = .agg ((tag k p).map B).toArray) := by
  refine fn_start (N := 9) Try.func81 rfl rfl rfl fun ac hk => ?_
  have hs := St.start hk w
  refine wp_seq ?_
  refine wp_reg ?_
  refine s_alloc hs ty22 rfl fun ac ww g4 hs => ?_
  refine s_end ?_
  refine then_n ?_
  refine wp_seq ?_
  refine wp_reg ?_
  refine s_q hs (c_move (hs.ev rfl)) rfl fun ac hs => ?_
  refine s_q hs (c_move (hs.ev rfl)) rfl fun ac hs => ?_
  refine s_call hs fu79 (.cons (hs.ev rfl) (.cons (hs.ev rfl) .nil)) (ref05_Mac k p _ _ hkl hle _ (hqk.fr0 hs.fr) (hqp.fr0 hs.fr)) rfl fun ac ww v7 hf hp hs => ?_
  obtain rfl := hp
  replace hs := hs [] (.nil _ _)
  refine s_call hs fu171 (.cons (hs.ev rfl) .nil) (ref05_Half (hmac k p) (hmac_length k p) _) rfl fun ac ww v8 hf hp hs => ?_
  obtain rfl := hp
  replace hs := hs [] (.nil _ _)
  refine s_storeW (i := 0) hs ty22 rfl rfl rfl (by simp) (all_map_B _) (by simp) fun ww hs => ?_
  refine s_end ?_
  replace hs := hs.sub (F' := [(4, _)]) ⟨rfl, trivial⟩
  refine then_n ?_
  refine wp_ret ?_
  refine s_ret hs rfl (.cell (hs.tmp rfl) (run_loadA ty22 rfl (hs.seg (i := 0) rfl) (List.take_of_length_le (by simp)) (by simp)) .nil) rfl ⟨_, rfl, hs.fr, ?_⟩
  rfl

-- mac.number
set_option maxHeartbeats 4000000 in
theorem mac_number (x : UInt64) (w : World)  : Ctr Try.prog 172 [V x] w (fun _ => False) (fun v w' => ∃ v', v = v' ∧ Has w.heap.size w' [.row v' (be64 x).length ((be64 x).map B) 5 1]) := by
  generalize hxy : x = y
  refine fn_start (N := 17) Try.func172 rfl rfl rfl fun ac hk => ?_
  have hs := St.start hk w
  refine wp_seq ?_
  refine wp_reg ?_
  refine s_q hs (c_assign (hs.ev rfl)) rfl fun ac hs => ?_
  refine s_end ?_
  refine then_n ?_
  refine wp_seq ?_
  refine wp_reg ?_
  refine s_q hs (c_assign (hs.ev rfl)) rfl fun ac hs => ?_
  refine s_end ?_
  replace hs := hs.nilrow 5 1
  refine then_n ?_
  refine wp_seq ?_
  refine wp_seq ?_
  refine wp_reg ?_
  refine s_q hs (c_assign (hs.ev rfl)) rfl fun ac hs => ?_
  refine s_end ?_
  refine then_n ?_
  refine wp_block ?_
  refine s_loop hs (X := Nat × Value) (fun x => [(3, x.2), (4, I (56 - 8 * (x.1 : Int)))]) [(0, _), (2, _)] (fun x => [.row x.2 ((be64 y).take x.1).length (((be64 y).take x.1).map B) 5 1]) (fun n x => x.1 ≤ 8 ∧ n = 8 - x.1) (8) ((0, _)) (⟨Nat.zero_le _, rfl⟩) ⟨rfl, rfl, rfl, rfl, trivial⟩ rfl ?_
  rintro n ⟨k, v⟩ ac ww hok hs
  simp only [List.cons_append, List.nil_append] at hs
  obtain ⟨hk, rfl⟩ := hok
  simp only at hk hs
  refine wp_seq ?_
  refine wp_seq ?_
  refine wp_reg ?_
  refine s_q hs (c_move (hs.ev rfl)) rfl fun ac hs => ?_
  refine s_q hs (c_geqI (hs.ev rfl) (hs.ev rfl)) rfl fun ac hs => ?_
  refine s_end ?_
  refine then_n ?_
  refine s_cond hs rfl (fun hc => ?_) (fun hc => ?_)
  · try simp only [decide_eq_true_eq, decide_eq_false_iff_not, Bool.not_eq_true', Bool.not_eq_false', Bool.and_eq_true, Bool.or_eq_true, Bool.or_eq_false_iff] at hc
    refine wp_skip ?_
    refine then_n ?_
    refine wp_seq ?_
    refine wp_block ?_
    refine wp_reg ?_
    refine s_q hs (c_move (hs.ev rfl)) rfl fun ac hs => ?_
    refine s_q hs (c_move (hs.ev rfl)) rfl fun ac hs => ?_
    refine s_q hs (c_move (hs.ev rfl)) rfl fun ac hs => ?_
    refine s_q hs (c_shrV (n := 56 - 8 * k) (hs.ev rfl) ((hs.ev rfl).trans (congrArg I (by omega))) (by omega)) rfl fun ac hs => ?_
    refine s_q hs (c_cvVB un210 un5 (hs.ev rfl)) rfl fun ac hs => ?_
    refine s_bslice hs un34 ty5 (.cons (hs.ev rfl) .nil) rfl (by simp [Value.cells]) (by decide) rfl rfl fun ac ww g14 hs => ?_
    refine s_appB (i := 1) hs un34 ty5 rfl rfl rfl (RdB.seg (l := [_]) (hs.seg (i := 0) rfl) (by show 1 ≤ maxLen; decide)) (by simp; omega) rfl fun ac ww v15 hf hnil hs => ?_
    refine s_q hs (c_assign (hs.ev rfl)) rfl fun ac hs => ?_
    refine s_end ?_
    refine blk_n ?_
    refine then_n ?_
    refine wp_reg ?_
    refine s_q hs (c_move (hs.ev rfl)) rfl fun ac hs => ?_
    refine s_q hs (c_subI (hs.ev rfl) (hs.ev rfl) (by omega) (by omega)) rfl fun ac hs => ?_
    refine s_q hs (c_assign (hs.ev rfl)) rfl fun ac hs => ?_
    refine s_end ?_
    refine then_n ?_
    replace hs := hs.pick (L' := [_]) (.cons _ (.refl _))
    exact ⟨8 - (k + 1), by (try simp only); omega, (k + 1, _), ⟨by (try simp only); omega, rfl⟩, St.next hs ⟨rfl, (congrArg (fun z => some (I z)) (by omega)), rfl, rfl, trivial⟩ (by rw [be64_take _ k (by omega)]; try rfl)⟩
  · try simp only [decide_eq_true_eq, decide_eq_false_iff_not, Bool.not_eq_true', Bool.not_eq_false', Bool.and_eq_true, Bool.or_eq_true, Bool.or_eq_false_iff] at hc
    obtain rfl : k = 8 := by omega
    rw [List.take_of_length_le (by simp)] at hs
    refine wp_exit ?_
    refine then_e ?_
    refine then_e ?_
    refine blk_hit ?_
    refine then_n ?_
    refine wp_seq ?_
    refine wp_reg ?_
    refine s_q hs (c_move (hs.ev rfl)) rfl fun ac hs => ?_
    refine s_q hs (c_assign (hs.ev rfl)) rfl fun ac hs => ?_
    refine s_end ?_
    replace hs := hs.sub (F' := [(2, _)]) ⟨rfl, trivial⟩
    refine then_n ?_
    refine wp_ret ?_
    refine s_ret hs rfl (.tmp (hs.tmp rfl) .nil) rfl ⟨_, rfl, hs.fr, ?_⟩
    exact ⟨_, rfl, hs.made⟩

end Go.Proofs.Ytmgnnclkjkbmdaa
end

/- What a seed gives. -/
section
set_option linter.unusedSimpArgs false
set_option linter.unusedVariables false
set_option maxRecDepth 100000
namespace Go.Proofs.Ytmgnnclkjkbmdaa
open Go Go.Fw

open Sha
theorem i8_nat (n : Nat) : i8 (n : Int) = UInt8.ofNat n := by
  apply UInt8.toNat_inj.1
  have h := i8_toNat (n : Int)
  rw [UInt8.toNat_ofNat']
  omega
theorem i8_mod (n : Nat) : i8 ((n : Int) % 256) = UInt8.ofNat n := by
  apply UInt8.toNat_inj.1
  have h := i8_toNat ((n : Int) % 256)
  rw [UInt8.toNat_ofNat']
  omega
theorem nums_succ (nums : List UInt64) (i : Nat) (h : i < nums.length) : (nums.take (i + 1)).flatMap be64 = (nums.take i).flatMap be64 ++ be64 (nums.getD i 0) := by
  rw [List.take_succ_eq_append_getElem h, List.flatMap_append]
  have h2 : nums.getD i 0 = nums[i] := by simp [List.getD, h]
  rw [h2]
  simp
theorem nums_len (nums : List UInt64) : (nums.flatMap be64).length = 8 * nums.length := by
  induction nums with
  | nil => rfl
  | cons x t ih => rw [List.flatMap_cons, List.length_append, ih, be64_length, List.length_cons]; omega

-- mac.Prf
set_option maxHeartbeats 4000000 in
theorem mac_Prf (seed : List UInt8) (kind : UInt8) (nums : List UInt64) (nv : Value) (hsd : seed.length = 32) (hle : nums.length ≤ 17592186044000) (w : World) (hq : RdV w nv nums) : Ctr Try.prog 105 [.agg (seed.map B).toArray, B kind, nv] w (fun _ => False) (fun v _ => v = .agg ((prf seed kind nums).map B).toArray) := by
  have hpl := hq.le
  obtain ⟨nad, ncap, rfl, hnc, hnm⟩ := hq.sl
  refine fn_start (N := 29) Try.func105 rfl rfl rfl fun ac hk => ?_
  have hs := St.start hk w
  refine wp_seq ?_
  refine wp_reg ?_
  refine s_box hs rfl rfl rfl fun ac ww g3 hs => ?_
  refine s_alloc hs ty54 rfl fun ac ww g6 hs => ?_
  refine s_end ?_
  replace hs := hs.sub (F' := [(1, _), (2, _), (3, _), (6, _)]) ⟨rfl, rfl, rfl, rfl, trivial⟩
  refine then_n ?_
  refine wp_seq ?_
  refine wp_reg ?_
  refine s_q hs (c_move (hs.ev rfl)) rfl fun ac hs => ?_
  refine s_q hs (c_move (hs.ev rfl)) rfl fun ac hs => ?_
  refine s_q hs (c_lenS un124 (hs.ev rfl)) rfl fun ac hs => ?_
  refine s_q hs (c_cvIB un3 un5 (hs.ev rfl)) rfl fun ac hs => ?_
  refine s_bslice hs un34 ty5 (.cons (hs.ev rfl) (.cons (hs.ev rfl) .nil)) rfl (by simp [Value.cells]) (by decide) rfl rfl fun ac ww g14 hs => ?_
  refine s_q hs (c_assign (hs.ev rfl)) rfl fun ac hs => ?_
  refine s_end ?_
  replace hs := (hs.segrow (i := 0) (n := 2) (sz := 1) rfl rfl (by decide)).toL (show _ = [.row _ (kind :: UInt8.ofNat nums.length :: (nums.take 0).flatMap be64).length ((kind :: UInt8.ofNat nums.length :: (nums.take 0).flatMap be64).map B) 5 1, _, _] from by rw [i8_nat]; rfl)
  replace hs := hs.sub (F' := [(2, _), (3, _), (6, _), (7, _)]) ⟨rfl, rfl, rfl, rfl, trivial⟩
  refine then_n ?_
  refine wp_seq ?_
  refine wp_seq ?_
  refine wp_reg ?_
  refine s_q hs (c_move (hs.ev rfl)) rfl fun ac hs => ?_
  refine s_q hs (c_lenS un124 (hs.ev rfl)) rfl fun ac hs => ?_
  refine s_q hs (c_move (hs.ev rfl)) rfl fun ac hs => ?_
  refine s_end ?_
  replace hs := hs.sub (F' := [(3, _), (6, _), (7, _), (15, _), (16, _), (17, _)]) ⟨rfl, rfl, rfl, rfl, rfl, rfl, trivial⟩
  refine then_n ?_
  refine wp_block ?_
  refine s_loop hs (X := Nat × Value) (fun x => [(7, x.2), (17, I x.1)]) [(3, _), (6, _), (15, _), (16, _)] (fun x => [.row x.2 (kind :: UInt8.ofNat nums.length :: (nums.take x.1).flatMap be64).length ((kind :: UInt8.ofNat nums.length :: (nums.take x.1).flatMap be64).map B) 5 1, .seg g6 ((List.replicate 16 (0 : UInt8)).map B) 54, .seg g3 (seed.map B) 41]) (fun n x => x.1 ≤ nums.length ∧ n = nums.length - x.1) (nums.length) ((0, _)) (⟨Nat.zero_le _, rfl⟩) ⟨rfl, rfl, rfl, rfl, rfl, rfl, trivial⟩ rfl ?_
  rintro n ⟨i, v⟩ ac ww hok hs
  simp only [List.cons_append, List.nil_append] at hs
  obtain ⟨hi, rfl⟩ := hok
  simp only at hi hs
  have hnl : ((nums.take i).flatMap be64).length = 8 * i := by rw [nums_len, List.length_take]; omega
  refine wp_seq ?_
  refine wp_reg ?_
  refine s_q hs (c_lssI (hs.ev rfl) (hs.ev rfl)) rfl fun ac hs => ?_
  refine s_end ?_
  refine then_n ?_
  refine wp_seq ?_
  refine s_cond hs rfl (fun hc => ?_) (fun hc => ?_)
  · try simp only [decide_eq_true_eq, decide_eq_false_iff_not, Bool.not_eq_true', Bool.not_eq_false', Bool.and_eq_true, Bool.or_eq_true, Bool.or_eq_false_iff] at hc
    obtain ⟨pb, po, pT, pf, pall, rfl, hpb, hps⟩ := hq.at' (by omega)
    refine wp_skip ?_
    refine then_n ?_
    refine wp_seq ?_
    refine wp_block ?_
    refine wp_seq ?_
    refine wp_reg ?_
    refine s_q hs (c_idxS (j := i) un124 ty210 (hs.ev rfl) (hs.ev rfl) (by omega) (by omega)) rfl fun ac hs => ?_
    refine s_q hs (c_loadS un210 rfl (hs.ev rfl) (hs.old hpb id) (seg_get 0 hps (by omega))) rfl fun ac hs => ?_
    refine s_q hs (c_assign (hs.ev rfl)) rfl fun ac hs => ?_
    refine s_end ?_
    refine then_n ?_
    refine wp_reg ?_
    refine s_q hs (c_move (hs.ev rfl)) rfl fun ac hs => ?_
    refine s_q hs (c_move (hs.ev rfl)) rfl fun ac hs => ?_
    refine s_call hs fu172 (.cons (hs.ev rfl) .nil) (mac_number _ _) rfl fun ac ww v23 hf hp hs => ?_
    obtain ⟨qv, rfl, hh⟩ := hp
    replace hs := hs _ hh
    refine s_appB (i := 1) hs un34 ty5 rfl rfl rfl (RdB.row (hs.get (i := 0) rfl)) (by simp only [List.length_cons, hnl, be64_length]; omega) rfl fun ac ww v24 hf hnil hs => ?_
    refine s_q hs (c_assign (hs.ev rfl)) rfl fun ac hs => ?_
    refine s_end ?_
    refine blk_n ?_
    refine then_n ?_
    refine wp_reg ?_
    refine s_q hs (c_addI (hs.ev rfl) (hs.ev rfl) (by omega) (by omega)) rfl fun ac hs => ?_
    refine s_q hs (c_move (hs.ev rfl)) rfl fun ac hs => ?_
    refine s_end ?_
    refine then_n ?_
    replace hs := hs.pick (L' := [_, _, _]) (.cons _ (.refl _))
    exact ⟨nums.length - (i + 1), by (try simp only); omega, (i + 1, _), ⟨by (try simp only); omega, rfl⟩, St.next hs ⟨rfl, rfl, rfl, rfl, rfl, rfl, trivial⟩ (by rw [nums_succ nums i (by omega)]; rfl)⟩
  · try simp only [decide_eq_true_eq, decide_eq_false_iff_not, Bool.not_eq_true', Bool.not_eq_false', Bool.and_eq_true, Bool.or_eq_true, Bool.or_eq_false_iff] at hc
    obtain rfl : i = nums.length := by omega
    rw [List.take_length] at hs hnl
    refine wp_exit ?_
    refine then_e ?_
    refine then_e ?_
    refine blk_hit ?_
    refine then_n ?_
    refine wp_seq ?_
    refine wp_reg ?_
    refine s_q hs (c_sliceA un41 ty5 (hs.ev rfl)) rfl fun ac hs => ?_
    refine s_q hs (c_move (hs.ev rfl)) rfl fun ac hs => ?_
    refine s_call hs fu80 (.cons (hs.ev rfl) (.cons (hs.ev rfl) .nil)) (mac_Tag seed (kind :: UInt8.ofNat nums.length :: nums.flatMap be64) _ _ (by omega) (by simp only [List.length_cons, hnl]; omega) _ (RdB.segn (l := seed) (hs.seg (i := 2) rfl) hsd (by decide)) (RdB.row (hs.get (i := 0) rfl))) rfl fun ac ww v28 hf hp hs => ?_
    obtain rfl := hp
    replace hs := hs [] (.nil _ _)
    refine s_storeW (i := 1) hs ty54 rfl rfl rfl (by simp) (all_map_B _) (by simp) fun ww hs => ?_
    refine s_end ?_
    replace hs := hs.sub (F' := [(6, _)]) ⟨rfl, trivial⟩
    refine then_n ?_
    refine wp_ret ?_
    refine s_ret hs rfl (.cell (hs.tmp rfl) (run_loadA ty54 rfl (hs.seg (i := 1) rfl) (List.take_of_length_le (by simp)) (by simp)) .nil) rfl ⟨_, rfl, hs.fr, ?_⟩
    rfl

-- fingerpostref05.Prf
set_option maxHeartbeats 4000000 in
theorem ref05_Prf (seed : List UInt8) (kind : UInt8) (nums : List UInt64) (nv : Value) (hsd : seed.length = 32) (hle : nums.length ≤ 17592186044000) (w : World) (hq : RdV w nv nums) : Ctr Try.prog 106 [.agg (seed.map B).toArray, B kind, nv] w (fun _ => False) (fun v _ => v = .agg ((prf seed kind nums).map B).toArray) := by
  have hpl := hq.le
  obtain ⟨nad, ncap, rfl, hnc, hnm⟩ := hq.sl
  refine fn_start (N := 31) Try.func106 rfl rfl rfl fun ac hk => ?_
  have hs := St.start hk w
  refine wp_seq ?_
  refine wp_reg ?_
  refine s_box hs rfl rfl rfl fun ac ww g3 hs => ?_
  refine s_alloc hs ty22 rfl fun ac ww g6 hs => ?_
  refine s_end ?_
  replace hs := hs.sub (F' := [(1, _), (2, _), (3, _), (6, _)]) ⟨rfl, rfl, rfl, rfl, trivial⟩
  refine then_n ?_
  refine wp_seq ?_
  refine wp_reg ?_
  refine s_q hs (c_move (hs.ev rfl)) rfl fun ac hs => ?_
  refine s_q hs (c_move (hs.ev rfl)) rfl fun ac hs => ?_
  refine s_q hs (c_lenS un124 (hs.ev rfl)) rfl fun ac hs => ?_
  refine s_q hs (c_remI (hs.ev rfl) (hs.ev rfl) (by omega) (by omega)) rfl fun ac hs => ?_
  refine s_q hs (c_cvIB un3 un5 (hs.ev rfl)) rfl fun ac hs => ?_
  refine s_bslice hs un34 ty5 (.cons (hs.ev rfl) (.cons (hs.ev rfl) .nil)) rfl (by simp [Value.cells]) (by decide) rfl rfl fun ac ww g14 hs => ?_
  refine s_q hs (c_assign (hs.ev rfl)) rfl fun ac hs => ?_
  refine s_end ?_
  replace hs := (hs.segrow (i := 0) (n := 2) (sz := 1) rfl rfl (by decide)).toL (show _ = [.row _ (kind :: UInt8.ofNat nums.length :: (nums.take 0).flatMap be64).length ((kind :: UInt8.ofNat nums.length :: (nums.take 0).flatMap be64).map B) 5 1, _, _] from by rw [i8_mod]; rfl)
  replace hs := hs.sub (F' := [(2, _), (3, _), (6, _), (7, _)]) ⟨rfl, rfl, rfl, rfl, trivial⟩
  refine then_n ?_
  refine wp_seq ?_
  refine wp_seq ?_
  refine wp_reg ?_
  refine s_q hs (c_assign (hs.ev rfl)) rfl fun ac hs => ?_
  refine s_end ?_
  refine then_n ?_
  refine wp_block ?_
  refine s_loop hs (X := Nat × Value) (fun x => [(7, x.2), (8, I x.1)]) [(2, _), (3, _), (6, _)] (fun x => [.row x.2 (kind :: UInt8.ofNat nums.length :: (nums.take x.1).flatMap be64).length ((kind :: UInt8.ofNat nums.length :: (nums.take x.1).flatMap be64).map B) 5 1, .seg g6 ((List.replicate 16 (0 : UInt8)).map B) 22, .seg g3 (seed.map B) 40]) (fun n x => x.1 ≤ nums.length ∧ n = nums.length - x.1) (nums.length) ((0, _)) (⟨Nat.zero_le _, rfl⟩) ⟨rfl, rfl, rfl, rfl, rfl, trivial⟩ rfl ?_
  rintro n ⟨i, v⟩ ac ww hok hs
  simp only [List.cons_append, List.nil_append] at hs
  obtain ⟨hi, rfl⟩ := hok
  simp only at hi hs
  have hnl : ((nums.take i).flatMap be64).length = 8 * i := by rw [nums_len, List.length_take]; omega
  refine wp_seq ?_
  refine wp_seq ?_
  refine wp_reg ?_
  refine s_q hs (c_move (hs.ev rfl)) rfl fun ac hs => ?_
  refine s_q hs (c_move (hs.ev rfl)) rfl fun ac hs => ?_
  refine s_q hs (c_lenS un124 (hs.ev rfl)) rfl fun ac hs => ?_
  refine s_q hs (c_lssI (hs.ev rfl) (hs.ev rfl)) rfl fun ac hs => ?_
  refine s_end ?_
  refine then_n ?_
  refine s_cond hs rfl (fun hc => ?_) (fun hc => ?_)
  · try simp only [decide_eq_true_eq, decide_eq_false_iff_not, Bool.not_eq_true', Bool.not_eq_false', Bool.and_eq_true, Bool.or_eq_true, Bool.or_eq_false_iff] at hc
    obtain ⟨pb, po, pT, pf, pall, rfl, hpb, hps⟩ := hq.at' (by omega)
    refine wp_skip ?_
    refine then_n ?_
    refine wp_seq ?_
    refine wp_block ?_
    refine wp_reg ?_
    refine s_q hs (c_move (hs.ev rfl)) rfl fun ac hs => ?_
    refine s_q hs (c_move (hs.ev rfl)) rfl fun ac hs => ?_
    refine s_q hs (c_move (hs.ev rfl)) rfl fun ac hs => ?_
    refine s_q hs (c_idxS (j := i) un124 ty210 (hs.ev rfl) (hs.ev rfl) (by omega) (by omega)) rfl fun ac hs => ?_
    refine s_q hs (c_loadS un210 rfl (hs.ev rfl) (hs.old hpb id) (seg_get 0 hps (by omega))) rfl fun ac hs => ?_
    refine s_call hs fu173 (.cons (hs.ev rfl) (.cons (hs.ev rfl) .nil)) (ref05_Num _ 8 (by omega) _) rfl fun ac ww v26 hf hp hs => ?_
    obtain ⟨gn, rfl, hh⟩ := hp
    replace hs := hs _ hh
    refine s_appB (i := 1) hs un34 ty5 rfl rfl rfl (RdB.segn (l := be64 _) (hs.seg (i := 0) rfl) (be64_length _) (by decide)) (by simp only [List.length_cons, hnl, be64_length]; omega) rfl fun ac ww v27 hf hnil hs => ?_
    refine s_q hs (c_assign (hs.ev rfl)) rfl fun ac hs => ?_
    refine s_end ?_
    refine blk_n ?_
    refine then_n ?_
    refine wp_reg ?_
    refine s_q hs (c_move (hs.ev rfl)) rfl fun ac hs => ?_
    refine s_q hs (c_addI (hs.ev rfl) (hs.ev rfl) (by omega) (by omega)) rfl fun ac hs => ?_
    refine s_q hs (c_assign (hs.ev rfl)) rfl fun ac hs => ?_
    refine s_end ?_
    refine then_n ?_
    replace hs := hs.pick (L' := [_, _, _]) (.cons _ (.refl _))
    exact ⟨nums.length - (i + 1), by (try simp only); omega, (i + 1, _), ⟨by (try simp only); omega, rfl⟩, St.next hs ⟨rfl, rfl, rfl, rfl, rfl, trivial⟩ (by rw [nums_succ nums i (by omega)]; rfl)⟩
  · try simp only [decide_eq_true_eq, decide_eq_false_iff_not, Bool.not_eq_true', Bool.not_eq_false', Bool.and_eq_true, Bool.or_eq_true, Bool.or_eq_false_iff] at hc
    obtain rfl : i = nums.length := by omega
    rw [List.take_length] at hs hnl
    refine wp_exit ?_
    refine then_e ?_
    refine then_e ?_
    refine blk_hit ?_
    refine then_n ?_
    refine wp_seq ?_
    refine wp_reg ?_
    refine s_q hs (c_sliceA un40 ty5 (hs.ev rfl)) rfl fun ac hs => ?_
    refine s_q hs (c_move (hs.ev rfl)) rfl fun ac hs => ?_
    refine s_call hs fu81 (.cons (hs.ev rfl) (.cons (hs.ev rfl) .nil)) (ref05_Tag seed (kind :: UInt8.ofNat nums.length :: nums.flatMap be64) _ _ (by omega) (by simp only [List.length_cons, hnl]; omega) _ (RdB.segn (l := seed) (hs.seg (i := 2) rfl) hsd (by decide)) (RdB.row (hs.get (i := 0) rfl))) rfl fun ac ww v30 hf hp hs => ?_
    obtain rfl := hp
    replace hs := hs [] (.nil _ _)
    refine s_storeW (i := 1) hs ty22 rfl rfl rfl (by simp) (all_map_B _) (by simp) fun ww hs => ?_
    refine s_end ?_
    replace hs := hs.sub (F' := [(6, _)]) ⟨rfl, trivial⟩
    refine then_n ?_
    refine wp_ret ?_
    refine s_ret hs rfl (.cell (hs.tmp rfl) (run_loadA ty22 rfl (hs.seg (i := 1) rfl) (List.take_of_length_le (by simp)) (by simp)) .nil) rfl ⟨_, rfl, hs.fr, ?_⟩
    rfl

end Go.Proofs.Ytmgnnclkjkbmdaa
end

/- Laws of keyed sums, walked. -/
section
set_option linter.unusedSimpArgs false
set_option linter.unusedVariables false
set_option maxRecDepth 100000
namespace Go.Proofs.Ytmgnnclkjkbmdaa
open Go Go.Fw

open Sha
def jefe : List UInt8 := [74, 101, 102, 101]
def what : List UInt8 := [119, 104, 97, 116, 32, 100, 111, 32, 121, 97, 32, 119, 97, 110, 116, 32, 102, 111, 114, 32, 110, 111, 116, 104, 105, 110, 103, 63]
theorem jefe_ok : (hexs ((hmac jefe what).take 4) == [53, 98, 100, 99, 99, 49, 52, 54]) = true := by decide +kernel
/-- How many blocks a tag takes. -/
def costI (k n : Int) : Int := (if k > 64 then blI k else 0) + 1 + blI (max n 0) + 2
theorem blI_bd (n : Int) (h1 : n ≤ 9223372036854775807) : 1 ≤ blI n ∧ blI n ≤ 144115188075855874 := by
  unfold blI
  split
  · omega
  · split <;> omega

-- mac.Cost
set_option maxHeartbeats 4000000 in
theorem mac_Cost (k n : Int) (hk0 : -9223372036854775808 ≤ k) (hk1 : k ≤ 9223372036854775807) (hn0 : -9223372036854775808 ≤ n) (hn1 : n ≤ 9223372036854775807) (w : World)  : Ctr Try.prog 82 [I k, I n] w (fun _ => False) (fun v _ => v = I (costI k n)) := by
  refine fn_start (N := 17) Try.func82 rfl rfl rfl fun ac hk => ?_
  have hs := St.start hk w
  refine wp_seq ?_
  refine wp_reg ?_
  refine s_q hs (c_assign (hs.ev rfl)) rfl fun ac hs => ?_
  refine s_end ?_
  refine then_n ?_
  refine wp_seq ?_
  refine wp_reg ?_
  refine s_q hs (c_assign (hs.ev rfl)) rfl fun ac hs => ?_
  refine s_end ?_
  refine then_n ?_
  refine wp_seq ?_
  refine wp_seq ?_
  refine wp_reg ?_
  refine s_q hs (c_move (hs.ev rfl)) rfl fun ac hs => ?_
  refine s_q hs (c_gtrI (hs.ev rfl) (hs.ev rfl)) rfl fun ac hs => ?_
  refine s_end ?_
  replace hs := hs.sub (F' := [(0, _), (1, _), (4, _), (5, _), (7, _)]) ⟨rfl, rfl, rfl, rfl, rfl, trivial⟩
  refine then_n ?_
  refine s_cond hs rfl (fun hc => ?_) (fun hc => ?_)
  · try simp only [decide_eq_true_eq, decide_eq_false_iff_not, Bool.not_eq_true', Bool.not_eq_false', Bool.and_eq_true, Bool.or_eq_true, Bool.or_eq_false_iff] at hc
    refine wp_reg ?_
    refine s_q hs (c_move (hs.ev rfl)) rfl fun ac hs => ?_
    refine s_call hs fu39 (.cons (hs.ev rfl) .nil) (sha_Blocks k hk0 hk1 _) rfl fun ac ww v9 hf hp hs => ?_
    obtain rfl := hp
    replace hs := hs [] (.nil _ _)
    refine s_q hs (c_assign (hs.ev rfl)) rfl fun ac hs => ?_
    refine s_end ?_
    replace hs := hs.sub (F' := [(1, _), (4, _), (5, _)]) ⟨rfl, rfl, rfl, trivial⟩
    refine then_n ?_
    refine wp_seq ?_
    have b1 := blI_bd k hk1
    have b2 := blI_bd (max n 0) (by omega)
    refine wp_reg ?_
    refine s_q hs (c_move (hs.ev rfl)) rfl fun ac hs => ?_
    refine s_q hs (c_addI (hs.ev rfl) (hs.ev rfl) (by omega) (by omega)) rfl fun ac hs => ?_
    refine s_q hs (c_move (hs.ev rfl)) rfl fun ac hs => ?_
    refine s_q hs (c_max (hs.ev rfl) (hs.ev rfl)) rfl fun ac hs => ?_
    refine s_call hs fu39 (.cons (hs.ev rfl) .nil) (sha_Blocks (max n 0) (by omega) (by omega) _) rfl fun ac ww v14 hf hp hs => ?_
    obtain rfl := hp
    replace hs := hs [] (.nil _ _)
    refine s_q hs (c_addI (hs.ev rfl) (hs.ev rfl) (by omega) (by omega)) rfl fun ac hs => ?_
    refine s_q hs (c_addI (hs.ev rfl) (hs.ev rfl) (by omega) (by omega)) rfl fun ac hs => ?_
    refine s_q hs (c_assign (hs.ev rfl)) rfl fun ac hs => ?_
    refine s_end ?_
    replace hs := hs.sub (F' := [(4, _)]) ⟨rfl, trivial⟩
    refine then_n ?_
    refine wp_ret ?_
    refine s_ret hs rfl (.tmp (hs.tmp rfl) .nil) rfl ⟨_, rfl, hs.fr, ?_⟩
    show I _ = I _
    refine congrArg I ?_
    unfold costI
    first | rw [if_pos (by omega)] | rw [if_neg (by omega)]
  · try simp only [decide_eq_true_eq, decide_eq_false_iff_not, Bool.not_eq_true', Bool.not_eq_false', Bool.and_eq_true, Bool.or_eq_true, Bool.or_eq_false_iff] at hc
    refine wp_skip ?_
    refine then_n ?_
    refine wp_seq ?_
    have b1 := blI_bd k hk1
    have b2 := blI_bd (max n 0) (by omega)
    refine wp_reg ?_
    refine s_q hs (c_move (hs.ev rfl)) rfl fun ac hs => ?_
    refine s_q hs (c_addI (hs.ev rfl) (hs.ev rfl) (by omega) (by omega)) rfl fun ac hs => ?_
    refine s_q hs (c_move (hs.ev rfl)) rfl fun ac hs => ?_
    refine s_q hs (c_max (hs.ev rfl) (hs.ev rfl)) rfl fun ac hs => ?_
    refine s_call hs fu39 (.cons (hs.ev rfl) .nil) (sha_Blocks (max n 0) (by omega) (by omega) _) rfl fun ac ww v14 hf hp hs => ?_
    obtain rfl := hp
    replace hs := hs [] (.nil _ _)
    refine s_q hs (c_addI (hs.ev rfl) (hs.ev rfl) (by omega) (by omega)) rfl fun ac hs => ?_
    refine s_q hs (c_addI (hs.ev rfl) (hs.ev rfl) (by omega) (by omega)) rfl fun ac hs => ?_
    refine s_q hs (c_assign (hs.ev rfl)) rfl fun ac hs => ?_
    refine s_end ?_
    replace hs := hs.sub (F' := [(4, _)]) ⟨rfl, trivial⟩
    refine then_n ?_
    refine wp_ret ?_
    refine s_ret hs rfl (.tmp (hs.tmp rfl) .nil) rfl ⟨_, rfl, hs.fr, ?_⟩
    show I _ = I _
    refine congrArg I ?_
    unfold costI
    first | rw [if_pos (by omega)] | rw [if_neg (by omega)]

-- fingerpostref05.Cost
set_option maxHeartbeats 4000000 in
theorem ref05_Cost (k n : Int) (hk0 : -9223372036854775808 ≤ k) (hk1 : k ≤ 9223372036854775807) (hn0 : -9223372036854775808 ≤ n) (hn1 : n ≤ 9223372036854775807) (w : World)  : Ctr Try.prog 83 [I k, I n] w (fun _ => False) (fun v _ => v = I (costI k n)) := by
  refine fn_start (N := 21) Try.func83 rfl rfl rfl fun ac hk => ?_
  have hs := St.start hk w
  refine wp_seq ?_
  refine wp_reg ?_
  refine s_q hs (c_assign (hs.ev rfl)) rfl fun ac hs => ?_
  refine s_end ?_
  refine then_n ?_
  refine wp_seq ?_
  have b0 : blI 0 = 1 := rfl
  have b1 := blI_bd k hk1
  have b2 := blI_bd n hn1
  refine wp_reg ?_
  refine s_call hs fu47 (.cons (hs.ev rfl) .nil) (ref04_Blocks 0 (by omega) (by omega) _) rfl fun ac ww v6 hf hp hs => ?_
  obtain rfl := hp
  replace hs := hs [] (.nil _ _)
  refine s_q hs (c_addI (hs.ev rfl) (hs.ev rfl) (by omega) (by omega)) rfl fun ac hs => ?_
  refine s_q hs (c_assign (hs.ev rfl)) rfl fun ac hs => ?_
  refine s_end ?_
  replace hs := hs.sub (F' := [(0, _), (1, _), (4, _), (5, _)]) ⟨rfl, rfl, rfl, rfl, trivial⟩
  refine then_n ?_
  refine wp_seq ?_
  refine wp_seq ?_
  refine wp_reg ?_
  refine s_q hs (c_move (hs.ev rfl)) rfl fun ac hs => ?_
  refine s_q hs (c_gtrI (hs.ev rfl) (hs.ev rfl)) rfl fun ac hs => ?_
  refine s_end ?_
  replace hs := hs.sub (F' := [(0, _), (1, _), (4, _), (5, _), (9, _)]) ⟨rfl, rfl, rfl, rfl, rfl, trivial⟩
  refine then_n ?_
  refine s_cond hs rfl (fun hc => ?_) (fun hc => ?_)
  · try simp only [decide_eq_true_eq, decide_eq_false_iff_not, Bool.not_eq_true', Bool.not_eq_false', Bool.and_eq_true, Bool.or_eq_true, Bool.or_eq_false_iff] at hc
    refine wp_reg ?_
    refine s_q hs (c_move (hs.ev rfl)) rfl fun ac hs => ?_
    refine s_call hs fu47 (.cons (hs.ev rfl) .nil) (ref04_Blocks n hn0 hn1 _) rfl fun ac ww v11 hf hp hs => ?_
    obtain rfl := hp
    replace hs := hs [] (.nil _ _)
    refine s_q hs (c_addI (hs.ev rfl) (hs.ev rfl) (by omega) (by omega)) rfl fun ac hs => ?_
    refine s_q hs (c_assign (hs.ev rfl)) rfl fun ac hs => ?_
    refine s_end ?_
    replace hs := hs.sub (F' := [(0, _), (4, _), (5, _)]) ⟨rfl, rfl, rfl, trivial⟩
    refine then_n ?_
    refine wp_seq ?_
    refine wp_seq ?_
    refine wp_reg ?_
    refine s_q hs (c_move (hs.ev rfl)) rfl fun ac hs => ?_
    refine s_q hs (c_gtrI (hs.ev rfl) (hs.ev rfl)) rfl fun ac hs => ?_
    refine s_end ?_
    replace hs := hs.sub (F' := [(0, _), (4, _), (5, _), (14, _)]) ⟨rfl, rfl, rfl, rfl, trivial⟩
    refine then_n ?_
    refine s_cond hs rfl (fun hc => ?_) (fun hc => ?_)
    · try simp only [decide_eq_true_eq, decide_eq_false_iff_not, Bool.not_eq_true', Bool.not_eq_false', Bool.and_eq_true, Bool.or_eq_true, Bool.or_eq_false_iff] at hc
      refine wp_reg ?_
      refine s_q hs (c_move (hs.ev rfl)) rfl fun ac hs => ?_
      refine s_q hs (c_move (hs.ev rfl)) rfl fun ac hs => ?_
      refine s_call hs fu47 (.cons (hs.ev rfl) .nil) (ref04_Blocks k hk0 hk1 _) rfl fun ac ww v17 hf hp hs => ?_
      obtain rfl := hp
      replace hs := hs [] (.nil _ _)
      refine s_q hs (c_addI (hs.ev rfl) (hs.ev rfl) (by omega) (by omega)) rfl fun ac hs => ?_
      refine s_q hs (c_assign (hs.ev rfl)) rfl fun ac hs => ?_
      refine s_end ?_
      replace hs := hs.sub (F' := [(4, _), (5, _)]) ⟨rfl, rfl, trivial⟩
      refine then_n ?_
      refine wp_seq ?_
      refine wp_reg ?_
      refine s_q hs (c_move (hs.ev rfl)) rfl fun ac hs => ?_
      refine s_q hs (c_addI (hs.ev rfl) (hs.ev rfl) (by omega) (by omega)) rfl fun ac hs => ?_
      refine s_q hs (c_assign (hs.ev rfl)) rfl fun ac hs => ?_
      refine s_end ?_
      replace hs := hs.sub (F' := [(4, _)]) ⟨rfl, trivial⟩
      refine then_n ?_
      refine wp_ret ?_
      refine s_ret hs rfl (.tmp (hs.tmp rfl) .nil) rfl ⟨_, rfl, hs.fr, ?_⟩
      show I _ = I _
      refine congrArg I ?_
      unfold costI
      rcases (by omega : 0 < n ∨ n ≤ 0) with hn | hn
      · rw [Int.max_eq_left (by omega)]
        first | (rw [if_pos (by omega)]; omega) | (rw [if_neg (by omega)]; omega)
      · rw [Int.max_eq_right (by omega), b0]
        first | (rw [if_pos (by omega)]; omega) | (rw [if_neg (by omega)]; omega)
    · try simp only [decide_eq_true_eq, decide_eq_false_iff_not, Bool.not_eq_true', Bool.not_eq_false', Bool.and_eq_true, Bool.or_eq_true, Bool.or_eq_false_iff] at hc
      refine wp_skip ?_
      refine then_n ?_
      refine wp_seq ?_
      refine wp_reg ?_
      refine s_q hs (c_move (hs.ev rfl)) rfl fun ac hs => ?_
      refine s_q hs (c_addI (hs.ev rfl) (hs.ev rfl) (by omega) (by omega)) rfl fun ac hs => ?_
      refine s_q hs (c_assign (hs.ev rfl)) rfl fun ac hs => ?_
      refine s_end ?_
      replace hs := hs.sub (F' := [(4, _)]) ⟨rfl, trivial⟩
      refine then_n ?_
      refine wp_ret ?_
      refine s_ret hs rfl (.tmp (hs.tmp rfl) .nil) rfl ⟨_, rfl, hs.fr, ?_⟩
      show I _ = I _
      refine congrArg I ?_
      unfold costI
      rcases (by omega : 0 < n ∨ n ≤ 0) with hn | hn
      · rw [Int.max_eq_left (by omega)]
        first | (rw [if_pos (by omega)]; omega) | (rw [if_neg (by omega)]; omega)
      · rw [Int.max_eq_right (by omega), b0]
        first | (rw [if_pos (by omega)]; omega) | (rw [if_neg (by omega)]; omega)
  · try simp only [decide_eq_true_eq, decide_eq_false_iff_not, Bool.not_eq_true', Bool.not_eq_false', Bool.and_eq_true, Bool.or_eq_true, Bool.or_eq_false_iff] at hc
    refine wp_skip ?_
    refine then_n ?_
    refine wp_seq ?_
    refine wp_seq ?_
    refine wp_reg ?_
    refine s_q hs (c_move (hs.ev rfl)) rfl fun ac hs => ?_
    refine s_q hs (c_gtrI (hs.ev rfl) (hs.ev rfl)) rfl fun ac hs => ?_
    refine s_end ?_
    replace hs := hs.sub (F' := [(0, _), (4, _), (5, _), (14, _)]) ⟨rfl, rfl, rfl, rfl, trivial⟩
    refine then_n ?_
    refine s_cond hs rfl (fun hc => ?_) (fun hc => ?_)
    · try simp only [decide_eq_true_eq, decide_eq_false_iff_not, Bool.not_eq_true', Bool.not_eq_false', Bool.and_eq_true, Bool.or_eq_true, Bool.or_eq_false_iff] at hc
      refine wp_reg ?_
      refine s_q hs (c_move (hs.ev rfl)) rfl fun ac hs => ?_
      refine s_q hs (c_move (hs.ev rfl)) rfl fun ac hs => ?_
      refine s_call hs fu47 (.cons (hs.ev rfl) .nil) (ref04_Blocks k hk0 hk1 _) rfl fun ac ww v17 hf hp hs => ?_
      obtain rfl := hp
      replace hs := hs [] (.nil _ _)
      refine s_q hs (c_addI (hs.ev rfl) (hs.ev rfl) (by omega) (by omega)) rfl fun ac hs => ?_
      refine s_q hs (c_assign (hs.ev rfl)) rfl fun ac hs => ?_
      refine s_end ?_
      replace hs := hs.sub (F' := [(4, _), (5, _)]) ⟨rfl, rfl, trivial⟩
      refine then_n ?_
      refine wp_seq ?_
      refine wp_reg ?_
      refine s_q hs (c_move (hs.ev rfl)) rfl fun ac hs => ?_
      refine s_q hs (c_addI (hs.ev rfl) (hs.ev rfl) (by omega) (by omega)) rfl fun ac hs => ?_
      refine s_q hs (c_assign (hs.ev rfl)) rfl fun ac hs => ?_
      refine s_end ?_
      replace hs := hs.sub (F' := [(4, _)]) ⟨rfl, trivial⟩
      refine then_n ?_
      refine wp_ret ?_
      refine s_ret hs rfl (.tmp (hs.tmp rfl) .nil) rfl ⟨_, rfl, hs.fr, ?_⟩
      show I _ = I _
      refine congrArg I ?_
      unfold costI
      rcases (by omega : 0 < n ∨ n ≤ 0) with hn | hn
      · rw [Int.max_eq_left (by omega)]
        first | (rw [if_pos (by omega)]; omega) | (rw [if_neg (by omega)]; omega)
      · rw [Int.max_eq_right (by omega), b0]
        first | (rw [if_pos (by omega)]; omega) | (rw [if_neg (by omega)]; omega)
    · try simp only [decide_eq_true_eq, decide_eq_false_iff_not, Bool.not_eq_true', Bool.not_eq_false', Bool.and_eq_true, Bool.or_eq_true, Bool.or_eq_false_iff] at hc
      refine wp_skip ?_
      refine then_n ?_
      refine wp_seq ?_
      refine wp_reg ?_
      refine s_q hs (c_move (hs.ev rfl)) rfl fun ac hs => ?_
      refine s_q hs (c_addI (hs.ev rfl) (hs.ev rfl) (by omega) (by omega)) rfl fun ac hs => ?_
      refine s_q hs (c_assign (hs.ev rfl)) rfl fun ac hs => ?_
      refine s_end ?_
      replace hs := hs.sub (F' := [(4, _)]) ⟨rfl, trivial⟩
      refine then_n ?_
      refine wp_ret ?_
      refine s_ret hs rfl (.tmp (hs.tmp rfl) .nil) rfl ⟨_, rfl, hs.fr, ?_⟩
      show I _ = I _
      refine congrArg I ?_
      unfold costI
      rcases (by omega : 0 < n ∨ n ≤ 0) with hn | hn
      · rw [Int.max_eq_left (by omega)]
        first | (rw [if_pos (by omega)]; omega) | (rw [if_neg (by omega)]; omega)
      · rw [Int.max_eq_right (by omega), b0]
        first | (rw [if_pos (by omega)]; omega) | (rw [if_neg (by omega)]; omega)

-- fingerpostlaw05.awake
set_option maxHeartbeats 4000000 in
theorem law05_awake  (w : World)  : Ctr Try.prog 77 [] w (fun _ => False) (fun v _ => v = .bool true) := by
  refine fn_start (N := 14) Try.func77 rfl rfl rfl fun ac hk => ?_
  have hs := St.start hk w
  refine wp_seq ?_
  refine wp_reg ?_
  refine s_q hs (c_assign (hs.ev rfl)) rfl fun ac hs => ?_
  refine s_end ?_
  refine then_n ?_
  refine wp_seq ?_
  refine wp_reg ?_
  refine s_bslice hs un34 ty5 (.cons (hs.ev rfl) (.cons (hs.ev rfl) (.cons (hs.ev rfl) (.cons (hs.ev rfl) .nil)))) rfl (by simp [Value.cells]) (by decide) rfl rfl fun ac ww g2 hs => ?_
  refine s_mark (i := 0) (l := jefe) hs un34 un34 un5 rfl rfl rfl (by decide) rfl fun ac ww hs => ?_
  refine s_bslice hs un34 ty5 (.cons (hs.ev rfl) (.cons (hs.ev rfl) (.cons (hs.ev rfl) (.cons (hs.ev rfl) (.cons (hs.ev rfl) (.cons (hs.ev rfl) (.cons (hs.ev rfl) (.cons (hs.ev rfl) (.cons (hs.ev rfl) (.cons (hs.ev rfl) (.cons (hs.ev rfl) (.cons (hs.ev rfl) (.cons (hs.ev rfl) (.cons (hs.ev rfl) (.cons (hs.ev rfl) (.cons (hs.ev rfl) (.cons (hs.ev rfl) (.cons (hs.ev rfl) (.cons (hs.ev rfl) (.cons (hs.ev rfl) (.cons (hs.ev rfl) (.cons (hs.ev rfl) (.cons (hs.ev rfl) (.cons (hs.ev rfl) (.cons (hs.ev rfl) (.cons (hs.ev rfl) (.cons (hs.ev rfl) (.cons (hs.ev rfl) .nil)))))))))))))))))))))))))))) rfl (by simp [Value.cells]) (by decide) rfl rfl fun ac ww g4 hs => ?_
  refine s_mark (i := 0) (l := what) hs un34 un34 un5 rfl rfl rfl (by decide) rfl fun ac ww hs => ?_
  refine s_call hs fu78 (.cons (hs.ev rfl) (.cons (hs.ev rfl) .nil)) (mac_Mac jefe what _ _ (by decide) (by decide) _ (hs.get (i := 1) rfl) (hs.get (i := 0) rfl)) rfl fun ac ww v6 hf hp hs => ?_
  obtain rfl := hp
  replace hs := hs [] (.nil _ _)
  refine s_alloc hs ty41 rfl fun ac ww g1 hs => ?_
  refine s_storeW (i := 0) hs ty41 rfl rfl rfl (by simp) (all_map_B _) (by simp) fun ww hs => ?_
  refine s_end ?_
  replace hs := hs.sub (F' := [(0, _), (1, _)]) ⟨rfl, rfl, trivial⟩
  refine then_n ?_
  refine wp_seq ?_
  refine wp_reg ?_
  refine s_q hs (c_sliceAH (j := 4) un41 ty5 (hs.ev rfl) (hs.ev rfl) rfl (by decide)) rfl fun ac hs => ?_
  refine s_call hs fu58 (.cons (hs.ev rfl) .nil) (sha_Hex ((hmac jefe what).take 4) _ (by decide) _ (RdB.take (m := 4) (RdB.segn (l := hmac jefe what) (hs.seg (i := 0) rfl) (hmac_length _ _) (by decide)) (by rw [hmac_length]; decide))) rfl fun ac ww v8 hf hp hs => ?_
  obtain rfl := hp
  replace hs := hs [] (.nil _ _)
  refine s_q hs ((c_eqlTT (m := [53, 98, 100, 99, 99, 49, 52, 54]) (hs.ev rfl) (hs.ev rfl)).trans (by rw [jefe_ok])) rfl fun ac hs => ?_
  refine s_q hs (c_move (hs.ev rfl)) rfl fun ac hs => ?_
  refine s_yes hs rfl rfl ?_
  refine s_call hs fu82 (.cons (hs.ev rfl) (.cons (hs.ev rfl) .nil)) (mac_Cost 32 100 (by omega) (by omega) (by omega) (by omega) _) rfl fun ac ww v11 hf hp hs => ?_
  obtain rfl := hp
  replace hs := hs [] (.nil _ _)
  refine s_yes hs rfl rfl ?_
  refine s_q hs (c_tt (c_eqlI (hs.ev rfl) (hs.ev rfl)) (by decide)) rfl fun ac hs => ?_
  refine s_q hs (c_pick (hs.ev rfl) (hs.ev rfl) (hs.ev rfl)) rfl fun ac hs => ?_
  refine s_q hs (c_assign (hs.ev rfl)) rfl fun ac hs => ?_
  refine s_end ?_
  replace hs := hs.sub (F' := [(0, _)]) ⟨rfl, trivial⟩
  refine then_n ?_
  refine wp_ret ?_
  refine s_ret hs rfl (.tmp (hs.tmp rfl) .nil) rfl ⟨_, rfl, hs.fr, ?_⟩
  rfl

-- fingerpostlaw05.MacTags
set_option maxHeartbeats 4000000 in
theorem law_MacTags (k p : List UInt8) (kv pv : Value) (hkl : k.length ≤ 140737488351232) (hle : p.length ≤ 140737488351232) (w : World) (hqk : RdB w kv k) (hqp : RdB w pv p) : Ctr Try.prog 14 [kv, pv] w (fun _ => False) (fun v _ => v = .bool true) := by
  refine fn_start (N := 24) Try.func14 rfl rfl rfl fun ac hk => ?_
  have hs := St.start hk w
  refine wp_seq ?_
  refine wp_reg ?_
  refine s_q hs (c_assign (hs.ev rfl)) rfl fun ac hs => ?_
  refine s_end ?_
  refine then_n ?_
  refine wp_seq ?_
  refine wp_reg ?_
  refine s_call hs fu77 .nil (law05_awake _) rfl fun ac ww v5 hf hp hs => ?_
  obtain rfl := hp
  replace hs := hs [] (.nil _ _)
  refine s_q hs (c_move (hs.ev rfl)) rfl fun ac hs => ?_
  refine s_yes hs rfl rfl ?_
  refine s_q hs (c_move (hs.ev rfl)) rfl fun ac hs => ?_
  refine s_yes hs rfl rfl ?_
  refine s_q hs (c_move (hs.ev rfl)) rfl fun ac hs => ?_
  refine s_yes hs rfl rfl ?_
  refine s_call hs fu78 (.cons (hs.ev rfl) (.cons (hs.ev rfl) .nil)) (mac_Mac k p _ _ (by omega) (by omega) _ (hqk.fr0 hs.fr) (hqp.fr0 hs.fr)) rfl fun ac ww v9 hf hp hs => ?_
  obtain rfl := hp
  replace hs := hs [] (.nil _ _)
  refine s_yes hs rfl rfl ?_
  refine s_q hs (c_move (hs.ev rfl)) rfl fun ac hs => ?_
  refine s_yes hs rfl rfl ?_
  refine s_q hs (c_move (hs.ev rfl)) rfl fun ac hs => ?_
  refine s_yes hs rfl rfl ?_
  refine s_call hs fu79 (.cons (hs.ev rfl) (.cons (hs.ev rfl) .nil)) (ref05_Mac k p _ _ (by omega) (by omega) _ (hqk.fr0 hs.fr) (hqp.fr0 hs.fr)) rfl fun ac ww v12 hf hp hs => ?_
  obtain rfl := hp
  replace hs := hs [] (.nil _ _)
  refine s_yes hs rfl rfl ?_
  refine s_q hs (c_tt (c_eqlAB un41 ty5 eg41 (hs.ev rfl) (hs.ev rfl) (hmac_length _ _) (hmac_length _ _)) (by simp)) rfl fun ac hs => ?_
  refine s_q hs (c_pick (hs.ev rfl) (hs.ev rfl) (hs.ev rfl)) rfl fun ac hs => ?_
  refine s_q hs (c_move (hs.ev rfl)) rfl fun ac hs => ?_
  refine s_yes hs rfl rfl ?_
  refine s_q hs (c_move (hs.ev rfl)) rfl fun ac hs => ?_
  refine s_yes hs rfl rfl ?_
  refine s_q hs (c_move (hs.ev rfl)) rfl fun ac hs => ?_
  refine s_yes hs rfl rfl ?_
  refine s_call hs fu80 (.cons (hs.ev rfl) (.cons (hs.ev rfl) .nil)) (mac_Tag k p _ _ (by omega) (by omega) _ (hqk.fr0 hs.fr) (hqp.fr0 hs.fr)) rfl fun ac ww v18 hf hp hs => ?_
  obtain rfl := hp
  replace hs := hs [] (.nil _ _)
  refine s_yes hs rfl rfl ?_
  refine s_q hs (c_move (hs.ev rfl)) rfl fun ac hs => ?_
  refine s_yes hs rfl rfl ?_
  refine s_q hs (c_move (hs.ev rfl)) rfl fun ac hs => ?_
  refine s_yes hs rfl rfl ?_
  refine s_call hs fu81 (.cons (hs.ev rfl) (.cons (hs.ev rfl) .nil)) (ref05_Tag k p _ _ (by omega) (by omega) _ (hqk.fr0 hs.fr) (hqp.fr0 hs.fr)) rfl fun ac ww v21 hf hp hs => ?_
  obtain rfl := hp
  replace hs := hs [] (.nil _ _)
  refine s_yes hs rfl rfl ?_
  refine s_q hs (c_tt (c_eqlAB un54 ty5 eg54 (hs.ev rfl) (hs.ev rfl) (tag_length _ _) (tag_length _ _)) (by simp)) rfl fun ac hs => ?_
  refine s_q hs (c_pick (hs.ev rfl) (hs.ev rfl) (hs.ev rfl)) rfl fun ac hs => ?_
  refine s_q hs (c_assign (hs.ev rfl)) rfl fun ac hs => ?_
  refine s_end ?_
  replace hs := hs.sub (F' := [(4, _)]) ⟨rfl, trivial⟩
  refine then_n ?_
  refine wp_ret ?_
  refine s_ret hs rfl (.tmp (hs.tmp rfl) .nil) rfl ⟨_, rfl, hs.fr, ?_⟩
  rfl

end Go.Proofs.Ytmgnnclkjkbmdaa
end

/- Laws of keyed sums, walked: what a seed gives. -/
section
set_option linter.unusedSimpArgs false
set_option linter.unusedVariables false
set_option maxRecDepth 100000
namespace Go.Proofs.Ytmgnnclkjkbmdaa
open Go Go.Fw

open Sha
-- fingerpostlaw05.MacGives
set_option maxHeartbeats 4000000 in
theorem law_MacGives (seed : List UInt8) (kind : UInt8) (nums : List UInt64) (nv : Value) (hsd : seed.length = 32) (hle : nums.length ≤ 17592186044000) (w : World) (hq : RdV w nv nums) : Ctr Try.prog 21 [.agg (seed.map B).toArray, B kind, nv] w (fun _ => False) (fun v _ => v = .bool true) := by
  refine fn_start (N := 19) Try.func21 rfl rfl rfl fun ac hk => ?_
  have hs := St.start hk w
  refine wp_seq ?_
  refine wp_reg ?_
  refine s_box hs rfl rfl rfl fun ac ww g3 hs => ?_
  refine s_q hs (c_assign (hs.ev rfl)) rfl fun ac hs => ?_
  refine s_end ?_
  replace hs := hs.sub (F' := [(1, _), (2, _), (3, _), (6, _)]) ⟨rfl, rfl, rfl, rfl, trivial⟩
  refine then_n ?_
  refine wp_seq ?_
  refine wp_region_rg pmix 13 (by kernel_rfl) rfl hs ?_
  simp only [List.take_succ_cons, List.take_zero]
  refine rg_call fu77 (fun ac ww h => .nil) (fun ww hf => law05_awake _) rfl ?_
  refine rg_q (fun ac ww h => c_move (h.ev rfl)) rfl ?_
  refine rg_yes rfl rfl (fun ac ww h => c_loadW ty40 rfl (h.ev rfl) (h.blk (hs.seg (i := 0) rfl)) (by rw [List.length_map, hsd])) rfl ?_
  refine rg_yes rfl rfl (fun ac ww h => c_move (h.ev rfl)) rfl ?_
  refine rg_yes rfl rfl (fun ac ww h => c_move (h.ev rfl)) rfl ?_
  refine rg_strip rfl rfl ?_
  refine rg_call fu105 (fun ac ww h => (.cons (h.ev rfl) (.cons (h.ev rfl) (.cons (h.ev rfl) .nil)))) (fun ww hf => mac_Prf seed kind nums _ hsd (by omega) ww (Rd.fr0 (Rd.fr0 hq hs.fr) hf)) rfl ?_
  refine rg_yes rfl rfl (fun ac ww h => c_loadW ty40 rfl (h.ev rfl) (h.blk (hs.seg (i := 0) rfl)) (by rw [List.length_map, hsd])) rfl ?_
  refine rg_yes rfl rfl (fun ac ww h => c_move (h.ev rfl)) rfl ?_
  refine rg_yes rfl rfl (fun ac ww h => c_move (h.ev rfl)) rfl ?_
  refine rg_strip rfl rfl ?_
  refine rg_call fu106 (fun ac ww h => (.cons (h.ev rfl) (.cons (h.ev rfl) (.cons (h.ev rfl) .nil)))) (fun ww hf => ref05_Prf seed kind nums _ hsd (by omega) ww (Rd.fr0 (Rd.fr0 hq hs.fr) hf)) rfl ?_
  refine rg_yes rfl rfl (fun ac ww h => c_tt (c_eqlAB un54 ty5 eg54 (h.ev rfl) (h.ev rfl) (prf_length _ _ _) (prf_length _ _ _)) (by simp)) rfl ?_
  refine rg_q (fun ac ww h => c_pick (h.ev rfl) (h.ev rfl) (h.ev rfl)) rfl ?_
  refine rg_q (fun ac ww h => c_assign (h.ev rfl)) rfl ?_
  refine rg_nil fun ac ww L' hf hfe hs => ?_
  simp only [List.drop_succ_cons, List.drop_zero]
  obtain rfl : L' = [] := hfe
  replace hs := hs.toL (List.nil_append _)
  refine s_end ?_
  replace hs := hs.sub (F' := [(6, _)]) ⟨rfl, trivial⟩
  refine then_n ?_
  refine wp_ret ?_
  refine s_ret hs rfl (.tmp (hs.tmp rfl) .nil) rfl ⟨_, rfl, hs.fr, ?_⟩
  rfl

end Go.Proofs.Ytmgnnclkjkbmdaa
end

/- Laws of keyed sums, walked: costs. -/
section
set_option linter.unusedSimpArgs false
set_option linter.unusedVariables false
set_option maxRecDepth 100000
namespace Go.Proofs.Ytmgnnclkjkbmdaa
open Go Go.Fw

open Sha
theorem blocks_rest (n : Nat) : n / 64 + blocks (n % 64) = blocks n := by simp only [blocks]; split <;> split <;> omega
theorem cost_eq (a b : Nat) : costI (a : Int) (b : Int) = (if (a : Int) > 64 then blI a else 0) + (blocks (64 + b) : Nat) + 2 := by
  have h : blI (max (b : Int) 0) = (blocks b : Int) := by rw [Int.max_eq_left (by omega), blI_nat]
  have h2 : blocks (64 + b) = blocks b + 1 := by simp only [blocks]; split <;> split <;> omega
  rw [costI, h, h2]
  omega

-- sha.Hash).Blocks
set_option maxHeartbeats 4000000 in
theorem sha_HBlocks (a : List UInt8) (g : Nat) (rv : Value) (hle : a.length ≤ 140737488355328) (w : World) (hg : w.heap[g]? = some (.cells (hcells a rv).toArray 213 (0, 0))) (hr : RdB w rv (rest a)) : Ctr Try.prog 51 [.pointer (some ⟨g, 0, none⟩)] w (fun _ => False) (fun v _ => v = I (blocks a.length : Nat)) := by
  obtain ⟨rad, rcap, rfl, hrc, hrm⟩ := Rd.sl hr
  have hrl := rest_length a
  have hbb : blocks (rest a).length ≤ 3 := by rw [hrl]; simp only [blocks]; split <;> omega
  refine fn_start (N := 16) Try.func51 rfl rfl rfl fun ac hk => ?_
  have hs := St.start hk w
  refine wp_seq ?_
  refine wp_reg ?_
  refine s_q hs (c_assign (hs.ev rfl)) rfl fun ac hs => ?_
  refine s_end ?_
  refine then_n ?_
  refine wp_seq ?_
  refine wp_seq ?_
  refine wp_reg ?_
  refine s_q hs (c_move (hs.ev rfl)) rfl fun ac hs => ?_
  refine s_q hs (c_eqlNil un48 (hs.ev rfl) (hs.ev rfl)) rfl fun ac hs => ?_
  refine s_end ?_
  replace hs := hs.sub (F' := [(0, _), (2, _), (4, _)]) ⟨rfl, rfl, rfl, trivial⟩
  refine then_n ?_
  refine wp_cond_false (hs.ev rfl) ?_
  refine wp_skip ?_
  refine then_n ?_
  refine wp_seq ?_
  refine wp_region_rg pmix 10 (by kernel_rfl) rfl hs ?_
  simp only [List.take_succ_cons, List.take_zero]
  refine rg_q (fun ac ww h => c_move (h.ev rfl)) rfl ?_
  refine rg_q (fun ac ww h => c_nil (h.ev rfl)) rfl ?_
  refine rg_q (fun ac ww h => c_fld fl213_3 (h.ev rfl)) rfl ?_
  refine rg_q (fun ac ww h => c_loadS un3 rfl (h.ev rfl) (h.blk (hs.old hg id)) rfl) rfl ?_
  refine rg_q (fun ac ww h => c_move (h.ev rfl)) rfl ?_
  refine rg_q (fun ac ww h => c_nil (h.ev rfl)) rfl ?_
  refine rg_q (fun ac ww h => c_fld fl213_1 (h.ev rfl)) rfl ?_
  refine rg_q (fun ac ww h => c_loadS un34 rfl (h.ev rfl) (h.blk (hs.old hg id)) rfl) rfl ?_
  refine rg_q (fun ac ww h => c_lenS un34 (h.ev rfl)) rfl ?_
  refine rg_call fu39 (fun ac ww h => (.cons (h.ev rfl) .nil)) (fun ww hf => sha_Blocks _ (by omega) (by omega) _) rfl ?_
  refine rg_nil fun ac ww L' hf hfe hs => ?_
  simp only [List.drop_succ_cons, List.drop_zero]
  obtain rfl : L' = [] := hfe
  replace hs := hs.toL (List.nil_append _)
  refine s_q hs (c_addI (hs.ev rfl) (hs.ev rfl) (by rw [blI_nat]; omega) (by rw [blI_nat]; omega)) rfl fun ac hs => ?_
  refine s_q hs (c_assign (hs.ev rfl)) rfl fun ac hs => ?_
  refine s_end ?_
  replace hs := hs.sub (F' := [(2, _)]) ⟨rfl, trivial⟩
  refine then_n ?_
  refine wp_ret ?_
  refine s_ret hs rfl (.tmp (hs.tmp rfl) .nil) rfl ⟨_, rfl, hs.fr, ?_⟩
  show I _ = I _
  rw [blI_nat, hrl, ← blocks_rest a.length]
  rfl

-- fingerpostlaw05.MacCosts
set_option maxHeartbeats 4000000 in
theorem law_MacCosts (k n : Nat) (hk : k < 65536) (hn : n < 65536) (w : World)  : Ctr Try.prog 15 [.int .u16 (k : Int), .int .u16 (n : Int)] w (fun _ => False) (fun v _ => v = .bool true) := by
  refine fn_start (N := 50) Try.func15 rfl rfl rfl fun ac hk => ?_
  have hs := St.start hk w
  refine wp_seq ?_
  refine wp_reg ?_
  refine s_q hs (c_assign (hs.ev rfl)) rfl fun ac hs => ?_
  refine s_end ?_
  refine then_n ?_
  refine wp_seq ?_
  refine wp_reg ?_
  refine s_q hs (c_move (hs.ev rfl)) rfl fun ac hs => ?_
  refine s_q hs (c_cvWI un98 un3 (hs.ev rfl) (by omega)) rfl fun ac hs => ?_
  refine s_q hs (c_remI (hs.ev rfl) (hs.ev rfl) (by omega) (by omega)) rfl fun ac hs => ?_
  refine s_q hs (c_move (hs.ev rfl)) rfl fun ac hs => ?_
  refine s_q hs (c_cvWI un98 un3 (hs.ev rfl) (by omega)) rfl fun ac hs => ?_
  refine s_q hs (c_remI (hs.ev rfl) (hs.ev rfl) (by omega) (by omega)) rfl fun ac hs => ?_
  refine s_q hs (c_assign (hs.ev rfl)) rfl fun ac hs => ?_
  refine s_q hs (c_assign (hs.ev rfl)) rfl fun ac hs => ?_
  refine s_end ?_
  replace hs := hs.sub (F' := [(0, _), (1, _), (4, _), (5, _), (6, _)]) ⟨rfl, rfl, rfl, rfl, rfl, trivial⟩
  refine then_n ?_
  refine wp_seq ?_
  refine wp_reg ?_
  refine s_call hs fu48 .nil (sha_New _) rfl fun ac ww v15 hf hp hs => ?_
  obtain ⟨ga, rfl, hh⟩ := hp
  replace hs := hs _ (Has.grp' hh)
  refine s_q hs (c_assign (hs.ev rfl)) rfl fun ac hs => ?_
  refine s_end ?_
  replace hs := hs.sub (F' := [(0, _), (1, _), (4, _), (5, _), (6, _), (7, _)]) ⟨rfl, rfl, rfl, rfl, rfl, rfl, trivial⟩
  refine then_n ?_
  refine wp_seq ?_
  refine wp_reg ?_
  refine s_q hs (c_move (hs.ev rfl)) rfl fun ac hs => ?_
  refine s_q hs (c_move (hs.ev rfl)) rfl fun ac hs => ?_
  refine s_q hs (c_addI (hs.ev rfl) (hs.ev rfl) (by omega) (by omega)) rfl fun ac hs => ?_
  refine s_make (n := (64 + n % 2000)) hs un34 ty5 rfl rfl (by omega) (by omega) (by omega) (by unfold maxLen; omega) rfl fun ac ww g19 hs => ?_
  rw [flat1'] at hs
  refine s_callM (i := 1) hs fu49 (.cons (hs.ev rfl) (.cons (hs.ev rfl) .nil)) rfl (sha_Write [] (List.replicate (64 + n % 2000) 0) ga _ _ (by simp; omega) _ (hs.get (i := 1) rfl) (RdB.segn (hs.seg (i := 0) rfl) (List.length_replicate ..) (by unfold maxLen; omega)) (fun _ => hs.seg_apart (i := 0) (j := 1) rfl rfl (by decide))) rfl fun ac ww v20 hf hp hs => ?_
  obtain ⟨rv, h1, h2⟩ := hp
  replace hs := hs (Ent.grp (hash ga rv ([] ++ List.replicate (64 + n % 2000) 0))) h1 (fun k hk => ⟨h2 k hk, grp_lt h1 k hk⟩)
  refine s_end ?_
  replace hs := hs.sub (F' := [(0, _), (1, _), (4, _), (5, _), (6, _), (7, _)]) ⟨rfl, rfl, rfl, rfl, rfl, rfl, trivial⟩
  refine then_n ?_
  refine wp_seq ?_
  refine wp_reg ?_
  refine s_q hs (c_assign (hs.ev rfl)) rfl fun ac hs => ?_
  refine s_end ?_
  refine then_n ?_
  refine wp_seq ?_
  refine wp_seq ?_
  refine wp_reg ?_
  refine s_q hs (c_move (hs.ev rfl)) rfl fun ac hs => ?_
  refine s_q hs (c_gtrI (hs.ev rfl) (hs.ev rfl)) rfl fun ac hs => ?_
  refine s_end ?_
  replace hs := hs.sub (F' := [(0, _), (1, _), (4, _), (5, _), (6, _), (7, _), (8, _), (22, _)]) ⟨rfl, rfl, rfl, rfl, rfl, rfl, rfl, rfl, trivial⟩
  refine then_n ?_
  refine s_cond hs rfl (fun hc => ?_) (fun hc => ?_)
  · try simp only [decide_eq_true_eq, decide_eq_false_iff_not, Bool.not_eq_true', Bool.not_eq_false', Bool.and_eq_true, Bool.or_eq_true, Bool.or_eq_false_iff] at hc
    refine wp_reg ?_
    refine s_q hs (c_move (hs.ev rfl)) rfl fun ac hs => ?_
    refine s_call hs fu39 (.cons (hs.ev rfl) .nil) (sha_Blocks _ (by omega) (by omega) _) rfl fun ac ww v24 hf hp hs => ?_
    obtain rfl := hp
    replace hs := hs [] (.nil _ _)
    refine s_q hs (c_assign (hs.ev rfl)) rfl fun ac hs => ?_
    refine s_end ?_
    replace hs := hs.sub (F' := [(0, _), (1, _), (4, _), (5, _), (6, _), (7, _), (8, _)]) ⟨rfl, rfl, rfl, rfl, rfl, rfl, rfl, trivial⟩
    refine then_n ?_
    refine wp_seq ?_
    have hb1 := blI_bd ((k : Int) % 300) (by omega)
    have hb2 : blocks ([] ++ List.replicate (64 + n % 2000) (0 : UInt8)).length ≤ 40 := by rw [List.nil_append, List.length_replicate]; simp only [blocks]; split <;> omega
    refine wp_reg ?_
    refine s_call hs fu77 .nil (law05_awake _) rfl fun ac ww v25 hf hp hs => ?_
    obtain rfl := hp
    replace hs := hs [] (.nil _ _)
    refine s_q hs (c_move (hs.ev rfl)) rfl fun ac hs => ?_
    refine s_yes hs rfl rfl ?_
    refine s_q hs (c_move (hs.ev rfl)) rfl fun ac hs => ?_
    refine s_yes hs rfl rfl ?_
    refine s_q hs (c_cvWI un98 un3 (hs.ev rfl) (by omega)) rfl fun ac hs => ?_
    refine s_yes hs rfl rfl ?_
    refine s_q hs (c_move (hs.ev rfl)) rfl fun ac hs => ?_
    refine s_yes hs rfl rfl ?_
    refine s_q hs (c_cvWI un98 un3 (hs.ev rfl) (by omega)) rfl fun ac hs => ?_
    refine s_yes hs rfl rfl ?_
    refine s_call hs fu82 (.cons (hs.ev rfl) (.cons (hs.ev rfl) .nil)) (mac_Cost _ _ (by omega) (by omega) (by omega) (by omega) _) rfl fun ac ww v31 hf hp hs => ?_
    obtain rfl := hp
    replace hs := hs [] (.nil _ _)
    refine s_yes hs rfl rfl ?_
    refine s_q hs (c_move (hs.ev rfl)) rfl fun ac hs => ?_
    refine s_yes hs rfl rfl ?_
    refine s_q hs (c_cvWI un98 un3 (hs.ev rfl) (by omega)) rfl fun ac hs => ?_
    refine s_yes hs rfl rfl ?_
    refine s_q hs (c_move (hs.ev rfl)) rfl fun ac hs => ?_
    refine s_yes hs rfl rfl ?_
    refine s_q hs (c_cvWI un98 un3 (hs.ev rfl) (by omega)) rfl fun ac hs => ?_
    refine s_yes hs rfl rfl ?_
    refine s_call hs fu83 (.cons (hs.ev rfl) (.cons (hs.ev rfl) .nil)) (ref05_Cost _ _ (by omega) (by omega) (by omega) (by omega) _) rfl fun ac ww v36 hf hp hs => ?_
    obtain rfl := hp
    replace hs := hs [] (.nil _ _)
    refine s_yes hs rfl rfl ?_
    refine s_q hs (c_tt (c_eqlI (hs.ev rfl) (hs.ev rfl)) (by simp)) rfl fun ac hs => ?_
    refine s_q hs (c_pick (hs.ev rfl) (hs.ev rfl) (hs.ev rfl)) rfl fun ac hs => ?_
    refine s_q hs (c_move (hs.ev rfl)) rfl fun ac hs => ?_
    refine s_yes hs rfl rfl ?_
    refine s_q hs (c_move (hs.ev rfl)) rfl fun ac hs => ?_
    refine s_yes hs rfl rfl ?_
    refine s_q hs (c_move (hs.ev rfl)) rfl fun ac hs => ?_
    refine s_yes hs rfl rfl ?_
    refine s_call hs fu82 (.cons (hs.ev rfl) (.cons (hs.ev rfl) .nil)) (mac_Cost _ _ (by omega) (by omega) (by omega) (by omega) _) rfl fun ac ww v42 hf hp hs => ?_
    obtain rfl := hp
    replace hs := hs [] (.nil _ _)
    refine s_yes hs rfl rfl ?_
    refine s_q hs (c_move (hs.ev rfl)) rfl fun ac hs => ?_
    refine s_yes hs rfl rfl ?_
    refine s_q hs (c_move (hs.ev rfl)) rfl fun ac hs => ?_
    refine s_yes hs rfl rfl ?_
    refine s_call hs fu51 (.cons (hs.ev rfl) .nil) (sha_HBlocks ([] ++ List.replicate (64 + n % 2000) 0) ga rv (by simp; omega) _ (hash_get (hs.get (i := 1) rfl)).1 (hash_get (hs.get (i := 1) rfl)).2) rfl fun ac ww v45 hf hp hs => ?_
    obtain rfl := hp
    replace hs := hs [] (.nil _ _)
    refine s_yes hs rfl rfl ?_
    refine s_q hs (c_addI (hs.ev rfl) (hs.ev rfl) (by omega) (by omega)) rfl fun ac hs => ?_
    refine s_yes hs rfl rfl ?_
    refine s_q hs (c_addI (hs.ev rfl) (hs.ev rfl) (by omega) (by omega)) rfl fun ac hs => ?_
    refine s_yes hs rfl rfl ?_
    refine s_q hs (c_tt (c_eqlI (hs.ev rfl) (hs.ev rfl)) (by
          have hce := cost_eq (k % 300) (n % 2000)
          simp only [Int.natCast_emod, Int.cast_ofNat_Int] at hce
          simp only [List.nil_append, List.length_replicate, decide_eq_true_eq]
          first | (rw [if_pos (by omega)] at hce; omega) | (rw [if_neg (by omega)] at hce; omega))) rfl fun ac hs => ?_
    refine s_q hs (c_pick (hs.ev rfl) (hs.ev rfl) (hs.ev rfl)) rfl fun ac hs => ?_
    refine s_q hs (c_assign (hs.ev rfl)) rfl fun ac hs => ?_
    refine s_end ?_
    replace hs := hs.sub (F' := [(4, _)]) ⟨rfl, trivial⟩
    refine then_n ?_
    refine wp_ret ?_
    refine s_ret hs rfl (.tmp (hs.tmp rfl) .nil) rfl ⟨_, rfl, hs.fr, ?_⟩
    rfl
  · try simp only [decide_eq_true_eq, decide_eq_false_iff_not, Bool.not_eq_true', Bool.not_eq_false', Bool.and_eq_true, Bool.or_eq_true, Bool.or_eq_false_iff] at hc
    refine wp_skip ?_
    refine then_n ?_
    refine wp_seq ?_
    have hb1 := blI_bd ((k : Int) % 300) (by omega)
    have hb2 : blocks ([] ++ List.replicate (64 + n % 2000) (0 : UInt8)).length ≤ 40 := by rw [List.nil_append, List.length_replicate]; simp only [blocks]; split <;> omega
    refine wp_reg ?_
    refine s_call hs fu77 .nil (law05_awake _) rfl fun ac ww v25 hf hp hs => ?_
    obtain rfl := hp
    replace hs := hs [] (.nil _ _)
    refine s_q hs (c_move (hs.ev rfl)) rfl fun ac hs => ?_
    refine s_yes hs rfl rfl ?_
    refine s_q hs (c_move (hs.ev rfl)) rfl fun ac hs => ?_
    refine s_yes hs rfl rfl ?_
    refine s_q hs (c_cvWI un98 un3 (hs.ev rfl) (by omega)) rfl fun ac hs => ?_
    refine s_yes hs rfl rfl ?_
    refine s_q hs (c_move (hs.ev rfl)) rfl fun ac hs => ?_
    refine s_yes hs rfl rfl ?_
    refine s_q hs (c_cvWI un98 un3 (hs.ev rfl) (by omega)) rfl fun ac hs => ?_
    refine s_yes hs rfl rfl ?_
    refine s_call hs fu82 (.cons (hs.ev rfl) (.cons (hs.ev rfl) .nil)) (mac_Cost _ _ (by omega) (by omega) (by omega) (by omega) _) rfl fun ac ww v31 hf hp hs => ?_
    obtain rfl := hp
    replace hs := hs [] (.nil _ _)
    refine s_yes hs rfl rfl ?_
    refine s_q hs (c_move (hs.ev rfl)) rfl fun ac hs => ?_
    refine s_yes hs rfl rfl ?_
    refine s_q hs (c_cvWI un98 un3 (hs.ev rfl) (by omega)) rfl fun ac hs => ?_
    refine s_yes hs rfl rfl ?_
    refine s_q hs (c_move (hs.ev rfl)) rfl fun ac hs => ?_
    refine s_yes hs rfl rfl ?_
    refine s_q hs (c_cvWI un98 un3 (hs.ev rfl) (by omega)) rfl fun ac hs => ?_
    refine s_yes hs rfl rfl ?_
    refine s_call hs fu83 (.cons (hs.ev rfl) (.cons (hs.ev rfl) .nil)) (ref05_Cost _ _ (by omega) (by omega) (by omega) (by omega) _) rfl fun ac ww v36 hf hp hs => ?_
    obtain rfl := hp
    replace hs := hs [] (.nil _ _)
    refine s_yes hs rfl rfl ?_
    refine s_q hs (c_tt (c_eqlI (hs.ev rfl) (hs.ev rfl)) (by simp)) rfl fun ac hs => ?_
    refine s_q hs (c_pick (hs.ev rfl) (hs.ev rfl) (hs.ev rfl)) rfl fun ac hs => ?_
    refine s_q hs (c_move (hs.ev rfl)) rfl fun ac hs => ?_
    refine s_yes hs rfl rfl ?_
    refine s_q hs (c_move (hs.ev rfl)) rfl fun ac hs => ?_
    refine s_yes hs rfl rfl ?_
    refine s_q hs (c_move (hs.ev rfl)) rfl fun ac hs => ?_
    refine s_yes hs rfl rfl ?_
    refine s_call hs fu82 (.cons (hs.ev rfl) (.cons (hs.ev rfl) .nil)) (mac_Cost _ _ (by omega) (by omega) (by omega) (by omega) _) rfl fun ac ww v42 hf hp hs => ?_
    obtain rfl := hp
    replace hs := hs [] (.nil _ _)
    refine s_yes hs rfl rfl ?_
    refine s_q hs (c_move (hs.ev rfl)) rfl fun ac hs => ?_
    refine s_yes hs rfl rfl ?_
    refine s_q hs (c_move (hs.ev rfl)) rfl fun ac hs => ?_
    refine s_yes hs rfl rfl ?_
    refine s_call hs fu51 (.cons (hs.ev rfl) .nil) (sha_HBlocks ([] ++ List.replicate (64 + n % 2000) 0) ga rv (by simp; omega) _ (hash_get (hs.get (i := 1) rfl)).1 (hash_get (hs.get (i := 1) rfl)).2) rfl fun ac ww v45 hf hp hs => ?_
    obtain rfl := hp
    replace hs := hs [] (.nil _ _)
    refine s_yes hs rfl rfl ?_
    refine s_q hs (c_addI (hs.ev rfl) (hs.ev rfl) (by omega) (by omega)) rfl fun ac hs => ?_
    refine s_yes hs rfl rfl ?_
    refine s_q hs (c_addI (hs.ev rfl) (hs.ev rfl) (by omega) (by omega)) rfl fun ac hs => ?_
    refine s_yes hs rfl rfl ?_
    refine s_q hs (c_tt (c_eqlI (hs.ev rfl) (hs.ev rfl)) (by
          have hce := cost_eq (k % 300) (n % 2000)
          simp only [Int.natCast_emod, Int.cast_ofNat_Int] at hce
          simp only [List.nil_append, List.length_replicate, decide_eq_true_eq]
          first | (rw [if_pos (by omega)] at hce; omega) | (rw [if_neg (by omega)] at hce; omega))) rfl fun ac hs => ?_
    refine s_q hs (c_pick (hs.ev rfl) (hs.ev rfl) (hs.ev rfl)) rfl fun ac hs => ?_
    refine s_q hs (c_assign (hs.ev rfl)) rfl fun ac hs => ?_
    refine s_end ?_
    replace hs := hs.sub (F' := [(4, _)]) ⟨rfl, trivial⟩
    refine then_n ?_
    refine wp_ret ?_
    refine s_ret hs rfl (.tmp (hs.tmp rfl) .nil) rfl ⟨_, rfl, hs.fr, ?_⟩
    rfl

end Go.Proofs.Ytmgnnclkjkbmdaa
end
