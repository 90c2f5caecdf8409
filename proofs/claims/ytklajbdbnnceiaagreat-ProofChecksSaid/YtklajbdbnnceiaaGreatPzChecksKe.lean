/- Own texts of this seat, laid together for one claim (with what its proof uses alone). -/
import Derived.Test.YtklajbdbnnceiaaGreatPzChecksKd
section
/- What a spring tells: paths, elements. -/
set_option linter.unusedSimpArgs false
set_option linter.unusedVariables false
set_option maxRecDepth 100000
namespace Go.Proofs.YtklajbdbnnceiaaGreat
open Go Go.Fw
open Sha
theorem SpAt.after {w w1 w2 w3 : World} {p : Spr} {lk : Int} {K K' : Nat → Option Value} {t : Option Value} {M : Nat → Prop} (hsp : SpAt w p lk K t) (hsp2 : SpAt w2 p lk K' t) (hsn : ∀ q, q < p.m → ∀ v, K' q = some v → K q = some v ∨ freshV w1 v) (h03 : Fr (SpM p) w w3) (h23 : Fr M w2 w3)
    (hM : ∀ k, M k → k = p.g ∨ k = p.cg ∨ w.heap.size ≤ k ∧ k < w1.heap.size) (hg3 : w3.heap[p.g]? = w2.heap[p.g]?) (hc3 : w3.heap[p.cg]? = w2.heap[p.cg]?) : SpAt w3 p lk K' t := by
  have hM2 : ∀ k, M k → k = p.g ∨ k = p.cg ∨ k < w1.heap.size := fun k hk => (hM k hk).imp id fun h => h.imp id fun h => h.2
  refine ⟨hg3.trans hsp2.hg, hc3.trans hsp2.hc, fun q hq v hv => ?_, fun v hv => ⟨(hsp.tree v hv).1.fr h03, (hsp2.tree v hv).2⟩⟩
  rcases hsn q hq v hv with h | h
  · exact (hsp.col q hq v h).fr h03
  · have hc := hsp2.col q hq v hv
    refine hc.frk h23 fun k hk hm => ?_
    have h5 := h k hk
    obtain ⟨b, cap, cur, rfl, _, _, _, _, h6, h7⟩ := hc
    simp only [Value.ownBlock, Option.some.injEq] at hk
    subst hk
    rcases hM2 _ hm with e | e | e
    · exact h6 e
    · exact h7 e
    · omega
set_option maxHeartbeats 4000000 in
theorem spring_Path (p : Spr) (ho : p.Ok) (K : Nat → Option Value) (t : Option Value) (i : Int) (w : World) (hsp : SpAt w p 0 K t) : Ctr Tryz.prog 17 [.pointer (some ⟨p.g, 0, none⟩), I i] w (SpM p) (fun v w' => ∃ tv, v = .tuple #[tv, I (lfE p.m i)] ∧ Rd w' tv (pN p.m p.H i) ((pW p.d p.ep (ends p p.m) p.m p.H i).map B) ∧ (∀ k, tv.ownBlock = some k → w.heap.size ≤ k ∧ ¬ SpM p k) ∧ ∃ K' pv, SpTree w' p K t pv K' ∧ SpNew w w' p K t pv K') := by
  have hls := ends_len p
  have hls16 : (ends p p.m).length = 16 * p.m := by omega
  refine fn_start (N := 14) Tryz.func17 rfl rfl rfl fun ac hk => ?_
  have hs := St.start2 hk ho.ne hsp.hg hsp.hc
  refine wp_seq ?_
  refine wp_reg ?_
  refine s_q hs (c_assign (hs.ev rfl)) rfl fun ac hs => ?_
  refine s_q hs (c_assign (hs.ev rfl)) rfl fun ac hs => ?_
  refine s_end ?_
  refine then_n ?_
  refine wp_seq ?_
  refine wp_seq ?_
  refine wp_reg ?_
  refine s_q hs (c_move (hs.ev rfl)) rfl fun ac hs => ?_
  refine s_q hs (c_eqlNil un29 (hs.ev rfl) (hs.ev rfl)) rfl fun ac hs => ?_
  refine s_end ?_
  replace hs := hs.sub (F' := [(0, _), (1, _), (4, _), (5, _), (7, _)]) ⟨rfl, rfl, rfl, rfl, rfl, trivial⟩
  refine then_n ?_
  refine wp_cond_false (hs.ev rfl) ?_
  refine wp_skip ?_
  refine then_n ?_
  refine wp_seq ?_
  refine wp_reg ?_
  refine s_q hs (c_move (hs.ev rfl)) rfl fun ac hs => ?_
  have hsz1 := hs.fr.size
  refine s_callL hs fu65 (.cons (hs.ev rfl) .nil) (spring_whole p ho K t _ (hsp.re hs.fr (hs.seg (i := 0) rfl) (hs.seg (i := 1) rfl) (fun _ _ _ h => .inl h) fun v h => ⟨.inl h, (hsp.tree v h).2⟩)) (fun k _ h => .inl h) rfl fun ac ww v9 hf hp hs => ?_
  obtain ⟨K', hst, hsn⟩ := hp
  replace hs := hs [.seg p.g _ 149, .seg p.cg _ 203] (has2 ho.ne hst.1.hg hst.1.hc) own2
  refine s_q hs (c_move (hs.ev rfl)) rfl fun ac hs => ?_
  refine s_call hs fu66 (.cons (hs.ev rfl) (.cons (hs.ev rfl) .nil)) (grove_Path p.d p.ep (ends p p.m) p.m p.H _ hls ho.h6 rfl i _ (hst.1.tree _ rfl).1.grove) rfl fun ac ww v11 hf hp hs => ?_
  have hf11 := hf
  obtain ⟨L', ⟨tv1, rfl, rfl⟩, hh⟩ := hp
  replace hs := hs _ hh
  refine s_q hs (c_extract (hs.ev rfl) rfl) rfl fun ac hs => ?_
  refine s_q hs (c_extract (hs.ev rfl) rfl) rfl fun ac hs => ?_
  refine s_q hs (c_assign (hs.ev rfl)) rfl fun ac hs => ?_
  refine s_q hs (c_assign (hs.ev rfl)) rfl fun ac hs => ?_
  refine s_end ?_
  replace hs := hs.sub (F' := [(4, _), (5, _)]) ⟨rfl, rfl, trivial⟩
  refine then_n ?_
  refine wp_ret ?_
  refine s_ret hs rfl (.tmp (hs.tmp rfl) (.tmp (hs.tmp rfl) .nil)) rfl ⟨_, rfl, hs.fr, ?_⟩
  have h9 := SpTree.after hsp hst hsn hsz1 hs.fr hf11 (fun k hk => hk.elim) (hf11.block _ (heap_lt hst.1.hg) id) (hf11.block _ (heap_lt hst.1.hc) id)
  have hap : ∀ k, tv1.ownBlock = some k → ¬ SpM p k := fun k hk hm => hm.elim (apart_at hs.has.apart (i := 0) (j := 1) rfl rfl (by decide) k hk) (apart_at hs.has.apart (i := 0) (j := 2) rfl rfl (by decide) k hk)
  exact ⟨_, rfl, Rd.of_row (hs.get (i := 0) rfl), fun k hk => ⟨(hs.own _ (List.mem_of_getElem? (i := 0) rfl) k hk).resolve_right (hap k hk), hap k hk⟩, K', _, h9.1, h9.2⟩
set_option maxHeartbeats 4000000 in
theorem spring_Element (p : Spr) (ho : p.Ok) (K : Nat → Option Value) (t : Option Value) (q r : Int) (w : World) (hsp : SpAt w p 0 K t) : Ctr Tryz.prog 16 [.pointer (some ⟨p.g, 0, none⟩), I q, I r] w (SpM p) (fun v w' => v = .tuple #[.agg ((elB p q r).map B).toArray, I (elR p q r)] ∧ ∃ K', SpAt w' p 0 K' t ∧ elK p K q r K' ∧ ∀ k, k < p.m → ∀ v, K' k = some v → K k = some v ∨ freshV w v) := by
  refine fn_start (N := 44) Tryz.func16 rfl rfl rfl fun ac hk => ?_
  have hs := St.start2 hk ho.ne hsp.hg hsp.hc
  refine wp_seq ?_
  refine wp_reg ?_
  refine s_alloc hs ty36 rfl fun ac ww g6 hs => ?_
  refine s_q hs (c_assign (hs.ev rfl)) rfl fun ac hs => ?_
  refine s_end ?_
  refine then_n ?_
  refine wp_seq ?_
  refine wp_block ?_
  refine wp_seq ?_
  refine wp_reg ?_
  refine s_q hs (c_move (hs.ev rfl)) rfl fun ac hs => ?_
  refine s_q hs (c_eqlNil un29 (hs.ev rfl) (hs.ev rfl)) rfl fun ac hs => ?_
  refine s_q hs (c_assign (hs.ev rfl)) rfl fun ac hs => ?_
  refine s_end ?_
  replace hs := hs.sub (F' := [(0, _), (1, _), (2, _), (6, _), (7, _), (8, _)]) ⟨rfl, rfl, rfl, rfl, rfl, rfl, trivial⟩
  refine then_n ?_
  refine wp_cond_false (hs.ev rfl) ?_
  refine wp_seq ?_
  refine wp_reg ?_
  refine s_q hs (c_move (hs.ev rfl)) rfl fun ac hs => ?_
  refine s_q hs (c_lssI (hs.ev rfl) (hs.ev rfl)) rfl fun ac hs => ?_
  refine s_q hs (c_move (hs.ev rfl)) rfl fun ac hs => ?_
  refine s_g hs rfl rfl (fun hg => c_move (hs.ev rfl)) rfl fun ac hs => ?_
  refine s_g hs rfl rfl (fun hg => c_move (hs.ev rfl)) rfl fun ac hs => ?_
  refine s_g hs rfl rfl (fun hg => c_nil (gev (hs.ev rfl) hg)) rfl fun ac hs => ?_
  refine s_g hs rfl rfl (fun hg => c_fld fl149_4 (gev (hs.ev rfl) hg)) rfl fun ac hs => ?_
  refine s_g hs rfl rfl (fun hg => c_loadS un132 rfl (gev (hs.ev rfl) hg) (hs.seg (i := 1) rfl) ((sprC_at ho.seed 2).trans rfl)) rfl fun ac hs => ?_
  refine s_g hs rfl rfl (fun hg => c_lenS un132 (gev (hs.ev rfl) hg)) rfl fun ac hs => ?_
  refine s_g hs rfl rfl (fun hg => c_geqI (gev (hs.ev rfl) hg) (gev (hs.ev rfl) hg)) rfl fun ac hs => ?_
  refine s_q hs (c_or (hs.ev rfl) (hs.ev rfl)) rfl fun ac hs => ?_
  refine s_q hs (c_move (hs.ev rfl)) rfl fun ac hs => ?_
  refine s_g hs rfl rfl (fun hg => c_move (hs.ev rfl)) rfl fun ac hs => ?_
  refine s_g hs rfl rfl (fun hg => c_lssI (gev (hs.ev rfl) hg) (hs.ev rfl)) rfl fun ac hs => ?_
  refine s_q hs (c_or (hs.ev rfl) (hs.ev rfl)) rfl fun ac hs => ?_
  refine s_q hs (c_move (hs.ev rfl)) rfl fun ac hs => ?_
  refine s_g hs rfl rfl (fun hg => c_move (hs.ev rfl)) rfl fun ac hs => ?_
  refine s_g hs rfl rfl (fun hg => c_move (hs.ev rfl)) rfl fun ac hs => ?_
  refine s_g hs rfl rfl (fun hg => c_nil (gev (hs.ev rfl) hg)) rfl fun ac hs => ?_
  refine s_g hs rfl rfl (fun hg => c_fld fl149_0 (gev (hs.ev rfl) hg)) rfl fun ac hs => ?_
  refine s_g hs rfl rfl (fun hg => c_fld fl33_1 (gev (hs.ev rfl) hg)) rfl fun ac hs => ?_
  refine s_g hs rfl rfl (fun hg => c_loadS un3 rfl (gev (hs.ev rfl) hg) (hs.seg (i := 1) rfl) rfl) rfl fun ac hs => ?_
  refine s_g hs rfl rfl (fun hg => c_gtrI (gev (hs.ev rfl) hg) (gev (hs.ev rfl) hg)) rfl fun ac hs => ?_
  refine s_q hs (c_or (hs.ev rfl) (hs.ev rfl)) rfl fun ac hs => ?_
  refine s_q hs (c_assign (hs.ev rfl)) rfl fun ac hs => ?_
  refine s_end ?_
  replace hs := hs.sub (F' := [(0, _), (1, _), (2, _), (6, _), (7, _), (12, _)]) ⟨rfl, rfl, rfl, rfl, rfl, rfl, trivial⟩
  refine then_n ?_
  refine s_cond hs rfl (fun hc => ?_) (fun hc => ?_)
  · simp only [Bool.or_eq_true, decide_eq_true_eq] at hc
    have hno : ¬ elOk p q r = true := fun h => by
      rw [elOk_iff] at h
      omega
    refine wp_seq ?_
    refine wp_reg ?_
    refine s_q hs (c_buildA ty36 un36 ty5 (zc := (List.replicate 16 (0 : UInt8)).map B) (vs := []) .nil (by simp) (by simp [flatCells]) rfl) rfl fun ac hs => ?_
    refine s_storeW (i := 0) hs ty36 rfl rfl rfl (by simp) (all_map_B _) rfl fun ww hs => ?_
    refine s_q hs (c_assign (hs.ev rfl)) rfl fun ac hs => ?_
    refine s_end ?_
    replace hs := hs.sub (F' := [(0, _), (1, _), (2, _), (6, _), (7, _)]) ⟨rfl, rfl, rfl, rfl, rfl, trivial⟩
    refine then_n ?_
    refine wp_ret ?_
    refine blk_r ?_
    refine then_r ?_
    refine s_ret hs rfl (.cell (hs.tmp rfl) (run_loadA ty36 rfl (hs.seg (i := 0) rfl) (List.take_of_length_le (by simp)) (by simp)) (.tmp (hs.tmp rfl) .nil)) rfl ⟨_, rfl, hs.fr, ?_⟩
    rw [elB, elR, if_neg hno, if_neg hno]
    exact ⟨rfl, K, hsp.re hs.fr (hs.seg (i := 1) rfl) (hs.seg (i := 2) rfl) (fun _ _ _ h => .inl h) fun v h => ⟨.inl h, (hsp.tree v h).2⟩, (by rw [elK, if_neg hno]), fun _ _ _ => .inl⟩
  · simp only [Bool.or_eq_false_iff, decide_eq_false_iff_not] at hc
    have hyes : elOk p q r = true := elOk_iff.2 (by omega)
    obtain ⟨qn, rfl⟩ := int_of (show 0 ≤ q by omega)
    obtain ⟨rn, rfl⟩ := int_of (show 0 ≤ r by omega)
    have hqm : qn < p.m := by omega
    have hrS : rn ≤ p.S := by omega
    refine wp_skip ?_
    refine blk_n ?_
    refine then_n ?_
    refine wp_seq ?_
    refine wp_reg ?_
    refine s_q hs (c_move (hs.ev rfl)) rfl fun ac hs => ?_
    refine s_q hs (c_move (hs.ev rfl)) rfl fun ac hs => ?_
    have hs1 := hs
    obtain ⟨ww1, hww1⟩ : ∃ z, z = ww := ⟨_, rfl⟩
    refine s_callL hs fu64 (.cons (hs.ev rfl) (.cons (hs.ev rfl) .nil)) (spring_column p ho qn hqm 0 K t _ (hsp.re hs.fr (hs.seg (i := 1) rfl) (hs.seg (i := 2) rfl) (fun _ _ _ h => .inl h) fun v h => ⟨.inl h, (hsp.tree v h).2⟩)) (fun k _ h => .inl h) rfl fun ac ww v40 hf hp hs => ?_
    obtain ⟨hcu, hsp2, hfv⟩ := hp
    rw [← hww1] at hfv
    obtain ⟨b, cap, cur, rfl, hb9, hpc⟩ := (hsp2.col qn hqm v40 (updF_same _ _ _)).rd
    obtain ⟨ha1, ha2⟩ := keepB ho hs1 hf hsp2.hg hsp2.hc
    replace hs := hs [.seg g6 _ 36, .seg p.g _ 149, .seg p.cg _ 203] ha1 ha2
    have hfr0 := hs.fr
    have hown0 := hs.own
    have hg2a := (hs1.own _ (List.mem_of_getElem? (i := 0) rfl) g6 rfl).resolve_right (fun hm => hm.elim (apart_at hs1.has.apart (i := 0) (j := 1) rfl rfl (by decide) g6 rfl) (apart_at hs1.has.apart (i := 0) (j := 2) rfl rfl (by decide) g6 rfl))
    have hg2b := hww1 ▸ hs1.has.lt _ (List.mem_of_getElem? (i := 0) rfl) g6 rfl
    have hsz1 := hww1 ▸ hs1.fr.size
    replace hs := hs.rebase
    have hnew : ∀ k, k < p.m → ∀ v, updF K qn (some (.slice (some ⟨b, 0, none⟩) (p.S + 1) cap)) k = some v → K k = some v ∨ freshV ww1 v := fun k hk v hv => by
      unfold updF at hv
      split at hv
      · rename_i e
        subst e
        cases hv
        cases h : K k with
        | none => exact .inr (hfv h)
        | some u => rw [hcu u h]; exact .inl rfl
      · exact .inl hv
    refine s_q hs (c_move (hs.ev rfl)) rfl fun ac hs => ?_
    refine s_q hs (c_idxS (j := rn) un39 ty36 (hs.ev rfl) (hs.ev rfl) (by omega) (by omega)) rfl fun ac hs => ?_
    refine s_q hs (c_loadA ty36 rfl (hs.ev rfl) hb9 (hpc rn hrS) (by rw [List.length_map, el_length])) rfl fun ac hs => ?_
    refine s_storeW (i := 0) hs ty36 rfl rfl rfl (by rw [List.length_map, el_length]) (all_map_B _) rfl fun ww hs => ?_
    refine s_q hs (c_assign (hs.ev rfl)) rfl fun ac hs => ?_
    refine s_end ?_
    replace hs := hs.sub (F' := [(6, _), (7, _)]) ⟨rfl, rfl, trivial⟩
    refine then_n ?_
    refine wp_ret ?_
    refine s_ret hs rfl (.cell (hs.tmp rfl) (run_loadA ty36 rfl (hs.seg (i := 0) rfl) (List.take_of_length_le (show (List.map B (el p qn rn)).length ≤ 16 by rw [List.length_map, el_length]; exact Nat.le_refl _)) (show (List.map B (el p qn rn)).length = 16 by rw [List.length_map, el_length])) (.tmp (hs.tmp rfl) .nil)) rfl ⟨_, rfl, (Fr.rebase hfr0 hown0 hs.fr), ?_⟩
    have h9 := SpAt.after hsp hsp2 hnew (Fr.rebase hfr0 hown0 hs.fr) hs.fr (fun k ⟨e, he, hk⟩ => by
      simp only [List.mem_cons, List.not_mem_nil, or_false] at he
      rcases he with rfl | rfl | rfl
      · have hk : k = g6 := hk
        subst hk
        exact .inr (.inr ⟨hg2a, hg2b⟩)
      · exact .inl hk
      · exact .inr (.inl hk)) ((hs.seg (i := 1) rfl).trans hsp2.hg.symm) ((hs.seg (i := 2) rfl).trans hsp2.hc.symm)
    rw [elB, elR, if_pos hyes, if_pos hyes, Int.toNat_natCast, Int.toNat_natCast]
    exact ⟨rfl, _, h9, (by rw [elK, if_pos hyes, Int.toNat_natCast]; exact ⟨_, hcu, rfl⟩), fun k hk v hv => (hnew k hk v hv).imp id fun h => h.back hsz1⟩
end Go.Proofs.YtklajbdbnnceiaaGreat
end

section
/- Laws of springs: an example, nil ones. -/
set_option linter.unusedSimpArgs false
set_option linter.unusedVariables false
set_option maxRecDepth 100000
namespace Go.Proofs.YtklajbdbnnceiaaGreat
open Go Go.Fw
open Sha
theorem over_sp {p : Spr} {w0 w w' : World} (h : Fr0 w0 w) (k : Fr (SpM p) w w') (hg : w0.heap.size ≤ p.g) (hc : w0.heap.size ≤ p.cg) : Fr0 w0 w' := h.over k fun i hi => by
  rcases hi with rfl | rfl
  · exact hg
  · exact hc
end Go.Proofs.YtklajbdbnnceiaaGreat
end

section
/- Claims: whether they may be. -/
set_option linter.unusedSimpArgs false
set_option linter.unusedVariables false
set_option maxRecDepth 100000
namespace Go.Proofs.YtklajbdbnnceiaaGreat
open Go Go.Fw
open Sha
def clRight (W S H d mt sn : Int) (ep sq : UInt32) : Bool := spRight W S H && decide (0 ≤ d) && decide (d < W) && decide (0 ≤ sn) && decide (sn < W) && decide (ep.toNat ≤ (65536 : UInt32).toNat) && decide (sq.toNat < 2 ^ H.toNat) && decide (0 ≤ mt) && decide (mt < S)
theorem clRight_iff {W S H d mt sn : Int} {ep sq : UInt32} : clRight W S H d mt sn ep sq = true ↔ spRight W S H = true ∧ 0 ≤ d ∧ d < W ∧ 0 ≤ sn ∧ sn < W ∧ ep.toNat ≤ (65536 : UInt32).toNat ∧ sq.toNat < 2 ^ H.toNat ∧ 0 ≤ mt ∧ mt < S := by
  unfold clRight
  simp only [Bool.and_eq_true, decide_eq_true_eq, and_assoc]
theorem shl1 {n : Nat} (h : n ≤ 6) : ((1 : UInt32) <<< UInt32.ofNat n).toNat = 2 ^ n := by
  match n, h with
  | 0, _ => rfl
  | 1, _ => rfl
  | 2, _ => rfl
  | 3, _ => rfl
  | 4, _ => rfl
  | 5, _ => rfl
  | 6, _ => rfl
theorem upCost_b (x : Int) : 0 ≤ upCost x ∧ upCost x ≤ 100 := by
  unfold upCost
  split
  · omega
  · split <;> omega
theorem riseCost_b (x : Int) : 0 ≤ riseCost x ∧ riseCost x ≤ 100 := by
  unfold riseCost
  rcases levels_cases x with ⟨_, h⟩ | ⟨_, h⟩ | ⟨_, h⟩ | ⟨_, h⟩ | ⟨_, _, _, _, h⟩ <;> rw [h] <;> decide
theorem prod_b {a b : Int} (h1 : 0 ≤ a) (h2 : a ≤ 16) (h3 : 0 ≤ b) (h4 : b ≤ 100) : 0 ≤ a * b ∧ a * b ≤ 1600 := by
  refine ⟨Int.mul_nonneg h1 h3, ?_⟩
  have := Int.mul_le_mul h2 h4 h3 (by omega)
  omega
def clCost (W S H m : Int) : Int := if spRight W S H = true ∧ 0 ≤ m ∧ m < S then riseCost W + (S - m - 1) * upCost W + H else 0
theorem i64_toM {m : Nat} (h : m ≤ 1000) : (i64 (m : Int)).toNat = m := by
  have := i64_toNat (m : Int)
  omega
set_option maxHeartbeats 4000000 in
theorem law01_To (ep sq : UInt32) (mt : Int) (w : World)  : Ctr Tryz.prog 78 [.agg #[U ep, U sq, I mt]] w (fun _ => False) (fun v _ => v = .agg #[U ep, U sq, I mt]) := by
  refine fn_start (N := 10) Tryz.func78 rfl rfl rfl fun ac hk => ?_
  have hs := St.start hk w
  refine wp_seq ?_
  refine wp_reg ?_
  refine s_box hs rfl rfl rfl fun ac ww g1 hs => ?_
  refine s_alloc hs ty59 rfl fun ac ww g2 hs => ?_
  refine s_end ?_
  replace hs := hs.sub (F' := [(1, _), (2, _)]) ⟨rfl, rfl, trivial⟩
  refine then_n ?_
  refine wp_seq ?_
  refine wp_reg ?_
  refine s_q hs (c_fld fl52_0 (hs.ev rfl)) rfl fun ac hs => ?_
  refine s_q hs (c_loadS un25 rfl (hs.ev rfl) (hs.seg (i := 1) rfl) rfl) rfl fun ac hs => ?_
  refine s_q hs (c_fld fl52_1 (hs.ev rfl)) rfl fun ac hs => ?_
  refine s_q hs (c_loadS un25 rfl (hs.ev rfl) (hs.seg (i := 1) rfl) rfl) rfl fun ac hs => ?_
  refine s_q hs (c_fld fl52_2 (hs.ev rfl)) rfl fun ac hs => ?_
  refine s_q hs (c_loadS un3 rfl (hs.ev rfl) (hs.seg (i := 1) rfl) rfl) rfl fun ac hs => ?_
  refine s_q hs (c_buildS ty59 bp59 (.cons (hs.ev rfl) (.cons (hs.ev rfl) (.cons (hs.ev rfl) .nil))) ⟨rfl, rfl, rfl, trivial⟩ (by simp [flatCells, Value.cells]) rfl) rfl fun ac hs => ?_
  refine s_storeW (i := 0) hs ty59 rfl rfl rfl (by rfl) (by rfl) (by simp) fun ww hs => ?_
  refine s_end ?_
  replace hs := hs.sub (F' := [(2, _)]) ⟨rfl, trivial⟩
  refine then_n ?_
  refine wp_ret ?_
  refine s_ret hs rfl (.cell (hs.tmp rfl) (run_loadA ty59 ag59 (hs.seg (i := 0) rfl) rfl (by rfl)) .nil) rfl ⟨_, rfl, hs.fr, ?_⟩
  rfl
set_option maxHeartbeats 4000000 in
theorem law09_To (d mt sn : Int) (ep sq : UInt32) (w : World)  : Ctr Tryz.prog 27 [.agg #[I d, U ep, U sq, I mt, I sn]] w (fun _ => False) (fun v _ => v = .agg #[I d, U ep, U sq, I mt, I sn]) := by
  refine fn_start (N := 11) Tryz.func27 rfl rfl rfl fun ac hk => ?_
  have hs := St.start hk w
  refine wp_seq ?_
  refine wp_reg ?_
  refine s_box hs rfl rfl rfl fun ac ww g1 hs => ?_
  refine s_alloc hs ty61 rfl fun ac ww g2 hs => ?_
  refine s_end ?_
  replace hs := hs.sub (F' := [(1, _), (2, _)]) ⟨rfl, rfl, trivial⟩
  refine then_n ?_
  refine wp_seq ?_
  refine wp_region_rg pmix 7 (by kernel_rfl) rfl hs ?_
  simp only [List.take_succ_cons, List.take_zero]
  refine rg_q (fun ac ww h => c_fld fl54_0 (h.ev rfl)) rfl ?_
  refine rg_q (fun ac ww h => c_loadS un3 rfl (h.ev rfl) (h.blk (hs.seg (i := 1) rfl)) rfl) rfl ?_
  refine rg_q (fun ac ww h => c_fld fl54_1 (h.ev rfl)) rfl ?_
  refine rg_q (fun ac ww h => c_loadA ty52 ag52 (h.ev rfl) (h.blk (hs.seg (i := 1) rfl)) rfl (by rfl)) rfl ?_
  refine rg_call fu78 (fun ac ww h => (.cons (h.ev rfl) .nil)) (fun ww hf => law01_To ep sq mt ww) rfl ?_
  refine rg_q (fun ac ww h => c_fld fl54_2 (h.ev rfl)) rfl ?_
  refine rg_q (fun ac ww h => c_loadS un3 rfl (h.ev rfl) (h.blk (hs.seg (i := 1) rfl)) rfl) rfl ?_
  refine rg_nil fun ac ww L' hf hfe hs => ?_
  simp only [List.drop_succ_cons, List.drop_zero]
  obtain rfl : L' = [] := hfe
  replace hs := hs.toL (List.nil_append _)
  refine s_q hs (c_buildS ty61 bp61 (.cons (hs.ev rfl) (.cons (hs.ev rfl) (.cons (hs.ev rfl) .nil))) ⟨rfl, rfl, rfl, trivial⟩ (by simp [flatCells, Value.cells]) rfl) rfl fun ac hs => ?_
  refine s_storeW (i := 0) hs ty61 rfl rfl rfl (by rfl) (by rfl) (by simp) fun ww hs => ?_
  refine s_end ?_
  replace hs := hs.sub (F' := [(2, _)]) ⟨rfl, trivial⟩
  refine then_n ?_
  refine wp_ret ?_
  refine s_ret hs rfl (.cell (hs.tmp rfl) (run_loadA ty61 ag61 (hs.seg (i := 0) rfl) rfl (by rfl)) .nil) rfl ⟨_, rfl, hs.fr, ?_⟩
  rfl
set_option maxHeartbeats 4000000 in
theorem proof_place (d mt sn : Int) (ep sq : UInt32) (w : World)  : Ctr Tryz.prog 77 [.agg #[I d, U ep, U sq, I mt, I sn]] w (fun _ => False) (fun v _ => v = .agg #[I d, U ep, U sq]) := by
  refine fn_start (N := 12) Tryz.func77 rfl rfl rfl fun ac hk => ?_
  have hs := St.start hk w
  refine wp_seq ?_
  refine wp_reg ?_
  refine s_box hs rfl rfl rfl fun ac ww g1 hs => ?_
  refine s_alloc hs ty165 rfl fun ac ww g2 hs => ?_
  refine s_end ?_
  replace hs := hs.sub (F' := [(1, _), (2, _)]) ⟨rfl, rfl, trivial⟩
  refine then_n ?_
  refine wp_seq ?_
  refine wp_reg ?_
  refine s_q hs (c_fld fl61_0 (hs.ev rfl)) rfl fun ac hs => ?_
  refine s_q hs (c_loadS un3 rfl (hs.ev rfl) (hs.seg (i := 1) rfl) rfl) rfl fun ac hs => ?_
  refine s_q hs (c_fld fl61_1 (hs.ev rfl)) rfl fun ac hs => ?_
  refine s_q hs (c_fld fl59_0 (hs.ev rfl)) rfl fun ac hs => ?_
  refine s_q hs (c_loadS un25 rfl (hs.ev rfl) (hs.seg (i := 1) rfl) rfl) rfl fun ac hs => ?_
  refine s_q hs (c_fld fl61_1 (hs.ev rfl)) rfl fun ac hs => ?_
  refine s_q hs (c_fld fl59_1 (hs.ev rfl)) rfl fun ac hs => ?_
  refine s_q hs (c_loadS un25 rfl (hs.ev rfl) (hs.seg (i := 1) rfl) rfl) rfl fun ac hs => ?_
  refine s_q hs (c_buildS ty165 bp165 (.cons (hs.ev rfl) (.cons (hs.ev rfl) (.cons (hs.ev rfl) .nil))) ⟨rfl, rfl, rfl, trivial⟩ (by simp [flatCells, Value.cells]) rfl) rfl fun ac hs => ?_
  refine s_storeW (i := 0) hs ty165 rfl rfl rfl (by rfl) (by rfl) (by simp) fun ww hs => ?_
  refine s_end ?_
  replace hs := hs.sub (F' := [(2, _)]) ⟨rfl, trivial⟩
  refine then_n ?_
  refine wp_ret ?_
  refine s_ret hs rfl (.cell (hs.tmp rfl) (run_loadA ty165 ag165 (hs.seg (i := 0) rfl) rfl (by rfl)) .nil) rfl ⟨_, rfl, hs.fr, ?_⟩
  rfl
set_option maxHeartbeats 4000000 in
theorem proof_Right (W S H d mt sn : Int) (ep sq : UInt32) (w : World)  : Ctr Tryz.prog 75 [.agg #[I W, I S, I H], .agg #[I d, U ep, U sq, I mt, I sn]] w (fun _ => False) (fun v _ => v = .bool (clRight W S H d mt sn ep sq)) := by
  refine fn_start (N := 60) Tryz.func75 rfl rfl rfl fun ac hk => ?_
  have hs := St.start hk w
  refine wp_seq ?_
  refine wp_reg ?_
  cases hR : spRight W S H
  · refine s_box hs rfl rfl rfl fun ac ww g2 hs => ?_
    refine s_box hs rfl rfl rfl fun ac ww g3 hs => ?_
    refine s_q hs (c_assign (hs.ev rfl)) rfl fun ac hs => ?_
    refine s_end ?_
    replace hs := hs.sub (F' := [(2, _), (3, _), (4, _)]) ⟨rfl, rfl, rfl, trivial⟩
    refine then_n ?_
    refine wp_seq ?_
    refine wp_region_rg pmix 53 (by kernel_rfl) rfl hs ?_
    simp only [List.take_succ_cons, List.take_zero]
    refine rg_q (fun ac ww h => c_loadW ty33 ag33 (h.ev rfl) (h.blk (hs.seg (i := 1) rfl)) (by rfl)) rfl ?_
    refine rg_call fu63 (fun ac ww h => (.cons (h.ev rfl) .nil)) (fun ww hf => (hR ▸ spring_Right W S H ww)) rfl ?_
    refine rg_q (fun ac ww h => c_move (h.ev rfl)) rfl ?_
    refine rg_no rfl rfl rfl rfl ?_
    refine rg_no rfl rfl rfl rfl ?_
    refine rg_no rfl rfl rfl rfl ?_
    refine rg_q (fun ac ww h => c_pick (h.ev rfl) (h.ev rfl) (h.ev rfl)) rfl ?_
    refine rg_q (fun ac ww h => c_move (h.ev rfl)) rfl ?_
    refine rg_no rfl rfl rfl rfl ?_
    refine rg_no rfl rfl rfl rfl ?_
    refine rg_no rfl rfl rfl rfl ?_
    refine rg_no rfl rfl rfl rfl ?_
    refine rg_no rfl rfl rfl rfl ?_
    refine rg_q (fun ac ww h => c_pick (h.ev rfl) (h.ev rfl) (h.ev rfl)) rfl ?_
    refine rg_q (fun ac ww h => c_move (h.ev rfl)) rfl ?_
    refine rg_no rfl rfl rfl rfl ?_
    refine rg_no rfl rfl rfl rfl ?_
    refine rg_no rfl rfl rfl rfl ?_
    refine rg_q (fun ac ww h => c_pick (h.ev rfl) (h.ev rfl) (h.ev rfl)) rfl ?_
    refine rg_q (fun ac ww h => c_move (h.ev rfl)) rfl ?_
    refine rg_no rfl rfl rfl rfl ?_
    refine rg_no rfl rfl rfl rfl ?_
    refine rg_no rfl rfl rfl rfl ?_
    refine rg_no rfl rfl rfl rfl ?_
    refine rg_no rfl rfl rfl rfl ?_
    refine rg_q (fun ac ww h => c_pick (h.ev rfl) (h.ev rfl) (h.ev rfl)) rfl ?_
    refine rg_q (fun ac ww h => c_move (h.ev rfl)) rfl ?_
    refine rg_no rfl rfl rfl rfl ?_
    refine rg_no rfl rfl rfl rfl ?_
    refine rg_no rfl rfl rfl rfl ?_
    refine rg_no rfl rfl rfl rfl ?_
    refine rg_q (fun ac ww h => c_pick (h.ev rfl) (h.ev rfl) (h.ev rfl)) rfl ?_
    refine rg_q (fun ac ww h => c_move (h.ev rfl)) rfl ?_
    refine rg_no rfl rfl rfl rfl ?_
    refine rg_no rfl rfl rfl rfl ?_
    refine rg_no rfl rfl rfl rfl ?_
    refine rg_no rfl rfl rfl rfl ?_
    refine rg_no rfl rfl rfl rfl ?_
    refine rg_no rfl rfl rfl rfl ?_
    refine rg_no rfl rfl rfl rfl ?_
    refine rg_q (fun ac ww h => c_pick (h.ev rfl) (h.ev rfl) (h.ev rfl)) rfl ?_
    refine rg_q (fun ac ww h => c_move (h.ev rfl)) rfl ?_
    refine rg_no rfl rfl rfl rfl ?_
    refine rg_no rfl rfl rfl rfl ?_
    refine rg_no rfl rfl rfl rfl ?_
    refine rg_no rfl rfl rfl rfl ?_
    refine rg_q (fun ac ww h => c_pick (h.ev rfl) (h.ev rfl) (h.ev rfl)) rfl ?_
    refine rg_q (fun ac ww h => c_move (h.ev rfl)) rfl ?_
    refine rg_no rfl rfl rfl rfl ?_
    refine rg_no rfl rfl rfl rfl ?_
    refine rg_no rfl rfl rfl rfl ?_
    refine rg_no rfl rfl rfl rfl ?_
    refine rg_no rfl rfl rfl rfl ?_
    refine rg_nil fun ac ww L' hf hfe hs => ?_
    simp only [List.drop_succ_cons, List.drop_zero]
    obtain rfl : L' = [] := hfe
    replace hs := hs.toL (List.nil_append _)
    refine s_no hs rfl rfl rfl rfl fun ac hs => ?_
    refine s_q hs (c_pick (hs.ev rfl) (hs.ev rfl) (hs.ev rfl)) rfl fun ac hs => ?_
    refine s_q hs (c_assign (hs.ev rfl)) rfl fun ac hs => ?_
    refine s_end ?_
    replace hs := hs.sub (F' := [(4, _)]) ⟨rfl, trivial⟩
    refine then_n ?_
    refine wp_ret ?_
    refine s_ret hs rfl (.tmp (hs.tmp rfl) .nil) rfl ⟨_, rfl, hs.fr, ?_⟩
    show Value.bool _ = Value.bool _
    rw [clRight, hR]
    rfl
  · refine s_box hs rfl rfl rfl fun ac ww g2 hs => ?_
    obtain ⟨hlv, hS1, hS16, hH0, hH6⟩ := spRight_iff.1 hR
    obtain ⟨Hn, hHn⟩ := int_of hH0
    subst hHn
    refine s_box hs rfl rfl rfl fun ac ww g3 hs => ?_
    refine s_q hs (c_assign (hs.ev rfl)) rfl fun ac hs => ?_
    refine s_end ?_
    replace hs := hs.sub (F' := [(2, _), (3, _), (4, _)]) ⟨rfl, rfl, rfl, trivial⟩
    refine then_n ?_
    refine wp_seq ?_
    refine wp_region_rg pmix 53 (by kernel_rfl) rfl hs ?_
    simp only [List.take_succ_cons, List.take_zero]
    refine rg_q (fun ac ww h => c_loadW ty33 ag33 (h.ev rfl) (h.blk (hs.seg (i := 1) rfl)) (by rfl)) rfl ?_
    refine rg_call fu63 (fun ac ww h => (.cons (h.ev rfl) .nil)) (fun ww hf => (hR ▸ spring_Right W S Hn ww)) rfl ?_
    refine rg_q (fun ac ww h => c_move (h.ev rfl)) rfl ?_
    refine rg_g rfl rfl (fun hg ac ww h => c_fld fl61_0 (h.ev rfl)) rfl ?_
    refine rg_g rfl rfl (fun hg ac ww h => c_loadS un3 rfl (gev (h.ev rfl) hg) (h.blk (hs.seg (i := 0) rfl)) rfl) rfl ?_
    refine rg_g rfl rfl (fun hg ac ww h => c_geqI (gev (h.ev rfl) hg) (h.ev rfl)) rfl ?_
    refine rg_q (fun ac ww h => c_and (h.ev rfl) (h.ev rfl)) rfl ?_
    refine rg_q (fun ac ww h => c_move (h.ev rfl)) rfl ?_
    refine rg_g rfl rfl (fun hg ac ww h => c_fld fl61_0 (h.ev rfl)) rfl ?_
    refine rg_g rfl rfl (fun hg ac ww h => c_loadS un3 rfl (gev (h.ev rfl) hg) (h.blk (hs.seg (i := 0) rfl)) rfl) rfl ?_
    refine rg_g rfl rfl (fun hg ac ww h => c_fld fl33_0 (h.ev rfl)) rfl ?_
    refine rg_g rfl rfl (fun hg ac ww h => c_loadS un3 rfl (gev (h.ev rfl) hg) (h.blk (hs.seg (i := 1) rfl)) rfl) rfl ?_
    refine rg_g rfl rfl (fun hg ac ww h => c_lssI (gev (h.ev rfl) hg) (gev (h.ev rfl) hg)) rfl ?_
    refine rg_q (fun ac ww h => c_and (h.ev rfl) (h.ev rfl)) rfl ?_
    refine rg_q (fun ac ww h => c_move (h.ev rfl)) rfl ?_
    refine rg_g rfl rfl (fun hg ac ww h => c_fld fl61_2 (h.ev rfl)) rfl ?_
    refine rg_g rfl rfl (fun hg ac ww h => c_loadS un3 rfl (gev (h.ev rfl) hg) (h.blk (hs.seg (i := 0) rfl)) rfl) rfl ?_
    refine rg_g rfl rfl (fun hg ac ww h => c_geqI (gev (h.ev rfl) hg) (h.ev rfl)) rfl ?_
    refine rg_q (fun ac ww h => c_and (h.ev rfl) (h.ev rfl)) rfl ?_
    refine rg_q (fun ac ww h => c_move (h.ev rfl)) rfl ?_
    refine rg_g rfl rfl (fun hg ac ww h => c_fld fl61_2 (h.ev rfl)) rfl ?_
    refine rg_g rfl rfl (fun hg ac ww h => c_loadS un3 rfl (gev (h.ev rfl) hg) (h.blk (hs.seg (i := 0) rfl)) rfl) rfl ?_
    refine rg_g rfl rfl (fun hg ac ww h => c_fld fl33_0 (h.ev rfl)) rfl ?_
    refine rg_g rfl rfl (fun hg ac ww h => c_loadS un3 rfl (gev (h.ev rfl) hg) (h.blk (hs.seg (i := 1) rfl)) rfl) rfl ?_
    refine rg_g rfl rfl (fun hg ac ww h => c_lssI (gev (h.ev rfl) hg) (gev (h.ev rfl) hg)) rfl ?_
    refine rg_q (fun ac ww h => c_and (h.ev rfl) (h.ev rfl)) rfl ?_
    refine rg_q (fun ac ww h => c_move (h.ev rfl)) rfl ?_
    refine rg_g rfl rfl (fun hg ac ww h => c_fld fl61_1 (h.ev rfl)) rfl ?_
    refine rg_g rfl rfl (fun hg ac ww h => c_fld fl59_0 (gev (h.ev rfl) hg)) rfl ?_
    refine rg_g rfl rfl (fun hg ac ww h => c_loadS un25 rfl (gev (h.ev rfl) hg) (h.blk (hs.seg (i := 0) rfl)) rfl) rfl ?_
    refine rg_g rfl rfl (fun hg ac ww h => c_leqU (gev (h.ev rfl) hg) (RC.ev (v := U 65536) h rfl)) rfl ?_
    refine rg_q (fun ac ww h => c_and (h.ev rfl) (h.ev rfl)) rfl ?_
    refine rg_q (fun ac ww h => c_move (h.ev rfl)) rfl ?_
    refine rg_g rfl rfl (fun hg ac ww h => c_fld fl61_1 (h.ev rfl)) rfl ?_
    refine rg_g rfl rfl (fun hg ac ww h => c_fld fl59_1 (gev (h.ev rfl) hg)) rfl ?_
    refine rg_g rfl rfl (fun hg ac ww h => c_loadS un25 rfl (gev (h.ev rfl) hg) (h.blk (hs.seg (i := 0) rfl)) rfl) rfl ?_
    refine rg_g rfl rfl (fun hg ac ww h => c_fld fl33_2 (h.ev rfl)) rfl ?_
    refine rg_g rfl rfl (fun hg ac ww h => c_loadS un3 rfl (gev (h.ev rfl) hg) (h.blk (hs.seg (i := 1) rfl)) rfl) rfl ?_
    refine rg_g rfl rfl (fun hg ac ww h => c_shlU (n := Hn) (RC.ev (v := U 1) h rfl) (gev (h.ev rfl) hg) (by omega)) rfl ?_
    refine rg_g rfl rfl (fun hg ac ww h => c_to (c_lssU (gev (h.ev rfl) hg) (gev (h.ev rfl) hg)) ((congrArg (fun n : Nat => Value.bool (decide (sq.toNat < n))) (shl1 (by omega))))) rfl ?_
    refine rg_q (fun ac ww h => c_and (h.ev rfl) (h.ev rfl)) rfl ?_
    refine rg_q (fun ac ww h => c_move (h.ev rfl)) rfl ?_
    refine rg_g rfl rfl (fun hg ac ww h => c_fld fl61_1 (h.ev rfl)) rfl ?_
    refine rg_g rfl rfl (fun hg ac ww h => c_fld fl59_2 (gev (h.ev rfl) hg)) rfl ?_
    refine rg_g rfl rfl (fun hg ac ww h => c_loadS un3 rfl (gev (h.ev rfl) hg) (h.blk (hs.seg (i := 0) rfl)) rfl) rfl ?_
    refine rg_g rfl rfl (fun hg ac ww h => c_geqI (gev (h.ev rfl) hg) (h.ev rfl)) rfl ?_
    refine rg_q (fun ac ww h => c_and (h.ev rfl) (h.ev rfl)) rfl ?_
    refine rg_q (fun ac ww h => c_move (h.ev rfl)) rfl ?_
    refine rg_g rfl rfl (fun hg ac ww h => c_fld fl61_1 (h.ev rfl)) rfl ?_
    refine rg_g rfl rfl (fun hg ac ww h => c_fld fl59_2 (gev (h.ev rfl) hg)) rfl ?_
    refine rg_g rfl rfl (fun hg ac ww h => c_loadS un3 rfl (gev (h.ev rfl) hg) (h.blk (hs.seg (i := 0) rfl)) rfl) rfl ?_
    refine rg_g rfl rfl (fun hg ac ww h => c_fld fl33_1 (h.ev rfl)) rfl ?_
    refine rg_g rfl rfl (fun hg ac ww h => c_loadS un3 rfl (gev (h.ev rfl) hg) (h.blk (hs.seg (i := 1) rfl)) rfl) rfl ?_
    refine rg_nil fun ac ww L' hf hfe hs => ?_
    simp only [List.drop_succ_cons, List.drop_zero]
    obtain rfl : L' = [] := hfe
    replace hs := hs.toL (List.nil_append _)
    refine s_g hs rfl rfl (fun hg => c_lssI (gev (hs.ev rfl) hg) (gev (hs.ev rfl) hg)) rfl fun ac hs => ?_
    refine s_q hs (c_and (hs.ev rfl) (hs.ev rfl)) rfl fun ac hs => ?_
    refine s_q hs (c_assign (hs.ev rfl)) rfl fun ac hs => ?_
    refine s_end ?_
    replace hs := hs.sub (F' := [(4, _)]) ⟨rfl, trivial⟩
    refine then_n ?_
    refine wp_ret ?_
    refine s_ret hs rfl (.tmp (hs.tmp rfl) .nil) rfl ⟨_, rfl, hs.fr, ?_⟩
    show Value.bool _ = Value.bool _
    rw [clRight, hR]
    rfl
set_option maxHeartbeats 4000000 in
theorem ref09_Right (W S H d mt sn : Int) (ep sq : UInt32) (w : World)  : Ctr Tryz.prog 28 [.agg #[I W, I S, I H], .agg #[I d, U ep, U sq, I mt, I sn]] w (fun _ => False) (fun v _ => v = .bool (clRight W S H d mt sn ep sq)) := by
  refine fn_start (N := 60) Tryz.func28 rfl rfl rfl fun ac hk => ?_
  have hs := St.start hk w
  refine wp_seq ?_
  refine wp_reg ?_
  refine s_box hs rfl rfl rfl fun ac ww g2 hs => ?_
  refine s_box hs rfl rfl rfl fun ac ww g3 hs => ?_
  refine s_q hs (c_assign (hs.ev rfl)) rfl fun ac hs => ?_
  refine s_end ?_
  replace hs := hs.sub (F' := [(2, _), (3, _), (4, _)]) ⟨rfl, rfl, rfl, trivial⟩
  refine then_n ?_
  refine wp_seq ?_
  refine wp_seq ?_
  refine wp_reg ?_
  refine s_q hs (c_loadW ty23 ag23 (hs.ev rfl) (hs.seg (i := 1) rfl) (by rfl)) rfl fun ac hs => ?_
  refine s_call hs fu61 (.cons (hs.ev rfl) .nil) (ref08_Right W S H _) rfl fun ac ww v6 hf hp hs => ?_
  obtain rfl := hp
  replace hs := hs [] (.nil _ _)
  refine s_q hs (c_not (hs.ev rfl)) rfl fun ac hs => ?_
  refine s_q hs (c_move (hs.ev rfl)) rfl fun ac hs => ?_
  refine s_g hs rfl rfl (fun hg => c_fld fl54_0 (hs.ev rfl)) rfl fun ac hs => ?_
  refine s_g hs rfl rfl (fun hg => c_loadS un3 rfl (gev (hs.ev rfl) hg) (hs.seg (i := 0) rfl) rfl) rfl fun ac hs => ?_
  refine s_g hs rfl rfl (fun hg => c_lssI (gev (hs.ev rfl) hg) (hs.ev rfl)) rfl fun ac hs => ?_
  refine s_q hs (c_or (hs.ev rfl) (hs.ev rfl)) rfl fun ac hs => ?_
  refine s_q hs (c_move (hs.ev rfl)) rfl fun ac hs => ?_
  refine s_g hs rfl rfl (fun hg => c_fld fl54_0 (hs.ev rfl)) rfl fun ac hs => ?_
  refine s_g hs rfl rfl (fun hg => c_loadS un3 rfl (gev (hs.ev rfl) hg) (hs.seg (i := 0) rfl) rfl) rfl fun ac hs => ?_
  refine s_g hs rfl rfl (fun hg => c_fld fl23_0 (hs.ev rfl)) rfl fun ac hs => ?_
  refine s_g hs rfl rfl (fun hg => c_loadS un3 rfl (gev (hs.ev rfl) hg) (hs.seg (i := 1) rfl) rfl) rfl fun ac hs => ?_
  refine s_g hs rfl rfl (fun hg => c_geqI (gev (hs.ev rfl) hg) (gev (hs.ev rfl) hg)) rfl fun ac hs => ?_
  refine s_q hs (c_or (hs.ev rfl) (hs.ev rfl)) rfl fun ac hs => ?_
  refine s_q hs (c_move (hs.ev rfl)) rfl fun ac hs => ?_
  refine s_g hs rfl rfl (fun hg => c_fld fl54_2 (hs.ev rfl)) rfl fun ac hs => ?_
  refine s_g hs rfl rfl (fun hg => c_loadS un3 rfl (gev (hs.ev rfl) hg) (hs.seg (i := 0) rfl) rfl) rfl fun ac hs => ?_
  refine s_g hs rfl rfl (fun hg => c_lssI (gev (hs.ev rfl) hg) (hs.ev rfl)) rfl fun ac hs => ?_
  refine s_q hs (c_or (hs.ev rfl) (hs.ev rfl)) rfl fun ac hs => ?_
  refine s_q hs (c_move (hs.ev rfl)) rfl fun ac hs => ?_
  refine s_g hs rfl rfl (fun hg => c_fld fl54_2 (hs.ev rfl)) rfl fun ac hs => ?_
  refine s_g hs rfl rfl (fun hg => c_loadS un3 rfl (gev (hs.ev rfl) hg) (hs.seg (i := 0) rfl) rfl) rfl fun ac hs => ?_
  refine s_g hs rfl rfl (fun hg => c_fld fl23_0 (hs.ev rfl)) rfl fun ac hs => ?_
  refine s_g hs rfl rfl (fun hg => c_loadS un3 rfl (gev (hs.ev rfl) hg) (hs.seg (i := 1) rfl) rfl) rfl fun ac hs => ?_
  refine s_g hs rfl rfl (fun hg => c_geqI (gev (hs.ev rfl) hg) (gev (hs.ev rfl) hg)) rfl fun ac hs => ?_
  refine s_q hs (c_or (hs.ev rfl) (hs.ev rfl)) rfl fun ac hs => ?_
  refine s_q hs (c_move (hs.ev rfl)) rfl fun ac hs => ?_
  refine s_g hs rfl rfl (fun hg => c_fld fl54_1 (hs.ev rfl)) rfl fun ac hs => ?_
  refine s_g hs rfl rfl (fun hg => c_fld fl52_0 (gev (hs.ev rfl) hg)) rfl fun ac hs => ?_
  refine s_g hs rfl rfl (fun hg => c_loadS un25 rfl (gev (hs.ev rfl) hg) (hs.seg (i := 0) rfl) rfl) rfl fun ac hs => ?_
  refine s_g hs rfl rfl (fun hg => c_gtrU (gev (hs.ev rfl) hg) (St.ev (v := U 65536) hs rfl)) rfl fun ac hs => ?_
  refine s_q hs (c_or (hs.ev rfl) (hs.ev rfl)) rfl fun ac hs => ?_
  refine s_end ?_
  replace hs := hs.sub (F' := [(2, _), (3, _), (4, _), (37, _)]) ⟨rfl, rfl, rfl, rfl, trivial⟩
  refine then_n ?_
  refine s_cond hs rfl (fun hc => ?_) (fun hc => ?_)
  · simp only [Bool.or_eq_true, decide_eq_true_eq, Bool.not_eq_true'] at hc
    have hno : clRight W S H d mt sn ep sq = false := by
      rw [← Bool.not_eq_true, clRight_iff]
      rintro ⟨h1, h2, h3, h4, h5, h6, _⟩
      rw [h1] at hc
      simp only [Bool.true_eq_false, false_or] at hc
      omega
    refine wp_seq ?_
    refine wp_reg ?_
    refine s_q hs (c_assign (hs.ev rfl)) rfl fun ac hs => ?_
    refine s_end ?_
    replace hs := hs.sub (F' := [(2, _), (3, _), (4, _)]) ⟨rfl, rfl, rfl, trivial⟩
    refine then_n ?_
    refine wp_ret ?_
    refine then_r ?_
    refine s_ret hs rfl (.tmp (hs.tmp rfl) .nil) rfl ⟨_, rfl, hs.fr, ?_⟩
    show Value.bool false = _
    rw [hno]
  · simp only [Bool.or_eq_false_iff, decide_eq_false_iff_not, Bool.not_eq_false'] at hc
    obtain ⟨⟨⟨⟨⟨hR, hc1⟩, hc2⟩, hc3⟩, hc4⟩, hc5⟩ := hc
    obtain ⟨hlv, hS1, hS16, hH0, hH6⟩ := spRight_iff.1 hR
    obtain ⟨Hn, hHn⟩ := int_of hH0
    subst hHn
    have hp64 := pow64 (lv := Hn) (by omega)
    refine wp_skip ?_
    refine then_n ?_
    refine wp_seq ?_
    refine wp_region_rg pmix 20 (by kernel_rfl) rfl hs ?_
    simp only [List.take_succ_cons, List.take_zero]
    refine rg_q (fun ac ww h => c_fld fl54_1 (h.ev rfl)) rfl ?_
    refine rg_q (fun ac ww h => c_fld fl52_1 (h.ev rfl)) rfl ?_
    refine rg_q (fun ac ww h => c_loadS un25 rfl (h.ev rfl) (h.blk (hs.seg (i := 0) rfl)) rfl) rfl ?_
    refine rg_q (fun ac ww h => c_cvUV un25 un124 (h.ev rfl)) rfl ?_
    refine rg_q (fun ac ww h => c_loadW ty23 ag23 (h.ev rfl) (h.blk (hs.seg (i := 1) rfl)) (by rfl)) rfl ?_
    refine rg_call fu18 (fun ac ww h => (.cons (h.ev rfl) .nil)) (fun ww hf => ref08_Many W S Hn (by omega) ww) rfl ?_
    refine rg_q (fun ac ww h => c_cvIV un3 un124 (h.ev rfl)) rfl ?_
    refine rg_q (fun ac ww h => c_to (c_lssV (h.ev rfl) (h.ev rfl)) ((congrArg (fun b : Bool => Value.bool b) (show decide (sq.toUInt64.toNat < (i64 ((2 ^ Hn : Nat) : Int)).toNat) = decide (sq.toNat < 2 ^ Hn) by rw [i64_toM (by omega)]; simp)))) rfl ?_
    refine rg_q (fun ac ww h => c_move (h.ev rfl)) rfl ?_
    refine rg_g rfl rfl (fun hg ac ww h => c_fld fl54_1 (h.ev rfl)) rfl ?_
    refine rg_g rfl rfl (fun hg ac ww h => c_fld fl52_2 (gev (h.ev rfl) hg)) rfl ?_
    refine rg_g rfl rfl (fun hg ac ww h => c_loadS un3 rfl (gev (h.ev rfl) hg) (h.blk (hs.seg (i := 0) rfl)) rfl) rfl ?_
    refine rg_g rfl rfl (fun hg ac ww h => c_geqI (gev (h.ev rfl) hg) (h.ev rfl)) rfl ?_
    refine rg_q (fun ac ww h => c_and (h.ev rfl) (h.ev rfl)) rfl ?_
    refine rg_q (fun ac ww h => c_move (h.ev rfl)) rfl ?_
    refine rg_g rfl rfl (fun hg ac ww h => c_fld fl54_1 (h.ev rfl)) rfl ?_
    refine rg_g rfl rfl (fun hg ac ww h => c_fld fl52_2 (gev (h.ev rfl) hg)) rfl ?_
    refine rg_g rfl rfl (fun hg ac ww h => c_loadS un3 rfl (gev (h.ev rfl) hg) (h.blk (hs.seg (i := 0) rfl)) rfl) rfl ?_
    refine rg_g rfl rfl (fun hg ac ww h => c_fld fl23_1 (h.ev rfl)) rfl ?_
    refine rg_g rfl rfl (fun hg ac ww h => c_loadS un3 rfl (gev (h.ev rfl) hg) (h.blk (hs.seg (i := 1) rfl)) rfl) rfl ?_
    refine rg_nil fun ac ww L' hf hfe hs => ?_
    simp only [List.drop_succ_cons, List.drop_zero]
    obtain rfl : L' = [] := hfe
    replace hs := hs.toL (List.nil_append _)
    refine s_g hs rfl rfl (fun hg => c_lssI (gev (hs.ev rfl) hg) (gev (hs.ev rfl) hg)) rfl fun ac hs => ?_
    refine s_q hs (c_and (hs.ev rfl) (hs.ev rfl)) rfl fun ac hs => ?_
    refine s_q hs (c_assign (hs.ev rfl)) rfl fun ac hs => ?_
    refine s_end ?_
    replace hs := hs.sub (F' := [(4, _)]) ⟨rfl, trivial⟩
    refine then_n ?_
    refine wp_ret ?_
    refine s_ret hs rfl (.tmp (hs.tmp rfl) .nil) rfl ⟨_, rfl, hs.fr, ?_⟩
    show Value.bool _ = Value.bool _
    rw [clRight, hR, decide_eq_true (show 0 ≤ d by omega), decide_eq_true (show d < W by omega), decide_eq_true (show 0 ≤ sn by omega), decide_eq_true (show sn < W by omega), decide_eq_true (show ep.toNat ≤ (65536 : UInt32).toNat by omega)]
    rfl
end Go.Proofs.YtklajbdbnnceiaaGreat
end

section
/- What claims cost. -/
set_option linter.unusedSimpArgs false
set_option linter.unusedVariables false
set_option maxRecDepth 100000
namespace Go.Proofs.YtklajbdbnnceiaaGreat
open Go Go.Fw
open Sha
set_option maxHeartbeats 4000000 in
theorem proof_Cost (W S H m : Int) (w : World)  : Ctr Tryz.prog 73 [.agg #[I W, I S, I H], I m] w (fun _ => False) (fun v _ => v = I (clCost W S H m)) := by
  refine fn_start (N := 34) Tryz.func73 rfl rfl rfl fun ac hk => ?_
  have hs := St.start hk w
  refine wp_seq ?_
  refine wp_reg ?_
  refine s_box hs rfl rfl rfl fun ac ww g2 hs => ?_
  refine s_q hs (c_assign (hs.ev rfl)) rfl fun ac hs => ?_
  refine s_end ?_
  replace hs := hs.sub (F' := [(1, _), (2, _), (4, _)]) ⟨rfl, rfl, rfl, trivial⟩
  refine then_n ?_
  refine wp_seq ?_
  refine wp_seq ?_
  refine wp_reg ?_
  refine s_q hs (c_loadW ty33 ag33 (hs.ev rfl) (hs.seg (i := 0) rfl) (by rfl)) rfl fun ac hs => ?_
  refine s_call hs fu63 (.cons (hs.ev rfl) .nil) (spring_Right W S H _) rfl fun ac ww v6 hf hp hs => ?_
  obtain rfl := hp
  replace hs := hs [] (.nil _ _)
  refine s_q hs (c_not (hs.ev rfl)) rfl fun ac hs => ?_
  refine s_q hs (c_move (hs.ev rfl)) rfl fun ac hs => ?_
  refine s_g hs rfl rfl (fun hg => c_move (hs.ev rfl)) rfl fun ac hs => ?_
  refine s_g hs rfl rfl (fun hg => c_lssI (gev (hs.ev rfl) hg) (hs.ev rfl)) rfl fun ac hs => ?_
  refine s_q hs (c_or (hs.ev rfl) (hs.ev rfl)) rfl fun ac hs => ?_
  refine s_q hs (c_move (hs.ev rfl)) rfl fun ac hs => ?_
  refine s_g hs rfl rfl (fun hg => c_move (hs.ev rfl)) rfl fun ac hs => ?_
  refine s_g hs rfl rfl (fun hg => c_fld fl33_1 (hs.ev rfl)) rfl fun ac hs => ?_
  refine s_g hs rfl rfl (fun hg => c_loadS un3 rfl (gev (hs.ev rfl) hg) (hs.seg (i := 0) rfl) rfl) rfl fun ac hs => ?_
  refine s_g hs rfl rfl (fun hg => c_geqI (gev (hs.ev rfl) hg) (gev (hs.ev rfl) hg)) rfl fun ac hs => ?_
  refine s_q hs (c_or (hs.ev rfl) (hs.ev rfl)) rfl fun ac hs => ?_
  refine s_end ?_
  replace hs := hs.sub (F' := [(1, _), (2, _), (4, _), (17, _)]) ⟨rfl, rfl, rfl, rfl, trivial⟩
  refine then_n ?_
  refine s_cond hs rfl (fun hc => ?_) (fun hc => ?_)
  · simp only [Bool.or_eq_true, decide_eq_true_eq, Bool.not_eq_true'] at hc
    have hno : ¬ (spRight W S H = true ∧ 0 ≤ m ∧ m < S) := by
      rintro ⟨h1, h2⟩
      rw [h1] at hc
      simp only [Bool.true_eq_false, false_or] at hc
      omega
    refine wp_seq ?_
    refine wp_reg ?_
    refine s_q hs (c_assign (hs.ev rfl)) rfl fun ac hs => ?_
    refine s_end ?_
    replace hs := hs.sub (F' := [(1, _), (2, _), (4, _)]) ⟨rfl, rfl, rfl, trivial⟩
    refine then_n ?_
    refine wp_ret ?_
    refine then_r ?_
    refine s_ret hs rfl (.tmp (hs.tmp rfl) .nil) rfl ⟨_, rfl, hs.fr, ?_⟩
    show I _ = I _
    rw [clCost, if_neg hno]
  · simp only [Bool.or_eq_false_iff, decide_eq_false_iff_not, Bool.not_eq_false'] at hc
    obtain ⟨⟨hR, hm0⟩, hmS⟩ := hc
    obtain ⟨hlv, hS1, hS16, hH0, hH6⟩ := spRight_iff.1 hR
    have hub := upCost_b W
    have hrb := riseCost_b W
    have hpd := prod_b (a := S - m - 1) (b := upCost W) (by omega) (by omega) hub.1 hub.2
    refine wp_skip ?_
    refine then_n ?_
    refine wp_seq ?_
    refine wp_region_rg pmix 15 (by kernel_rfl) rfl hs ?_
    simp only [List.take_succ_cons, List.take_zero]
    refine rg_q (fun ac ww h => c_fld fl33_0 (h.ev rfl)) rfl ?_
    refine rg_q (fun ac ww h => c_loadS un3 rfl (h.ev rfl) (h.blk (hs.seg (i := 0) rfl)) rfl) rfl ?_
    refine rg_call fu112 (fun ac ww h => (.cons (h.ev rfl) .nil)) (fun ww hf => ladder_RiseCost W ww) rfl ?_
    refine rg_q (fun ac ww h => c_fld fl33_1 (h.ev rfl)) rfl ?_
    refine rg_q (fun ac ww h => c_loadS un3 rfl (h.ev rfl) (h.blk (hs.seg (i := 0) rfl)) rfl) rfl ?_
    refine rg_q (fun ac ww h => c_move (h.ev rfl)) rfl ?_
    refine rg_q (fun ac ww h => c_subI (h.ev rfl) (h.ev rfl) (by omega) (by omega)) rfl ?_
    refine rg_q (fun ac ww h => c_subI (h.ev rfl) (h.ev rfl) (by omega) (by omega)) rfl ?_
    refine rg_q (fun ac ww h => c_fld fl33_0 (h.ev rfl)) rfl ?_
    refine rg_q (fun ac ww h => c_loadS un3 rfl (h.ev rfl) (h.blk (hs.seg (i := 0) rfl)) rfl) rfl ?_
    refine rg_call fu113 (fun ac ww h => (.cons (h.ev rfl) .nil)) (fun ww hf => ladder_UpCost W ww) rfl ?_
    refine rg_q (fun ac ww h => c_mulI (h.ev rfl) (h.ev rfl) (by omega) (by omega)) rfl ?_
    refine rg_q (fun ac ww h => c_addI (h.ev rfl) (h.ev rfl) (by omega) (by omega)) rfl ?_
    refine rg_q (fun ac ww h => c_fld fl33_2 (h.ev rfl)) rfl ?_
    refine rg_q (fun ac ww h => c_loadS un3 rfl (h.ev rfl) (h.blk (hs.seg (i := 0) rfl)) rfl) rfl ?_
    refine rg_nil fun ac ww L' hf hfe hs => ?_
    simp only [List.drop_succ_cons, List.drop_zero]
    obtain rfl : L' = [] := hfe
    replace hs := hs.toL (List.nil_append _)
    refine s_q hs (c_addI (hs.ev rfl) (hs.ev rfl) (by omega) (by omega)) rfl fun ac hs => ?_
    refine s_q hs (c_assign (hs.ev rfl)) rfl fun ac hs => ?_
    refine s_end ?_
    replace hs := hs.sub (F' := [(4, _)]) ⟨rfl, trivial⟩
    refine then_n ?_
    refine wp_ret ?_
    refine s_ret hs rfl (.tmp (hs.tmp rfl) .nil) rfl ⟨_, rfl, hs.fr, ?_⟩
    show I _ = I _
    rw [clCost, if_pos ⟨hR, by omega, by omega⟩]
end Go.Proofs.YtklajbdbnnceiaaGreat
end

section
/- What a node shows and what it rises to, whatever is handed in. -/
set_option linter.unusedSimpArgs false
set_option linter.unusedVariables false
set_option maxRecDepth 100000
namespace Go.Proofs.YtklajbdbnnceiaaGreat
open Go Go.Fw
open Sha
def okS (r x id : Int) : Bool := rightB r x && decide (0 ≤ id) && decide (id < x)
theorem okS_spec {r x id : Int} (h : okS r x id = true) : ∃ lv W q : Nat, lv ≤ 3 ∧ W = 2 ^ lv ∧ x = (W : Int) ∧ levels x = lv ∧ id = (q : Int) ∧ q < W ∧ rightB r W = true := by
  unfold okS at h
  simp only [Bool.and_eq_true, decide_eq_true_eq] at h
  obtain ⟨lv, W, h1, h2, rfl, h4⟩ := right_lv h.1.1
  exact ⟨lv, W, id.toNat, h1, h2, rfl, h4, by omega, by omega, h.1.1⟩
theorem xor_beside (q : Nat) : q ^^^ 1 = besideI q := by
  have h1 : (q ^^^ 1) / 2 = q / 2 := by rw [Nat.xor_div_two]; simp
  have h2 : (q ^^^ 1) % 2 = (q + 1) % 2 := by
    have h := Nat.testBit_xor q 1 0
    simp only [Nat.testBit_zero] at h
    have h3 : ((q ^^^ 1) % 2 = 1) ↔ ¬ (q % 2 = 1) := by
      by_cases e : q % 2 = 1 <;> simp [e] at h ⊢ <;> omega
    omega
  unfold besideI
  split <;> omega
theorem beside_in {q n k : Nat} (h : q < 2 ^ n) (hk : k < n) : besideI (q / 2 ^ k) < 2 ^ (n - k) := by
  have h1 : q / 2 ^ k < 2 ^ (n - k) := by
    rw [Nat.div_lt_iff_lt_mul (Nat.two_pow_pos k), ← Nat.pow_add, show n - k + k = n by omega]
    exact h
  obtain ⟨h2, hh⟩ : ∃ h2, 2 ^ (n - k) = 2 * h2 := ⟨2 ^ (n - k - 1), by rw [show n - k = n - k - 1 + 1 by omega, Nat.pow_succ]; simp; omega⟩
  rw [hh] at h1 ⊢
  generalize q / 2 ^ k = z at h1 ⊢
  unfold besideI
  split <;> omega
/-- What is shown, and why not. -/
def shL (d : Int) (ep sq : UInt32) (r : Int) (e : List UInt8) (x id : Int) : List UInt8 := if okS r x id = true then lNode d ep sq r e 0 id.toNat else List.replicate 16 0
def shN (r x id : Int) : Nat := if okS r x id = true then (levels x).toNat else 0
def shW (d : Int) (ep sq : UInt32) (r : Int) (e : List UInt8) (x id : Int) : List UInt8 := if okS r x id = true then showW d ep sq r e id.toNat (levels x).toNat else []
def shE (r x id : Int) : Int := if okS r x id = true then 0 else 1
def rsB (d : Int) (ep sq : UInt32) (r x id : Int) (l ws : List UInt8) (n : Nat) : List UInt8 := if okS r x id = true then riseB d ep sq r id.toNat l ws (levels x).toNat n else List.replicate 16 0
def rsE (r x id : Int) (n : Nat) : Int := if okS r x id = true then riseE (levels x).toNat n else 1
def rsX (d : Int) (ep sq : UInt32) (r x id : Int) (l ws : List UInt8) (n : Nat) : List (List UInt8) := if okS r x id = true then riseX d ep sq r id.toNat l ws (levels x).toNat n else []
theorem shL_length (d : Int) (ep sq : UInt32) (r : Int) (e : List UInt8) (x id : Int) : (shL d ep sq r e x id).length = 16 := by
  unfold shL
  split
  · exact lNode_length _ _ _ _ _ _ _
  · simp
theorem rsB_length {d : Int} {ep sq : UInt32} {r x id : Int} {l ws : List UInt8} (hl : l.length = 16) (n : Nat) : (rsB d ep sq r x id l ws n).length = 16 := by
  unfold rsB
  split
  · exact riseB_length hl _ _
  · simp
set_option maxHeartbeats 4000000 in
theorem ladder_Show (d : Int) (ep sq : UInt32) (r : Int) (e : List UInt8) (W lv q : Nat) (hel : e.length = 16) (hr : rightB r W = true) (hW : W = 2 ^ lv) (hlv : lv ≤ 3) (hxl : levels W = lv) (hqW : q < W) (w : World)  : Ctr Tryz.prog 76 [.agg #[I d, U ep, U sq], I r, .agg (e.map B).toArray, I W, I q] w (fun _ => False) (outE (tup3E (.agg ((lNode d ep sq r e 0 q).map B).toArray) (I 0) (rowS lv (showW d ep sq r e q lv))) w) := by
  have hW8 : W ≤ 8 := by rw [hW]; exact pow8 hlv
  refine fn_start (N := 64) Tryz.func76 rfl rfl rfl fun ac hk => ?_
  have hs := St.start hk w
  refine wp_seq ?_
  refine wp_reg ?_
  refine s_box hs rfl rfl rfl fun ac ww g5 hs => ?_
  refine s_box hs rfl rfl rfl fun ac ww g7 hs => ?_
  refine s_alloc hs ty36 rfl fun ac ww g10 hs => ?_
  refine s_q hs (c_assign (hs.ev rfl)) rfl fun ac hs => ?_
  refine s_q hs (c_assign (hs.ev rfl)) rfl fun ac hs => ?_
  refine s_end ?_
  replace hs := hs.sub (F' := [(1, _), (3, _), (4, _), (5, _), (7, _), (10, _), (11, _), (12, _)]) ⟨rfl, rfl, rfl, rfl, rfl, rfl, rfl, rfl, trivial⟩
  refine then_n ?_
  refine wp_seq ?_
  refine wp_seq ?_
  refine wp_reg ?_
  refine s_q hs (c_move (hs.ev rfl)) rfl fun ac hs => ?_
  refine s_q hs (c_move (hs.ev rfl)) rfl fun ac hs => ?_
  refine s_call hs fu114 (.cons (hs.ev rfl) (.cons (hs.ev rfl) .nil)) (ladder_right r W _) rfl fun ac ww v19 hf hp hs => ?_
  obtain rfl := hp
  replace hs := hs [] (.nil _ _)
  refine s_q hs (c_ff (c_not (hs.ev rfl)) (by rw [hr]; rfl)) rfl fun ac hs => ?_
  refine s_q hs (c_move (hs.ev rfl)) rfl fun ac hs => ?_
  refine s_yes hs rfl rfl ?_
  refine s_q hs (c_move (hs.ev rfl)) rfl fun ac hs => ?_
  refine s_yes hs rfl rfl ?_
  refine s_q hs (c_ff (c_lssI (hs.ev rfl) (hs.ev rfl)) (by simp; try omega)) rfl fun ac hs => ?_
  refine s_q hs (c_pick (hs.ev rfl) (hs.ev rfl) (hs.ev rfl)) rfl fun ac hs => ?_
  refine s_q hs (c_move (hs.ev rfl)) rfl fun ac hs => ?_
  refine s_yes hs rfl rfl ?_
  refine s_q hs (c_move (hs.ev rfl)) rfl fun ac hs => ?_
  refine s_yes hs rfl rfl ?_
  refine s_q hs (c_move (hs.ev rfl)) rfl fun ac hs => ?_
  refine s_yes hs rfl rfl ?_
  refine s_q hs (c_ff (c_geqI (hs.ev rfl) (hs.ev rfl)) (by simp; try omega)) rfl fun ac hs => ?_
  refine s_q hs (c_pick (hs.ev rfl) (hs.ev rfl) (hs.ev rfl)) rfl fun ac hs => ?_
  refine s_end ?_
  replace hs := hs.sub (F' := [(1, _), (3, _), (4, _), (5, _), (7, _), (10, _), (11, _), (12, _), (29, _)]) ⟨rfl, rfl, rfl, rfl, rfl, rfl, rfl, rfl, rfl, trivial⟩
  refine then_n ?_
  refine wp_cond_false (hs.ev rfl) ?_
  refine wp_skip ?_
  refine then_n ?_
  refine wp_seq ?_
  refine wp_reg ?_
  refine s_q hs (c_loadW ty165 ag165 (hs.ev rfl) (hs.seg (i := 2) rfl) (by rfl)) rfl fun ac hs => ?_
  refine s_q hs (c_move (hs.ev rfl)) rfl fun ac hs => ?_
  refine s_q hs (c_loadW ty36 rfl (hs.ev rfl) (hs.seg (i := 1) rfl) (by rw [List.length_map, hel])) rfl fun ac hs => ?_
  refine s_q hs (c_move (hs.ev rfl)) rfl fun ac hs => ?_
  refine s_call hs fu115 (.cons (hs.ev rfl) (.cons (hs.ev rfl) (.cons (hs.ev rfl) (.cons (hs.ev rfl) .nil)))) (ladder_tree d ep sq r e W lv hW hlv hel _) rfl fun ac ww v35 hf hp hs => ?_
  obtain ⟨L', ⟨ps, hps, rfl⟩, hh⟩ := hp
  replace hs := hs _ hh
  have hpl : ps.length = lv + 1 := by have := congrArg List.length hps; simpa using this
  obtain ⟨og, ocap, ocur, rfl, hog, hon, hom, hot⟩ := texts_at (hs.get (i := 0) rfl) (by omega)
  refine s_q hs (c_assign (hs.ev rfl)) rfl fun ac hs => ?_
  refine s_end ?_
  replace hs := hs.sub (F' := [(4, _), (10, _), (11, _), (12, _), (13, _)]) ⟨rfl, rfl, rfl, rfl, rfl, trivial⟩
  refine then_n ?_
  refine wp_seq ?_
  refine wp_reg ?_
  refine s_q hs (c_assign (hs.ev rfl)) rfl fun ac hs => ?_
  refine s_end ?_
  replace hs := hs.nilrow 36 16
  refine then_n ?_
  refine wp_seq ?_
  refine wp_seq ?_
  refine wp_reg ?_
  refine s_q hs (c_move (hs.ev rfl)) rfl fun ac hs => ?_
  refine s_q hs (c_assign (hs.ev rfl)) rfl fun ac hs => ?_
  refine s_q hs (c_assign (hs.ev rfl)) rfl fun ac hs => ?_
  refine s_end ?_
  replace hs := hs.sub (F' := [(4, _), (10, _), (11, _), (12, _), (13, _), (14, _), (15, _), (16, _)]) ⟨rfl, rfl, rfl, rfl, rfl, rfl, rfl, rfl, trivial⟩
  refine then_n ?_
  refine wp_block ?_
  refine s_loop hs (X := Nat × Value) (fun x => [(14, x.2), (15, I x.1), (16, I (q / 2 ^ x.1 : Nat))]) [(4, _), (10, _), (11, _), (12, _), (13, _)] (fun x => [.row x.2 x.1 ((showW d ep sq r e q x.1).map B) 36 16, _, _, _, _]) (fun j x => x.1 ≤ lv ∧ j = lv - x.1) (_) ((0, _)) (⟨Nat.zero_le _, rfl⟩) ⟨rfl, rfl, (congrArg (fun z : Nat => some (I z)) (by simp)), rfl, rfl, rfl, rfl, rfl, trivial⟩ rfl ?_
  rintro n ⟨k, v⟩ ac ww hok hs
  simp only [List.cons_append, List.nil_append] at hs
  obtain ⟨hk, rfl⟩ := hok
  simp only at hk hs
  obtain ⟨qk, hqk⟩ : ∃ qk : Nat, q / 2 ^ k = qk := ⟨_, rfl⟩
  have hqle : qk ≤ q := hqk ▸ Nat.div_le_self _ _
  rw [hqk] at hs
  have hsl := showW_length d ep sq r e q k
  refine wp_seq ?_
  refine wp_seq ?_
  refine wp_reg ?_
  refine s_q hs (c_move (hs.ev rfl)) rfl fun ac hs => ?_
  refine s_q hs (c_move (hs.ev rfl)) rfl fun ac hs => ?_
  refine s_q hs (c_lenS un209 (hs.ev rfl)) rfl fun ac hs => ?_
  refine s_q hs (c_to (c_subI (hs.ev rfl) (hs.ev rfl) (by omega) (by omega)) ((congrArg I (show ((ps.length : Int) - 1 = (lv : Int)) by omega)))) rfl fun ac hs => ?_
  refine s_q hs (c_lssI (hs.ev rfl) (hs.ev rfl)) rfl fun ac hs => ?_
  refine s_end ?_
  refine then_n ?_
  refine s_cond hs rfl (fun hc => ?_) (fun hc => ?_)
  · try simp only [decide_eq_true_eq, decide_eq_false_iff_not, Bool.not_eq_true', Bool.not_eq_false', Bool.and_eq_true, Bool.or_eq_true, Bool.or_eq_false_iff] at hc
    have hkl : k < lv := by omega
    have hbl := beside_in (k := k) (by rw [← hW]; exact hqW) hkl
    rw [hqk] at hbl
    obtain ⟨og2, oc2, ocur2, hoe2, hog2, _, _, hot2⟩ := texts_at (hs.get (i := 1) rfl) (by omega)
    cases hoe2
    have hz2 := snd_at hps (show k < lv + 1 by omega) (.nilIface, 0, [])
    have ho2 : ww.ownsRow 0 36 16 (ps.getD k (.nilIface, 0, [])).1 (ps.getD k (.nilIface, 0, [])).2.1 ((ps.getD k (.nilIface, 0, [])).2.2.map B) := texts_part (hs.get (i := 1) rfl) (k := k) (by omega) (.nilIface, 0, [])
    rw [hz2] at ho2
    simp only [lRow] at ho2
    obtain ⟨rg2, rcap2, rcur2, hre2, hrg2, hrn2, hrm2, hrt2⟩ := owns_at ho2 (pow_pos' _)
    refine wp_skip ?_
    refine then_n ?_
    refine wp_seq ?_
    refine wp_block ?_
    refine wp_reg ?_
    refine s_q hs (c_move (hs.ev rfl)) rfl fun ac hs => ?_
    refine s_q hs (c_move (hs.ev rfl)) rfl fun ac hs => ?_
    refine s_q hs (c_move (hs.ev rfl)) rfl fun ac hs => ?_
    refine s_q hs (c_idxS (j := k) un209 ty39 (hs.ev rfl) (hs.ev rfl) (by omega) (by omega)) rfl fun ac hs => ?_
    refine s_q hs (c_loadS un39 rfl (hs.ev rfl) hog2 ((outcell (.nilIface, 0, []) hot2 (by omega)).trans (congrArg some hre2))) rfl fun ac hs => ?_
    refine s_q hs (c_move (hs.ev rfl)) rfl fun ac hs => ?_
    refine s_q hs (c_to (c_xor1I (hs.ev rfl) (hs.ev rfl) (by omega)) ((congrArg (fun z : Nat => I z) (xor_beside qk)))) rfl fun ac hs => ?_
    refine s_q hs (c_idxS (j := besideI qk) un39 ty36 (hs.ev rfl) (hs.ev rfl) (by omega) hbl) rfl fun ac hs => ?_
    refine s_q hs (c_loadA ty36 rfl (hs.ev rfl) hrg2 ((rowpiece (i := besideI qk) hrt2 (by rw [lrows_length]; omega) hbl).trans (by rw [rows_piece (lNode_length d ep sq r e k) hbl])) (by rw [List.length_map]; exact lNode_length _ _ _ _ _ _ _)) rfl fun ac hs => ?_
    refine s_bslice hs un39 ty36 (.cons (hs.ev rfl) .nil) rfl (by intro v hv; simp only [List.mem_singleton] at hv; subst hv; simp [Value.cells, lNode_length]) (by decide) (show _ = (lNode d ep sq r e k (besideI qk)).map B by simp [flatCells, Value.cells]) rfl fun ac ww g55 hs => ?_
    refine s_append (i := 1) hs un39 ty36 (by decide) rfl rfl rfl (Rd.of_seg (n := 1) (hs.seg (i := 0) rfl) (Nat.le_refl _) (by decide) (List.take_of_length_le (by simp))) (by rw [List.length_map, lNode_length]) (all_map_B _) (by unfold maxLen; omega) (by omega) rfl fun ac ww v56 hf hnil hs => ?_
    refine s_q hs (c_assign (hs.ev rfl)) rfl fun ac hs => ?_
    refine s_end ?_
    refine blk_n ?_
    refine then_n ?_
    refine wp_reg ?_
    refine s_q hs (c_move (hs.ev rfl)) rfl fun ac hs => ?_
    refine s_q hs (c_addI (hs.ev rfl) (hs.ev rfl) (by omega) (by omega)) rfl fun ac hs => ?_
    refine s_q hs (c_move (hs.ev rfl)) rfl fun ac hs => ?_
    refine s_q hs (c_quoI (hs.ev rfl) (hs.ev rfl) (by omega) (by omega) (by omega)) rfl fun ac hs => ?_
    refine s_q hs (c_assign (hs.ev rfl)) rfl fun ac hs => ?_
    refine s_q hs (c_assign (hs.ev rfl)) rfl fun ac hs => ?_
    refine s_end ?_
    refine then_n ?_
    replace hs := hs.pick (L' := [_, _, _, _, _]) (.cons _ (.refl _))
    exact ⟨lv - (k + 1), by (try simp only); omega, (k + 1, _), ⟨by (try simp only); omega, rfl⟩, St.next hs ⟨rfl, rfl, (congrArg (fun z => some (I z)) (by rw [half_pow, hqk]; omega)), rfl, rfl, rfl, rfl, rfl, trivial⟩ (by simp only [showW_succ, List.map_append, wayN, hqk])⟩
  · try simp only [decide_eq_true_eq, decide_eq_false_iff_not, Bool.not_eq_true', Bool.not_eq_false', Bool.and_eq_true, Bool.or_eq_true, Bool.or_eq_false_iff] at hc
    obtain rfl : lv = k := by omega
    obtain ⟨og3, oc3, ocur3, hoe3, hog3, _, _, hot3⟩ := texts_at (hs.get (i := 1) rfl) (by omega)
    cases hoe3
    have hz3 := snd_at hps (show 0 < lv + 1 by omega) (.nilIface, 0, [])
    have ho3 : ww.ownsRow 0 36 16 (ps.getD 0 (.nilIface, 0, [])).1 (ps.getD 0 (.nilIface, 0, [])).2.1 ((ps.getD 0 (.nilIface, 0, [])).2.2.map B) := texts_part (hs.get (i := 1) rfl) (k := 0) (by omega) (.nilIface, 0, [])
    rw [hz3] at ho3
    simp only [lRow] at ho3
    obtain ⟨rg3, rcap3, rcur3, hre3, hrg3, hrn3, hrm3, hrt3⟩ := owns_at ho3 (pow_pos' _)
    refine wp_exit ?_
    refine then_e ?_
    refine then_e ?_
    refine blk_hit ?_
    refine then_n ?_
    refine wp_seq ?_
    refine wp_reg ?_
    refine s_q hs (c_move (hs.ev rfl)) rfl fun ac hs => ?_
    refine s_q hs (c_idxS (j := 0) un209 ty39 (hs.ev rfl) (hs.ev rfl) (by omega) (by omega)) rfl fun ac hs => ?_
    refine s_q hs (c_loadS un39 rfl (hs.ev rfl) hog3 ((outcell (.nilIface, 0, []) hot3 (by omega)).trans (congrArg some hre3))) rfl fun ac hs => ?_
    refine s_q hs (c_move (hs.ev rfl)) rfl fun ac hs => ?_
    refine s_q hs (c_idxS (j := q) un39 ty36 (hs.ev rfl) (hs.ev rfl) (by omega) (show q < 2 ^ (lv - 0) by rw [Nat.sub_zero, ← hW]; exact hqW)) rfl fun ac hs => ?_
    refine s_q hs (c_loadA ty36 rfl (hs.ev rfl) hrg3 ((rowpiece (i := q) hrt3 (by rw [lrows_length]; omega) (show q < 2 ^ (lv - 0) by rw [Nat.sub_zero, ← hW]; exact hqW)).trans (by rw [rows_piece (lNode_length d ep sq r e 0) (show q < 2 ^ (lv - 0) by rw [Nat.sub_zero, ← hW]; exact hqW)])) (by rw [List.length_map]; exact lNode_length _ _ _ _ _ _ _)) rfl fun ac hs => ?_
    refine s_q hs (c_move (hs.ev rfl)) rfl fun ac hs => ?_
    refine s_storeW (i := 2) hs ty36 rfl rfl rfl (by rw [List.length_map]; exact lNode_length _ _ _ _ _ _ _) (all_map_B _) rfl fun ww hs => ?_
    refine s_q hs (c_assign (hs.ev rfl)) rfl fun ac hs => ?_
    refine s_q hs (c_assign (hs.ev rfl)) rfl fun ac hs => ?_
    refine s_end ?_
    replace hs := hs.sub (F' := [(10, _), (11, _), (12, _)]) ⟨rfl, rfl, rfl, trivial⟩
    refine then_n ?_
    refine wp_ret ?_
    refine s_ret hs rfl (.cell (hs.tmp rfl) (run_loadA ty36 rfl (hs.seg (i := 2) rfl) (List.take_of_length_le (show (List.map B (lNode d ep sq r e 0 q)).length ≤ 16 by rw [List.length_map, lNode_length]; exact Nat.le_refl _)) (show (List.map B (lNode d ep sq r e 0 q)).length = 16 by rw [List.length_map, lNode_length])) (.tmp (hs.tmp rfl) (.tmp (hs.tmp rfl) .nil))) rfl ⟨_, rfl, hs.fr, ?_⟩
    exact ⟨_, ⟨_, rfl, rfl⟩, (hs.pick (L' := [_]) (.cons_cons _ (List.nil_sublist _))).made⟩
set_option maxHeartbeats 4000000 in
theorem ladder_ShowBad (d : Int) (ep sq : UInt32) (r x id : Int) (e : List UInt8) (hel : e.length = 16) (hno : ¬ okS r x id = true) (w : World)  : Ctr Tryz.prog 76 [.agg #[I d, U ep, U sq], I r, .agg (e.map B).toArray, I x, I id] w (fun _ => False) (outE (tup3E (.agg ((List.replicate 16 (0 : UInt8)).map B).toArray) (I 1) (rowS 0 [])) w) := by
  refine fn_start (N := 64) Tryz.func76 rfl rfl rfl fun ac hk => ?_
  have hs := St.start hk w
  refine wp_seq ?_
  refine wp_reg ?_
  refine s_box hs rfl rfl rfl fun ac ww g5 hs => ?_
  refine s_box hs rfl rfl rfl fun ac ww g7 hs => ?_
  refine s_alloc hs ty36 rfl fun ac ww g10 hs => ?_
  refine s_q hs (c_assign (hs.ev rfl)) rfl fun ac hs => ?_
  refine s_q hs (c_assign (hs.ev rfl)) rfl fun ac hs => ?_
  refine s_end ?_
  replace hs := hs.sub (F' := [(1, _), (3, _), (4, _), (5, _), (7, _), (10, _), (11, _), (12, _)]) ⟨rfl, rfl, rfl, rfl, rfl, rfl, rfl, rfl, trivial⟩
  refine then_n ?_
  refine wp_seq ?_
  refine wp_seq ?_
  refine wp_reg ?_
  refine s_q hs (c_move (hs.ev rfl)) rfl fun ac hs => ?_
  refine s_q hs (c_move (hs.ev rfl)) rfl fun ac hs => ?_
  refine s_call hs fu114 (.cons (hs.ev rfl) (.cons (hs.ev rfl) .nil)) (ladder_right r x _) rfl fun ac ww v19 hf hp hs => ?_
  obtain rfl := hp
  replace hs := hs [] (.nil _ _)
  refine s_q hs (c_not (hs.ev rfl)) rfl fun ac hs => ?_
  refine s_q hs (c_move (hs.ev rfl)) rfl fun ac hs => ?_
  refine s_g hs rfl rfl (fun hg => c_move (hs.ev rfl)) rfl fun ac hs => ?_
  refine s_g hs rfl rfl (fun hg => c_lssI (gev (hs.ev rfl) hg) (hs.ev rfl)) rfl fun ac hs => ?_
  refine s_q hs (c_or (hs.ev rfl) (hs.ev rfl)) rfl fun ac hs => ?_
  refine s_q hs (c_move (hs.ev rfl)) rfl fun ac hs => ?_
  refine s_g hs rfl rfl (fun hg => c_move (hs.ev rfl)) rfl fun ac hs => ?_
  refine s_g hs rfl rfl (fun hg => c_move (hs.ev rfl)) rfl fun ac hs => ?_
  refine s_g hs rfl rfl (fun hg => c_geqI (gev (hs.ev rfl) hg) (gev (hs.ev rfl) hg)) rfl fun ac hs => ?_
  refine s_q hs (c_or (hs.ev rfl) (hs.ev rfl)) rfl fun ac hs => ?_
  refine s_end ?_
  replace hs := hs.sub (F' := [(1, _), (3, _), (4, _), (5, _), (7, _), (10, _), (11, _), (12, _), (29, _)]) ⟨rfl, rfl, rfl, rfl, rfl, rfl, rfl, rfl, rfl, trivial⟩
  refine then_n ?_
  refine s_cond hs rfl (fun hc => ?_) (fun hc => ?_)
  · try simp only [decide_eq_true_eq, decide_eq_false_iff_not, Bool.not_eq_true', Bool.not_eq_false', Bool.and_eq_true, Bool.or_eq_true, Bool.or_eq_false_iff] at hc
    refine wp_seq ?_
    refine wp_reg ?_
    refine s_q hs (c_buildA ty36 un36 ty5 (zc := (List.replicate 16 (0 : UInt8)).map B) (vs := []) .nil (by simp) (by simp [flatCells]) rfl) rfl fun ac hs => ?_
    refine s_storeW (i := 0) hs ty36 rfl rfl rfl (by simp) (all_map_B _) rfl fun ww hs => ?_
    refine s_q hs (c_assign (hs.ev rfl)) rfl fun ac hs => ?_
    refine s_q hs (c_assign (hs.ev rfl)) rfl fun ac hs => ?_
    refine s_end ?_
    replace hs := hs.sub (F' := [(1, _), (3, _), (4, _), (5, _), (7, _), (10, _), (11, _), (12, _)]) ⟨rfl, rfl, rfl, rfl, rfl, rfl, rfl, rfl, trivial⟩
    refine then_n ?_
    refine wp_ret ?_
    refine then_r ?_
    
    refine s_ret hs rfl (.cell (hs.tmp rfl) (run_loadA ty36 rfl (hs.seg (i := 0) rfl) (List.take_of_length_le (by simp)) (by simp)) (.tmp (hs.tmp rfl) (.tmp (hs.tmp rfl) .nil))) rfl ⟨_, rfl, hs.fr, ?_⟩
    exact ⟨_, ⟨_, rfl, rfl⟩, ((hs.nilrow 36 16).pick (L' := [_]) (.cons_cons _ (List.nil_sublist _))).made⟩
  · exact absurd (by simp at hc; simp [okS]; omega) hno
set_option maxHeartbeats 4000000 in
theorem ladder_RiseBad (d : Int) (ep sq : UInt32) (r x id : Int) (l : List UInt8) (hll : l.length = 16) (wv : Value) (hno : ¬ okS r x id = true) (w : World)  : Ctr Tryz.prog 83 [.agg #[I d, U ep, U sq], I r, I x, I id, .agg (l.map B).toArray, wv] w (fun _ => False) (fun v _ => v = .tuple #[(.agg ((List.replicate 16 (0 : UInt8)).map B).toArray), I 1]) := by
  refine fn_start (N := 61) Tryz.func83 rfl rfl rfl fun ac hk => ?_
  have hs := St.start hk w
  refine wp_seq ?_
  refine wp_reg ?_
  refine s_box hs rfl rfl rfl fun ac ww g6 hs => ?_
  refine s_box hs rfl rfl rfl fun ac ww g10 hs => ?_
  refine s_alloc hs ty36 rfl fun ac ww g12 hs => ?_
  refine s_q hs (c_assign (hs.ev rfl)) rfl fun ac hs => ?_
  refine s_end ?_
  replace hs := hs.sub (F' := [(1, _), (2, _), (3, _), (5, _), (6, _), (10, _), (12, _), (13, _)]) ⟨rfl, rfl, rfl, rfl, rfl, rfl, rfl, rfl, trivial⟩
  refine then_n ?_
  refine wp_seq ?_
  refine wp_block ?_
  refine wp_seq ?_
  refine wp_reg ?_
  refine s_q hs (c_move (hs.ev rfl)) rfl fun ac hs => ?_
  refine s_q hs (c_move (hs.ev rfl)) rfl fun ac hs => ?_
  refine s_call hs fu114 (.cons (hs.ev rfl) (.cons (hs.ev rfl) .nil)) (ladder_right r x _) rfl fun ac ww v19 hf hp hs => ?_
  obtain rfl := hp
  replace hs := hs [] (.nil _ _)
  refine s_q hs (c_not (hs.ev rfl)) rfl fun ac hs => ?_
  refine s_q hs (c_move (hs.ev rfl)) rfl fun ac hs => ?_
  refine s_g hs rfl rfl (fun hg => c_move (hs.ev rfl)) rfl fun ac hs => ?_
  refine s_g hs rfl rfl (fun hg => c_lssI (gev (hs.ev rfl) hg) (hs.ev rfl)) rfl fun ac hs => ?_
  refine s_q hs (c_or (hs.ev rfl) (hs.ev rfl)) rfl fun ac hs => ?_
  refine s_q hs (c_move (hs.ev rfl)) rfl fun ac hs => ?_
  refine s_g hs rfl rfl (fun hg => c_move (hs.ev rfl)) rfl fun ac hs => ?_
  refine s_g hs rfl rfl (fun hg => c_move (hs.ev rfl)) rfl fun ac hs => ?_
  refine s_g hs rfl rfl (fun hg => c_geqI (gev (hs.ev rfl) hg) (gev (hs.ev rfl) hg)) rfl fun ac hs => ?_
  refine s_q hs (c_or (hs.ev rfl) (hs.ev rfl)) rfl fun ac hs => ?_
  refine s_q hs (c_assign (hs.ev rfl)) rfl fun ac hs => ?_
  refine s_end ?_
  replace hs := hs.sub (F' := [(1, _), (2, _), (3, _), (5, _), (6, _), (10, _), (12, _), (13, _), (16, _)]) ⟨rfl, rfl, rfl, rfl, rfl, rfl, rfl, rfl, rfl, trivial⟩
  refine then_n ?_
  refine s_cond hs rfl (fun hc => ?_) (fun hc => ?_)
  · try simp only [decide_eq_true_eq, decide_eq_false_iff_not, Bool.not_eq_true', Bool.not_eq_false', Bool.and_eq_true, Bool.or_eq_true, Bool.or_eq_false_iff] at hc
    refine wp_seq ?_
    refine wp_reg ?_
    refine s_q hs (c_buildA ty36 un36 ty5 (zc := (List.replicate 16 (0 : UInt8)).map B) (vs := []) .nil (by simp) (by simp [flatCells]) rfl) rfl fun ac hs => ?_
    refine s_storeW (i := 0) hs ty36 rfl rfl rfl (by simp) (all_map_B _) rfl fun ww hs => ?_
    refine s_q hs (c_assign (hs.ev rfl)) rfl fun ac hs => ?_
    refine s_end ?_
    replace hs := hs.sub (F' := [(1, _), (2, _), (3, _), (5, _), (6, _), (10, _), (12, _), (13, _)]) ⟨rfl, rfl, rfl, rfl, rfl, rfl, rfl, rfl, trivial⟩
    refine then_n ?_
    refine wp_ret ?_
    refine blk_r ?_
    refine then_r ?_
    
    refine s_ret hs rfl (.cell (hs.tmp rfl) (run_loadA ty36 rfl (hs.seg (i := 0) rfl) (List.take_of_length_le (by simp)) (by simp)) (.tmp (hs.tmp rfl) .nil)) rfl ⟨_, rfl, hs.fr, ?_⟩
    rfl
  · exact absurd (by simp at hc; simp [okS]; omega) hno
set_option maxHeartbeats 4000000 in
theorem ref06_RiseBad (d : Int) (ep sq : UInt32) (r x id : Int) (l : List UInt8) (hll : l.length = 16) (wv : Value) (hno : ¬ okS r x id = true) (w : World)  : Ctr Tryz.prog 90 [.agg #[I d, U ep, U sq], I r, I x, I id, .agg (l.map B).toArray, wv] w (fun _ => False) (outE (tup3E (.agg ((List.replicate 16 (0 : UInt8)).map B).toArray) (I 1) (textsE 177 5 [])) w) := by
  refine fn_start (N := 73) Tryz.func90 rfl rfl rfl fun ac hk => ?_
  have hs := St.start hk w
  refine wp_seq ?_
  refine wp_reg ?_
  refine s_box hs rfl rfl rfl fun ac ww g6 hs => ?_
  refine s_box hs rfl rfl rfl fun ac ww g10 hs => ?_
  refine s_alloc hs ty35 rfl fun ac ww g12 hs => ?_
  refine s_q hs (c_assign (hs.ev rfl)) rfl fun ac hs => ?_
  refine s_q hs (c_assign (hs.ev rfl)) rfl fun ac hs => ?_
  refine s_end ?_
  replace hs := hs.sub (F' := [(1, _), (2, _), (3, _), (5, _), (6, _), (10, _), (12, _), (13, _), (14, _)]) ⟨rfl, rfl, rfl, rfl, rfl, rfl, rfl, rfl, rfl, trivial⟩
  refine then_n ?_
  refine wp_seq ?_
  refine wp_seq ?_
  refine wp_reg ?_
  refine s_q hs (c_move (hs.ev rfl)) rfl fun ac hs => ?_
  refine s_q hs (c_move (hs.ev rfl)) rfl fun ac hs => ?_
  refine s_call hs fu116 (.cons (hs.ev rfl) (.cons (hs.ev rfl) .nil)) (ref06_Right r x _) rfl fun ac ww v20 hf hp hs => ?_
  obtain rfl := hp
  replace hs := hs [] (.nil _ _)
  refine s_q hs (c_not (hs.ev rfl)) rfl fun ac hs => ?_
  refine s_q hs (c_move (hs.ev rfl)) rfl fun ac hs => ?_
  refine s_g hs rfl rfl (fun hg => c_move (hs.ev rfl)) rfl fun ac hs => ?_
  refine s_g hs rfl rfl (fun hg => c_lssI (gev (hs.ev rfl) hg) (hs.ev rfl)) rfl fun ac hs => ?_
  refine s_q hs (c_or (hs.ev rfl) (hs.ev rfl)) rfl fun ac hs => ?_
  refine s_q hs (c_move (hs.ev rfl)) rfl fun ac hs => ?_
  refine s_g hs rfl rfl (fun hg => c_move (hs.ev rfl)) rfl fun ac hs => ?_
  refine s_g hs rfl rfl (fun hg => c_move (hs.ev rfl)) rfl fun ac hs => ?_
  refine s_g hs rfl rfl (fun hg => c_geqI (gev (hs.ev rfl) hg) (gev (hs.ev rfl) hg)) rfl fun ac hs => ?_
  refine s_q hs (c_or (hs.ev rfl) (hs.ev rfl)) rfl fun ac hs => ?_
  refine s_end ?_
  replace hs := hs.sub (F' := [(1, _), (2, _), (3, _), (5, _), (6, _), (10, _), (12, _), (13, _), (14, _), (30, _)]) ⟨rfl, rfl, rfl, rfl, rfl, rfl, rfl, rfl, rfl, rfl, trivial⟩
  refine then_n ?_
  refine s_cond hs rfl (fun hc => ?_) (fun hc => ?_)
  · try simp only [decide_eq_true_eq, decide_eq_false_iff_not, Bool.not_eq_true', Bool.not_eq_false', Bool.and_eq_true, Bool.or_eq_true, Bool.or_eq_false_iff] at hc
    refine wp_seq ?_
    refine wp_reg ?_
    refine s_q hs (c_buildA ty35 un35 ty5 (zc := (List.replicate 16 (0 : UInt8)).map B) (vs := []) .nil (by simp) (by simp [flatCells]) rfl) rfl fun ac hs => ?_
    refine s_storeW (i := 0) hs ty35 rfl rfl rfl (by simp) (all_map_B _) rfl fun ww hs => ?_
    refine s_q hs (c_assign (hs.ev rfl)) rfl fun ac hs => ?_
    refine s_q hs (c_assign (hs.ev rfl)) rfl fun ac hs => ?_
    refine s_end ?_
    replace hs := hs.sub (F' := [(1, _), (2, _), (3, _), (5, _), (6, _), (10, _), (12, _), (13, _), (14, _)]) ⟨rfl, rfl, rfl, rfl, rfl, rfl, rfl, rfl, rfl, trivial⟩
    refine then_n ?_
    refine wp_ret ?_
    refine then_r ?_
    
    refine s_ret hs rfl (.cell (hs.tmp rfl) (run_loadA ty35 rfl (hs.seg (i := 0) rfl) (List.take_of_length_le (by simp)) (by simp)) (.tmp (hs.tmp rfl) (.tmp (hs.tmp rfl) .nil))) rfl ⟨_, rfl, hs.fr, ?_⟩
    exact ⟨_, ⟨_, rfl, [], rfl, rfl⟩, ((hs.texts0 177 (Ent.part 5)).pick (L' := [_]) (.cons_cons _ (List.nil_sublist _))).made⟩
  · exact absurd (by simp at hc; simp [okS]; omega) hno
end Go.Proofs.YtklajbdbnnceiaaGreat
end

section
/- Laws of ladders: what is shown rises. -/
set_option linter.unusedSimpArgs false
set_option linter.unusedVariables false
set_option maxRecDepth 100000
namespace Go.Proofs.YtklajbdbnnceiaaGreat
open Go Go.Fw
open Sha
theorem ladder_ShowA (d : Int) (ep sq : UInt32) (r : Int) (e : List UInt8) (x id : Int) (hel : e.length = 16) (w : World)  : Ctr Tryz.prog 76 [.agg #[I d, U ep, U sq], I r, .agg (e.map B).toArray, I x, I id] w (fun _ => False) (outE (tup3E (.agg ((shL d ep sq r e x id).map B).toArray) (I (shE r x id)) (rowS (shN r x id) (shW d ep sq r e x id))) w) := by
  by_cases h : okS r x id = true
  · obtain ⟨lv, W, q, h1, h2, rfl, h4, rfl, h6, h7⟩ := okS_spec h
    have h8 := ladder_Show d ep sq r e W lv q hel h7 h2 h1 h4 h6 w
    simp only [shL, shE, shN, shW, if_pos h, h4, Int.toNat_natCast]
    exact h8
  · have h8 := ladder_ShowBad d ep sq r x id e hel h w
    simp only [shL, shE, shN, shW, if_neg h]
    exact h8
theorem ladder_RiseA (d : Int) (ep sq : UInt32) (r x id : Int) (l ws : List UInt8) (n : Nat) (wv : Value) (hll : l.length = 16) (hwl : ws.length = n * 16) (w : World) (hqw : Rd w wv n (ws.map B)) : Ctr Tryz.prog 83 [.agg #[I d, U ep, U sq], I r, I x, I id, .agg (l.map B).toArray, wv] w (fun _ => False) (fun v _ => v = .tuple #[.agg ((rsB d ep sq r x id l ws n).map B).toArray, I (rsE r x id n)]) := by
  by_cases h : okS r x id = true
  · obtain ⟨lv, W, q, h1, h2, rfl, h4, rfl, h6, h7⟩ := okS_spec h
    have h8 := ladder_Rise d ep sq r W lv q n l ws wv h7 h2 h1 h4 h6 hll hwl w hqw
    simp only [rsB, rsE, if_pos h, h4, Int.toNat_natCast]
    exact h8
  · have h8 := ladder_RiseBad d ep sq r x id l hll wv h w
    simp only [rsB, rsE, if_neg h]
    exact h8
theorem ref06_RiseA (d : Int) (ep sq : UInt32) (r x id : Int) (l ws : List UInt8) (n : Nat) (wv : Value) (hll : l.length = 16) (hwl : ws.length = n * 16) (hn6 : n ≤ 1000000) (w : World) (hqw : Rd w wv n (ws.map B)) : Ctr Tryz.prog 90 [.agg #[I d, U ep, U sq], I r, I x, I id, .agg (l.map B).toArray, wv] w (fun _ => False) (outE (tup3E (.agg ((rsB d ep sq r x id l ws n).map B).toArray) (I (rsE r x id n)) (textsE 177 5 (rsX d ep sq r x id l ws n))) w) := by
  by_cases h : okS r x id = true
  · obtain ⟨lv, W, q, h1, h2, rfl, h4, rfl, h6, h7⟩ := okS_spec h
    have h8 := ref06_Rise d ep sq r W lv q n l ws wv h7 h2 h1 h4 h6 hll hwl hn6 w hqw
    simp only [rsB, rsE, rsX, if_pos h, h4, Int.toNat_natCast]
    exact h8
  · have h8 := ref06_RiseBad d ep sq r x id l hll wv h w
    simp only [rsB, rsE, rsX, if_neg h]
    exact h8
end Go.Proofs.YtklajbdbnnceiaaGreat
end

section
/- A spring whose tree is made. -/
set_option linter.unusedSimpArgs false
set_option linter.unusedVariables false
set_option maxRecDepth 100000
namespace Go.Proofs.YtklajbdbnnceiaaGreat
open Go Go.Fw
open Sha
def SpMade (w : World) (p : Spr) : Prop := ∃ K u, SpAt w p 0 K (some u)
theorem SpMade.fr0 {w w' : World} {p : Spr} (h : SpMade w p) (hf : Fr0 w w') : SpMade w' p := by
  obtain ⟨K, u, h⟩ := h
  exact ⟨K, u, h.fr0 hf⟩
end Go.Proofs.YtklajbdbnnceiaaGreat
end

section
/- What a spring issues. -/
set_option linter.unusedSimpArgs false
set_option linter.unusedVariables false
set_option maxRecDepth 100000
namespace Go.Proofs.YtklajbdbnnceiaaGreat
open Go Go.Fw
open Sha
def TreeB (w : World) (p : Spr) (pv : Value) (Q : Nat → Prop) : Prop :=
  ∃ g v ps, pv = .pointer (some ⟨g, 0, none⟩) ∧ ps.map (·.2) = (List.range (p.H + 1)).map (gRow p.d p.ep (ends p p.m) p.H) ∧ Has 0 w (groveL p.d p.ep g v ps) ∧ (∀ e ∈ groveL p.d p.ep g v ps, ∀ k, e.keys k → k ≠ p.g ∧ k ≠ p.cg) ∧ ∀ e ∈ groveL p.d p.ep g v ps, ∀ k, e.keys k → Q k
theorem TreeB.at {w : World} {p : Spr} {pv : Value} {Q : Nat → Prop} (h : TreeB w p pv Q) : TreeAt w p pv := by
  obtain ⟨g, v, ps, h1, h2, h3, h4, _⟩ := h
  exact ⟨g, v, ps, h1, h2, h3, h4⟩
theorem TreeB.frk {w w' : World} {p : Spr} {pv : Value} {Q M : Nat → Prop} (h : TreeB w p pv Q) (hf : Fr M w w') (hM : ∀ k, M k → k = p.g ∨ k = p.cg ∨ ¬ Q k) : TreeB w' p pv Q := by
  obtain ⟨g, v, ps, h1, h2, h3, h4, h5⟩ := h
  exact ⟨g, v, ps, h1, h2, h3.same hf.size fun e he k hk => hf.block k (h3.lt e he k hk) fun h => (hM k h).elim (h4 e he k hk).1 fun h => h.elim (h4 e he k hk).2 fun h => h (h5 e he k hk), h4, h5⟩
theorem TreeB.mono {w : World} {p : Spr} {pv : Value} {Q Q' : Nat → Prop} (h : TreeB w p pv Q) (hq : ∀ k, k < w.heap.size → Q k → Q' k) : TreeB w p pv Q' := by
  obtain ⟨g, v, ps, h1, h2, h3, h4, h5⟩ := h
  exact ⟨g, v, ps, h1, h2, h3, h4, fun e he k hk => hq k (h3.lt e he k hk) (h5 e he k hk)⟩
/-- No block of a spring's columns or tree is among these. -/
def SpFr (w : World) (p : Spr) (K : Nat → Option Value) (t : Option Value) (Bd : Nat → Prop) : Prop :=
  (∀ q, q < p.m → ∀ v, K q = some v → ∀ k, v.ownBlock = some k → ¬ Bd k) ∧ ∀ v, t = some v → TreeB w p v fun k => ¬ Bd k
theorem SpAt.free {w : World} {p : Spr} {lk : Int} {K : Nat → Option Value} {t : Option Value} (h : SpAt w p lk K t) : SpFr w p K t (w.heap.size ≤ ·) := by
  refine ⟨fun q hq v hv k hk => Nat.not_le_of_lt ((h.col q hq v hv).lt k hk), fun v hv => ?_⟩
  obtain ⟨g, v', ps, h1, h2, h3, h4⟩ := (h.tree v hv).1
  exact ⟨g, v', ps, h1, h2, h3, h4, fun e he k hk => Nat.not_le_of_lt (h3.lt e he k hk)⟩
theorem SpFr.mono {w : World} {p : Spr} {K : Nat → Option Value} {t : Option Value} {Bd Bd' : Nat → Prop} (h : SpFr w p K t Bd) (hm : ∀ k, Bd' k → Bd k) : SpFr w p K t Bd' :=
  ⟨fun q hq v hv k hk hb => h.1 q hq v hv k hk (hm k hb), fun v hv => (h.2 v hv).mono fun k _ h1 h2 => h1 (hm k h2)⟩
theorem SpFr.keep {w w' : World} {p : Spr} {lk : Int} {K : Nat → Option Value} {t : Option Value} {Bd M : Nat → Prop} (h : SpFr w p K t Bd) (hs : SpAt w p lk K t) (hf : Fr M w w') (hM : ∀ k, M k → k = p.g ∨ k = p.cg ∨ Bd k)
    (hg : w'.heap[p.g]? = w.heap[p.g]?) (hc : w'.heap[p.cg]? = w.heap[p.cg]?) : SpAt w' p lk K t ∧ SpFr w' p K t Bd := by
  have hM2 : ∀ k, M k → k = p.g ∨ k = p.cg ∨ ¬ ¬ Bd k := fun k hk => (hM k hk).imp id fun h => h.imp id fun h => not_not_intro h
  refine ⟨⟨hg.trans hs.hg, hc.trans hs.hc, fun q hq v hv => ?_, fun v hv => ⟨((h.2 v hv).frk hf hM2).at, (hs.tree v hv).2⟩⟩, h.1, fun v hv => (h.2 v hv).frk hf hM2⟩
  have hcol := hs.col q hq v hv
  refine hcol.frk hf fun k hk hm => ?_
  have h5 := h.1 q hq v hv k hk
  obtain ⟨b, cap, cur, rfl, _, _, _, _, h6, h7⟩ := hcol
  simp only [Value.ownBlock, Option.some.injEq] at hk
  subst hk
  rcases hM _ hm with e | e | e
  · exact h6 e
  · exact h7 e
  · exact h5 e
theorem SpFr.call {w w' : World} {p : Spr} {K K' : Nat → Option Value} {t : Option Value} {Bd : Nat → Prop} (h : SpFr w p K t Bd) (hf : Fr (SpM p) w w') (hlo : ∀ k, Bd k → k < w.heap.size) (hn : ∀ q, q < p.m → ∀ v, K' q = some v → K q = some v ∨ freshV w v) : SpFr w' p K' t Bd :=
  ⟨fun q hq v hv k hk hb => (hn q hq v hv).elim (fun h2 => h.1 q hq v h2 k hk hb) fun h2 => by have := h2 k hk; have := hlo k hb; omega, fun v hv => (h.2 v hv).frk hf fun k hk => hk.imp id .inl⟩
theorem SpFr.tree {w w' : World} {p : Spr} {K K' : Nat → Option Value} {t : Option Value} {pv : Value} {Bd : Nat → Prop} (h : SpFr w p K t Bd) (hf : Fr (SpM p) w w') (hlo : ∀ k, Bd k → k < w.heap.size) (hn : SpNew w w' p K t pv K') : SpFr w' p K' (some pv) Bd := by
  refine ⟨fun q hq v hv k hk hb => (hn.1 q hq v hv).elim (fun h2 => h.1 q hq v h2 k hk hb) fun h2 => by have := h2 k hk; have := hlo k hb; omega, fun v hv => ?_⟩
  cases hv
  rcases hn.2 with h2 | h2
  · exact (h.2 _ h2).frk hf fun k hk => hk.imp id .inl
  · obtain ⟨g, v', ps, h1, h2, h3, h4, h5⟩ := h2
    exact ⟨g, v', ps, h1, h2, h3, h4, fun e he k hk hb => by have := h5 e he k hk; have := hlo k hb; omega⟩
section
variable {N : Nat} {F : List (Nat × Value)} {p : Spr} {A : List Ent} {xs ys : List Value} {T U : TypeId} {w0 w1 w2 : World} {a : Act} {M : Nat → Prop}
theorem ownA (hs : St N F (A ++ [.seg p.g xs T, .seg p.cg ys U]) (SpM p) w0 a w1) : ∀ e ∈ A, ∀ k, e.keys k → w0.heap.size ≤ k ∧ k < w1.heap.size ∧ ¬ SpM p k := by
  intro e he k hk
  have h1 := (List.pairwise_append.1 hs.has.apart).2.2 e he
  have h2 : ¬ SpM p k := fun h => h.elim (h1 _ (.head _) k hk) (h1 _ (.tail _ (.head _)) k hk)
  exact ⟨(hs.own e (List.mem_append_left _ he) k hk).resolve_right h2, hs.has.lt e (List.mem_append_left _ he) k hk, h2⟩
theorem ownA2 (hs : St N F (A ++ [.seg p.g xs T, .seg p.cg ys U]) (SpM p) w0 a w1) : ∀ e ∈ A, ∀ k, e.keys k → w0.heap.size ≤ k ∧ k < w1.heap.size := fun e he k hk => ⟨(ownA hs e he k hk).1, (ownA hs e he k hk).2.1⟩
theorem keepA (ho : p.Ok) (hs : St N F (A ++ [.seg p.g xs T, .seg p.cg ys U]) (SpM p) w0 a w1) (hf : Fr (SpM p) w1 w2) {xs' ys' : List Value}
    (ha : w2.heap[p.g]? = some (.cells xs'.toArray 149 (0, 0))) (hb : w2.heap[p.cg]? = some (.cells ys'.toArray 203 (0, 0))) : Has 0 w2 (A ++ [.seg p.g xs' 149, .seg p.cg ys' 203]) ∧ ∀ e ∈ A ++ [.seg p.g xs' 149, .seg p.cg ys' 203], ∀ k, e.keys k → w0.heap.size ≤ k ∨ SpM p k := by
  have hA := ownA hs
  have hN : ∀ e ∈ [Ent.seg p.g xs' 149, .seg p.cg ys' 203], ∀ k, e.keys k → SpM p k := fun e he k hk => by
    simp only [List.mem_cons, List.not_mem_nil, or_false] at he
    rcases he with rfl | rfl
    · exact .inl hk
    · exact .inr hk
  refine ⟨Has.app (hs.has.cons_app.1.same hf.size fun e he k hk => hf.block k (hA e he k hk).2.1 (hA e he k hk).2.2) (has2 ho.ne ha hb) fun e1 h1 e2 h2 kk hk1 hk2 => (hA e1 h1 kk hk1).2.2 (hN e2 h2 kk hk2), fun e he k hk => ?_⟩
  exact (List.mem_append.1 he).elim (fun h => .inl (hA e h k hk).1) fun h => .inr (hN e h k hk)
theorem keysA {Bd : Nat → Prop} (hA : ∀ e ∈ A, ∀ k, e.keys k → Bd k) : ∀ k, (Ent.grp (A ++ [.seg p.g xs T, .seg p.cg ys U])).keys k → k = p.g ∨ k = p.cg ∨ Bd k := by
  rintro k ⟨e, he, hk⟩
  rcases List.mem_append.1 he with h | h
  · exact .inr (.inr (hA e h k hk))
  · simp only [List.mem_cons, List.not_mem_nil, or_false] at h
    rcases h with rfl | rfl
    · exact .inl hk
    · exact .inr (.inl hk)
theorem _root_.Go.Fw.St.unrebase {L L0 : List Ent} (h : St N F L (Ent.grp L0).keys w1 a w2) (hf : Fr M w0 w1) (ho : ∀ e ∈ L0, ∀ k, e.keys k → w0.heap.size ≤ k ∨ M k) : St N F L M w0 a w2 :=
  ⟨h.know, h.has, fun e he k hk => (h.own e he k hk).elim (fun h1 => .inl (Nat.le_trans hf.size h1)) fun ⟨e', he', hk'⟩ => ho e' he' k hk', Fr.rebase hf ho h.fr⟩
end
/-- A credential, as a value. -/
def credV (l : List UInt8) (wv pv : Value) : Value := .agg (l.map B ++ [wv, pv]).toArray
def SpSome (w : World) (p : Spr) : Prop := ∃ K t, SpAt w p 0 K t
set_option maxHeartbeats 4000000 in
theorem proof_Issue (p : Spr) (ho : p.Ok) (K : Nat → Option Value) (t : Option Value) (d mt sn : Int) (ep sq : UInt32) (w : World) (hsp : SpAt w p 0 K t) : Ctr Tryz.prog 26 [.pointer (some ⟨p.g, 0, none⟩), .agg #[I d, U ep, U sq, I mt, I sn]] w (SpM p) (fun v w' => (clRight p.W p.S p.H d mt sn ep sq = false ∧ v = .tuple #[credV (List.replicate 16 (0 : UInt8)) (.slice none 0 0) (.slice none 0 0), I 1] ∧ SpSome w' p) ∨ (clRight p.W p.S p.H d mt sn ep sq = true ∧ SpMade w' p ∧ ∃ wv pv, v = .tuple #[credV (shL d ep sq mt (el p sq.toNat mt.toNat) p.W sn) wv pv, I 0] ∧ Rd w' wv (shN mt p.W sn) ((shW d ep sq mt (el p sq.toNat mt.toNat) p.W sn).map B) ∧ Rd w' pv p.H ((gPath p.d p.ep (ends p p.m) sq.toNat p.H).map B) ∧ (∀ k, wv.ownBlock = some k → w.heap.size ≤ k ∧ ¬ SpM p k) ∧ ∀ k, pv.ownBlock = some k → w.heap.size ≤ k ∧ ¬ SpM p k)) := by
  refine fn_start (N := 73) Tryz.func26 rfl rfl rfl fun ac hk => ?_
  have hs := St.start2 hk ho.ne hsp.hg hsp.hc
  refine wp_seq ?_
  refine wp_reg ?_
  refine s_box hs rfl rfl rfl fun ac ww g3 hs => ?_
  refine s_alloc hs ty56 rfl fun ac ww g4 hs => ?_
  refine s_q hs (c_assign (hs.ev rfl)) rfl fun ac hs => ?_
  refine s_end ?_
  replace hs := hs.sub (F' := [(0, _), (3, _), (4, _), (5, _)]) ⟨rfl, rfl, rfl, rfl, trivial⟩
  refine then_n ?_
  refine wp_seq ?_
  refine wp_reg ?_
  refine s_q hs (c_move (hs.ev rfl)) rfl fun ac hs => ?_
  refine s_call hs fu74 (.cons (hs.ev rfl) .nil) (spring_Rules p ho 0 K t _ (hsp.re hs.fr (hs.seg (i := 2) rfl) (hs.seg (i := 3) rfl) (fun _ _ _ h => .inl h) fun v h => ⟨.inl h, (hsp.tree v h).2⟩)) rfl fun ac ww v14 hf hp hs => ?_
  obtain rfl := hp
  replace hs := hs [] (.nil _ _)
  refine s_alloc hs ty33 rfl fun ac ww g6 hs => ?_
  refine s_storeW (i := 0) hs ty33 rfl rfl rfl (by rfl) (by rfl) rfl fun ww hs => ?_
  refine s_end ?_
  replace hs := hs.sub (F' := [(0, _), (3, _), (4, _), (5, _), (6, _)]) ⟨rfl, rfl, rfl, rfl, rfl, trivial⟩
  refine then_n ?_
  refine wp_seq ?_
  refine wp_block ?_
  refine wp_seq ?_
  refine wp_reg ?_
  refine s_q hs (c_move (hs.ev rfl)) rfl fun ac hs => ?_
  refine s_q hs (c_eqlNil un29 (hs.ev rfl) (hs.ev rfl)) rfl fun ac hs => ?_
  refine s_q hs (c_assign (hs.ev rfl)) rfl fun ac hs => ?_
  refine s_end ?_
  replace hs := hs.sub (F' := [(0, _), (3, _), (4, _), (5, _), (6, _), (15, _)]) ⟨rfl, rfl, rfl, rfl, rfl, rfl, trivial⟩
  refine then_n ?_
  refine wp_cond_false (hs.ev rfl) ?_
  refine wp_seq ?_
  refine wp_reg ?_
  refine s_q hs (c_loadW ty33 ag33 (hs.ev rfl) (hs.seg (i := 0) rfl) (by rfl)) rfl fun ac hs => ?_
  refine s_q hs (c_loadW ty61 ag61 (hs.ev rfl) (hs.seg (i := 2) rfl) (by rfl)) rfl fun ac hs => ?_
  refine s_call hs fu75 (.cons (hs.ev rfl) (.cons (hs.ev rfl) .nil)) (proof_Right p.W p.S p.H d mt sn ep sq _) rfl fun ac ww v22 hf hp hs => ?_
  obtain rfl := hp
  replace hs := hs [] (.nil _ _)
  refine s_q hs (c_not (hs.ev rfl)) rfl fun ac hs => ?_
  refine s_q hs (c_assign (hs.ev rfl)) rfl fun ac hs => ?_
  refine s_end ?_
  replace hs := hs.sub (F' := [(0, _), (3, _), (4, _), (5, _), (6, _), (19, _)]) ⟨rfl, rfl, rfl, rfl, rfl, rfl, trivial⟩
  refine then_n ?_
  refine s_cond hs rfl (fun hc => ?_) (fun hc => ?_)
  · try simp only [decide_eq_true_eq, decide_eq_false_iff_not, Bool.not_eq_true', Bool.not_eq_false', Bool.and_eq_true, Bool.or_eq_true, Bool.or_eq_false_iff] at hc
    have hno : clRight p.W p.S p.H d mt sn ep sq = false := by simpa using hc
    refine wp_seq ?_
    refine wp_reg ?_
    refine s_q hs (c_buildS ty56 bp56 .nil trivial (by simp [flatCells, Value.cells]) rfl) rfl fun ac hs => ?_
    refine s_storeW (i := 1) hs ty56 rfl rfl rfl (by rfl) (by rfl) rfl fun ww hs => ?_
    refine s_q hs (c_assign (hs.ev rfl)) rfl fun ac hs => ?_
    refine s_end ?_
    replace hs := hs.sub (F' := [(0, _), (3, _), (4, _), (5, _), (6, _)]) ⟨rfl, rfl, rfl, rfl, rfl, trivial⟩
    refine then_n ?_
    refine wp_ret ?_
    refine blk_r ?_
    refine then_r ?_
    refine s_ret hs rfl (.cell (hs.tmp rfl) (run_loadA ty56 ag56 (hs.seg (i := 1) rfl) rfl (by rfl)) (.tmp (hs.tmp rfl) .nil)) rfl ⟨_, rfl, hs.fr, ?_⟩
    exact .inl ⟨hno, rfl, K, t, hsp.re hs.fr (hs.seg (i := 3) rfl) (hs.seg (i := 4) rfl) (fun _ _ _ h => .inl h) fun v h => ⟨.inl h, (hsp.tree v h).2⟩⟩
  · try simp only [decide_eq_true_eq, decide_eq_false_iff_not, Bool.not_eq_true', Bool.not_eq_false', Bool.and_eq_true, Bool.or_eq_true, Bool.or_eq_false_iff] at hc
    have hyes : clRight p.W p.S p.H d mt sn ep sq = true := by simpa using hc
    obtain ⟨hR, hd0, hdW, hsn0, hsnW, hep, hsq, hmt0, hmtS⟩ := clRight_iff.1 hyes
    rw [Int.toNat_natCast] at hsq
    have hsqm : sq.toNat < p.m := hsq
    obtain ⟨mn, rfl⟩ := int_of hmt0
    have hel1 : elOk p (sq.toNat : Int) (mn : Int) = true := elOk_iff.2 (by omega)
    have hlf : lfOk p.m (sq.toNat : Int) = true := by simp [lfOk]; omega
    refine wp_skip ?_
    refine blk_n ?_
    refine then_n ?_
    refine wp_seq ?_
    refine wp_reg ?_
    refine s_q hs (c_move (hs.ev rfl)) rfl fun ac hs => ?_
    refine s_q hs (c_fld fl61_1 (hs.ev rfl)) rfl fun ac hs => ?_
    refine s_q hs (c_fld fl59_1 (hs.ev rfl)) rfl fun ac hs => ?_
    refine s_q hs (c_loadS un25 rfl (hs.ev rfl) (hs.seg (i := 2) rfl) rfl) rfl fun ac hs => ?_
    refine s_q hs (c_cvUI un25 un3 (hs.ev rfl)) rfl fun ac hs => ?_
    refine s_q hs (c_fld fl61_1 (hs.ev rfl)) rfl fun ac hs => ?_
    refine s_q hs (c_fld fl59_2 (hs.ev rfl)) rfl fun ac hs => ?_
    refine s_q hs (c_loadS un3 rfl (hs.ev rfl) (hs.seg (i := 2) rfl) rfl) rfl fun ac hs => ?_
    have hsz0 := hs.fr.size
    have hA := ownA2 (A := [_, _, _]) hs
    have hsA := hs
    obtain ⟨hspE, hfrE⟩ := hsp.free.keep hsp hs.fr (fun k h => h.elim .inl fun h => .inr (.inl h)) ((hs.seg (i := 3) rfl).trans hsp.hg.symm) ((hs.seg (i := 4) rfl).trans hsp.hc.symm)
    replace hfrE : SpFr ww p K t (fun k => w.heap.size ≤ k ∧ k < ww.heap.size) := hfrE.mono fun _ h => h.1
    
    refine s_callL hs fu16 (.cons (hs.ev rfl) (.cons (hs.ev rfl) (.cons (hs.ev rfl) .nil))) (spring_Element p ho K t (sq.toNat : Int) (mn : Int) _ hspE) (fun k _ h => .inl h) rfl fun ac ww v34 hf hp hs => ?_
    rw [elB, elR, if_pos hel1, if_pos hel1, Int.toNat_natCast, Int.toNat_natCast] at hp
    obtain ⟨rfl, K1, hsp1, _, hn1⟩ := hp
    replace hfrE := hfrE.call hf (fun _ h => h.2) hn1
    have hsz := hf.size
    obtain ⟨ha1, ha2⟩ := keepA (A := [_, _, _]) ho hsA hf hsp1.hg hsp1.hc
    replace hs := hs _ ha1 ha2
    have hfrA := hs.fr
    have hownA := hs.own
    replace hs := hs.rebase
    refine s_q hs (c_move (hs.ev rfl)) rfl fun ac hs => ?_
    refine s_q hs (c_extract (hs.ev rfl) rfl) rfl fun ac hs => ?_
    refine s_q hs (c_extract (hs.ev rfl) rfl) rfl fun ac hs => ?_
    refine s_alloc hs ty36 rfl fun ac ww g7 hs => ?_
    refine s_storeW (i := 0) hs ty36 rfl rfl rfl (by rw [List.length_map, el_length]) (all_map_B _) rfl fun ww hs => ?_
    refine s_q hs (c_assign (hs.ev rfl)) rfl fun ac hs => ?_
    refine s_end ?_
    replace hs := hs.sub (F' := [(0, _), (3, _), (4, _), (5, _), (6, _), (7, _), (8, _)]) ⟨rfl, rfl, rfl, rfl, rfl, rfl, rfl, trivial⟩
    refine then_n ?_
    refine wp_seq ?_
    refine wp_seq ?_
    refine wp_reg ?_
    refine s_q hs (c_move (hs.ev rfl)) rfl fun ac hs => ?_
    refine s_q hs (c_neqI (hs.ev rfl) (hs.ev rfl)) rfl fun ac hs => ?_
    refine s_end ?_
    replace hs := hs.sub (F' := [(0, _), (3, _), (4, _), (5, _), (6, _), (7, _), (8, _), (38, _)]) ⟨rfl, rfl, rfl, rfl, rfl, rfl, rfl, rfl, trivial⟩
    refine then_n ?_
    refine wp_cond_false (hs.ev rfl) ?_
    refine wp_skip ?_
    refine then_n ?_
    refine wp_seq ?_
    refine wp_reg ?_
    refine s_q hs (c_move (hs.ev rfl)) rfl fun ac hs => ?_
    refine s_q hs (c_fld fl61_1 (hs.ev rfl)) rfl fun ac hs => ?_
    refine s_q hs (c_fld fl59_1 (hs.ev rfl)) rfl fun ac hs => ?_
    refine s_q hs (c_loadS un25 rfl (hs.ev rfl) (hs.seg (i := 3) rfl) rfl) rfl fun ac hs => ?_
    refine s_q hs (c_cvUI un25 un3 (hs.ev rfl)) rfl fun ac hs => ?_
    obtain ⟨hspP, hfrP⟩ := hfrE.keep hsp1 hs.fr (keysA (A := [_, _, _]) hA) ((hs.seg (i := 4) rfl).trans hsp1.hg.symm) ((hs.seg (i := 5) rfl).trans hsp1.hc.symm)
    have hb7 := (hs.seg (i := 0) rfl)
    have hszP := Nat.le_trans hsz hs.fr.size
    have hszP0 := hszP
    replace hs := (hs.unrebase hfrA hownA).pick (L' := [_, _, _, _, _]) (.cons _ (.refl _))
    have hsB := hs
    refine s_callL hs fu17 (.cons (hs.ev rfl) (.cons (hs.ev rfl) .nil)) (spring_Path p ho K1 t (sq.toNat : Int) _ hspP) (fun k _ h => .inl h) rfl fun ac ww v47 hf hp hs => ?_
    rw [lfE, if_pos hlf, pN, if_pos hlf, pW, if_pos hlf, Int.toNat_natCast] at hp
    obtain ⟨tv, rfl, hrt, hot, K2, pv2, hst2, hsn2⟩ := hp
    obtain ⟨tad, tcap, rfl, htc, htm⟩ := Rd.sl hrt
    replace hfrP := hfrP.tree hf (fun k h => Nat.lt_of_lt_of_le h.2 hszP) hsn2
    replace hb7 := hf.keepT hb7 fun i hi => hi.elim (fun e => ⟨_, _, _, e ▸ hspP.hg, rfl⟩) fun e => ⟨_, _, _, e ▸ hspP.hc, rfl⟩
    obtain ⟨hb1, hb2⟩ := keepA (A := [_, _, _]) ho hsB hf hst2.1.hg hst2.1.hc
    replace hs := hs _ hb1 hb2
    have hfrB := hs.fr
    have hownB := hs.own
    replace hs := hs.rebase
    refine s_q hs (c_move (hs.ev rfl)) rfl fun ac hs => ?_
    refine s_q hs (c_extract (hs.ev rfl) rfl) rfl fun ac hs => ?_
    refine s_q hs (c_extract (hs.ev rfl) rfl) rfl fun ac hs => ?_
    refine s_q hs (c_assign (hs.ev rfl)) rfl fun ac hs => ?_
    refine s_q hs (c_assign (hs.ev rfl)) rfl fun ac hs => ?_
    refine s_end ?_
    replace hs := hs.sub (F' := [(3, _), (4, _), (5, _), (6, _), (7, _), (8, _), (9, _)]) ⟨rfl, rfl, rfl, rfl, rfl, rfl, rfl, trivial⟩
    refine then_n ?_
    refine wp_seq ?_
    refine wp_seq ?_
    refine wp_reg ?_
    refine s_q hs (c_move (hs.ev rfl)) rfl fun ac hs => ?_
    refine s_q hs (c_neqI (hs.ev rfl) (hs.ev rfl)) rfl fun ac hs => ?_
    refine s_end ?_
    replace hs := hs.sub (F' := [(3, _), (4, _), (5, _), (6, _), (7, _), (8, _), (9, _), (51, _)]) ⟨rfl, rfl, rfl, rfl, rfl, rfl, rfl, rfl, trivial⟩
    refine then_n ?_
    refine wp_cond_false (hs.ev rfl) ?_
    refine wp_skip ?_
    refine then_n ?_
    refine wp_seq ?_
    refine wp_region_rgX (J := [13, 14]) pmix 16 (by kernel_rfl) (by kernel_rfl) rfl rfl hs ?_
    simp only [List.take_succ_cons, List.take_zero]
    refine rg_q (fun ac ww h => c_loadW ty61 ag61 (h.ev rfl) (h.blk (hs.seg (i := 2) rfl)) (by simp)) rfl ?_
    refine rg_call fu77 (fun ac ww h => (.cons (h.ev rfl) .nil)) (fun ww hf => proof_place d (mn : Int) sn ep sq _) rfl ?_
    refine rg_q (fun ac ww h => c_fld fl61_1 (h.ev rfl)) rfl ?_
    refine rg_q (fun ac ww h => c_fld fl59_2 (h.ev rfl)) rfl ?_
    refine rg_q (fun ac ww h => c_loadS un3 rfl (h.ev rfl) (h.blk (hs.seg (i := 2) rfl)) rfl) rfl ?_
    refine rg_q (fun ac ww h => c_loadW ty36 rfl (h.ev rfl) (h.blk hb7) (show (List.map B (el p sq.toNat mn)).length = 16 by rw [List.length_map, el_length])) rfl ?_
    refine rg_q (fun ac ww h => c_fld fl33_0 (h.ev rfl)) rfl ?_
    refine rg_q (fun ac ww h => c_loadS un3 rfl (h.ev rfl) (h.blk (hs.seg (i := 0) rfl)) rfl) rfl ?_
    refine rg_q (fun ac ww h => c_fld fl61_2 (h.ev rfl)) rfl ?_
    refine rg_q (fun ac ww h => c_loadS un3 rfl (h.ev rfl) (h.blk (hs.seg (i := 2) rfl)) rfl) rfl ?_
    refine rg_callE (tupG [.agg ((shL d ep sq (mn : Int) (el p sq.toNat mn) p.W sn).map B).toArray] [I (shE (mn : Int) p.W sn)] (rowS (shN (mn : Int) p.W sn) (shW d ep sq (mn : Int) (el p sq.toNat mn) p.W sn))) (fun _ _ _ _ _ h => h) fu76 (fun ac ww h => ?_) rfl ?_
    · exact ⟨_, .cons (h.ev rfl) (.cons (h.ev rfl) (.cons (h.ev rfl) (.cons (h.ev rfl) (.cons (h.ev rfl) (.nil))))), ladder_ShowA d ep sq (mn : Int) (el p sq.toNat mn) p.W sn (el_length _ _ _) _⟩
    refine rg_moveG rfl rfl rfl ?_
    refine rg_extGc rfl rfl rfl (fun _ => rfl) ?_
    refine rg_extGe rfl rfl rfl rfl ?_
    refine rg_extGc rfl rfl rfl (fun _ => rfl) ?_
    refine rg_alloc ty36 rfl ?_
    refine rg_nil fun ac ww L' hf hfe hs hlk => ?_
    simp only [List.drop_succ_cons, List.drop_zero]
    obtain ⟨v10, L10, M10, h10, e10, ⟨v67, L67, M67, h67, e67, ⟨v54, L54, M54, h54, e54, ⟨v65, L65, M65, h65, e65, rfl, rfl⟩, rfl⟩, rfl⟩, rfl⟩ := hfe
    replace hs := hs.add h10
    replace hs := hs.add h67
    replace hs := hs.add h54
    replace hs := hs.add h65
    obtain ⟨g10, rfl, rfl⟩ := e10
    obtain ⟨tv65, rfl, e65⟩ := e65
    obtain ⟨-, rfl⟩ := e54
    obtain rfl := lk_move (j := 11) hlk (by decide) rfl (by kernel_rfl) h54 h65
    obtain ⟨-, rfl⟩ := e67
    obtain rfl := lk_ext (j := 13) hlk (by decide) rfl (by kernel_rfl) h67 h54 rfl
    obtain rfl := e65
    refine sk_storeW (i := 0) hs ty36 rfl rfl rfl (by rw [List.length_map, shL_length]) (all_map_B _) rfl (fun ww hs => late_turn rfl rfl (late_turn rfl rfl (late_nil))) fun ww hs => ?_
    refine s_q hs (c_assign (hs.ev rfl)) rfl fun ac hs => ?_
    refine s_q hs (c_assign (hs.ev rfl)) rfl fun ac hs => ?_
    refine s_end ?_
    obtain ⟨wad, wcap, rfl, hwc, hwm⟩ := Rd.sl (Rd.of_row (hs.get (i := 1) rfl))
    have hsl := shL_length d ep sq (mn : Int) (el p sq.toNat mn) p.W sn
    have hslm : (List.map B (shL d ep sq (mn : Int) (el p sq.toNat mn) p.W sn)).length = 16 := by rw [List.length_map, hsl]
    replace hs := hs.sub (F' := [(4, _), (5, _), (9, _), (10, _), (11, _)]) ⟨rfl, rfl, rfl, rfl, rfl, trivial⟩
    refine then_n ?_
    refine wp_seq ?_
    refine wp_reg ?_
    refine s_q hs (c_loadW ty36 rfl (hs.ev rfl) (hs.seg (i := 0) rfl) hslm) rfl fun ac hs => ?_
    refine s_q hs (c_move (hs.ev rfl)) rfl fun ac hs => ?_
    refine s_q hs (c_move (hs.ev rfl)) rfl fun ac hs => ?_
    refine s_q hs (c_buildS (zc := (shL d ep sq (mn : Int) (el p sq.toNat mn) p.W sn).map B ++ [.slice wad (shN (mn : Int) p.W sn) wcap, .slice tad p.H tcap]) ty56 bp56 (.cons (hs.ev rfl) (.cons (hs.ev rfl) (.cons (hs.ev rfl) .nil))) ⟨(by simp [Value.cells, hsl]), (by simp [Value.cells, hsl]), (by simp [Value.cells, hsl]), trivial⟩ (by simp [flatCells, Value.cells, hsl]) (by simp [flatCells, Value.cells, hsl])) rfl fun ac hs => ?_
    refine s_storeW (i := 3) hs ty56 rfl rfl rfl (by simp [hsl]) (by simp [Value.oneCell', B]) rfl fun ww hs => ?_
    refine s_q hs (c_assign (hs.ev rfl)) rfl fun ac hs => ?_
    refine s_end ?_
    replace hs := hs.sub (F' := [(4, _), (5, _)]) ⟨rfl, rfl, trivial⟩
    refine then_n ?_
    refine wp_ret ?_
    refine s_ret hs rfl (.cell (hs.tmp rfl) (run_loadA ty56 ag56 (hs.seg (i := 3) rfl) (List.take_of_length_le (by simp [hsl])) (by simp [hsl])) (.tmp (hs.tmp rfl) .nil)) rfl ⟨_, rfl, (Fr.rebase hfrB hownB hs.fr), ?_⟩
    simp only [Int.toNat_natCast]
    have hap : ∀ k, Value.ownBlock (.slice wad (shN (mn : Int) p.W sn) wcap) = some k → ¬ SpM p k := fun k hk hm => hm.elim (apart_at hs.has.apart (i := 1) (j := 5) rfl rfl (by decide) k hk) (apart_at hs.has.apart (i := 1) (j := 6) rfl rfl (by decide) k hk)
    refine .inr ⟨hyes, ⟨K2, pv2, (hfrP.keep hst2.1 hs.fr (keysA (A := [_, _, _]) hA) ((hs.seg (i := 5) rfl).trans hst2.1.hg.symm) ((hs.seg (i := 6) rfl).trans hst2.1.hc.symm)).1⟩, _, _, rfl, Rd.of_row (hs.get (i := 1) rfl), hrt.fr hs.fr (fun k hk hm => ?_), fun k hk => ⟨((hs.unrebase hfrB hownB).own _ (List.mem_of_getElem? (i := 1) rfl) k hk).resolve_right (hap k hk), hap k hk⟩, fun k hk => ⟨Nat.le_trans hsz0 (Nat.le_trans hszP0 (hot k hk).1), (hot k hk).2⟩⟩
    have h1 := hot k hk
    rcases keysA (A := [_, _, _]) hA k hm with e | e | e
    · exact h1.2 (.inl e)
    · exact h1.2 (.inr e)
    · exact absurd (Nat.lt_of_lt_of_le e.2 hszP) (Nat.not_lt_of_le h1.1)
end Go.Proofs.YtklajbdbnnceiaaGreat
end

section
/- What a credential shows. -/
set_option linter.unusedSimpArgs false
set_option linter.unusedVariables false
set_option maxRecDepth 100000
namespace Go.Proofs.YtklajbdbnnceiaaGreat
open Go Go.Fw
open Sha
theorem cred_way {l : List UInt8} (h : l.length = 16) (wv pv : Value) : (l.map B ++ [wv, pv])[16]? = some wv := by
  rw [List.getElem?_append_right (by rw [List.length_map]; omega), List.length_map, h]; rfl
theorem cred_path {l : List UInt8} (h : l.length = 16) (wv pv : Value) : (l.map B ++ [wv, pv])[17]? = some pv := by
  rw [List.getElem?_append_right (by rw [List.length_map]; omega), List.length_map, h]; rfl
theorem cred_leaf {l : List UInt8} (h : l.length = 16) (wv pv : Value) : ((l.map B ++ [wv, pv]).drop 0).take 16 = l.map B := by
  rw [List.drop_zero, List.take_append_of_le_length (by rw [List.length_map]; omega), List.take_of_length_le (by rw [List.length_map]; omega)]
/-- What is learned of a shown claim, or why it is not shown. -/
def ckR (W S H d mt sn : Int) (ep sq : UInt32) (rt lf ws : List UInt8) (nw : Nat) (ps : List UInt8) (np : Nat) : List UInt8 × Int :=
  if clRight W S H d mt sn ep sq = true then
    if (np : Int) = H then
      if rsE mt W sn nw = 0 then
        if chkB d ep H rt (sq.toNat : Int) (climbB d ep sq (rsB d ep sq mt W sn lf ws nw) (mt + 1) S W) ps np = true then (rsB d ep sq mt W sn lf ws nw, 0) else ((List.replicate 16 (0 : UInt8)), 22)
      else ((List.replicate 16 (0 : UInt8)), rsE mt W sn nw)
    else ((List.replicate 16 (0 : UInt8)), 22)
  else ((List.replicate 16 (0 : UInt8)), 1)
theorem ckR_length {W S H d mt sn : Int} {ep sq : UInt32} {rt lf ws : List UInt8} {nw : Nat} {ps : List UInt8} {np : Nat} (hl : lf.length = 16) : (ckR W S H d mt sn ep sq rt lf ws nw ps np).1.length = 16 := by
  unfold ckR
  split
  · split
    · split
      · split
        · exact rsB_length hl _
        · simp
      · simp
    · simp
  · simp
set_option maxHeartbeats 4000000 in
theorem proof_Check (W S H d mt sn : Int) (ep sq : UInt32) (rt lf ws ps : List UInt8) (nw np : Nat) (wv pv : Value) (hrt : rt.length = 16) (hlf : lf.length = 16) (hwl : ws.length = nw * 16) (hpl : ps.length = np * 16) (w : World) (hqw : Rd w wv nw (ws.map B)) (hqp : Rd w pv np (ps.map B)) : Ctr Tryz.prog 40 [.agg #[I W, I S, I H], .agg (rt.map B).toArray, .agg #[I d, U ep, U sq, I mt, I sn], credV lf wv pv] w (fun _ => False) (fun v _ => v = .tuple #[.agg ((ckR W S H d mt sn ep sq rt lf ws nw ps np).1.map B).toArray, I (ckR W S H d mt sn ep sq rt lf ws nw ps np).2]) := by
  have hnwl := hqw.le
  have hnpl := hqp.le
  obtain ⟨wad, wcap, rfl, hwc, hwm⟩ := Rd.sl hqw
  obtain ⟨pad, pcap, rfl, hpc, hpm⟩ := Rd.sl hqp
  refine fn_start (N := 84) Tryz.func40 rfl rfl rfl fun ac hk => ?_
  have hs := St.start hk w
  refine wp_seq ?_
  refine wp_reg ?_
  refine s_box hs rfl rfl rfl fun ac ww g4 hs => ?_
  refine s_box hs rfl rfl rfl fun ac ww g5 hs => ?_
  refine s_box hs rfl rfl rfl fun ac ww g6 hs => ?_
  refine s_box hs rfl rfl rfl fun ac ww g7 hs => ?_
  refine s_alloc hs ty36 rfl fun ac ww g8 hs => ?_
  refine s_q hs (c_assign (hs.ev rfl)) rfl fun ac hs => ?_
  refine s_end ?_
  replace hs := hs.sub (F' := [(4, _), (5, _), (6, _), (7, _), (8, _), (9, _)]) ⟨rfl, rfl, rfl, rfl, rfl, rfl, trivial⟩
  refine then_n ?_
  refine wp_seq ?_
  refine wp_block ?_
  refine wp_seq ?_
  refine wp_reg ?_
  refine s_q hs (c_loadW ty33 ag33 (hs.ev rfl) (hs.seg (i := 4) rfl) (by rfl)) rfl fun ac hs => ?_
  refine s_q hs (c_loadW ty61 ag61 (hs.ev rfl) (hs.seg (i := 2) rfl) (by rfl)) rfl fun ac hs => ?_
  refine s_call hs fu75 (.cons (hs.ev rfl) (.cons (hs.ev rfl) .nil)) (proof_Right W S H d mt sn ep sq _) rfl fun ac ww v18 hf hp hs => ?_
  obtain rfl := hp
  replace hs := hs [] (.nil _ _)
  refine s_q hs (c_not (hs.ev rfl)) rfl fun ac hs => ?_
  refine s_q hs (c_assign (hs.ev rfl)) rfl fun ac hs => ?_
  refine s_end ?_
  replace hs := hs.sub (F' := [(4, _), (5, _), (6, _), (7, _), (8, _), (9, _), (15, _)]) ⟨rfl, rfl, rfl, rfl, rfl, rfl, rfl, trivial⟩
  refine then_n ?_
  refine s_cond hs rfl (fun hc => ?_) (fun hc => ?_)
  · try simp only [decide_eq_true_eq, decide_eq_false_iff_not, Bool.not_eq_true', Bool.not_eq_false', Bool.and_eq_true, Bool.or_eq_true, Bool.or_eq_false_iff] at hc
    have hno : ¬ clRight W S H d mt sn ep sq = true := by simpa using hc
    refine wp_seq ?_
    refine wp_reg ?_
    refine s_q hs (c_buildA ty36 un36 ty5 (zc := (List.replicate 16 (0 : UInt8)).map B) (vs := []) .nil (by simp) (by simp [flatCells]) rfl) rfl fun ac hs => ?_
    refine s_storeW (i := 0) hs ty36 rfl rfl rfl (by simp) (all_map_B _) rfl fun ww hs => ?_
    refine s_q hs (c_assign (hs.ev rfl)) rfl fun ac hs => ?_
    refine s_end ?_
    replace hs := hs.sub (F' := [(4, _), (5, _), (6, _), (7, _), (8, _), (9, _)]) ⟨rfl, rfl, rfl, rfl, rfl, rfl, trivial⟩
    refine then_n ?_
    refine wp_ret ?_
    refine blk_r ?_
    refine then_r ?_
    refine s_ret hs rfl (.cell (hs.tmp rfl) (run_loadA ty36 rfl (hs.seg (i := 0) rfl) (List.take_of_length_le (by simp)) (by simp)) (.tmp (hs.tmp rfl) .nil)) rfl ⟨_, rfl, hs.fr, ?_⟩
    show Value.tuple _ = Value.tuple _
    rw [ckR, if_neg hno]
    rfl
  · try simp only [decide_eq_true_eq, decide_eq_false_iff_not, Bool.not_eq_true', Bool.not_eq_false', Bool.and_eq_true, Bool.or_eq_true, Bool.or_eq_false_iff] at hc
    have hyes : clRight W S H d mt sn ep sq = true := by simpa using hc
    have hcr := clRight_iff.1 hyes
    obtain ⟨hlv, hS1, hS16, hH0, hH6⟩ := spRight_iff.1 hcr.1
    refine wp_seq ?_
    refine wp_reg ?_
    refine s_q hs (c_fld fl56_2 (hs.ev rfl)) rfl fun ac hs => ?_
    refine s_q hs (c_loadS un39 rfl (hs.ev rfl) (hs.seg (i := 1) rfl) (cred_path hlf _ _)) rfl fun ac hs => ?_
    refine s_q hs (c_lenS un39 (hs.ev rfl)) rfl fun ac hs => ?_
    refine s_q hs (c_fld fl33_2 (hs.ev rfl)) rfl fun ac hs => ?_
    refine s_q hs (c_loadS un3 rfl (hs.ev rfl) (hs.seg (i := 4) rfl) rfl) rfl fun ac hs => ?_
    refine s_q hs (c_neqI (hs.ev rfl) (hs.ev rfl)) rfl fun ac hs => ?_
    refine s_q hs (c_assign (hs.ev rfl)) rfl fun ac hs => ?_
    refine s_end ?_
    replace hs := hs.sub (F' := [(4, _), (5, _), (6, _), (7, _), (8, _), (9, _), (21, _)]) ⟨rfl, rfl, rfl, rfl, rfl, rfl, rfl, trivial⟩
    refine then_n ?_
    refine s_cond hs rfl (fun hc => ?_) (fun hc => ?_)
    · try simp only [decide_eq_true_eq, decide_eq_false_iff_not, Bool.not_eq_true', Bool.not_eq_false', Bool.and_eq_true, Bool.or_eq_true, Bool.or_eq_false_iff] at hc
      have hnp : ¬ (np : Int) = H := by simpa using hc
      refine wp_seq ?_
      refine wp_reg ?_
      refine s_q hs (c_buildA ty36 un36 ty5 (zc := (List.replicate 16 (0 : UInt8)).map B) (vs := []) .nil (by simp) (by simp [flatCells]) rfl) rfl fun ac hs => ?_
      refine s_storeW (i := 0) hs ty36 rfl rfl rfl (by simp) (all_map_B _) rfl fun ww hs => ?_
      refine s_q hs (c_assign (hs.ev rfl)) rfl fun ac hs => ?_
      refine s_end ?_
      replace hs := hs.sub (F' := [(4, _), (5, _), (6, _), (7, _), (8, _), (9, _)]) ⟨rfl, rfl, rfl, rfl, rfl, rfl, trivial⟩
      refine then_n ?_
      refine wp_ret ?_
      refine blk_r ?_
      refine then_r ?_
      refine s_ret hs rfl (.cell (hs.tmp rfl) (run_loadA ty36 rfl (hs.seg (i := 0) rfl) (List.take_of_length_le (by simp)) (by simp)) (.tmp (hs.tmp rfl) .nil)) rfl ⟨_, rfl, hs.fr, ?_⟩
      show Value.tuple _ = Value.tuple _
      rw [ckR, if_pos hyes, if_neg hnp]
      rfl
    · try simp only [decide_eq_true_eq, decide_eq_false_iff_not, Bool.not_eq_true', Bool.not_eq_false', Bool.and_eq_true, Bool.or_eq_true, Bool.or_eq_false_iff] at hc
      have hnp : (np : Int) = H := by simpa using hc
      refine wp_skip ?_
      refine blk_n ?_
      refine then_n ?_
      refine wp_seq ?_
      refine wp_reg ?_
      refine s_q hs (c_loadW ty61 ag61 (hs.ev rfl) (hs.seg (i := 2) rfl) (by rfl)) rfl fun ac hs => ?_
      refine s_call hs fu77 (.cons (hs.ev rfl) .nil) (proof_place d mt sn ep sq _) rfl fun ac ww v30 hf hp hs => ?_
      obtain rfl := hp
      replace hs := hs [] (.nil _ _)
      refine s_alloc hs ty165 rfl fun ac ww g10 hs => ?_
      refine s_storeW (i := 0) hs ty165 rfl rfl rfl (by rfl) (by rfl) (by simp) fun ww hs => ?_
      refine s_end ?_
      replace hs := hs.sub (F' := [(4, _), (5, _), (6, _), (7, _), (8, _), (9, _), (10, _)]) ⟨rfl, rfl, rfl, rfl, rfl, rfl, rfl, trivial⟩
      refine then_n ?_
      refine wp_seq ?_
      refine wp_reg ?_
      refine s_q hs (c_loadW ty165 ag165 (hs.ev rfl) (hs.seg (i := 0) rfl) (by rfl)) rfl fun ac hs => ?_
      refine s_q hs (c_fld fl61_1 (hs.ev rfl)) rfl fun ac hs => ?_
      refine s_q hs (c_fld fl59_2 (hs.ev rfl)) rfl fun ac hs => ?_
      refine s_q hs (c_loadS un3 rfl (hs.ev rfl) (hs.seg (i := 3) rfl) rfl) rfl fun ac hs => ?_
      refine s_q hs (c_fld fl33_0 (hs.ev rfl)) rfl fun ac hs => ?_
      refine s_q hs (c_loadS un3 rfl (hs.ev rfl) (hs.seg (i := 5) rfl) rfl) rfl fun ac hs => ?_
      refine s_q hs (c_fld fl61_2 (hs.ev rfl)) rfl fun ac hs => ?_
      refine s_q hs (c_loadS un3 rfl (hs.ev rfl) (hs.seg (i := 3) rfl) rfl) rfl fun ac hs => ?_
      refine s_q hs (c_fld fl56_0 (hs.ev rfl)) rfl fun ac hs => ?_
      refine s_q hs (c_loadA ty36 rfl (hs.ev rfl) (hs.seg (i := 2) rfl) (cred_leaf hlf _ _) (show (List.map B lf).length = 16 by rw [List.length_map, hlf])) rfl fun ac hs => ?_
      refine s_q hs (c_fld fl56_1 (hs.ev rfl)) rfl fun ac hs => ?_
      refine s_q hs (c_loadS un39 rfl (hs.ev rfl) (hs.seg (i := 2) rfl) (cred_way hlf _ _)) rfl fun ac hs => ?_
      refine s_call hs fu83 (.cons (hs.ev rfl) (.cons (hs.ev rfl) (.cons (hs.ev rfl) (.cons (hs.ev rfl) (.cons (hs.ev rfl) (.cons (hs.ev rfl) .nil)))))) (ladder_RiseA d ep sq mt W sn lf ws nw _ hlf hwl _ (hqw.fr0 hs.fr)) rfl fun ac ww v44 hf hp hs => ?_
      obtain rfl := hp
      replace hs := hs [] (.nil _ _)
      refine s_q hs (c_move (hs.ev rfl)) rfl fun ac hs => ?_
      refine s_q hs (c_extract (hs.ev rfl) rfl) rfl fun ac hs => ?_
      refine s_q hs (c_extract (hs.ev rfl) rfl) rfl fun ac hs => ?_
      refine s_alloc hs ty36 rfl fun ac ww g11 hs => ?_
      refine s_storeW (i := 0) hs ty36 rfl rfl rfl (by rw [List.length_map, rsB_length hlf]) (all_map_B _) rfl fun ww hs => ?_
      refine s_q hs (c_assign (hs.ev rfl)) rfl fun ac hs => ?_
      refine s_end ?_
      replace hs := hs.sub (F' := [(4, _), (5, _), (6, _), (7, _), (8, _), (9, _), (10, _), (11, _), (12, _)]) ⟨rfl, rfl, rfl, rfl, rfl, rfl, rfl, rfl, rfl, trivial⟩
      refine then_n ?_
      refine wp_seq ?_
      refine wp_seq ?_
      refine wp_reg ?_
      refine s_q hs (c_move (hs.ev rfl)) rfl fun ac hs => ?_
      refine s_q hs (c_neqI (hs.ev rfl) (hs.ev rfl)) rfl fun ac hs => ?_
      refine s_end ?_
      replace hs := hs.sub (F' := [(4, _), (5, _), (6, _), (7, _), (8, _), (9, _), (10, _), (11, _), (12, _), (48, _)]) ⟨rfl, rfl, rfl, rfl, rfl, rfl, rfl, rfl, rfl, rfl, trivial⟩
      refine then_n ?_
      refine s_cond hs rfl (fun hc => ?_) (fun hc => ?_)
      · try simp only [decide_eq_true_eq, decide_eq_false_iff_not, Bool.not_eq_true', Bool.not_eq_false', Bool.and_eq_true, Bool.or_eq_true, Bool.or_eq_false_iff] at hc
        have hre : ¬ rsE mt W sn nw = 0 := by simpa using hc
        refine wp_seq ?_
        refine wp_reg ?_
        refine s_q hs (c_buildA ty36 un36 ty5 (zc := (List.replicate 16 (0 : UInt8)).map B) (vs := []) .nil (by simp) (by simp [flatCells]) rfl) rfl fun ac hs => ?_
        refine s_q hs (c_move (hs.ev rfl)) rfl fun ac hs => ?_
        refine s_storeW (i := 2) hs ty36 rfl rfl rfl (by simp) (all_map_B _) rfl fun ww hs => ?_
        refine s_q hs (c_assign (hs.ev rfl)) rfl fun ac hs => ?_
        refine s_end ?_
        replace hs := hs.sub (F' := [(4, _), (5, _), (6, _), (7, _), (8, _), (9, _), (10, _), (11, _)]) ⟨rfl, rfl, rfl, rfl, rfl, rfl, rfl, rfl, trivial⟩
        refine then_n ?_
        refine wp_ret ?_
        refine then_r ?_
        refine s_ret hs rfl (.cell (hs.tmp rfl) (run_loadA ty36 rfl (hs.seg (i := 2) rfl) (List.take_of_length_le (by simp)) (by simp)) (.tmp (hs.tmp rfl) .nil)) rfl ⟨_, rfl, hs.fr, ?_⟩
        show Value.tuple _ = Value.tuple _
        rw [ckR, if_pos hyes, if_pos hnp, if_neg hre]
        rfl
      · try simp only [decide_eq_true_eq, decide_eq_false_iff_not, Bool.not_eq_true', Bool.not_eq_false', Bool.and_eq_true, Bool.or_eq_true, Bool.or_eq_false_iff] at hc
        have hre : rsE mt W sn nw = 0 := by simpa using hc
        refine wp_skip ?_
        refine then_n ?_
        refine wp_seq ?_
        refine wp_reg ?_
        refine s_q hs (c_loadW ty165 ag165 (hs.ev rfl) (hs.seg (i := 1) rfl) (by rfl)) rfl fun ac hs => ?_
        refine s_q hs (c_loadW ty36 rfl (hs.ev rfl) (hs.seg (i := 0) rfl) (by rw [List.length_map, rsB_length hlf])) rfl fun ac hs => ?_
        refine s_q hs (c_fld fl61_1 (hs.ev rfl)) rfl fun ac hs => ?_
        refine s_q hs (c_fld fl59_2 (hs.ev rfl)) rfl fun ac hs => ?_
        refine s_q hs (c_loadS un3 rfl (hs.ev rfl) (hs.seg (i := 4) rfl) rfl) rfl fun ac hs => ?_
        refine s_q hs (c_addI (hs.ev rfl) (hs.ev rfl) (by omega) (by omega)) rfl fun ac hs => ?_
        refine s_q hs (c_fld fl33_1 (hs.ev rfl)) rfl fun ac hs => ?_
        refine s_q hs (c_loadS un3 rfl (hs.ev rfl) (hs.seg (i := 6) rfl) rfl) rfl fun ac hs => ?_
        refine s_q hs (c_fld fl33_0 (hs.ev rfl)) rfl fun ac hs => ?_
        refine s_q hs (c_loadS un3 rfl (hs.ev rfl) (hs.seg (i := 6) rfl) rfl) rfl fun ac hs => ?_
        refine s_call hs fu84 (.cons (hs.ev rfl) (.cons (hs.ev rfl) (.cons (hs.ev rfl) (.cons (hs.ev rfl) (.cons (hs.ev rfl) .nil))))) (ladder_Climb d ep sq (rsB d ep sq mt W sn lf ws nw) (mt + 1) S W (rsB_length hlf _) (by omega) (by omega) _) rfl fun ac ww v62 hf hp hs => ?_
        obtain rfl := hp
        replace hs := hs [] (.nil _ _)
        refine s_q hs (c_move (hs.ev rfl)) rfl fun ac hs => ?_
        refine s_q hs (c_extract (hs.ev rfl) rfl) rfl fun ac hs => ?_
        refine s_q hs (c_extract (hs.ev rfl) rfl) rfl fun ac hs => ?_
        refine s_alloc hs ty36 rfl fun ac ww g13 hs => ?_
        refine s_storeW (i := 0) hs ty36 rfl rfl rfl (by rw [List.length_map, climbB_length (rsB_length hlf _)]) (all_map_B _) rfl fun ww hs => ?_
        refine s_q hs (c_assign (hs.ev rfl)) rfl fun ac hs => ?_
        refine s_end ?_
        replace hs := hs.sub (F' := [(4, _), (5, _), (6, _), (7, _), (8, _), (9, _), (11, _), (13, _)]) ⟨rfl, rfl, rfl, rfl, rfl, rfl, rfl, rfl, trivial⟩
        refine then_n ?_
        refine wp_seq ?_
        refine wp_seq ?_
        refine wp_reg ?_
        refine s_q hs (c_fld fl61_0 (hs.ev rfl)) rfl fun ac hs => ?_
        refine s_q hs (c_loadS un3 rfl (hs.ev rfl) (hs.seg (i := 5) rfl) rfl) rfl fun ac hs => ?_
        refine s_q hs (c_fld fl61_1 (hs.ev rfl)) rfl fun ac hs => ?_
        refine s_q hs (c_fld fl59_0 (hs.ev rfl)) rfl fun ac hs => ?_
        refine s_q hs (c_loadS un25 rfl (hs.ev rfl) (hs.seg (i := 5) rfl) rfl) rfl fun ac hs => ?_
        refine s_q hs (c_fld fl33_2 (hs.ev rfl)) rfl fun ac hs => ?_
        refine s_q hs (c_loadS un3 rfl (hs.ev rfl) (hs.seg (i := 7) rfl) rfl) rfl fun ac hs => ?_
        refine s_q hs (c_loadW ty36 rfl (hs.ev rfl) (hs.seg (i := 6) rfl) (by rw [List.length_map, hrt])) rfl fun ac hs => ?_
        refine s_q hs (c_fld fl61_1 (hs.ev rfl)) rfl fun ac hs => ?_
        refine s_q hs (c_fld fl59_1 (hs.ev rfl)) rfl fun ac hs => ?_
        refine s_q hs (c_loadS un25 rfl (hs.ev rfl) (hs.seg (i := 5) rfl) rfl) rfl fun ac hs => ?_
        refine s_q hs (c_cvUI un25 un3 (hs.ev rfl)) rfl fun ac hs => ?_
        refine s_q hs (c_loadW ty36 rfl (hs.ev rfl) (hs.seg (i := 0) rfl) (by rw [List.length_map, climbB_length (rsB_length hlf _)])) rfl fun ac hs => ?_
        refine s_q hs (c_fld fl56_2 (hs.ev rfl)) rfl fun ac hs => ?_
        refine s_q hs (c_loadS un39 rfl (hs.ev rfl) (hs.seg (i := 4) rfl) (cred_path hlf _ _)) rfl fun ac hs => ?_
        refine s_call hs fu85 (.cons (hs.ev rfl) (.cons (hs.ev rfl) (.cons (hs.ev rfl) (.cons (hs.ev rfl) (.cons (hs.ev rfl) (.cons (hs.ev rfl) (.cons (hs.ev rfl) .nil))))))) (grove_Check H rt hrt d ep (sq.toNat : Int) np (climbB d ep sq (rsB d ep sq mt W sn lf ws nw) (mt + 1) S W) ps _ (climbB_length (rsB_length hlf _)) hpl _ (hqp.fr0 hs.fr)) rfl fun ac ww v80 hf hp hs => ?_
        obtain rfl := hp
        replace hs := hs [] (.nil _ _)
        refine s_q hs (c_not (hs.ev rfl)) rfl fun ac hs => ?_
        refine s_end ?_
        replace hs := hs.sub (F' := [(8, _), (9, _), (11, _), (81, _)]) ⟨rfl, rfl, rfl, rfl, trivial⟩
        refine then_n ?_
        refine s_cond hs rfl (fun hc => ?_) (fun hc => ?_)
        · try simp only [decide_eq_true_eq, decide_eq_false_iff_not, Bool.not_eq_true', Bool.not_eq_false', Bool.and_eq_true, Bool.or_eq_true, Bool.or_eq_false_iff] at hc
          have hck : ¬ chkB d ep H rt (sq.toNat : Int) (climbB d ep sq (rsB d ep sq mt W sn lf ws nw) (mt + 1) S W) ps np = true := by simpa using hc
          refine wp_seq ?_
          refine wp_reg ?_
          refine s_q hs (c_buildA ty36 un36 ty5 (zc := (List.replicate 16 (0 : UInt8)).map B) (vs := []) .nil (by simp) (by simp [flatCells]) rfl) rfl fun ac hs => ?_
          refine s_storeW (i := 3) hs ty36 rfl rfl rfl (by simp) (all_map_B _) rfl fun ww hs => ?_
          refine s_q hs (c_assign (hs.ev rfl)) rfl fun ac hs => ?_
          refine s_end ?_
          replace hs := hs.sub (F' := [(8, _), (9, _), (11, _)]) ⟨rfl, rfl, rfl, trivial⟩
          refine then_n ?_
          refine wp_ret ?_
          refine then_r ?_
          refine s_ret hs rfl (.cell (hs.tmp rfl) (run_loadA ty36 rfl (hs.seg (i := 3) rfl) (List.take_of_length_le (by simp)) (by simp)) (.tmp (hs.tmp rfl) .nil)) rfl ⟨_, rfl, hs.fr, ?_⟩
          show Value.tuple _ = Value.tuple _
          rw [ckR, if_pos hyes, if_pos hnp, if_pos hre, if_neg hck]
          rfl
        · try simp only [decide_eq_true_eq, decide_eq_false_iff_not, Bool.not_eq_true', Bool.not_eq_false', Bool.and_eq_true, Bool.or_eq_true, Bool.or_eq_false_iff] at hc
          have hck : chkB d ep H rt (sq.toNat : Int) (climbB d ep sq (rsB d ep sq mt W sn lf ws nw) (mt + 1) S W) ps np = true := by simpa using hc
          refine wp_skip ?_
          refine then_n ?_
          refine wp_seq ?_
          refine wp_reg ?_
          refine s_q hs (c_loadW ty36 rfl (hs.ev rfl) (hs.seg (i := 1) rfl) (by rw [List.length_map, rsB_length hlf])) rfl fun ac hs => ?_
          refine s_storeW (i := 3) hs ty36 rfl rfl rfl (by rw [List.length_map, rsB_length hlf]) (all_map_B _) rfl fun ww hs => ?_
          refine s_q hs (c_assign (hs.ev rfl)) rfl fun ac hs => ?_
          refine s_end ?_
          replace hs := hs.sub (F' := [(8, _), (9, _)]) ⟨rfl, rfl, trivial⟩
          refine then_n ?_
          refine wp_ret ?_
          refine s_ret hs rfl (.cell (hs.tmp rfl) (run_loadA ty36 rfl (hs.seg (i := 3) rfl) (List.take_of_length_le (show (List.map B (rsB d ep sq mt W sn lf ws nw)).length ≤ 16 by rw [List.length_map, rsB_length hlf]; exact Nat.le_refl _)) (show (List.map B (rsB d ep sq mt W sn lf ws nw)).length = 16 by rw [List.length_map, rsB_length hlf])) (.tmp (hs.tmp rfl) .nil)) rfl ⟨_, rfl, hs.fr, ?_⟩
          show Value.tuple _ = Value.tuple _
          rw [ckR, if_pos hyes, if_pos hnp, if_pos hre, if_pos hck]
          rfl
end Go.Proofs.YtklajbdbnnceiaaGreat
end

section
/- What is known. -/
set_option linter.unusedSimpArgs false
set_option linter.unusedVariables false
set_option maxRecDepth 100000
namespace Go.Proofs.YtklajbdbnnceiaaGreat
open Go Go.Fw
open Sha
/-- What is known, as a value. -/
def knC (d : Int) (ep sq : UInt32) (mt : Int) (e : List UInt8) (pv : Value) : List Value := [I d, U ep, U sq, I mt] ++ (e.map B ++ [pv])
def knV (d : Int) (ep sq : UInt32) (mt : Int) (e : List UInt8) (pv : Value) : Value := .agg (knC d ep sq mt e pv).toArray
theorem knC_length {d : Int} {ep sq : UInt32} {mt : Int} {e : List UInt8} {pv : Value} (h : e.length = 16) : (knC d ep sq mt e pv).length = 21 := by simp [knC, h]
theorem kn_path {d : Int} {ep sq : UInt32} {mt : Int} {e : List UInt8} {pv : Value} (h : e.length = 16) : (knC d ep sq mt e pv)[20]? = some pv := by
  rw [knC, List.getElem?_append_right (Nat.le_of_ble_eq_true rfl), List.getElem?_append_right (by rw [List.length_map, h]; exact Nat.le_of_ble_eq_true rfl), List.length_map, h]; rfl
theorem kn_el {d : Int} {ep sq : UInt32} {mt : Int} {e : List UInt8} {pv : Value} (h : e.length = 16) : ((knC d ep sq mt e pv).drop 4).take 16 = e.map B := by
  rw [knC, List.drop_append_of_le_length (Nat.le_of_ble_eq_true rfl)]
  show (List.map B e ++ [pv]).take 16 = _
  rw [List.take_append_of_le_length (by rw [List.length_map]; omega), List.take_of_length_le (by rw [List.length_map]; omega)]
def knE (d : Int) (ep sq : UInt32) (mt : Int) (e ps : List UInt8) (np : Nat) : Value → List Ent → World → Prop := fun v L _ => ∃ tv, v = knV d ep sq mt e tv ∧ L = [.row tv np (ps.map B) 36 16]
end Go.Proofs.YtklajbdbnnceiaaGreat
end

section
/- Credentials as the document has them. -/
set_option linter.unusedSimpArgs false
set_option linter.unusedVariables false
set_option maxRecDepth 100000
namespace Go.Proofs.YtklajbdbnnceiaaGreat
open Go Go.Fw
open Sha
/-- A credential in memory of its own. -/
def crE (T : TypeId) (lf : List UInt8) (nw : Nat) (ws : List UInt8) (np : Nat) (ps : List UInt8) : Value → List Ent → World → Prop := fun v L _ =>
  ∃ wv pv, v = credV lf wv pv ∧ L = [.row pv np (ps.map B) T 16, .row wv nw (ws.map B) T 16]
set_option maxHeartbeats 4000000 in
theorem ref09_Place (d mt sn : Int) (ep sq : UInt32) (w : World)  : Ctr Tryz.prog 80 [.agg #[I d, U ep, U sq, I mt, I sn]] w (fun _ => False) (fun v _ => v = .agg #[I d, U ep, U sq]) := by
  refine fn_start (N := 12) Tryz.func80 rfl rfl rfl fun ac hk => ?_
  have hs := St.start hk w
  refine wp_seq ?_
  refine wp_reg ?_
  refine s_box hs rfl rfl rfl fun ac ww g1 hs => ?_
  refine s_alloc hs ty157 rfl fun ac ww g2 hs => ?_
  refine s_end ?_
  replace hs := hs.sub (F' := [(1, _), (2, _)]) ⟨rfl, rfl, trivial⟩
  refine then_n ?_
  refine wp_seq ?_
  refine wp_reg ?_
  refine s_q hs (c_fld fl54_0 (hs.ev rfl)) rfl fun ac hs => ?_
  refine s_q hs (c_loadS un3 rfl (hs.ev rfl) (hs.seg (i := 1) rfl) rfl) rfl fun ac hs => ?_
  refine s_q hs (c_fld fl54_1 (hs.ev rfl)) rfl fun ac hs => ?_
  refine s_q hs (c_fld fl52_0 (hs.ev rfl)) rfl fun ac hs => ?_
  refine s_q hs (c_loadS un25 rfl (hs.ev rfl) (hs.seg (i := 1) rfl) rfl) rfl fun ac hs => ?_
  refine s_q hs (c_fld fl54_1 (hs.ev rfl)) rfl fun ac hs => ?_
  refine s_q hs (c_fld fl52_1 (hs.ev rfl)) rfl fun ac hs => ?_
  refine s_q hs (c_loadS un25 rfl (hs.ev rfl) (hs.seg (i := 1) rfl) rfl) rfl fun ac hs => ?_
  refine s_q hs (c_buildS ty157 bp157 (.cons (hs.ev rfl) (.cons (hs.ev rfl) (.cons (hs.ev rfl) .nil))) ⟨rfl, rfl, rfl, trivial⟩ (by simp [flatCells, Value.cells]) rfl) rfl fun ac hs => ?_
  refine s_storeW (i := 0) hs ty157 rfl rfl rfl (by rfl) (by rfl) (by simp) fun ww hs => ?_
  refine s_end ?_
  replace hs := hs.sub (F' := [(2, _)]) ⟨rfl, trivial⟩
  refine then_n ?_
  refine wp_ret ?_
  refine s_ret hs rfl (.cell (hs.tmp rfl) (run_loadA ty157 ag157 (hs.seg (i := 0) rfl) rfl (by rfl)) .nil) rfl ⟨_, rfl, hs.fr, ?_⟩
  rfl
set_option maxHeartbeats 4000000 in
theorem law09_Light (lf ws ps : List UInt8) (nw np : Nat) (wv pv : Value) (hlf : lf.length = 16) (w : World) (hqw : Rd w wv nw (ws.map B)) (hqp : Rd w pv np (ps.map B)) : Ctr Tryz.prog 32 [credV lf wv pv] w (fun _ => False) (fun v _ => v = .bool (decide (nw ≤ 20) && decide (np ≤ 20))) := by
  have hnwl := hqw.le
  have hnpl := hqp.le
  obtain ⟨wad, wcap, rfl, hwc, hwm⟩ := Rd.sl hqw
  obtain ⟨pad, pcap, rfl, hpc, hpm⟩ := Rd.sl hqp
  refine fn_start (N := 13) Tryz.func32 rfl rfl rfl fun ac hk => ?_
  have hs := St.start hk w
  refine wp_seq ?_
  refine wp_reg ?_
  refine s_box hs rfl rfl rfl fun ac ww g1 hs => ?_
  refine s_q hs (c_assign (hs.ev rfl)) rfl fun ac hs => ?_
  refine s_end ?_
  replace hs := hs.sub (F' := [(1, _), (2, _)]) ⟨rfl, rfl, trivial⟩
  refine then_n ?_
  refine wp_seq ?_
  refine wp_reg ?_
  refine s_q hs (c_fld fl66_1 (hs.ev rfl)) rfl fun ac hs => ?_
  refine s_q hs (c_loadS un47 rfl (hs.ev rfl) (hs.seg (i := 0) rfl) (cred_way hlf _ _)) rfl fun ac hs => ?_
  refine s_q hs (c_lenS un47 (hs.ev rfl)) rfl fun ac hs => ?_
  refine s_q hs (c_to (c_leqI (hs.ev rfl) (hs.ev rfl)) ((congrArg (fun b : Bool => Value.bool b) (show decide ((nw : Int) ≤ 20) = decide (nw ≤ 20) by simp; omega)))) rfl fun ac hs => ?_
  refine s_q hs (c_move (hs.ev rfl)) rfl fun ac hs => ?_
  refine s_g hs rfl rfl (fun hg => c_fld fl66_2 (hs.ev rfl)) rfl fun ac hs => ?_
  refine s_g hs rfl rfl (fun hg => c_loadS un47 rfl (gev (hs.ev rfl) hg) (hs.seg (i := 0) rfl) (cred_path hlf _ _)) rfl fun ac hs => ?_
  refine s_g hs rfl rfl (fun hg => c_lenS un47 (gev (hs.ev rfl) hg)) rfl fun ac hs => ?_
  refine s_g hs rfl rfl (fun hg => c_to (c_leqI (gev (hs.ev rfl) hg) (hs.ev rfl)) ((congrArg (fun b : Bool => Value.bool b) (show decide ((np : Int) ≤ 20) = decide (np ≤ 20) by simp; omega)))) rfl fun ac hs => ?_
  refine s_q hs (c_and (hs.ev rfl) (hs.ev rfl)) rfl fun ac hs => ?_
  refine s_q hs (c_assign (hs.ev rfl)) rfl fun ac hs => ?_
  refine s_end ?_
  replace hs := hs.sub (F' := [(2, _)]) ⟨rfl, trivial⟩
  refine then_n ?_
  refine wp_ret ?_
  refine s_ret hs rfl (.tmp (hs.tmp rfl) .nil) rfl ⟨_, rfl, hs.fr, ?_⟩
  rfl
set_option maxHeartbeats 4000000 in
theorem law09_ToCred (lf ws ps : List UInt8) (nw np : Nat) (wv pv : Value) (hlf : lf.length = 16) (hwl : ws.length = nw * 16) (hpl : ps.length = np * 16) (hnw : nw ≤ 1000000) (hnp : np ≤ 1000000) (w : World) (hqw : Rd w wv nw (ws.map B)) (hqp : Rd w pv np (ps.map B)) : Ctr Tryz.prog 34 [credV lf wv pv] w (fun _ => False) (outE (crE 36 lf nw ws np ps) w) := by
  have hnwl := hqw.le
  have hnpl := hqp.le
  obtain ⟨wad, wcap, rfl, hwc, hwm⟩ := Rd.sl hqw
  obtain ⟨pad, pcap, rfl, hpc, hpm⟩ := Rd.sl hqp
  refine fn_start (N := 12) Tryz.func34 rfl rfl rfl fun ac hk => ?_
  have hs := St.start hk w
  refine wp_seq ?_
  refine wp_reg ?_
  refine s_box hs rfl rfl rfl fun ac ww g1 hs => ?_
  refine s_alloc hs ty56 rfl fun ac ww g2 hs => ?_
  refine s_end ?_
  replace hs := hs.sub (F' := [(1, _), (2, _)]) ⟨rfl, rfl, trivial⟩
  refine then_n ?_
  refine wp_seq ?_
  refine wp_region_rg pmix 8 (by kernel_rfl) rfl hs ?_
  simp only [List.take_succ_cons, List.take_zero]
  refine rg_q (fun ac ww h => c_fld fl66_0 (h.ev rfl)) rfl ?_
  refine rg_q (fun ac ww h => c_loadA ty35 rfl (h.ev rfl) (h.blk (hs.seg (i := 1) rfl)) (cred_leaf hlf _ _) (show (List.map B lf).length = 16 by rw [List.length_map, hlf])) rfl ?_
  refine rg_q (fun ac ww h => c_fld fl66_1 (h.ev rfl)) rfl ?_
  refine rg_q (fun ac ww h => c_loadS un47 rfl (h.ev rfl) (h.blk (hs.seg (i := 1) rfl)) (cred_way hlf _ _)) rfl ?_
  refine rg_callE (rowS nw ws) (fun _ _ _ _ _ h => h) fu82 (fun ac ww h => ?_) rfl ?_
  · exact ⟨_, .cons (h.ev rfl) (.nil), law03_To nw ws _ hwl hnw _ (hqw.fr0 (hs.fr.trans0 h.fr))⟩
  refine rg_q (fun ac ww h => c_fld fl66_2 (h.ev rfl)) rfl ?_
  refine rg_q (fun ac ww h => c_loadS un47 rfl (h.ev rfl) (h.blk (hs.seg (i := 1) rfl)) (cred_path hlf _ _)) rfl ?_
  refine rg_callE (rowS np ps) (fun _ _ _ _ _ h => h) fu82 (fun ac ww h => ?_) rfl ?_
  · exact ⟨_, .cons (h.ev rfl) (.nil), law03_To np ps _ hpl hnp _ (hqp.fr0 (hs.fr.trans0 h.fr))⟩
  refine rg_nil fun ac ww L' hf hfe hs => ?_
  simp only [List.drop_succ_cons, List.drop_zero]
  obtain ⟨v10, L10, M10, h10, e10, ⟨v7, L7, M7, h7, e7, rfl, rfl⟩, rfl⟩ := hfe
  replace hs := hs.add h10
  replace hs := hs.add h7
  obtain rfl := e7
  obtain rfl := e10
  obtain ⟨wad2, wcap2, rfl, hwc2, hwm2⟩ := Rd.sl (Rd.of_row (hs.get (i := 1) rfl))
  obtain ⟨pad2, pcap2, rfl, hpc2, hpm2⟩ := Rd.sl (Rd.of_row (hs.get (i := 0) rfl))
  refine s_q hs (c_buildS (zc := lf.map B ++ [.slice wad2 nw wcap2, .slice pad2 np pcap2]) ty56 bp56 (.cons (hs.ev rfl) (.cons (hs.ev rfl) (.cons (hs.ev rfl) .nil))) ⟨(by simp [Value.cells, hlf]), (by simp [Value.cells, hlf]), (by simp [Value.cells, hlf]), trivial⟩ (by simp [flatCells, Value.cells, hlf]) (by simp [flatCells, Value.cells, hlf])) rfl fun ac hs => ?_
  refine s_storeW (i := 2) hs ty56 rfl rfl rfl (by simp [hlf]) (by simp [Value.oneCell', B]) rfl fun ww hs => ?_
  refine s_end ?_
  replace hs := hs.sub (F' := [(2, _)]) ⟨rfl, trivial⟩
  refine then_n ?_
  refine wp_ret ?_
  refine s_ret hs rfl (.cell (hs.tmp rfl) (run_loadA ty56 ag56 (hs.seg (i := 2) rfl) (List.take_of_length_le (by simp [hlf])) (by simp [hlf])) .nil) rfl ⟨_, rfl, hs.fr, ?_⟩
  exact ⟨_, ⟨_, _, rfl, rfl⟩, (hs.pick (L' := [_, _]) (.cons_cons _ (.cons_cons _ (List.nil_sublist _)))).made⟩
set_option maxHeartbeats 4000000 in
theorem law09_toKnown (d mt : Int) (ep sq : UInt32) (e ps : List UInt8) (np : Nat) (pv : Value) (hel : e.length = 16) (hpl : ps.length = np * 16) (hnp : np ≤ 1000000) (w : World) (hqp : Rd w pv np (ps.map B)) : Ctr Tryz.prog 46 [knV d ep sq mt e pv] w (fun _ => False) (outE (knE d ep sq mt e ps np) w) := by
  have hnpl := hqp.le
  obtain ⟨pad, pcap, rfl, hpc, hpm⟩ := Rd.sl hqp
  refine fn_start (N := 14) Tryz.func46 rfl rfl rfl fun ac hk => ?_
  have hs := St.start hk w
  refine wp_seq ?_
  refine wp_reg ?_
  refine s_box hs rfl rfl rfl fun ac ww g1 hs => ?_
  refine s_alloc hs ty72 rfl fun ac ww g2 hs => ?_
  refine s_end ?_
  replace hs := hs.sub (F' := [(1, _), (2, _)]) ⟨rfl, rfl, trivial⟩
  refine then_n ?_
  refine wp_seq ?_
  refine wp_region_rg pmix 10 (by kernel_rfl) rfl hs ?_
  simp only [List.take_succ_cons, List.take_zero]
  refine rg_q (fun ac ww h => c_fld fl76_0 (h.ev rfl)) rfl ?_
  refine rg_q (fun ac ww h => c_loadS un3 rfl (h.ev rfl) (h.blk (hs.seg (i := 1) rfl)) rfl) rfl ?_
  refine rg_q (fun ac ww h => c_fld fl76_1 (h.ev rfl)) rfl ?_
  refine rg_q (fun ac ww h => c_loadA ty52 ag52 (h.ev rfl) (h.blk (hs.seg (i := 1) rfl)) (show ((knC d ep sq mt e _).drop 1).take 3 = [U ep, U sq, I mt] from rfl) (by rfl)) rfl ?_
  refine rg_call fu78 (fun ac ww h => (.cons (h.ev rfl) .nil)) (fun ww hf => law01_To ep sq mt ww) rfl ?_
  refine rg_q (fun ac ww h => c_fld fl76_2 (h.ev rfl)) rfl ?_
  refine rg_q (fun ac ww h => c_loadA ty35 rfl (h.ev rfl) (h.blk (hs.seg (i := 1) rfl)) (kn_el hel) (by rw [List.length_map, hel])) rfl ?_
  refine rg_q (fun ac ww h => c_fld fl76_3 (h.ev rfl)) rfl ?_
  refine rg_q (fun ac ww h => c_loadS un47 rfl (h.ev rfl) (h.blk (hs.seg (i := 1) rfl)) (kn_path hel)) rfl ?_
  refine rg_callE (rowS np ps) (fun _ _ _ _ _ h => h) fu82 (fun ac ww h => ?_) rfl ?_
  · exact ⟨_, .cons (h.ev rfl) (.nil), law03_To np ps _ hpl hnp _ (hqp.fr0 (hs.fr.trans0 h.fr))⟩
  refine rg_nil fun ac ww L' hf hfe hs => ?_
  simp only [List.drop_succ_cons, List.drop_zero]
  obtain ⟨v12, L12, M12, h12, e12, rfl, rfl⟩ := hfe
  replace hs := hs.add h12
  obtain rfl := e12
  obtain ⟨tad, tcap, rfl, htc, htm⟩ := Rd.sl (Rd.of_row (hs.get (i := 0) rfl))
  refine s_q hs (c_buildS (zc := knC d ep sq mt e (.slice tad np tcap)) ty72 bp72 (.cons (hs.ev rfl) (.cons (hs.ev rfl) (.cons (hs.ev rfl) (.cons (hs.ev rfl) .nil)))) ⟨rfl, rfl, (by simp [Value.cells, hel]), (by simp [Value.cells, hel]), trivial⟩ (by simp [flatCells, Value.cells, hel]) (by simp [flatCells, Value.cells, hel, knC])) rfl fun ac hs => ?_
  refine s_storeW (i := 1) hs ty72 rfl rfl rfl (knC_length hel) (by simp [knC, Value.oneCell', B]) rfl fun ww hs => ?_
  refine s_end ?_
  replace hs := hs.sub (F' := [(2, _)]) ⟨rfl, trivial⟩
  refine then_n ?_
  refine wp_ret ?_
  refine s_ret hs rfl (.cell (hs.tmp rfl) (run_loadA ty72 ag72 (hs.seg (i := 1) rfl) (List.take_of_length_le (show (knC d ep sq mt e (.slice tad np tcap)).length ≤ 21 by rw [knC_length hel]; exact Nat.le_refl _)) (knC_length hel)) .nil) rfl ⟨_, rfl, hs.fr, ?_⟩
  exact ⟨_, ⟨_, rfl, rfl⟩, (hs.pick (L' := [_]) (.cons_cons _ (List.nil_sublist _))).made⟩
end Go.Proofs.YtklajbdbnnceiaaGreat
end

section
/- What is known takes a claim. -/
set_option linter.unusedSimpArgs false
set_option linter.unusedVariables false
set_option maxRecDepth 100000
namespace Go.Proofs.YtklajbdbnnceiaaGreat
open Go Go.Fw
open Sha
/-- Whether what is known is of the claim's place, and of a farther rung. -/
def qk0 (W S H d mt sn : Int) (ep sq : UInt32) (np : Nat) (dk mk : Int) (epk sqk : UInt32) (nk : Nat) : Bool :=
  clRight W S H d mt sn ep sq && decide (d = dk) && decide (ep = epk) && decide (sq = sqk) && decide (mt < mk) && decide (mk ≤ S) && decide ((np : Int) = (nk : Int))
/-- Whether what is known takes it. -/
def qkB (W S H d mt sn : Int) (ep sq : UInt32) (lf ws : List UInt8) (nw : Nat) (ps : List UInt8) (np : Nat) (dk mk : Int) (epk sqk : UInt32) (ek pk : List UInt8) (nk : Nat) : Bool :=
  qk0 W S H d mt sn ep sq np dk mk epk sqk nk && decide (ps = pk) && decide (rsE mt W sn nw = 0) && decide (climbE (mt + 1) mk W = 0) && decide (climbB d ep sq (rsB d ep sq mt W sn lf ws nw) (mt + 1) mk W = ek)
def qkV (W S H d mt sn : Int) (ep sq : UInt32) (lf ws : List UInt8) (nw : Nat) (ps : List UInt8) (np : Nat) (dk mk : Int) (epk sqk : UInt32) (ek pk : List UInt8) (nk : Nat) : List UInt8 :=
  if qkB W S H d mt sn ep sq lf ws nw ps np dk mk epk sqk ek pk nk = true then rsB d ep sq mt W sn lf ws nw else (List.replicate 16 (0 : UInt8))
set_option maxHeartbeats 4000000 in
theorem proof_Quick (W S H d mt sn : Int) (ep sq : UInt32) (lf ws ps : List UInt8) (nw np : Nat) (wv pv : Value) (dk mk : Int) (epk sqk : UInt32) (ek pk : List UInt8) (nk : Nat) (kv : Value) (hlf : lf.length = 16) (hek : ek.length = 16) (hwl : ws.length = nw * 16) (hpl : ps.length = np * 16) (hkl : pk.length = nk * 16) (w : World) (hqw : Rd w wv nw (ws.map B)) (hqp : Rd w pv np (ps.map B)) (hqk : Rd w kv nk (pk.map B)) : Ctr Tryz.prog 45 [.agg #[I W, I S, I H], knV dk epk sqk mk ek kv, .agg #[I d, U ep, U sq, I mt, I sn], credV lf wv pv] w (fun _ => False) (fun v _ => v = .tuple #[.agg ((qkV W S H d mt sn ep sq lf ws nw ps np dk mk epk sqk ek pk nk).map B).toArray, .bool (qkB W S H d mt sn ep sq lf ws nw ps np dk mk epk sqk ek pk nk)]) := by
  have hnwl := hqw.le
  have hnpl := hqp.le
  have hnkl := hqk.le
  obtain ⟨wad, wcap, rfl, hwc, hwm⟩ := Rd.sl hqw
  obtain ⟨pad, pcap, rfl, hpc, hpm⟩ := Rd.sl hqp
  obtain ⟨kad, kcap, rfl, hkc, hkm⟩ := Rd.sl hqk
  refine fn_start (N := 137) Tryz.func45 rfl rfl rfl fun ac hk => ?_
  have hs := St.start hk w
  refine wp_seq ?_
  refine wp_reg ?_
  refine s_box hs rfl rfl rfl fun ac ww g4 hs => ?_
  refine s_box hs rfl rfl rfl fun ac ww g5 hs => ?_
  refine s_box hs rfl rfl rfl fun ac ww g6 hs => ?_
  refine s_box hs rfl rfl rfl fun ac ww g7 hs => ?_
  refine s_alloc hs ty36 rfl fun ac ww g8 hs => ?_
  refine s_q hs (c_assign (hs.ev rfl)) rfl fun ac hs => ?_
  refine s_end ?_
  replace hs := hs.sub (F' := [(4, _), (5, _), (6, _), (7, _), (8, _), (9, _)]) ⟨rfl, rfl, rfl, rfl, rfl, rfl, trivial⟩
  refine then_n ?_
  refine wp_seq ?_
  refine wp_seq ?_
  refine wp_reg ?_
  refine s_q hs (c_loadW ty33 ag33 (hs.ev rfl) (hs.seg (i := 4) rfl) (by rfl)) rfl fun ac hs => ?_
  refine s_q hs (c_loadW ty61 ag61 (hs.ev rfl) (hs.seg (i := 2) rfl) (by rfl)) rfl fun ac hs => ?_
  refine s_call hs fu75 (.cons (hs.ev rfl) (.cons (hs.ev rfl) .nil)) (proof_Right W S H d mt sn ep sq _) rfl fun ac ww v16 hf hp hs => ?_
  obtain rfl := hp
  replace hs := hs [] (.nil _ _)
  refine s_q hs (c_not (hs.ev rfl)) rfl fun ac hs => ?_
  refine s_q hs (c_move (hs.ev rfl)) rfl fun ac hs => ?_
  refine s_g hs rfl rfl (fun hg => c_fld fl61_0 (hs.ev rfl)) rfl fun ac hs => ?_
  refine s_g hs rfl rfl (fun hg => c_loadS un3 rfl (gev (hs.ev rfl) hg) (hs.seg (i := 2) rfl) rfl) rfl fun ac hs => ?_
  refine s_g hs rfl rfl (fun hg => c_fld fl72_0 (hs.ev rfl)) rfl fun ac hs => ?_
  refine s_g hs rfl rfl (fun hg => c_loadS un3 rfl (gev (hs.ev rfl) hg) (hs.seg (i := 3) rfl) rfl) rfl fun ac hs => ?_
  refine s_g hs rfl rfl (fun hg => c_neqI (gev (hs.ev rfl) hg) (gev (hs.ev rfl) hg)) rfl fun ac hs => ?_
  refine s_q hs (c_or (hs.ev rfl) (hs.ev rfl)) rfl fun ac hs => ?_
  refine s_q hs (c_move (hs.ev rfl)) rfl fun ac hs => ?_
  refine s_g hs rfl rfl (fun hg => c_fld fl61_1 (hs.ev rfl)) rfl fun ac hs => ?_
  refine s_g hs rfl rfl (fun hg => c_fld fl59_0 (gev (hs.ev rfl) hg)) rfl fun ac hs => ?_
  refine s_g hs rfl rfl (fun hg => c_loadS un25 rfl (gev (hs.ev rfl) hg) (hs.seg (i := 2) rfl) rfl) rfl fun ac hs => ?_
  refine s_g hs rfl rfl (fun hg => c_fld fl72_1 (hs.ev rfl)) rfl fun ac hs => ?_
  refine s_g hs rfl rfl (fun hg => c_fld fl59_0 (gev (hs.ev rfl) hg)) rfl fun ac hs => ?_
  refine s_g hs rfl rfl (fun hg => c_loadS un25 rfl (gev (hs.ev rfl) hg) (hs.seg (i := 3) rfl) rfl) rfl fun ac hs => ?_
  refine s_g hs rfl rfl (fun hg => c_neqU (gev (hs.ev rfl) hg) (gev (hs.ev rfl) hg)) rfl fun ac hs => ?_
  refine s_q hs (c_or (hs.ev rfl) (hs.ev rfl)) rfl fun ac hs => ?_
  refine s_q hs (c_move (hs.ev rfl)) rfl fun ac hs => ?_
  refine s_g hs rfl rfl (fun hg => c_fld fl61_1 (hs.ev rfl)) rfl fun ac hs => ?_
  refine s_g hs rfl rfl (fun hg => c_fld fl59_1 (gev (hs.ev rfl) hg)) rfl fun ac hs => ?_
  refine s_g hs rfl rfl (fun hg => c_loadS un25 rfl (gev (hs.ev rfl) hg) (hs.seg (i := 2) rfl) rfl) rfl fun ac hs => ?_
  refine s_g hs rfl rfl (fun hg => c_fld fl72_1 (hs.ev rfl)) rfl fun ac hs => ?_
  refine s_g hs rfl rfl (fun hg => c_fld fl59_1 (gev (hs.ev rfl) hg)) rfl fun ac hs => ?_
  refine s_g hs rfl rfl (fun hg => c_loadS un25 rfl (gev (hs.ev rfl) hg) (hs.seg (i := 3) rfl) rfl) rfl fun ac hs => ?_
  refine s_g hs rfl rfl (fun hg => c_neqU (gev (hs.ev rfl) hg) (gev (hs.ev rfl) hg)) rfl fun ac hs => ?_
  refine s_q hs (c_or (hs.ev rfl) (hs.ev rfl)) rfl fun ac hs => ?_
  refine s_q hs (c_move (hs.ev rfl)) rfl fun ac hs => ?_
  refine s_g hs rfl rfl (fun hg => c_fld fl61_1 (hs.ev rfl)) rfl fun ac hs => ?_
  refine s_g hs rfl rfl (fun hg => c_fld fl59_2 (gev (hs.ev rfl) hg)) rfl fun ac hs => ?_
  refine s_g hs rfl rfl (fun hg => c_loadS un3 rfl (gev (hs.ev rfl) hg) (hs.seg (i := 2) rfl) rfl) rfl fun ac hs => ?_
  refine s_g hs rfl rfl (fun hg => c_fld fl72_1 (hs.ev rfl)) rfl fun ac hs => ?_
  refine s_g hs rfl rfl (fun hg => c_fld fl59_2 (gev (hs.ev rfl) hg)) rfl fun ac hs => ?_
  refine s_g hs rfl rfl (fun hg => c_loadS un3 rfl (gev (hs.ev rfl) hg) (hs.seg (i := 3) rfl) rfl) rfl fun ac hs => ?_
  refine s_g hs rfl rfl (fun hg => c_geqI (gev (hs.ev rfl) hg) (gev (hs.ev rfl) hg)) rfl fun ac hs => ?_
  refine s_q hs (c_or (hs.ev rfl) (hs.ev rfl)) rfl fun ac hs => ?_
  refine s_q hs (c_move (hs.ev rfl)) rfl fun ac hs => ?_
  refine s_g hs rfl rfl (fun hg => c_fld fl72_1 (hs.ev rfl)) rfl fun ac hs => ?_
  refine s_g hs rfl rfl (fun hg => c_fld fl59_2 (gev (hs.ev rfl) hg)) rfl fun ac hs => ?_
  refine s_g hs rfl rfl (fun hg => c_loadS un3 rfl (gev (hs.ev rfl) hg) (hs.seg (i := 3) rfl) rfl) rfl fun ac hs => ?_
  refine s_g hs rfl rfl (fun hg => c_fld fl33_1 (hs.ev rfl)) rfl fun ac hs => ?_
  refine s_g hs rfl rfl (fun hg => c_loadS un3 rfl (gev (hs.ev rfl) hg) (hs.seg (i := 4) rfl) rfl) rfl fun ac hs => ?_
  refine s_g hs rfl rfl (fun hg => c_gtrI (gev (hs.ev rfl) hg) (gev (hs.ev rfl) hg)) rfl fun ac hs => ?_
  refine s_q hs (c_or (hs.ev rfl) (hs.ev rfl)) rfl fun ac hs => ?_
  refine s_q hs (c_move (hs.ev rfl)) rfl fun ac hs => ?_
  refine s_g hs rfl rfl (fun hg => c_fld fl56_2 (hs.ev rfl)) rfl fun ac hs => ?_
  refine s_g hs rfl rfl (fun hg => c_loadS un39 rfl (gev (hs.ev rfl) hg) (hs.seg (i := 1) rfl) (cred_path hlf _ _)) rfl fun ac hs => ?_
  refine s_g hs rfl rfl (fun hg => c_lenS un39 (gev (hs.ev rfl) hg)) rfl fun ac hs => ?_
  refine s_g hs rfl rfl (fun hg => c_fld fl72_3 (hs.ev rfl)) rfl fun ac hs => ?_
  refine s_g hs rfl rfl (fun hg => c_loadS un39 rfl (gev (hs.ev rfl) hg) (hs.seg (i := 3) rfl) (kn_path hek)) rfl fun ac hs => ?_
  refine s_g hs rfl rfl (fun hg => c_lenS un39 (gev (hs.ev rfl) hg)) rfl fun ac hs => ?_
  refine s_g hs rfl rfl (fun hg => c_neqI (gev (hs.ev rfl) hg) (gev (hs.ev rfl) hg)) rfl fun ac hs => ?_
  refine s_q hs (c_or (hs.ev rfl) (hs.ev rfl)) rfl fun ac hs => ?_
  refine s_end ?_
  replace hs := hs.sub (F' := [(4, _), (5, _), (6, _), (7, _), (8, _), (9, _), (68, _)]) ⟨rfl, rfl, rfl, rfl, rfl, rfl, rfl, trivial⟩
  refine then_n ?_
  refine s_cond hs rfl (fun hc => ?_) (fun hc => ?_)
  · skip
    have hno : qk0 W S H d mt sn ep sq np dk mk epk sqk nk = false := by
      rw [← Bool.not_eq_true]
      intro h9
      simp only [qk0, Bool.and_eq_true, decide_eq_true_eq] at h9
      obtain ⟨⟨⟨⟨⟨⟨h1, rfl⟩, rfl⟩, rfl⟩, h2⟩, h3⟩, h4⟩ := h9
      simp [h1, h4] at hc
      omega
    refine wp_seq ?_
    refine wp_reg ?_
    refine s_q hs (c_buildA ty36 un36 ty5 (zc := (List.replicate 16 (0 : UInt8)).map B) (vs := []) .nil (by simp) (by simp [flatCells]) rfl) rfl fun ac hs => ?_
    refine s_storeW (i := 0) hs ty36 rfl rfl rfl (by simp) (all_map_B _) rfl fun ww hs => ?_
    refine s_q hs (c_assign (hs.ev rfl)) rfl fun ac hs => ?_
    refine s_end ?_
    replace hs := hs.sub (F' := [(4, _), (5, _), (6, _), (7, _), (8, _), (9, _)]) ⟨rfl, rfl, rfl, rfl, rfl, rfl, trivial⟩
    refine then_n ?_
    refine wp_ret ?_
    refine then_r ?_
    refine s_ret hs rfl (.cell (hs.tmp rfl) (run_loadA ty36 rfl (hs.seg (i := 0) rfl) (List.take_of_length_le (by simp)) (by simp)) (.tmp (hs.tmp rfl) .nil)) rfl ⟨_, rfl, hs.fr, ?_⟩
    show Value.tuple _ = Value.tuple _
    have hq : qkB W S H d mt sn ep sq lf ws nw ps np dk mk epk sqk ek pk nk = false := by simp [qkB, hno]
    rw [qkV, hq]
    rfl
  · skip
    have hyes : qk0 W S H d mt sn ep sq np dk mk epk sqk nk = true := by
      simp only [qk0, Bool.and_eq_true, decide_eq_true_eq]
      simp at hc
      exact hc
    have hy9 := hyes
    simp only [qk0, Bool.and_eq_true, decide_eq_true_eq] at hy9
    obtain ⟨⟨⟨⟨⟨⟨hR, hdk⟩, hepk⟩, hsqk⟩, hmk⟩, hmS⟩, hnn⟩ := hy9
    have hcr := clRight_iff.1 hR
    obtain ⟨hlv, hS1, hS16, hH0, hH6⟩ := spRight_iff.1 hcr.1
    have hnk : nk = np := by omega
    refine wp_skip ?_
    refine then_n ?_
    refine wp_seq ?_
    refine wp_seq ?_
    refine wp_reg ?_
    refine s_q hs (c_fld fl56_2 (hs.ev rfl)) rfl fun ac hs => ?_
    refine s_q hs (c_loadS un39 rfl (hs.ev rfl) (hs.seg (i := 1) rfl) (cred_path hlf _ _)) rfl fun ac hs => ?_
    refine s_q hs (c_lenS un39 (hs.ev rfl)) rfl fun ac hs => ?_
    refine s_q hs (c_move (hs.ev rfl)) rfl fun ac hs => ?_
    refine s_end ?_
    replace hs := hs.sub (F' := [(4, _), (5, _), (6, _), (7, _), (8, _), (9, _), (72, _), (73, _)]) ⟨rfl, rfl, rfl, rfl, rfl, rfl, rfl, rfl, trivial⟩
    refine then_n ?_
    refine wp_block ?_
    refine s_loop hs (X := Nat) (fun k => [(73, I k)]) [(4, _), (5, _), (6, _), (7, _), (8, _), (72, _)] (fun _ => [_, _, _, _, _]) (fun n k => k ≤ np ∧ n = np - k ∧ ∀ i, i < k → chunk ps i = chunk pk i) (_) (0) (⟨Nat.zero_le _, rfl, fun _ h => absurd h (by omega)⟩) ⟨rfl, rfl, rfl, rfl, rfl, rfl, rfl, trivial⟩ rfl ?_
    rintro n k ac ww hok hs
    simp only [List.cons_append, List.nil_append] at hs
    obtain ⟨hk, rfl, hsame⟩ := hok
    refine wp_seq ?_
    refine wp_reg ?_
    refine s_q hs (c_lssI (hs.ev rfl) (hs.ev rfl)) rfl fun ac hs => ?_
    refine s_end ?_
    refine then_n ?_
    refine wp_seq ?_
    refine s_cond hs rfl (fun hc => ?_) (fun hc => ?_)
    · try simp only [decide_eq_true_eq, decide_eq_false_iff_not, Bool.not_eq_true', Bool.not_eq_false', Bool.and_eq_true, Bool.or_eq_true, Bool.or_eq_false_iff] at hc
      have hkn : k < np := by omega
      obtain ⟨pb, po, pT, pf, pall, hpe, hpb, hps⟩ := Rd.bytes_at hqp hpl (by omega)
      obtain ⟨kb, ko, kT, kf, kall, hke, hkb, hks⟩ := Rd.bytes_at hqk hkl (by omega)
      cases hpe
      cases hke
      have hc1 := chunk_l hpl hkn
      have hc2 := chunk_l (k := k) hkl (by omega)
      refine wp_skip ?_
      refine then_n ?_
      refine wp_seq ?_
      refine wp_block ?_
      refine wp_seq ?_
      refine wp_reg ?_
      refine s_q hs (c_move (hs.ev rfl)) rfl fun ac hs => ?_
      refine s_q hs (c_assign (hs.ev rfl)) rfl fun ac hs => ?_
      refine s_end ?_
      refine then_n ?_
      refine wp_seq ?_
      refine wp_region_rg pmix 10 (by kernel_rfl) rfl hs ?_
      simp only [List.take_succ_cons, List.take_zero]
      refine rg_q (fun ac ww h => c_fld fl56_2 (h.ev rfl)) rfl ?_
      refine rg_q (fun ac ww h => c_loadS un39 rfl (h.ev rfl) (h.blk (hs.seg (i := 1) rfl)) (cred_path hlf _ _)) rfl ?_
      refine rg_q (fun ac ww h => c_move (h.ev rfl)) rfl ?_
      refine rg_q (fun ac ww h => c_idxS (j := k) un39 ty36 (h.ev rfl) (h.ev rfl) (by omega) (by omega)) rfl ?_
      refine rg_q (fun ac ww h => c_loadA ty36 rfl (h.ev rfl) (h.blk (hs.old hpb id)) (rdpiece hps hpl hkn) (by rw [List.length_map, hc1])) rfl ?_
      refine rg_q (fun ac ww h => c_fld fl72_3 (h.ev rfl)) rfl ?_
      refine rg_q (fun ac ww h => c_loadS un39 rfl (h.ev rfl) (h.blk (hs.seg (i := 3) rfl)) (kn_path hek)) rfl ?_
      refine rg_q (fun ac ww h => c_move (h.ev rfl)) rfl ?_
      refine rg_q (fun ac ww h => c_idxS (j := k) un39 ty36 (h.ev rfl) (h.ev rfl) (by omega) (by omega)) rfl ?_
      refine rg_q (fun ac ww h => c_loadA ty36 rfl (h.ev rfl) (h.blk (hs.old hkb id)) (rdpiece hks hkl (by omega)) (by rw [List.length_map, hc2])) rfl ?_
      refine rg_nil fun ac ww L' hf hfe hs => ?_
      simp only [List.drop_succ_cons, List.drop_zero]
      obtain rfl : L' = [] := hfe
      replace hs := hs.toL (List.nil_append _)
      refine s_call hs fu93 (.cons (hs.ev rfl) (.cons (hs.ev rfl) .nil)) (mac_Same (chunk ps k) (chunk pk k) hc1 hc2 _) rfl fun ac ww v86 hf hp hs => ?_
      obtain rfl := hp
      replace hs := hs [] (.nil _ _)
      refine s_q hs (c_not (hs.ev rfl)) rfl fun ac hs => ?_
      refine s_end ?_
      refine then_n ?_
      refine s_cond hs rfl (fun hc => ?_) (fun hc => ?_)
      · try simp only [decide_eq_true_eq, decide_eq_false_iff_not, Bool.not_eq_true', Bool.not_eq_false', Bool.and_eq_true, Bool.or_eq_true, Bool.or_eq_false_iff] at hc
        have hne : ¬ chunk ps k = chunk pk k := by simpa using hc
        have hne2 : ¬ ps = pk := fun e => hne (by rw [e])
        refine wp_seq ?_
        refine wp_reg ?_
        refine s_q hs (c_buildA ty36 un36 ty5 (zc := (List.replicate 16 (0 : UInt8)).map B) (vs := []) .nil (by simp) (by simp [flatCells]) rfl) rfl fun ac hs => ?_
        refine s_storeW (i := 0) hs ty36 rfl rfl rfl (by simp) (all_map_B _) rfl fun ww hs => ?_
        refine s_q hs (c_assign (hs.ev rfl)) rfl fun ac hs => ?_
        refine s_end ?_
        refine then_n ?_
        refine wp_ret ?_
        refine blk_r ?_
        refine then_r ?_
        refine then_r ?_
        refine blk_r ?_
        refine then_r ?_
        refine s_ret hs rfl (.cell (hs.tmp rfl) (run_loadA ty36 rfl (hs.seg (i := 0) rfl) (List.take_of_length_le (by simp)) (by simp)) (.tmp (hs.tmp rfl) .nil)) rfl ⟨_, rfl, hs.fr, ?_⟩
        show Value.tuple _ = Value.tuple _
        have hq : qkB W S H d mt sn ep sq lf ws nw ps np dk mk epk sqk ek pk nk = false := by simp [qkB, hne2]
        rw [qkV, hq]
        rfl
      · try simp only [decide_eq_true_eq, decide_eq_false_iff_not, Bool.not_eq_true', Bool.not_eq_false', Bool.and_eq_true, Bool.or_eq_true, Bool.or_eq_false_iff] at hc
        have heq : chunk ps k = chunk pk k := by simpa using hc
        refine wp_skip ?_
        refine blk_n ?_
        refine then_n ?_
        refine wp_reg ?_
        refine s_q hs (c_addI (hs.ev rfl) (hs.ev rfl) (by omega) (by omega)) rfl fun ac hs => ?_
        refine s_q hs (c_move (hs.ev rfl)) rfl fun ac hs => ?_
        refine s_end ?_
        refine then_n ?_
        exact ⟨np - (k + 1), by omega, k + 1, ⟨by omega, rfl, fun i hi => by
          by_cases e : i = k
          · subst e; exact heq
          · exact hsame i (by omega)⟩, St.next hs ⟨(congrArg (fun z => some (I z)) (by omega)), rfl, rfl, rfl, rfl, rfl, rfl, trivial⟩ rfl⟩
    · try simp only [decide_eq_true_eq, decide_eq_false_iff_not, Bool.not_eq_true', Bool.not_eq_false', Bool.and_eq_true, Bool.or_eq_true, Bool.or_eq_false_iff] at hc
      have hkn : k = np := by omega
      have hpp : ps = pk := sums_same hpl (hnk ▸ hkl) fun i hi => hsame i (by omega)
      refine wp_exit ?_
      refine then_e ?_
      refine then_e ?_
      refine blk_hit ?_
      refine then_n ?_
      refine wp_seq ?_
      refine wp_region_rgX (J := [16]) pmix 18 (by kernel_rfl) (by kernel_rfl) rfl rfl hs ?_
      simp only [List.take_succ_cons, List.take_zero]
      refine rg_q (fun ac ww h => c_loadW ty61 ag61 (h.ev rfl) (h.blk (hs.seg (i := 2) rfl)) (by rfl)) rfl ?_
      refine rg_call fu77 (fun ac ww h => (.cons (h.ev rfl) .nil)) (fun ww hf => proof_place d mt sn ep sq _) rfl ?_
      refine rg_q (fun ac ww h => c_fld fl61_1 (h.ev rfl)) rfl ?_
      refine rg_q (fun ac ww h => c_fld fl59_2 (h.ev rfl)) rfl ?_
      refine rg_q (fun ac ww h => c_loadS un3 rfl (h.ev rfl) (h.blk (hs.seg (i := 2) rfl)) rfl) rfl ?_
      refine rg_q (fun ac ww h => c_fld fl33_0 (h.ev rfl)) rfl ?_
      refine rg_q (fun ac ww h => c_loadS un3 rfl (h.ev rfl) (h.blk (hs.seg (i := 4) rfl)) rfl) rfl ?_
      refine rg_q (fun ac ww h => c_fld fl61_2 (h.ev rfl)) rfl ?_
      refine rg_q (fun ac ww h => c_loadS un3 rfl (h.ev rfl) (h.blk (hs.seg (i := 2) rfl)) rfl) rfl ?_
      refine rg_q (fun ac ww h => c_fld fl56_0 (h.ev rfl)) rfl ?_
      refine rg_q (fun ac ww h => c_loadA ty36 rfl (h.ev rfl) (h.blk (hs.seg (i := 1) rfl)) (cred_leaf hlf _ _) (show (List.map B lf).length = 16 by rw [List.length_map, hlf])) rfl ?_
      refine rg_q (fun ac ww h => c_fld fl56_1 (h.ev rfl)) rfl ?_
      refine rg_q (fun ac ww h => c_loadS un39 rfl (h.ev rfl) (h.blk (hs.seg (i := 1) rfl)) (cred_way hlf _ _)) rfl ?_
      refine rg_call fu83 (fun ac ww h => (.cons (h.ev rfl) (.cons (h.ev rfl) (.cons (h.ev rfl) (.cons (h.ev rfl) (.cons (h.ev rfl) (.cons (h.ev rfl) .nil))))))) (fun ww hf => ladder_RiseA d ep sq mt W sn lf ws nw _ hlf hwl ww (hqw.fr0 (hs.fr.trans0 hf))) rfl ?_
      refine rg_q (fun ac ww h => c_move (h.ev rfl)) rfl ?_
      refine rg_q (fun ac ww h => c_extract (h.ev rfl) rfl) rfl ?_
      refine rg_q (fun ac ww h => c_extract (h.ev rfl) rfl) rfl ?_
      refine rg_alloc ty36 rfl ?_
      refine rg_nil fun ac ww L' hf hfe hs hlk => ?_
      simp only [List.drop_succ_cons, List.drop_zero]
      obtain ⟨v11, L11, M11, h11, e11, rfl, rfl⟩ := hfe
      replace hs := hs.add h11
      obtain ⟨g11, rfl, rfl⟩ := e11
      refine sk_storeW (i := 0) hs ty36 rfl rfl rfl (by rw [List.length_map, rsB_length hlf]) (all_map_B _) rfl (fun ww hs => late_turn rfl rfl (late_nil)) fun ww hs => ?_
      refine s_q hs (c_assign (hs.ev rfl)) rfl fun ac hs => ?_
      refine s_end ?_
      replace hs := hs.sub (F' := [(4, _), (5, _), (6, _), (8, _), (11, _), (12, _)]) ⟨rfl, rfl, rfl, rfl, rfl, rfl, trivial⟩
      refine then_n ?_
      refine wp_seq ?_
      refine wp_seq ?_
      refine wp_reg ?_
      refine s_q hs (c_move (hs.ev rfl)) rfl fun ac hs => ?_
      refine s_q hs (c_neqI (hs.ev rfl) (hs.ev rfl)) rfl fun ac hs => ?_
      refine s_end ?_
      replace hs := hs.sub (F' := [(4, _), (5, _), (6, _), (8, _), (11, _), (12, _), (108, _)]) ⟨rfl, rfl, rfl, rfl, rfl, rfl, rfl, trivial⟩
      refine then_n ?_
      refine s_cond hs rfl (fun hc => ?_) (fun hc => ?_)
      · try simp only [decide_eq_true_eq, decide_eq_false_iff_not, Bool.not_eq_true', Bool.not_eq_false', Bool.and_eq_true, Bool.or_eq_true, Bool.or_eq_false_iff] at hc
        have hre : ¬ rsE mt W sn nw = 0 := by simpa using hc
        refine wp_seq ?_
        refine wp_reg ?_
        refine s_q hs (c_buildA ty36 un36 ty5 (zc := (List.replicate 16 (0 : UInt8)).map B) (vs := []) .nil (by simp) (by simp [flatCells]) rfl) rfl fun ac hs => ?_
        refine s_storeW (i := 1) hs ty36 rfl rfl rfl (by simp) (all_map_B _) rfl fun ww hs => ?_
        refine s_q hs (c_assign (hs.ev rfl)) rfl fun ac hs => ?_
        refine s_end ?_
        replace hs := hs.sub (F' := [(4, _), (5, _), (6, _), (8, _), (9, _), (11, _), (12, _)]) ⟨rfl, rfl, rfl, rfl, rfl, rfl, rfl, trivial⟩
        refine then_n ?_
        refine wp_ret ?_
        refine then_r ?_
        refine s_ret hs rfl (.cell (hs.tmp rfl) (run_loadA ty36 rfl (hs.seg (i := 1) rfl) (List.take_of_length_le (by simp)) (by simp)) (.tmp (hs.tmp rfl) .nil)) rfl ⟨_, rfl, hs.fr, ?_⟩
        show Value.tuple _ = Value.tuple _
        have hq : qkB W S H d mt sn ep sq lf ws nw ps np dk mk epk sqk ek pk nk = false := by simp [qkB, hre]
        rw [qkV, hq]
        rfl
      · try simp only [decide_eq_true_eq, decide_eq_false_iff_not, Bool.not_eq_true', Bool.not_eq_false', Bool.and_eq_true, Bool.or_eq_true, Bool.or_eq_false_iff] at hc
        have hre : rsE mt W sn nw = 0 := by simpa using hc
        refine wp_skip ?_
        refine then_n ?_
        refine wp_seq ?_
        refine wp_region_rgX (J := [15]) pmix 17 (by kernel_rfl) (by kernel_rfl) rfl rfl hs ?_
        simp only [List.take_succ_cons, List.take_zero]
        refine rg_q (fun ac ww h => c_loadW ty61 ag61 (h.ev rfl) (h.blk (hs.seg (i := 3) rfl)) (by rfl)) rfl ?_
        refine rg_call fu77 (fun ac ww h => (.cons (h.ev rfl) .nil)) (fun ww hf => proof_place d mt sn ep sq _) rfl ?_
        refine rg_q (fun ac ww h => c_loadW ty36 rfl (h.ev rfl) (h.blk (hs.seg (i := 0) rfl)) (by rw [List.length_map, rsB_length hlf])) rfl ?_
        refine rg_q (fun ac ww h => c_fld fl61_1 (h.ev rfl)) rfl ?_
        refine rg_q (fun ac ww h => c_fld fl59_2 (h.ev rfl)) rfl ?_
        refine rg_q (fun ac ww h => c_loadS un3 rfl (h.ev rfl) (h.blk (hs.seg (i := 3) rfl)) rfl) rfl ?_
        refine rg_q (fun ac ww h => c_addI (h.ev rfl) (h.ev rfl) (by omega) (by omega)) rfl ?_
        refine rg_q (fun ac ww h => c_fld fl72_1 (h.ev rfl)) rfl ?_
        refine rg_q (fun ac ww h => c_fld fl59_2 (h.ev rfl)) rfl ?_
        refine rg_q (fun ac ww h => c_loadS un3 rfl (h.ev rfl) (h.blk (hs.seg (i := 4) rfl)) rfl) rfl ?_
        refine rg_q (fun ac ww h => c_fld fl33_0 (h.ev rfl)) rfl ?_
        refine rg_q (fun ac ww h => c_loadS un3 rfl (h.ev rfl) (h.blk (hs.seg (i := 5) rfl)) rfl) rfl ?_
        refine rg_call fu84 (fun ac ww h => (.cons (h.ev rfl) (.cons (h.ev rfl) (.cons (h.ev rfl) (.cons (h.ev rfl) (.cons (h.ev rfl) .nil)))))) (fun ww hf => ladder_Climb d ep sq (rsB d ep sq mt W sn lf ws nw) (mt + 1) mk W (rsB_length hlf _) (by omega) (by omega) ww) rfl ?_
        refine rg_q (fun ac ww h => c_move (h.ev rfl)) rfl ?_
        refine rg_q (fun ac ww h => c_extract (h.ev rfl) rfl) rfl ?_
        refine rg_q (fun ac ww h => c_extract (h.ev rfl) rfl) rfl ?_
        refine rg_alloc ty36 rfl ?_
        refine rg_nil fun ac ww L' hf hfe hs hlk => ?_
        simp only [List.drop_succ_cons, List.drop_zero]
        obtain ⟨v13, L13, M13, h13, e13, rfl, rfl⟩ := hfe
        replace hs := hs.add h13
        obtain ⟨g13, rfl, rfl⟩ := e13
        refine sk_storeW (i := 0) hs ty36 rfl rfl rfl (by rw [List.length_map, climbB_length (rsB_length hlf _)]) (all_map_B _) rfl (fun ww hs => late_turn rfl rfl (late_nil)) fun ww hs => ?_
        refine s_q hs (c_assign (hs.ev rfl)) rfl fun ac hs => ?_
        refine s_end ?_
        replace hs := hs.sub (F' := [(5, _), (8, _), (11, _), (12, _), (13, _)]) ⟨rfl, rfl, rfl, rfl, rfl, trivial⟩
        refine then_n ?_
        refine wp_seq ?_
        refine wp_seq ?_
        refine wp_reg ?_
        refine s_q hs (c_move (hs.ev rfl)) rfl fun ac hs => ?_
        refine s_q hs (c_neqI (hs.ev rfl) (hs.ev rfl)) rfl fun ac hs => ?_
        refine s_q hs (c_move (hs.ev rfl)) rfl fun ac hs => ?_
        refine s_g hs rfl rfl (fun hg => c_loadW ty36 rfl (hs.ev rfl) (hs.seg (i := 0) rfl) (by rw [List.length_map, climbB_length (rsB_length hlf _)])) rfl fun ac hs => ?_
        refine s_g hs rfl rfl (fun hg => c_fld fl72_2 (hs.ev rfl)) rfl fun ac hs => ?_
        refine s_g hs rfl rfl (fun hg => c_loadA ty36 rfl (gev (hs.ev rfl) hg) (hs.seg (i := 5) rfl) (kn_el hek) (by rw [List.length_map, hek])) rfl fun ac hs => ?_
        refine s_gcall hs rfl rfl fu93 (fun hg => (.cons (gev (hs.ev rfl) hg) (.cons (gev (hs.ev rfl) hg) .nil))) (fun hg => mac_Same (climbB d ep sq (rsB d ep sq mt W sn lf ws nw) (mt + 1) mk W) ek (climbB_length (rsB_length hlf _)) hek _) rfl fun ac ww hf hs => ?_
        refine s_g hs rfl rfl (fun hg => c_not (gev (hs.ev rfl) hg)) rfl fun ac hs => ?_
        refine s_q hs (c_or (hs.ev rfl) (hs.ev rfl)) rfl fun ac hs => ?_
        refine s_end ?_
        replace hs := hs.sub (F' := [(8, _), (11, _), (134, _)]) ⟨rfl, rfl, rfl, trivial⟩
        refine then_n ?_
        refine s_cond hs rfl (fun hc => ?_) (fun hc => ?_)
        · skip
          have hno : ¬ (climbE (mt + 1) mk W = 0 ∧ climbB d ep sq (rsB d ep sq mt W sn lf ws nw) (mt + 1) mk W = ek) := by
            rintro ⟨h1, h2⟩
            simp [h1, h2] at hc
          refine wp_seq ?_
          refine wp_reg ?_
          refine s_q hs (c_buildA ty36 un36 ty5 (zc := (List.replicate 16 (0 : UInt8)).map B) (vs := []) .nil (by simp) (by simp [flatCells]) rfl) rfl fun ac hs => ?_
          refine s_storeW (i := 2) hs ty36 rfl rfl rfl (by simp) (all_map_B _) rfl fun ww hs => ?_
          refine s_q hs (c_assign (hs.ev rfl)) rfl fun ac hs => ?_
          refine s_end ?_
          replace hs := hs.sub (F' := [(8, _), (9, _), (11, _)]) ⟨rfl, rfl, rfl, trivial⟩
          refine then_n ?_
          refine wp_ret ?_
          refine then_r ?_
          refine s_ret hs rfl (.cell (hs.tmp rfl) (run_loadA ty36 rfl (hs.seg (i := 2) rfl) (List.take_of_length_le (by simp)) (by simp)) (.tmp (hs.tmp rfl) .nil)) rfl ⟨_, rfl, hs.fr, ?_⟩
          show Value.tuple _ = Value.tuple _
          have hnn2 : climbE (mt + 1) mk W = 0 → ¬ climbB d ep sq (rsB d ep sq mt W sn lf ws nw) (mt + 1) mk W = ek := fun h1 h2 => hno ⟨h1, h2⟩
          have hq : qkB W S H d mt sn ep sq lf ws nw ps np dk mk epk sqk ek pk nk = false := by simp [qkB, hre]; exact fun _ _ => hnn2
          rw [qkV, hq]
          rfl
        · skip
          have hce : climbE (mt + 1) mk W = 0 ∧ climbB d ep sq (rsB d ep sq mt W sn lf ws nw) (mt + 1) mk W = ek := by
            simpa using hc
          refine wp_skip ?_
          refine then_n ?_
          refine wp_seq ?_
          refine wp_reg ?_
          refine s_q hs (c_loadW ty36 rfl (hs.ev rfl) (hs.seg (i := 1) rfl) (by rw [List.length_map, rsB_length hlf])) rfl fun ac hs => ?_
          refine s_storeW (i := 2) hs ty36 rfl rfl rfl (by rw [List.length_map, rsB_length hlf]) (all_map_B _) rfl fun ww hs => ?_
          refine s_q hs (c_assign (hs.ev rfl)) rfl fun ac hs => ?_
          refine s_end ?_
          replace hs := hs.sub (F' := [(8, _), (9, _)]) ⟨rfl, rfl, trivial⟩
          refine then_n ?_
          refine wp_ret ?_
          refine s_ret hs rfl (.cell (hs.tmp rfl) (run_loadA ty36 rfl (hs.seg (i := 2) rfl) (List.take_of_length_le (show (List.map B (rsB d ep sq mt W sn lf ws nw)).length ≤ 16 by rw [List.length_map, rsB_length hlf]; exact Nat.le_refl _)) (show (List.map B (rsB d ep sq mt W sn lf ws nw)).length = 16 by rw [List.length_map, rsB_length hlf])) (.tmp (hs.tmp rfl) .nil)) rfl ⟨_, rfl, hs.fr, ?_⟩
          show Value.tuple _ = Value.tuple _
          have hq : qkB W S H d mt sn ep sq lf ws nw ps np dk mk epk sqk ek pk nk = true := by simp [qkB, hyes, hre, hce, hpp]
          rw [qkV, hq]
          rfl
end Go.Proofs.YtklajbdbnnceiaaGreat
end

section
/- Regions with a frame of their own: calls that turn what was there and come to a known value. -/
set_option linter.unusedSimpArgs false
set_option linter.unusedVariables false
namespace Go.FwK
open Go Go.Fw
section
variable {P : Program} {ops : Array Oper} {N B1 : Nat} {w1 : World} {Fk : World → World → Prop} {K : List (Nat × Value) → Fes → Prop} {Fc : List (Nat × Value)} {Fe : Fes} {rest : List Oper}
variable {d : Tmp} {op : Op} {ty : TypeId} {pos : String} {aft : Array Edge}
theorem rg_callKc (hK : FrK Fk B1) {f : FuncId} {args : Array Operand} {vs : List Value} {tys : Array TypeId} {c : Value} (hF : Fun P f)
    (hargs : ∀ a w, RC Fk N Fc Fe ⟨some d, .call { callee := .value (.func f), args := args, argTypes := tys }, ty, pos, aft, none⟩ B1 w1 a w → Evs a args.toList vs)
    (hc : ∀ w, Fk w1 w → Calls P f vs.toArray w fun e w' => e = .returned c ∧ Fk w w') (hE : lookE Fe d = none)
    (k : RG Fk P ops N B1 w1 K ((d, c) :: Fc) Fe rest) : RG Fk P ops N B1 w1 K Fc Fe (⟨some d, .call { callee := .value (.func f), args := args, argTypes := tys }, ty, pos, aft, none⟩ :: rest) :=
  ⟨d, .c c, rfl, ⟨.inl ⟨rfl, fun a w h => by
    rw [run_call hF (hargs a w h)]
    exact Calls.mono (hc w h.fr) fun e w' ⟨he, hf⟩ => ⟨c, he, [], ⟨rfl, rfl⟩, hf, .nil _ _⟩⟩, fun h => by cases h⟩, hE, k⟩
end
end Go.FwK
end

section
/- Laws of proofs: an example. -/
set_option linter.unusedSimpArgs false
set_option linter.unusedVariables false
set_option maxRecDepth 100000
namespace Go.Proofs.YtklajbdbnnceiaaGreat
open Go Go.Fw
open Sha
/-- Calls to the spring alone: it stands, whichever columns are made. -/
abbrev SpK (p : Spr) (a b : World) : Prop := Fr (SpM p) a b ∧ (SpSome a p → SpSome b p)
theorem SpSome.fr0 {w w' : World} {p : Spr} (h : SpSome w p) (hf : Fr0 w w') : SpSome w' p := by
  obtain ⟨K, t, h⟩ := h
  exact ⟨K, t, h.fr0 hf⟩
theorem spK {w : World} {p : Spr} (h : SpSome w p) : FwK.FrK (SpK p) w.heap.size := by
  obtain ⟨K, t, h⟩ := h
  exact FwK.frK (M := SpM p) (R := fun a b => SpSome a p → SpSome b p) (fun k hk => hk.elim (fun e => e ▸ heap_lt h.hg) fun e => e ▸ heap_lt h.hc) (fun h k x => k (h x)) fun hf x => x.fr0 hf
theorem root_call {p : Spr} (ho : p.Ok) {w w2 : World} (h : SpSome w p) (hf : SpK p w w2) : Calls Tryz.prog 19 #[.pointer (some ⟨p.g, 0, none⟩)] w2 fun e w' => e = .returned (.agg ((gNode p.d p.ep (ends p p.m) p.H 0).map B).toArray) ∧ SpK p w2 w' := by
  obtain ⟨K, t, h2⟩ := hf.2 h
  refine Calls.mono (spring_Root p ho K t w2 h2) fun e w' ⟨v, he, hf, hv, K', pv, hst, _⟩ => ⟨he.trans (congrArg _ hv), hf, fun _ => ⟨K', some pv, hst.1⟩⟩
theorem awake_leaf {p : Spr} (h : SpIs p 1 1 0 (List.replicate 32 0) 0 0) : shL 0 0 0 0 (el p 0 0) p.W 0 = gNode p.d p.ep (ends p p.m) p.H 0 := by
  have hS : p.S = 1 := by have := h.S; omega
  have hH : p.H = 0 := by have := h.H; omega
  have hm : p.m = 1 := by rw [Spr.m, hH]
  rw [h.W, h.d, h.ep, hH, hm, gNode, node, gLf, ends, hS]
  have e1 : okS 0 1 0 = true := by decide
  have e2 : rightB ((0 : Nat) : Int) 1 = true := by decide
  rw [shL, if_pos e1]
  have e3 : chunk (rows (fun q => el p q 1) 1) 0 = el p 0 1 := by
    rw [rows_succ, show rows (fun q => el p q 1) 0 = [] from rfl, List.nil_append]
    show ((el p 0 1).drop (16 * 0)).take 16 = _
    rw [List.drop_zero, List.take_of_length_le (by rw [el_length]; exact Nat.le_refl _)]
  rw [e3, el_succ, upB, h.W, h.d, h.ep, if_pos e2]
  rfl
set_option maxHeartbeats 4000000 in
theorem law09_awake  (w : World)  : Ctr Tryz.prog 25 [] w (fun _ => False) (fun v _ => v = .bool true) := by
  refine fn_start (N := 31) Tryz.func25 rfl rfl rfl fun ac hk => ?_
  have hs := St.start hk w
  refine wp_seq ?_
  refine wp_reg ?_
  refine s_q hs (c_assign (hs.ev rfl)) rfl fun ac hs => ?_
  refine s_end ?_
  refine then_n ?_
  refine wp_seq ?_
  refine wp_reg ?_
  refine s_q hs (c_buildS ty33 bp33 (.cons (hs.ev rfl) (.cons (hs.ev rfl) .nil)) ⟨rfl, rfl, trivial⟩ (by simp [flatCells, Value.cells]) rfl) rfl fun ac hs => ?_
  refine s_q hs (c_buildA ty129 un129 ty5 (zc := (List.replicate 32 (0 : UInt8)).map B) (vs := []) .nil (by simp) (by simp [flatCells]) rfl) rfl fun ac hs => ?_
  have hs0 := hs
  refine s_call hs fu14 (.cons (hs.ev rfl) (.cons (hs.ev rfl) (.cons (hs.ev rfl) (.cons (hs.ev rfl) .nil)))) (spring_New 1 1 0 0 0 (List.replicate 32 (0 : UInt8)) (by simp) _) rfl fun ac ww v8 hf hp hs => ?_
  have hsz0 := hs0.fr.size
  have hf0 := hf
  obtain ⟨p, hsi, hsp, hg0, hc0, rfl⟩ : ∃ p, SpIs p _ _ _ _ _ _ ∧ SpAt ww p 0 (fun _ => none) none ∧ _ ≤ p.g ∧ _ ≤ p.cg ∧ _ := hp.elim (fun h => absurd h.1 (by rw [show spFits 1 1 0 0 0 = true from by decide]; simp)) (fun h => h.2)
  replace hs := hs [] (.nil _ _)
  have hg1 : w.heap.size ≤ p.g := Nat.le_trans hsz0 hg0
  have hc1 : w.heap.size ≤ p.cg := Nat.le_trans hsz0 hc0
  have ho := hsi.ok
  have hfr0 := hs.fr
  replace hs := St.start hs.know ww
  have hwW := hsi.W
  have hwS := hsi.S
  have hwH := hsi.H
  refine s_q hs (c_move (hs.ev rfl)) rfl fun ac hs => ?_
  refine s_q hs (c_extract (hs.ev rfl) rfl) rfl fun ac hs => ?_
  refine s_q hs (c_extract (hs.ev rfl) rfl) rfl fun ac hs => ?_
  refine s_q hs (c_assign (hs.ev rfl)) rfl fun ac hs => ?_
  refine s_q hs (c_assign (hs.ev rfl)) rfl fun ac hs => ?_
  refine s_end ?_
  replace hs := hs.sub (F' := [(0, _), (1, _)]) ⟨rfl, rfl, trivial⟩
  refine then_n ?_
  refine wp_seq ?_
  refine wp_reg ?_
  refine s_q hs (c_move (hs.ev rfl)) rfl fun ac hs => ?_
  refine s_q hs (c_buildS ty61 bp61 .nil trivial (by simp [flatCells, Value.cells]) rfl) rfl fun ac hs => ?_
  have hfr1 := hfr0.trans0 hs.fr
  refine s_callR hs fu26 (.cons (hs.ev rfl) (.cons (hs.ev rfl) .nil)) (proof_Issue p ho _ none 0 0 0 0 0 _ (hsp.fr0 hs.fr)) rfl fun ac ww v14 hf hp hs => ?_
  obtain ⟨hspA, wv, pv, rfl, hwv, hpv, _, _⟩ := (hp.elim (fun h => absurd h.1 (by
    have e1 : p.S = 1 := by omega
    have e2 : p.H = 0 := by omega
    rw [hwW, e1, e2]
    decide)) fun h => h.2)
  replace hfr0 := over_sp hfr1 hf hg1 hc1
  have hsl := shL_length 0 0 0 0 (el p 0 0) p.W 0
  have hwo := hwv.one
  have hpo := hpv.one
  refine s_q hs (c_move (hs.ev rfl)) rfl fun ac hs => ?_
  refine s_q hs (c_extract (hs.ev rfl) rfl) rfl fun ac hs => ?_
  refine s_q hs (c_extract (hs.ev rfl) rfl) rfl fun ac hs => ?_
  refine s_alloc hs ty56 rfl fun ac ww g3 hs => ?_
  refine s_storeW (i := 0) hs ty56 rfl rfl rfl (by simp [hsl]) (by simp [hwo, hpo]; exact fun x _ => rfl) rfl fun ww hs => ?_
  refine s_q hs (c_assign (hs.ev rfl)) rfl fun ac hs => ?_
  refine s_end ?_
  replace hs := hs.sub (F' := [(0, _), (1, _), (3, _), (4, _)]) ⟨rfl, rfl, rfl, rfl, trivial⟩
  refine then_n ?_
  refine wp_seq ?_
  have hb3 := hs.seg (i := 0) rfl
  have hfrS := hfr0.trans0 hs.fr
  have hspB : SpSome ww p := (hspA.fr0 hs.fr).elim fun K h => h.elim fun u h => ⟨K, some u, h⟩
  have hK := spK hspB
  refine FwK.wp_region_rgK pmix hK 7 (by kernel_rfl) rfl hs.know ?_
  simp only [List.take_succ_cons, List.take_zero]
  refine FwK.rg_q hK (fun ac w2 h => c_move (h.ev rfl)) rfl ?_
  refine FwK.rg_q hK (fun ac w2 h => c_eqlI (h.ev rfl) (h.ev rfl)) rfl ?_
  refine FwK.rg_q hK (fun ac w2 h => c_move (h.ev rfl)) rfl ?_
  refine FwK.rg_strip rfl rfl ?_
  refine FwK.rg_q hK (fun ac w2 h => c_fld fl56_0 (h.ev rfl)) rfl ?_
  refine FwK.rg_strip rfl rfl ?_
  refine FwK.rg_q hK (v := .agg ((shL 0 0 0 0 (el p 0 0) p.W 0).map B).toArray) (fun ac w2 h => c_loadA ty36 rfl (h.ev rfl) (h.fr.1.keepT hb3 fun i hi => by obtain ⟨K0, t0, h0⟩ := hspB; exact hi.elim (fun e => ⟨_, _, _, e ▸ h0.hg, rfl⟩) fun e => ⟨_, _, _, e ▸ h0.hc, rfl⟩) (by simp [hsl]) (by simp [hsl])) rfl ?_
  refine FwK.rg_strip rfl rfl ?_
  refine FwK.rg_q hK (fun ac w2 h => c_move (h.ev rfl)) rfl ?_
  refine FwK.rg_strip rfl rfl ?_
  refine FwK.rg_callKc hK fu19 (fun ac w2 h => .cons (h.ev rfl) .nil) (fun w2 hf => root_call ho hspB hf) rfl ?_
  refine FwK.rg_nil fun ac w2 L' hfk hfe hkn hhas hlk => ?_
  simp only [List.drop_succ_cons, List.drop_zero]
  have hfr0 := over_sp hfrS hfk.1 hg1 hc1
  replace hs := St.start hkn w2
  refine s_yes hs rfl rfl ?_
  refine s_q hs (c_tt (c_eqlAB un36 ty5 eg36 (hs.ev rfl) (hs.ev rfl) hsl (by rw [← awake_leaf hsi]; exact hsl)) (by rw [awake_leaf hsi]; simp)) rfl fun ac hs => ?_
  refine s_q hs (c_pick (hs.ev rfl) (hs.ev rfl) (hs.ev rfl)) rfl fun ac hs => ?_
  refine s_q hs (c_move (hs.ev rfl)) rfl fun ac hs => ?_
  refine s_yes hs rfl rfl ?_
  refine s_q hs (c_buildS ty33 bp33 (.cons (hs.ev rfl) (.cons (hs.ev rfl) (.cons (hs.ev rfl) .nil))) ⟨rfl, rfl, rfl, trivial⟩ (by simp [flatCells, Value.cells]) rfl) rfl fun ac hs => ?_
  refine s_yes hs rfl rfl ?_
  refine s_call hs fu73 (.cons (hs.ev rfl) (.cons (hs.ev rfl) .nil)) (proof_Cost 4 3 2 1 _) rfl fun ac ww v28 hf hp hs => ?_
  obtain rfl := hp
  replace hs := hs [] (.nil _ _)
  refine s_yes hs rfl rfl ?_
  refine s_q hs (c_tt (c_eqlI (hs.ev rfl) (hs.ev rfl)) (by decide)) rfl fun ac hs => ?_
  refine s_q hs (c_pick (hs.ev rfl) (hs.ev rfl) (hs.ev rfl)) rfl fun ac hs => ?_
  refine s_q hs (c_assign (hs.ev rfl)) rfl fun ac hs => ?_
  refine s_end ?_
  replace hs := hs.sub (F' := [(0, _)]) ⟨rfl, trivial⟩
  refine then_n ?_
  refine wp_ret ?_
  refine s_ret hs rfl (.tmp (hs.tmp rfl) .nil) rfl ⟨_, rfl, (hfr0.trans0 hs.fr), ?_⟩
  rfl
end Go.Proofs.YtklajbdbnnceiaaGreat
end

section
/- Honest proofs. -/
set_option linter.unusedSimpArgs false
set_option linter.unusedVariables false
set_option maxRecDepth 100000
namespace Go.Proofs.YtklajbdbnnceiaaGreat
open Go Go.Fw
open Sha
theorem clR_okS {W S H d mt sn : Int} {ep sq : UInt32} (h : clRight W S H d mt sn ep sq = true) : okS mt W sn = true := by
  obtain ⟨hR, _, _, h1, h2, _, _, h3, h4⟩ := clRight_iff.1 h
  obtain ⟨g1, g2, g3, g4, g5⟩ := spRight_iff.1 hR
  simp only [okS, rightB, Bool.and_eq_true, decide_eq_true_eq]
  omega
section
variable {p : Spr} {m : Nat} {sn : Int} {sq : UInt32}
end
end Go.Proofs.YtklajbdbnnceiaaGreat
end

section
/- What is issued and checked, as the document has it. -/
set_option linter.unusedSimpArgs false
set_option linter.unusedVariables false
set_option maxRecDepth 100000
namespace Go.Proofs.YtklajbdbnnceiaaGreat
open Go Go.Fw
open Sha
theorem rsE_or {r x id : Int} {n : Nat} (h : okS r x id = true) : rsE r x id n = 0 ∨ rsE r x id n = 22 := by
  rw [rsE, if_pos h, riseE]
  split
  · exact .inl rfl
  · exact .inr rfl
set_option maxHeartbeats 4000000 in
theorem ref09_Check (W S H d mt sn : Int) (ep sq : UInt32) (rt lf ws ps : List UInt8) (nw np : Nat) (wv pv : Value) (hrt : rt.length = 16) (hlf : lf.length = 16) (hwl : ws.length = nw * 16) (hpl : ps.length = np * 16) (hnw : nw ≤ 1000000) (w : World) (hqw : Rd w wv nw (ws.map B)) (hqp : Rd w pv np (ps.map B)) : Ctr Tryz.prog 44 [.agg #[I W, I S, I H], .agg (rt.map B).toArray, .agg #[I d, U ep, U sq, I mt, I sn], credV lf wv pv] w (fun _ => False) (fun v _ => v = .tuple #[.agg ((ckR W S H d mt sn ep sq rt lf ws nw ps np).1.map B).toArray, I (ckR W S H d mt sn ep sq rt lf ws nw ps np).2]) := by
  have hnwl := hqw.le
  have hnpl := hqp.le
  obtain ⟨wad, wcap, rfl, hwc, hwm⟩ := Rd.sl hqw
  obtain ⟨pad, pcap, rfl, hpc, hpm⟩ := Rd.sl hqp
  refine fn_start (N := 82) Tryz.func44 rfl rfl rfl fun ac hk => ?_
  have hs := St.start hk w
  refine wp_seq ?_
  refine wp_reg ?_
  refine s_box hs rfl rfl rfl fun ac ww g4 hs => ?_
  refine s_box hs rfl rfl rfl fun ac ww g5 hs => ?_
  refine s_box hs rfl rfl rfl fun ac ww g6 hs => ?_
  refine s_box hs rfl rfl rfl fun ac ww g7 hs => ?_
  refine s_alloc hs ty35 rfl fun ac ww g8 hs => ?_
  refine s_q hs (c_assign (hs.ev rfl)) rfl fun ac hs => ?_
  refine s_end ?_
  replace hs := hs.sub (F' := [(4, _), (5, _), (6, _), (7, _), (8, _), (9, _)]) ⟨rfl, rfl, rfl, rfl, rfl, rfl, trivial⟩
  refine then_n ?_
  refine wp_seq ?_
  refine wp_seq ?_
  refine wp_reg ?_
  refine s_q hs (c_loadW ty23 ag23 (hs.ev rfl) (hs.seg (i := 4) rfl) (by rfl)) rfl fun ac hs => ?_
  refine s_q hs (c_loadW ty54 ag54 (hs.ev rfl) (hs.seg (i := 2) rfl) (by rfl)) rfl fun ac hs => ?_
  refine s_call hs fu28 (.cons (hs.ev rfl) (.cons (hs.ev rfl) .nil)) (ref09_Right W S H d mt sn ep sq _) rfl fun ac ww v17 hf hp hs => ?_
  obtain rfl := hp
  replace hs := hs [] (.nil _ _)
  refine s_q hs (c_not (hs.ev rfl)) rfl fun ac hs => ?_
  refine s_end ?_
  replace hs := hs.sub (F' := [(4, _), (5, _), (6, _), (7, _), (8, _), (9, _), (18, _)]) ⟨rfl, rfl, rfl, rfl, rfl, rfl, rfl, trivial⟩
  refine then_n ?_
  refine s_cond hs rfl (fun hc => ?_) (fun hc => ?_)
  · try simp only [decide_eq_true_eq, decide_eq_false_iff_not, Bool.not_eq_true', Bool.not_eq_false', Bool.and_eq_true, Bool.or_eq_true, Bool.or_eq_false_iff] at hc
    have hno : ¬ clRight W S H d mt sn ep sq = true := by simpa using hc
    refine wp_seq ?_
    refine wp_reg ?_
    refine s_q hs (c_buildA ty35 un35 ty5 (zc := (List.replicate 16 (0 : UInt8)).map B) (vs := []) .nil (by simp) (by simp [flatCells]) rfl) rfl fun ac hs => ?_
    refine s_storeW (i := 0) hs ty35 rfl rfl rfl (by simp) (all_map_B _) rfl fun ww hs => ?_
    refine s_q hs (c_assign (hs.ev rfl)) rfl fun ac hs => ?_
    refine s_end ?_
    replace hs := hs.sub (F' := [(4, _), (5, _), (6, _), (7, _), (8, _), (9, _)]) ⟨rfl, rfl, rfl, rfl, rfl, rfl, trivial⟩
    refine then_n ?_
    refine wp_ret ?_
    refine then_r ?_
    refine s_ret hs rfl (.cell (hs.tmp rfl) (run_loadA ty35 rfl (hs.seg (i := 0) rfl) (List.take_of_length_le (by simp)) (by simp)) (.tmp (hs.tmp rfl) .nil)) rfl ⟨_, rfl, hs.fr, ?_⟩
    show Value.tuple _ = Value.tuple _
    rw [ckR, if_neg hno]
    rfl
  · try simp only [decide_eq_true_eq, decide_eq_false_iff_not, Bool.not_eq_true', Bool.not_eq_false', Bool.and_eq_true, Bool.or_eq_true, Bool.or_eq_false_iff] at hc
    have hyes : clRight W S H d mt sn ep sq = true := by simpa using hc
    have hcr := clRight_iff.1 hyes
    obtain ⟨hlv, hS1, hS16, hH0, hH6⟩ := spRight_iff.1 hcr.1
    refine wp_skip ?_
    refine then_n ?_
    refine wp_seq ?_
    refine wp_seq ?_
    refine wp_reg ?_
    refine s_q hs (c_fld fl66_2 (hs.ev rfl)) rfl fun ac hs => ?_
    refine s_q hs (c_loadS un47 rfl (hs.ev rfl) (hs.seg (i := 1) rfl) (cred_path hlf _ _)) rfl fun ac hs => ?_
    refine s_q hs (c_lenS un47 (hs.ev rfl)) rfl fun ac hs => ?_
    refine s_q hs (c_fld fl23_2 (hs.ev rfl)) rfl fun ac hs => ?_
    refine s_q hs (c_loadS un3 rfl (hs.ev rfl) (hs.seg (i := 4) rfl) rfl) rfl fun ac hs => ?_
    refine s_q hs (c_neqI (hs.ev rfl) (hs.ev rfl)) rfl fun ac hs => ?_
    refine s_end ?_
    replace hs := hs.sub (F' := [(4, _), (5, _), (6, _), (7, _), (8, _), (9, _), (25, _)]) ⟨rfl, rfl, rfl, rfl, rfl, rfl, rfl, trivial⟩
    refine then_n ?_
    refine s_cond hs rfl (fun hc => ?_) (fun hc => ?_)
    · try simp only [decide_eq_true_eq, decide_eq_false_iff_not, Bool.not_eq_true', Bool.not_eq_false', Bool.and_eq_true, Bool.or_eq_true, Bool.or_eq_false_iff] at hc
      have hnp : ¬ (np : Int) = H := by simpa using hc
      refine wp_seq ?_
      refine wp_reg ?_
      refine s_q hs (c_buildA ty35 un35 ty5 (zc := (List.replicate 16 (0 : UInt8)).map B) (vs := []) .nil (by simp) (by simp [flatCells]) rfl) rfl fun ac hs => ?_
      refine s_storeW (i := 0) hs ty35 rfl rfl rfl (by simp) (all_map_B _) rfl fun ww hs => ?_
      refine s_q hs (c_assign (hs.ev rfl)) rfl fun ac hs => ?_
      refine s_end ?_
      replace hs := hs.sub (F' := [(4, _), (5, _), (6, _), (7, _), (8, _), (9, _)]) ⟨rfl, rfl, rfl, rfl, rfl, rfl, trivial⟩
      refine then_n ?_
      refine wp_ret ?_
      refine then_r ?_
      refine s_ret hs rfl (.cell (hs.tmp rfl) (run_loadA ty35 rfl (hs.seg (i := 0) rfl) (List.take_of_length_le (by simp)) (by simp)) (.tmp (hs.tmp rfl) .nil)) rfl ⟨_, rfl, hs.fr, ?_⟩
      show Value.tuple _ = Value.tuple _
      rw [ckR, if_pos hyes, if_neg hnp]
      rfl
    · try simp only [decide_eq_true_eq, decide_eq_false_iff_not, Bool.not_eq_true', Bool.not_eq_false', Bool.and_eq_true, Bool.or_eq_true, Bool.or_eq_false_iff] at hc
      have hnp : (np : Int) = H := by simpa using hc
      refine wp_skip ?_
      refine then_n ?_
      refine wp_seq ?_
      refine wp_region_rgX (J := [16, 17]) pmix 19 (by kernel_rfl) (by kernel_rfl) rfl rfl hs ?_
      simp only [List.take_succ_cons, List.take_zero]
      refine rg_q (fun ac ww h => c_loadW ty54 ag54 (h.ev rfl) (h.blk (hs.seg (i := 2) rfl)) (by rfl)) rfl ?_
      refine rg_call fu80 (fun ac ww h => (.cons (h.ev rfl) .nil)) (fun ww hf => ref09_Place d mt sn ep sq ww) rfl ?_
      refine rg_q (fun ac ww h => c_fld fl54_1 (h.ev rfl)) rfl ?_
      refine rg_q (fun ac ww h => c_fld fl52_2 (h.ev rfl)) rfl ?_
      refine rg_q (fun ac ww h => c_loadS un3 rfl (h.ev rfl) (h.blk (hs.seg (i := 2) rfl)) rfl) rfl ?_
      refine rg_q (fun ac ww h => c_fld fl23_0 (h.ev rfl)) rfl ?_
      refine rg_q (fun ac ww h => c_loadS un3 rfl (h.ev rfl) (h.blk (hs.seg (i := 4) rfl)) rfl) rfl ?_
      refine rg_q (fun ac ww h => c_fld fl54_2 (h.ev rfl)) rfl ?_
      refine rg_q (fun ac ww h => c_loadS un3 rfl (h.ev rfl) (h.blk (hs.seg (i := 2) rfl)) rfl) rfl ?_
      refine rg_q (fun ac ww h => c_fld fl66_0 (h.ev rfl)) rfl ?_
      refine rg_q (fun ac ww h => c_loadA ty35 rfl (h.ev rfl) (h.blk (hs.seg (i := 1) rfl)) (cred_leaf hlf _ _) (show (List.map B lf).length = 16 by rw [List.length_map, hlf])) rfl ?_
      refine rg_q (fun ac ww h => c_fld fl66_1 (h.ev rfl)) rfl ?_
      refine rg_q (fun ac ww h => c_loadS un47 rfl (h.ev rfl) (h.blk (hs.seg (i := 1) rfl)) (cred_way hlf _ _)) rfl ?_
      refine rg_callE (tupG [.agg ((rsB d ep sq mt W sn lf ws nw).map B).toArray] [I (rsE mt W sn nw)] (textsE 177 5 (rsX d ep sq mt W sn lf ws nw))) (fun _ _ _ _ _ h => h) fu90 (fun ac ww h => ?_) rfl ?_
      · exact ⟨_, .cons (h.ev rfl) (.cons (h.ev rfl) (.cons (h.ev rfl) (.cons (h.ev rfl) (.cons (h.ev rfl) (.cons (h.ev rfl) (.nil)))))), ref06_RiseA d ep sq mt W sn lf ws nw _ hlf hwl hnw _ (hqw.fr0 (hs.fr.trans0 h.fr))⟩
      refine rg_moveG rfl rfl rfl ?_
      refine rg_extGc rfl rfl rfl (fun _ => rfl) ?_
      refine rg_extGe rfl rfl rfl rfl ?_
      refine rg_extGc rfl rfl rfl (fun _ => rfl) ?_
      refine rg_alloc ty35 rfl ?_
      refine rg_nil fun ac ww L' hf hfe hs hlk => ?_
      simp only [List.drop_succ_cons, List.drop_zero]
      obtain ⟨v10, L10, M10, h10, e10, ⟨v43, L43, M43, h43, e43, ⟨v27, L27, M27, h27, e27, ⟨v41, L41, M41, h41, e41, rfl, rfl⟩, rfl⟩, rfl⟩, rfl⟩ := hfe
      replace hs := hs.add h10
      replace hs := hs.add h43
      replace hs := hs.add h27
      replace hs := hs.add h41
      obtain ⟨g10, rfl, rfl⟩ := e10
      obtain ⟨tv41, rfl, e41⟩ := e41
      obtain ⟨-, rfl⟩ := e27
      obtain rfl := lk_move (j := 14) hlk (by decide) rfl (by kernel_rfl) h27 h41
      obtain ⟨-, rfl⟩ := e43
      obtain rfl := lk_ext (j := 16) hlk (by decide) rfl (by kernel_rfl) h43 h27 rfl
      obtain ⟨ps41, hps41, rfl⟩ := e41
      refine sk_storeW (i := 0) hs ty35 rfl rfl rfl (by rw [List.length_map, rsB_length hlf]) (all_map_B _) rfl (fun ww hs => late_turn rfl rfl (late_turn rfl rfl (late_nil))) fun ww hs => ?_
      refine s_q hs (c_assign (hs.ev rfl)) rfl fun ac hs => ?_
      refine s_q hs (c_assign (hs.ev rfl)) rfl fun ac hs => ?_
      refine s_end ?_
      replace hs := hs.sub (F' := [(4, _), (5, _), (6, _), (7, _), (8, _), (9, _), (10, _), (12, _)]) ⟨rfl, rfl, rfl, rfl, rfl, rfl, rfl, rfl, trivial⟩
      refine then_n ?_
      refine wp_seq ?_
      refine wp_seq ?_
      refine wp_reg ?_
      refine s_q hs (c_move (hs.ev rfl)) rfl fun ac hs => ?_
      refine s_q hs (c_neqI (hs.ev rfl) (hs.ev rfl)) rfl fun ac hs => ?_
      refine s_end ?_
      replace hs := hs.sub (F' := [(4, _), (5, _), (6, _), (7, _), (8, _), (9, _), (10, _), (46, _)]) ⟨rfl, rfl, rfl, rfl, rfl, rfl, rfl, rfl, trivial⟩
      refine then_n ?_
      refine s_cond hs rfl (fun hc => ?_) (fun hc => ?_)
      · try simp only [decide_eq_true_eq, decide_eq_false_iff_not, Bool.not_eq_true', Bool.not_eq_false', Bool.and_eq_true, Bool.or_eq_true, Bool.or_eq_false_iff] at hc
        have hre : ¬ rsE mt W sn nw = 0 := by simpa using hc
        have hre2 : rsE mt W sn nw = 22 := (rsE_or (clR_okS hyes)).resolve_left hre
        refine wp_seq ?_
        refine wp_reg ?_
        refine s_q hs (c_buildA ty35 un35 ty5 (zc := (List.replicate 16 (0 : UInt8)).map B) (vs := []) .nil (by simp) (by simp [flatCells]) rfl) rfl fun ac hs => ?_
        refine s_storeW (i := 2) hs ty35 rfl rfl rfl (by simp) (all_map_B _) rfl fun ww hs => ?_
        refine s_q hs (c_assign (hs.ev rfl)) rfl fun ac hs => ?_
        refine s_end ?_
        replace hs := hs.sub (F' := [(4, _), (5, _), (6, _), (7, _), (8, _), (9, _), (10, _)]) ⟨rfl, rfl, rfl, rfl, rfl, rfl, rfl, trivial⟩
        refine then_n ?_
        refine wp_ret ?_
        refine then_r ?_
        refine s_ret hs rfl (.cell (hs.tmp rfl) (run_loadA ty35 rfl (hs.seg (i := 2) rfl) (List.take_of_length_le (by simp)) (by simp)) (.tmp (hs.tmp rfl) .nil)) rfl ⟨_, rfl, hs.fr, ?_⟩
        show Value.tuple _ = Value.tuple _
        rw [ckR, if_pos hyes, if_pos hnp, if_neg hre, hre2]
        rfl
      · try simp only [decide_eq_true_eq, decide_eq_false_iff_not, Bool.not_eq_true', Bool.not_eq_false', Bool.and_eq_true, Bool.or_eq_true, Bool.or_eq_false_iff] at hc
        have hre : rsE mt W sn nw = 0 := by simpa using hc
        refine wp_skip ?_
        refine then_n ?_
        refine wp_seq ?_
        refine wp_region_rgX (J := [14]) pmix 16 (by kernel_rfl) (by kernel_rfl) rfl rfl hs ?_
        simp only [List.take_succ_cons, List.take_zero]
        refine rg_q (fun ac ww h => c_loadW ty54 ag54 (h.ev rfl) (h.blk (hs.seg (i := 4) rfl)) (by rfl)) rfl ?_
        refine rg_call fu80 (fun ac ww h => (.cons (h.ev rfl) .nil)) (fun ww hf => ref09_Place d mt sn ep sq ww) rfl ?_
        refine rg_q (fun ac ww h => c_loadW ty35 rfl (h.ev rfl) (h.blk (hs.seg (i := 0) rfl)) (by rw [List.length_map, rsB_length hlf])) rfl ?_
        refine rg_q (fun ac ww h => c_fld fl54_1 (h.ev rfl)) rfl ?_
        refine rg_q (fun ac ww h => c_fld fl52_2 (h.ev rfl)) rfl ?_
        refine rg_q (fun ac ww h => c_loadS un3 rfl (h.ev rfl) (h.blk (hs.seg (i := 4) rfl)) rfl) rfl ?_
        refine rg_q (fun ac ww h => c_addI (h.ev rfl) (h.ev rfl) (by omega) (by omega)) rfl ?_
        refine rg_q (fun ac ww h => c_fld fl23_1 (h.ev rfl)) rfl ?_
        refine rg_q (fun ac ww h => c_loadS un3 rfl (h.ev rfl) (h.blk (hs.seg (i := 6) rfl)) rfl) rfl ?_
        refine rg_q (fun ac ww h => c_fld fl23_0 (h.ev rfl)) rfl ?_
        refine rg_q (fun ac ww h => c_loadS un3 rfl (h.ev rfl) (h.blk (hs.seg (i := 6) rfl)) rfl) rfl ?_
        refine rg_call fu71 (fun ac ww h => (.cons (h.ev rfl) (.cons (h.ev rfl) (.cons (h.ev rfl) (.cons (h.ev rfl) (.cons (h.ev rfl) .nil)))))) (fun ww hf => ref06_Climb d ep sq (rsB d ep sq mt W sn lf ws nw) (mt + 1) S W (rsB_length hlf _) (by omega) (by omega) ww) rfl ?_
        refine rg_q (fun ac ww h => c_move (h.ev rfl)) rfl ?_
        refine rg_q (fun ac ww h => c_extract (h.ev rfl) rfl) rfl ?_
        refine rg_q (fun ac ww h => c_extract (h.ev rfl) rfl) rfl ?_
        refine rg_alloc ty35 rfl ?_
        refine rg_nil fun ac ww L' hf hfe hs hlk => ?_
        simp only [List.drop_succ_cons, List.drop_zero]
        obtain ⟨v13, L13, M13, h13, e13, rfl, rfl⟩ := hfe
        replace hs := hs.add h13
        obtain ⟨g13, rfl, rfl⟩ := e13
        refine sk_storeW (i := 0) hs ty35 rfl rfl rfl (by rw [List.length_map, climbB_length (rsB_length hlf _)]) (all_map_B _) rfl (fun ww hs => late_turn rfl rfl (late_nil)) fun ww hs => ?_
        refine s_q hs (c_assign (hs.ev rfl)) rfl fun ac hs => ?_
        refine s_end ?_
        replace hs := hs.sub (F' := [(4, _), (5, _), (6, _), (7, _), (8, _), (9, _), (10, _), (13, _)]) ⟨rfl, rfl, rfl, rfl, rfl, rfl, rfl, rfl, trivial⟩
        refine then_n ?_
        refine wp_seq ?_
        refine wp_seq ?_
        refine wp_reg ?_
        refine s_q hs (c_fld fl54_0 (hs.ev rfl)) rfl fun ac hs => ?_
        refine s_q hs (c_loadS un3 rfl (hs.ev rfl) (hs.seg (i := 5) rfl) rfl) rfl fun ac hs => ?_
        refine s_q hs (c_fld fl54_1 (hs.ev rfl)) rfl fun ac hs => ?_
        refine s_q hs (c_fld fl52_0 (hs.ev rfl)) rfl fun ac hs => ?_
        refine s_q hs (c_loadS un25 rfl (hs.ev rfl) (hs.seg (i := 5) rfl) rfl) rfl fun ac hs => ?_
        refine s_q hs (c_fld fl23_2 (hs.ev rfl)) rfl fun ac hs => ?_
        refine s_q hs (c_loadS un3 rfl (hs.ev rfl) (hs.seg (i := 7) rfl) rfl) rfl fun ac hs => ?_
        refine s_q hs (c_loadW ty35 rfl (hs.ev rfl) (hs.seg (i := 6) rfl) (by rw [List.length_map, hrt])) rfl fun ac hs => ?_
        refine s_q hs (c_fld fl54_1 (hs.ev rfl)) rfl fun ac hs => ?_
        refine s_q hs (c_fld fl52_1 (hs.ev rfl)) rfl fun ac hs => ?_
        refine s_q hs (c_loadS un25 rfl (hs.ev rfl) (hs.seg (i := 5) rfl) rfl) rfl fun ac hs => ?_
        refine s_q hs (c_cvUI un25 un3 (hs.ev rfl)) rfl fun ac hs => ?_
        refine s_q hs (c_loadW ty35 rfl (hs.ev rfl) (hs.seg (i := 0) rfl) (by rw [List.length_map, climbB_length (rsB_length hlf _)])) rfl fun ac hs => ?_
        refine s_q hs (c_fld fl66_2 (hs.ev rfl)) rfl fun ac hs => ?_
        refine s_q hs (c_loadS un47 rfl (hs.ev rfl) (hs.seg (i := 4) rfl) (cred_path hlf _ _)) rfl fun ac hs => ?_
        refine s_call hs fu92 (.cons (hs.ev rfl) (.cons (hs.ev rfl) (.cons (hs.ev rfl) (.cons (hs.ev rfl) (.cons (hs.ev rfl) (.cons (hs.ev rfl) (.cons (hs.ev rfl) .nil))))))) (ref07_Check H rt hrt d ep (sq.toNat : Int) np (climbB d ep sq (rsB d ep sq mt W sn lf ws nw) (mt + 1) S W) ps _ (climbB_length (rsB_length hlf _)) hpl _ (hqp.fr0 hs.fr)) rfl fun ac ww v78 hf hp hs => ?_
        obtain rfl := hp
        replace hs := hs [] (.nil _ _)
        refine s_q hs (c_not (hs.ev rfl)) rfl fun ac hs => ?_
        refine s_end ?_
        replace hs := hs.sub (F' := [(8, _), (9, _), (10, _), (79, _)]) ⟨rfl, rfl, rfl, rfl, trivial⟩
        refine then_n ?_
        refine s_cond hs rfl (fun hc => ?_) (fun hc => ?_)
        · try simp only [decide_eq_true_eq, decide_eq_false_iff_not, Bool.not_eq_true', Bool.not_eq_false', Bool.and_eq_true, Bool.or_eq_true, Bool.or_eq_false_iff] at hc
          have hck : ¬ chkB d ep H rt (sq.toNat : Int) (climbB d ep sq (rsB d ep sq mt W sn lf ws nw) (mt + 1) S W) ps np = true := by simpa using hc
          refine wp_seq ?_
          refine wp_reg ?_
          refine s_q hs (c_buildA ty35 un35 ty5 (zc := (List.replicate 16 (0 : UInt8)).map B) (vs := []) .nil (by simp) (by simp [flatCells]) rfl) rfl fun ac hs => ?_
          refine s_storeW (i := 3) hs ty35 rfl rfl rfl (by simp) (all_map_B _) rfl fun ww hs => ?_
          refine s_q hs (c_assign (hs.ev rfl)) rfl fun ac hs => ?_
          refine s_end ?_
          replace hs := hs.sub (F' := [(8, _), (9, _), (10, _)]) ⟨rfl, rfl, rfl, trivial⟩
          refine then_n ?_
          refine wp_ret ?_
          refine then_r ?_
          refine s_ret hs rfl (.cell (hs.tmp rfl) (run_loadA ty35 rfl (hs.seg (i := 3) rfl) (List.take_of_length_le (by simp)) (by simp)) (.tmp (hs.tmp rfl) .nil)) rfl ⟨_, rfl, hs.fr, ?_⟩
          show Value.tuple _ = Value.tuple _
          rw [ckR, if_pos hyes, if_pos hnp, if_pos hre, if_neg hck]
          rfl
        · try simp only [decide_eq_true_eq, decide_eq_false_iff_not, Bool.not_eq_true', Bool.not_eq_false', Bool.and_eq_true, Bool.or_eq_true, Bool.or_eq_false_iff] at hc
          have hck : chkB d ep H rt (sq.toNat : Int) (climbB d ep sq (rsB d ep sq mt W sn lf ws nw) (mt + 1) S W) ps np = true := by simpa using hc
          refine wp_skip ?_
          refine then_n ?_
          refine wp_seq ?_
          refine wp_reg ?_
          refine s_q hs (c_loadW ty35 rfl (hs.ev rfl) (hs.seg (i := 1) rfl) (by rw [List.length_map, rsB_length hlf])) rfl fun ac hs => ?_
          refine s_storeW (i := 3) hs ty35 rfl rfl rfl (by rw [List.length_map, rsB_length hlf]) (all_map_B _) rfl fun ww hs => ?_
          refine s_q hs (c_assign (hs.ev rfl)) rfl fun ac hs => ?_
          refine s_end ?_
          replace hs := hs.sub (F' := [(8, _), (9, _)]) ⟨rfl, rfl, trivial⟩
          refine then_n ?_
          refine wp_ret ?_
          refine s_ret hs rfl (.cell (hs.tmp rfl) (run_loadA ty35 rfl (hs.seg (i := 3) rfl) (List.take_of_length_le (show (List.map B (rsB d ep sq mt W sn lf ws nw)).length ≤ 16 by rw [List.length_map, rsB_length hlf]; exact Nat.le_refl _)) (show (List.map B (rsB d ep sq mt W sn lf ws nw)).length = 16 by rw [List.length_map, rsB_length hlf])) (.tmp (hs.tmp rfl) .nil)) rfl ⟨_, rfl, hs.fr, ?_⟩
          show Value.tuple _ = Value.tuple _
          rw [ckR, if_pos hyes, if_pos hnp, if_pos hre, if_pos hck]
          rfl
end Go.Proofs.YtklajbdbnnceiaaGreat
end

section
/- What is known takes a claim, as the document has it. -/
set_option linter.unusedSimpArgs false
set_option linter.unusedVariables false
set_option maxRecDepth 100000
namespace Go.Proofs.YtklajbdbnnceiaaGreat
open Go Go.Fw
open Sha
set_option maxHeartbeats 4000000 in
theorem ref09_Quick (W S H d mt sn : Int) (ep sq : UInt32) (lf ws ps : List UInt8) (nw np : Nat) (wv pv : Value) (dk mk : Int) (epk sqk : UInt32) (ek pk : List UInt8) (nk : Nat) (kv : Value) (hlf : lf.length = 16) (hek : ek.length = 16) (hwl : ws.length = nw * 16) (hpl : ps.length = np * 16) (hkl : pk.length = nk * 16) (hnw : nw ≤ 1000000) (w : World) (hqw : Rd w wv nw (ws.map B)) (hqp : Rd w pv np (ps.map B)) (hqk : Rd w kv nk (pk.map B)) : Ctr Tryz.prog 47 [.agg #[I W, I S, I H], knV dk epk sqk mk ek kv, .agg #[I d, U ep, U sq, I mt, I sn], credV lf wv pv] w (fun _ => False) (fun v _ => v = .tuple #[.agg ((qkV W S H d mt sn ep sq lf ws nw ps np dk mk epk sqk ek pk nk).map B).toArray, .bool (qkB W S H d mt sn ep sq lf ws nw ps np dk mk epk sqk ek pk nk)]) := by
  have hnwl := hqw.le
  have hnpl := hqp.le
  have hnkl := hqk.le
  obtain ⟨wad, wcap, rfl, hwc, hwm⟩ := Rd.sl hqw
  obtain ⟨pad, pcap, rfl, hpc, hpm⟩ := Rd.sl hqp
  obtain ⟨kad, kcap, rfl, hkc, hkm⟩ := Rd.sl hqk
  refine fn_start (N := 113) Tryz.func47 rfl rfl rfl fun ac hk => ?_
  have hs := St.start hk w
  refine wp_seq ?_
  refine wp_reg ?_
  refine s_box hs rfl rfl rfl fun ac ww g4 hs => ?_
  refine s_box hs rfl rfl rfl fun ac ww g5 hs => ?_
  refine s_box hs rfl rfl rfl fun ac ww g6 hs => ?_
  refine s_box hs rfl rfl rfl fun ac ww g7 hs => ?_
  refine s_alloc hs ty35 rfl fun ac ww g8 hs => ?_
  refine s_q hs (c_assign (hs.ev rfl)) rfl fun ac hs => ?_
  refine s_end ?_
  replace hs := hs.sub (F' := [(4, _), (5, _), (6, _), (7, _), (8, _), (9, _)]) ⟨rfl, rfl, rfl, rfl, rfl, rfl, trivial⟩
  refine then_n ?_
  refine wp_seq ?_
  refine wp_seq ?_
  refine wp_reg ?_
  refine s_q hs (c_loadW ty23 ag23 (hs.ev rfl) (hs.seg (i := 4) rfl) (by rfl)) rfl fun ac hs => ?_
  refine s_q hs (c_loadW ty54 ag54 (hs.ev rfl) (hs.seg (i := 2) rfl) (by rfl)) rfl fun ac hs => ?_
  refine s_call hs fu28 (.cons (hs.ev rfl) (.cons (hs.ev rfl) .nil)) (ref09_Right W S H d mt sn ep sq _) rfl fun ac ww v17 hf hp hs => ?_
  obtain rfl := hp
  replace hs := hs [] (.nil _ _)
  refine s_q hs (c_not (hs.ev rfl)) rfl fun ac hs => ?_
  refine s_q hs (c_move (hs.ev rfl)) rfl fun ac hs => ?_
  refine s_g hs rfl rfl (fun hg => c_fld fl54_0 (hs.ev rfl)) rfl fun ac hs => ?_
  refine s_g hs rfl rfl (fun hg => c_loadS un3 rfl (gev (hs.ev rfl) hg) (hs.seg (i := 2) rfl) rfl) rfl fun ac hs => ?_
  refine s_g hs rfl rfl (fun hg => c_fld fl76_0 (hs.ev rfl)) rfl fun ac hs => ?_
  refine s_g hs rfl rfl (fun hg => c_loadS un3 rfl (gev (hs.ev rfl) hg) (hs.seg (i := 3) rfl) rfl) rfl fun ac hs => ?_
  refine s_g hs rfl rfl (fun hg => c_neqI (gev (hs.ev rfl) hg) (gev (hs.ev rfl) hg)) rfl fun ac hs => ?_
  refine s_q hs (c_or (hs.ev rfl) (hs.ev rfl)) rfl fun ac hs => ?_
  refine s_q hs (c_move (hs.ev rfl)) rfl fun ac hs => ?_
  refine s_g hs rfl rfl (fun hg => c_fld fl54_1 (hs.ev rfl)) rfl fun ac hs => ?_
  refine s_g hs rfl rfl (fun hg => c_fld fl52_0 (gev (hs.ev rfl) hg)) rfl fun ac hs => ?_
  refine s_g hs rfl rfl (fun hg => c_loadS un25 rfl (gev (hs.ev rfl) hg) (hs.seg (i := 2) rfl) rfl) rfl fun ac hs => ?_
  refine s_g hs rfl rfl (fun hg => c_fld fl76_1 (hs.ev rfl)) rfl fun ac hs => ?_
  refine s_g hs rfl rfl (fun hg => c_fld fl52_0 (gev (hs.ev rfl) hg)) rfl fun ac hs => ?_
  refine s_g hs rfl rfl (fun hg => c_loadS un25 rfl (gev (hs.ev rfl) hg) (hs.seg (i := 3) rfl) rfl) rfl fun ac hs => ?_
  refine s_g hs rfl rfl (fun hg => c_neqU (gev (hs.ev rfl) hg) (gev (hs.ev rfl) hg)) rfl fun ac hs => ?_
  refine s_q hs (c_or (hs.ev rfl) (hs.ev rfl)) rfl fun ac hs => ?_
  refine s_q hs (c_move (hs.ev rfl)) rfl fun ac hs => ?_
  refine s_g hs rfl rfl (fun hg => c_fld fl54_1 (hs.ev rfl)) rfl fun ac hs => ?_
  refine s_g hs rfl rfl (fun hg => c_fld fl52_1 (gev (hs.ev rfl) hg)) rfl fun ac hs => ?_
  refine s_g hs rfl rfl (fun hg => c_loadS un25 rfl (gev (hs.ev rfl) hg) (hs.seg (i := 2) rfl) rfl) rfl fun ac hs => ?_
  refine s_g hs rfl rfl (fun hg => c_fld fl76_1 (hs.ev rfl)) rfl fun ac hs => ?_
  refine s_g hs rfl rfl (fun hg => c_fld fl52_1 (gev (hs.ev rfl) hg)) rfl fun ac hs => ?_
  refine s_g hs rfl rfl (fun hg => c_loadS un25 rfl (gev (hs.ev rfl) hg) (hs.seg (i := 3) rfl) rfl) rfl fun ac hs => ?_
  refine s_g hs rfl rfl (fun hg => c_neqU (gev (hs.ev rfl) hg) (gev (hs.ev rfl) hg)) rfl fun ac hs => ?_
  refine s_q hs (c_or (hs.ev rfl) (hs.ev rfl)) rfl fun ac hs => ?_
  refine s_q hs (c_move (hs.ev rfl)) rfl fun ac hs => ?_
  refine s_g hs rfl rfl (fun hg => c_fld fl54_1 (hs.ev rfl)) rfl fun ac hs => ?_
  refine s_g hs rfl rfl (fun hg => c_fld fl52_2 (gev (hs.ev rfl) hg)) rfl fun ac hs => ?_
  refine s_g hs rfl rfl (fun hg => c_loadS un3 rfl (gev (hs.ev rfl) hg) (hs.seg (i := 2) rfl) rfl) rfl fun ac hs => ?_
  refine s_g hs rfl rfl (fun hg => c_fld fl76_1 (hs.ev rfl)) rfl fun ac hs => ?_
  refine s_g hs rfl rfl (fun hg => c_fld fl52_2 (gev (hs.ev rfl) hg)) rfl fun ac hs => ?_
  refine s_g hs rfl rfl (fun hg => c_loadS un3 rfl (gev (hs.ev rfl) hg) (hs.seg (i := 3) rfl) rfl) rfl fun ac hs => ?_
  refine s_g hs rfl rfl (fun hg => c_geqI (gev (hs.ev rfl) hg) (gev (hs.ev rfl) hg)) rfl fun ac hs => ?_
  refine s_q hs (c_or (hs.ev rfl) (hs.ev rfl)) rfl fun ac hs => ?_
  refine s_q hs (c_move (hs.ev rfl)) rfl fun ac hs => ?_
  refine s_g hs rfl rfl (fun hg => c_fld fl76_1 (hs.ev rfl)) rfl fun ac hs => ?_
  refine s_g hs rfl rfl (fun hg => c_fld fl52_2 (gev (hs.ev rfl) hg)) rfl fun ac hs => ?_
  refine s_g hs rfl rfl (fun hg => c_loadS un3 rfl (gev (hs.ev rfl) hg) (hs.seg (i := 3) rfl) rfl) rfl fun ac hs => ?_
  refine s_g hs rfl rfl (fun hg => c_fld fl23_1 (hs.ev rfl)) rfl fun ac hs => ?_
  refine s_g hs rfl rfl (fun hg => c_loadS un3 rfl (gev (hs.ev rfl) hg) (hs.seg (i := 4) rfl) rfl) rfl fun ac hs => ?_
  refine s_g hs rfl rfl (fun hg => c_gtrI (gev (hs.ev rfl) hg) (gev (hs.ev rfl) hg)) rfl fun ac hs => ?_
  refine s_q hs (c_or (hs.ev rfl) (hs.ev rfl)) rfl fun ac hs => ?_
  refine s_q hs (c_move (hs.ev rfl)) rfl fun ac hs => ?_
  refine s_g hs rfl rfl (fun hg => c_fld fl66_2 (hs.ev rfl)) rfl fun ac hs => ?_
  refine s_g hs rfl rfl (fun hg => c_loadS un47 rfl (gev (hs.ev rfl) hg) (hs.seg (i := 1) rfl) (cred_path hlf _ _)) rfl fun ac hs => ?_
  refine s_g hs rfl rfl (fun hg => c_fld fl76_3 (hs.ev rfl)) rfl fun ac hs => ?_
  refine s_g hs rfl rfl (fun hg => c_loadS un47 rfl (gev (hs.ev rfl) hg) (hs.seg (i := 3) rfl) (kn_path hek)) rfl fun ac hs => ?_
  refine s_gcall hs rfl rfl fu22 (fun hg => (.cons (gev (hs.ev rfl) hg) (.cons (gev (hs.ev rfl) hg) .nil))) (fun hg => ref03_SameSums np nk ps pk _ _ hpl hkl _ (hqp.fr0 hs.fr) (hqk.fr0 hs.fr)) rfl fun ac ww hf hs => ?_
  refine s_g hs rfl rfl (fun hg => c_not (gev (hs.ev rfl) hg)) rfl fun ac hs => ?_
  refine s_q hs (c_or (hs.ev rfl) (hs.ev rfl)) rfl fun ac hs => ?_
  refine s_end ?_
  replace hs := hs.sub (F' := [(4, _), (5, _), (6, _), (7, _), (8, _), (9, _), (68, _)]) ⟨rfl, rfl, rfl, rfl, rfl, rfl, rfl, trivial⟩
  refine then_n ?_
  refine s_cond hs rfl (fun hc => ?_) (fun hc => ?_)
  · skip
    have hno : ¬ (qk0 W S H d mt sn ep sq np dk mk epk sqk nk = true ∧ ps = pk) := by
      intro h9
      simp only [qk0, Bool.and_eq_true, decide_eq_true_eq] at h9
      obtain ⟨⟨⟨⟨⟨⟨⟨h1, rfl⟩, rfl⟩, rfl⟩, h2⟩, h3⟩, h4⟩, rfl⟩ := h9
      simp [h1] at hc
      omega
    refine wp_seq ?_
    refine wp_reg ?_
    refine s_q hs (c_buildA ty35 un35 ty5 (zc := (List.replicate 16 (0 : UInt8)).map B) (vs := []) .nil (by simp) (by simp [flatCells]) rfl) rfl fun ac hs => ?_
    refine s_storeW (i := 0) hs ty35 rfl rfl rfl (by simp) (all_map_B _) rfl fun ww hs => ?_
    refine s_q hs (c_assign (hs.ev rfl)) rfl fun ac hs => ?_
    refine s_end ?_
    replace hs := hs.sub (F' := [(4, _), (5, _), (6, _), (7, _), (8, _), (9, _)]) ⟨rfl, rfl, rfl, rfl, rfl, rfl, trivial⟩
    refine then_n ?_
    refine wp_ret ?_
    refine then_r ?_
    refine s_ret hs rfl (.cell (hs.tmp rfl) (run_loadA ty35 rfl (hs.seg (i := 0) rfl) (List.take_of_length_le (by simp)) (by simp)) (.tmp (hs.tmp rfl) .nil)) rfl ⟨_, rfl, hs.fr, ?_⟩
    show Value.tuple _ = Value.tuple _
    have hq : qkB W S H d mt sn ep sq lf ws nw ps np dk mk epk sqk ek pk nk = false := by
      rw [← Bool.not_eq_true]
      intro h9
      simp only [qkB, Bool.and_eq_true, decide_eq_true_eq] at h9
      exact hno ⟨h9.1.1.1.1, h9.1.1.1.2⟩
    rw [qkV, hq]
    rfl
  · skip
    have hyes : clRight W S H d mt sn ep sq = true ∧ d = dk ∧ ep = epk ∧ sq = sqk ∧ mt < mk ∧ mk ≤ S ∧ ps = pk := by
      simp [and_assoc] at hc
      exact hc
    obtain ⟨hR, hdk, hepk, hsqk, hmk, hmS, hpp⟩ := hyes
    have hnk : np = nk := by rw [hpp, hkl] at hpl; omega
    have hy0 : qk0 W S H d mt sn ep sq np dk mk epk sqk nk = true := by
      simp only [qk0, Bool.and_eq_true, decide_eq_true_eq]
      exact ⟨⟨⟨⟨⟨⟨hR, hdk⟩, hepk⟩, hsqk⟩, hmk⟩, hmS⟩, by omega⟩
    have hcr := clRight_iff.1 hR
    obtain ⟨hlv, hS1, hS16, hH0, hH6⟩ := spRight_iff.1 hcr.1
    have hce : climbE (mt + 1) mk W = 0 := by rw [climbE, if_pos (climbOk_iff.2 (by omega))]
    refine wp_skip ?_
    refine then_n ?_
    refine wp_seq ?_
    refine wp_region_rgX (J := [16, 17]) pmix 19 (by kernel_rfl) (by kernel_rfl) rfl rfl hs ?_
    simp only [List.take_succ_cons, List.take_zero]
    refine rg_q (fun ac ww h => c_loadW ty54 ag54 (h.ev rfl) (h.blk (hs.seg (i := 2) rfl)) (by rfl)) rfl ?_
    refine rg_call fu80 (fun ac ww h => (.cons (h.ev rfl) .nil)) (fun ww hf => ref09_Place d mt sn ep sq ww) rfl ?_
    refine rg_q (fun ac ww h => c_fld fl54_1 (h.ev rfl)) rfl ?_
    refine rg_q (fun ac ww h => c_fld fl52_2 (h.ev rfl)) rfl ?_
    refine rg_q (fun ac ww h => c_loadS un3 rfl (h.ev rfl) (h.blk (hs.seg (i := 2) rfl)) rfl) rfl ?_
    refine rg_q (fun ac ww h => c_fld fl23_0 (h.ev rfl)) rfl ?_
    refine rg_q (fun ac ww h => c_loadS un3 rfl (h.ev rfl) (h.blk (hs.seg (i := 4) rfl)) rfl) rfl ?_
    refine rg_q (fun ac ww h => c_fld fl54_2 (h.ev rfl)) rfl ?_
    refine rg_q (fun ac ww h => c_loadS un3 rfl (h.ev rfl) (h.blk (hs.seg (i := 2) rfl)) rfl) rfl ?_
    refine rg_q (fun ac ww h => c_fld fl66_0 (h.ev rfl)) rfl ?_
    refine rg_q (fun ac ww h => c_loadA ty35 rfl (h.ev rfl) (h.blk (hs.seg (i := 1) rfl)) (cred_leaf hlf _ _) (show (List.map B lf).length = 16 by rw [List.length_map, hlf])) rfl ?_
    refine rg_q (fun ac ww h => c_fld fl66_1 (h.ev rfl)) rfl ?_
    refine rg_q (fun ac ww h => c_loadS un47 rfl (h.ev rfl) (h.blk (hs.seg (i := 1) rfl)) (cred_way hlf _ _)) rfl ?_
    refine rg_callE (tupG [.agg ((rsB d ep sq mt W sn lf ws nw).map B).toArray] [I (rsE mt W sn nw)] (textsE 177 5 (rsX d ep sq mt W sn lf ws nw))) (fun _ _ _ _ _ h => h) fu90 (fun ac ww h => ?_) rfl ?_
    · exact ⟨_, .cons (h.ev rfl) (.cons (h.ev rfl) (.cons (h.ev rfl) (.cons (h.ev rfl) (.cons (h.ev rfl) (.cons (h.ev rfl) (.nil)))))), ref06_RiseA d ep sq mt W sn lf ws nw _ hlf hwl hnw _ (hqw.fr0 (hs.fr.trans0 h.fr))⟩
    refine rg_moveG rfl rfl rfl ?_
    refine rg_extGc rfl rfl rfl (fun _ => rfl) ?_
    refine rg_extGe rfl rfl rfl rfl ?_
    refine rg_extGc rfl rfl rfl (fun _ => rfl) ?_
    refine rg_alloc ty35 rfl ?_
    refine rg_nil fun ac ww L' hf hfe hs hlk => ?_
    simp only [List.drop_succ_cons, List.drop_zero]
    obtain ⟨v10, L10, M10, h10, e10, ⟨v86, L86, M86, h86, e86, ⟨v70, L70, M70, h70, e70, ⟨v84, L84, M84, h84, e84, rfl, rfl⟩, rfl⟩, rfl⟩, rfl⟩ := hfe
    replace hs := hs.add h10
    replace hs := hs.add h86
    replace hs := hs.add h70
    replace hs := hs.add h84
    obtain ⟨g10, rfl, rfl⟩ := e10
    obtain ⟨tv84, rfl, e84⟩ := e84
    obtain ⟨-, rfl⟩ := e70
    obtain rfl := lk_move (j := 14) hlk (by decide) rfl (by kernel_rfl) h70 h84
    obtain ⟨-, rfl⟩ := e86
    obtain rfl := lk_ext (j := 16) hlk (by decide) rfl (by kernel_rfl) h86 h70 rfl
    obtain ⟨ps84, hps84, rfl⟩ := e84
    refine sk_storeW (i := 0) hs ty35 rfl rfl rfl (by rw [List.length_map, rsB_length hlf]) (all_map_B _) rfl (fun ww hs => late_turn rfl rfl (late_turn rfl rfl (late_nil))) fun ww hs => ?_
    refine s_q hs (c_assign (hs.ev rfl)) rfl fun ac hs => ?_
    refine s_q hs (c_assign (hs.ev rfl)) rfl fun ac hs => ?_
    refine s_end ?_
    replace hs := hs.sub (F' := [(4, _), (5, _), (6, _), (8, _), (9, _), (10, _), (12, _)]) ⟨rfl, rfl, rfl, rfl, rfl, rfl, rfl, trivial⟩
    refine then_n ?_
    refine wp_seq ?_
    refine wp_seq ?_
    refine wp_reg ?_
    refine s_q hs (c_move (hs.ev rfl)) rfl fun ac hs => ?_
    refine s_q hs (c_neqI (hs.ev rfl) (hs.ev rfl)) rfl fun ac hs => ?_
    refine s_end ?_
    replace hs := hs.sub (F' := [(4, _), (5, _), (6, _), (8, _), (9, _), (10, _), (89, _)]) ⟨rfl, rfl, rfl, rfl, rfl, rfl, rfl, trivial⟩
    refine then_n ?_
    refine s_cond hs rfl (fun hc => ?_) (fun hc => ?_)
    · try simp only [decide_eq_true_eq, decide_eq_false_iff_not, Bool.not_eq_true', Bool.not_eq_false', Bool.and_eq_true, Bool.or_eq_true, Bool.or_eq_false_iff] at hc
      have hre : ¬ rsE mt W sn nw = 0 := by simpa using hc
      refine wp_seq ?_
      refine wp_reg ?_
      refine s_q hs (c_buildA ty35 un35 ty5 (zc := (List.replicate 16 (0 : UInt8)).map B) (vs := []) .nil (by simp) (by simp [flatCells]) rfl) rfl fun ac hs => ?_
      refine s_storeW (i := 2) hs ty35 rfl rfl rfl (by simp) (all_map_B _) rfl fun ww hs => ?_
      refine s_q hs (c_assign (hs.ev rfl)) rfl fun ac hs => ?_
      refine s_end ?_
      replace hs := hs.sub (F' := [(4, _), (5, _), (6, _), (8, _), (9, _), (10, _)]) ⟨rfl, rfl, rfl, rfl, rfl, rfl, trivial⟩
      refine then_n ?_
      refine wp_ret ?_
      refine then_r ?_
      refine s_ret hs rfl (.cell (hs.tmp rfl) (run_loadA ty35 rfl (hs.seg (i := 2) rfl) (List.take_of_length_le (by simp)) (by simp)) (.tmp (hs.tmp rfl) .nil)) rfl ⟨_, rfl, hs.fr, ?_⟩
      show Value.tuple _ = Value.tuple _
      have hq : qkB W S H d mt sn ep sq lf ws nw ps np dk mk epk sqk ek pk nk = false := by simp [qkB, hre]
      rw [qkV, hq]
      rfl
    · try simp only [decide_eq_true_eq, decide_eq_false_iff_not, Bool.not_eq_true', Bool.not_eq_false', Bool.and_eq_true, Bool.or_eq_true, Bool.or_eq_false_iff] at hc
      have hre : rsE mt W sn nw = 0 := by simpa using hc
      refine wp_skip ?_
      refine then_n ?_
      refine wp_seq ?_
      refine wp_region_rgX (J := [15]) pmix 17 (by kernel_rfl) (by kernel_rfl) rfl rfl hs ?_
      simp only [List.take_succ_cons, List.take_zero]
      refine rg_q (fun ac ww h => c_loadW ty54 ag54 (h.ev rfl) (h.blk (hs.seg (i := 4) rfl)) (by rfl)) rfl ?_
      refine rg_call fu80 (fun ac ww h => (.cons (h.ev rfl) .nil)) (fun ww hf => ref09_Place d mt sn ep sq ww) rfl ?_
      refine rg_q (fun ac ww h => c_loadW ty35 rfl (h.ev rfl) (h.blk (hs.seg (i := 0) rfl)) (by rw [List.length_map, rsB_length hlf])) rfl ?_
      refine rg_q (fun ac ww h => c_fld fl54_1 (h.ev rfl)) rfl ?_
      refine rg_q (fun ac ww h => c_fld fl52_2 (h.ev rfl)) rfl ?_
      refine rg_q (fun ac ww h => c_loadS un3 rfl (h.ev rfl) (h.blk (hs.seg (i := 4) rfl)) rfl) rfl ?_
      refine rg_q (fun ac ww h => c_addI (h.ev rfl) (h.ev rfl) (by omega) (by omega)) rfl ?_
      refine rg_q (fun ac ww h => c_fld fl76_1 (h.ev rfl)) rfl ?_
      refine rg_q (fun ac ww h => c_fld fl52_2 (h.ev rfl)) rfl ?_
      refine rg_q (fun ac ww h => c_loadS un3 rfl (h.ev rfl) (h.blk (hs.seg (i := 5) rfl)) rfl) rfl ?_
      refine rg_q (fun ac ww h => c_fld fl23_0 (h.ev rfl)) rfl ?_
      refine rg_q (fun ac ww h => c_loadS un3 rfl (h.ev rfl) (h.blk (hs.seg (i := 6) rfl)) rfl) rfl ?_
      refine rg_call fu71 (fun ac ww h => (.cons (h.ev rfl) (.cons (h.ev rfl) (.cons (h.ev rfl) (.cons (h.ev rfl) (.cons (h.ev rfl) .nil)))))) (fun ww hf => ref06_Climb d ep sq (rsB d ep sq mt W sn lf ws nw) (mt + 1) mk W (rsB_length hlf _) (by omega) (by omega) ww) rfl ?_
      refine rg_q (fun ac ww h => c_move (h.ev rfl)) rfl ?_
      refine rg_q (fun ac ww h => c_extract (h.ev rfl) rfl) rfl ?_
      refine rg_q (fun ac ww h => c_extract (h.ev rfl) rfl) rfl ?_
      refine rg_alloc ty35 rfl ?_
      refine rg_nil fun ac ww L' hf hfe hs hlk => ?_
      simp only [List.drop_succ_cons, List.drop_zero]
      obtain ⟨v13, L13, M13, h13, e13, rfl, rfl⟩ := hfe
      replace hs := hs.add h13
      obtain ⟨g13, rfl, rfl⟩ := e13
      refine sk_storeW (i := 0) hs ty35 rfl rfl rfl (by rw [List.length_map, climbB_length (rsB_length hlf _)]) (all_map_B _) rfl (fun ww hs => late_turn rfl rfl (late_nil)) fun ww hs => ?_
      refine s_q hs (c_assign (hs.ev rfl)) rfl fun ac hs => ?_
      refine s_end ?_
      replace hs := hs.sub (F' := [(5, _), (8, _), (9, _), (10, _), (13, _)]) ⟨rfl, rfl, rfl, rfl, rfl, trivial⟩
      refine then_n ?_
      refine wp_seq ?_
      refine wp_seq ?_
      refine wp_reg ?_
      refine s_q hs (c_loadW ty35 rfl (hs.ev rfl) (hs.seg (i := 0) rfl) (by rw [List.length_map, climbB_length (rsB_length hlf _)])) rfl fun ac hs => ?_
      refine s_q hs (c_fld fl76_2 (hs.ev rfl)) rfl fun ac hs => ?_
      refine s_q hs (c_loadA ty35 rfl (hs.ev rfl) (hs.seg (i := 6) rfl) (kn_el hek) (by rw [List.length_map, hek])) rfl fun ac hs => ?_
      refine s_q hs (c_neqAB un35 ty5 eg35 (hs.ev rfl) (hs.ev rfl) (climbB_length (rsB_length hlf _)) hek) rfl fun ac hs => ?_
      refine s_end ?_
      replace hs := hs.sub (F' := [(8, _), (9, _), (10, _), (110, _)]) ⟨rfl, rfl, rfl, rfl, trivial⟩
      refine then_n ?_
      refine s_cond hs rfl (fun hc => ?_) (fun hc => ?_)
      · skip
        have hno : ¬ climbB d ep sq (rsB d ep sq mt W sn lf ws nw) (mt + 1) mk W = ek := by simpa using hc
        refine wp_seq ?_
        refine wp_reg ?_
        refine s_q hs (c_buildA ty35 un35 ty5 (zc := (List.replicate 16 (0 : UInt8)).map B) (vs := []) .nil (by simp) (by simp [flatCells]) rfl) rfl fun ac hs => ?_
        refine s_storeW (i := 3) hs ty35 rfl rfl rfl (by simp) (all_map_B _) rfl fun ww hs => ?_
        refine s_q hs (c_assign (hs.ev rfl)) rfl fun ac hs => ?_
        refine s_end ?_
        replace hs := hs.sub (F' := [(8, _), (9, _), (10, _)]) ⟨rfl, rfl, rfl, trivial⟩
        refine then_n ?_
        refine wp_ret ?_
        refine then_r ?_
        refine s_ret hs rfl (.cell (hs.tmp rfl) (run_loadA ty35 rfl (hs.seg (i := 3) rfl) (List.take_of_length_le (by simp)) (by simp)) (.tmp (hs.tmp rfl) .nil)) rfl ⟨_, rfl, hs.fr, ?_⟩
        show Value.tuple _ = Value.tuple _
        have hq : qkB W S H d mt sn ep sq lf ws nw ps np dk mk epk sqk ek pk nk = false := by simp [qkB, hno]
        rw [qkV, hq]
        rfl
      · skip
        have htp : climbB d ep sq (rsB d ep sq mt W sn lf ws nw) (mt + 1) mk W = ek := by simpa using hc
        refine wp_skip ?_
        refine then_n ?_
        refine wp_seq ?_
        refine wp_reg ?_
        refine s_q hs (c_loadW ty35 rfl (hs.ev rfl) (hs.seg (i := 1) rfl) (by rw [List.length_map, rsB_length hlf])) rfl fun ac hs => ?_
        refine s_storeW (i := 3) hs ty35 rfl rfl rfl (by rw [List.length_map, rsB_length hlf]) (all_map_B _) rfl fun ww hs => ?_
        refine s_q hs (c_assign (hs.ev rfl)) rfl fun ac hs => ?_
        refine s_end ?_
        replace hs := hs.sub (F' := [(8, _), (9, _)]) ⟨rfl, rfl, trivial⟩
        refine then_n ?_
        refine wp_ret ?_
        refine s_ret hs rfl (.cell (hs.tmp rfl) (run_loadA ty35 rfl (hs.seg (i := 3) rfl) (List.take_of_length_le (show (List.map B (rsB d ep sq mt W sn lf ws nw)).length ≤ 16 by rw [List.length_map, rsB_length hlf]; exact Nat.le_refl _)) (show (List.map B (rsB d ep sq mt W sn lf ws nw)).length = 16 by rw [List.length_map, rsB_length hlf])) (.tmp (hs.tmp rfl) .nil)) rfl ⟨_, rfl, hs.fr, ?_⟩
        show Value.tuple _ = Value.tuple _
        have hq : qkB W S H d mt sn ep sq lf ws nw ps np dk mk epk sqk ek pk nk = true := by simp [qkB, hy0, hpp, hre, hce, htp]
        rw [qkV, hq]
        rfl
end Go.Proofs.YtklajbdbnnceiaaGreat
end

section
/- The law of quick checks. -/
set_option linter.unusedSimpArgs false
set_option linter.unusedVariables false
set_option maxRecDepth 100000
namespace Go.Proofs.YtklajbdbnnceiaaGreat
open Go Go.Fw
open Sha
theorem qkV_length {W S H d mt sn : Int} {ep sq : UInt32} {lf ws : List UInt8} {nw : Nat} {ps : List UInt8} {np : Nat} {dk mk : Int} {epk sqk : UInt32} {ek pk : List UInt8} {nk : Nat} (hl : lf.length = 16) : (qkV W S H d mt sn ep sq lf ws nw ps np dk mk epk sqk ek pk nk).length = 16 := by
  unfold qkV
  split
  · exact rsB_length hl _
  · simp
end Go.Proofs.YtklajbdbnnceiaaGreat
end

section
/- The law of what credentials show. -/
set_option linter.unusedSimpArgs false
set_option linter.unusedVariables false
set_option maxRecDepth 100000
namespace Go.Proofs.YtklajbdbnnceiaaGreat
open Go Go.Fw
open Sha
set_option maxHeartbeats 4000000 in
theorem law_ProofChecks (W S H d mt sn : Int) (ep sq : UInt32) (rt lf ws ps : List UInt8) (nw np : Nat) (wv pv : Value) (dk mk : Int) (epk sqk : UInt32) (ek pk : List UInt8) (nk : Nat) (kv : Value) (hrt : rt.length = 16) (hlf : lf.length = 16) (hek : ek.length = 16) (hwl : ws.length = nw * 16) (hpl : ps.length = np * 16) (hkl : pk.length = nk * 16) (w : World) (hqw : Rd w wv nw (ws.map B)) (hqp : Rd w pv np (ps.map B)) (hqk : Rd w kv nk (pk.map B)) : Ctr Tryz.prog 7 [.agg #[I W, I S, I H], .agg (rt.map B).toArray, .agg #[I d, U ep, U sq, I mt, I sn], credV lf wv pv, knV dk epk sqk mk ek kv] w (fun _ => False) (fun v _ => v = .bool true) := by
  obtain ⟨wad, wcap, rfl, hwc, hwm⟩ := Rd.sl hqw
  obtain ⟨pad, pcap, rfl, hpc, hpm⟩ := Rd.sl hqp
  obtain ⟨kad, kcap, rfl, hkc, hkm⟩ := Rd.sl hqk
  refine fn_start (N := 89) Tryz.func7 rfl rfl rfl fun ac hk => ?_
  have hs := St.start hk w
  refine wp_seq ?_
  refine wp_reg ?_
  refine s_box hs rfl rfl rfl fun ac ww g5 hs => ?_
  refine s_box hs rfl rfl rfl fun ac ww g6 hs => ?_
  refine s_box hs rfl rfl rfl fun ac ww g7 hs => ?_
  refine s_box hs rfl rfl rfl fun ac ww g8 hs => ?_
  refine s_box hs rfl rfl rfl fun ac ww g9 hs => ?_
  refine s_q hs (c_assign (hs.ev rfl)) rfl fun ac hs => ?_
  refine s_end ?_
  replace hs := hs.sub (F' := [(5, _), (6, _), (7, _), (8, _), (9, _), (10, _)]) ⟨rfl, rfl, rfl, rfl, rfl, rfl, trivial⟩
  refine then_n ?_
  refine wp_seq ?_
  refine wp_seq ?_
  refine wp_reg ?_
  refine s_q hs (c_loadW ty66 ag66 (hs.ev rfl) (hs.seg (i := 1) rfl) (by simp [hlf])) rfl fun ac hs => ?_
  refine s_call hs fu32 (.cons (hs.ev rfl) .nil) (law09_Light lf ws ps nw np _ _ hlf _ (hqw.fr0 hs.fr) (hqp.fr0 hs.fr)) rfl fun ac ww v20 hf hp hs => ?_
  obtain rfl := hp
  replace hs := hs [] (.nil _ _)
  refine s_q hs (c_not (hs.ev rfl)) rfl fun ac hs => ?_
  refine s_q hs (c_move (hs.ev rfl)) rfl fun ac hs => ?_
  refine s_g hs rfl rfl (fun hg => c_fld fl76_3 (hs.ev rfl)) rfl fun ac hs => ?_
  refine s_g hs rfl rfl (fun hg => c_loadS un47 rfl (gev (hs.ev rfl) hg) (hs.seg (i := 0) rfl) (kn_path hek)) rfl fun ac hs => ?_
  refine s_g hs rfl rfl (fun hg => c_lenS un47 (gev (hs.ev rfl) hg)) rfl fun ac hs => ?_
  refine s_g hs rfl rfl (fun hg => c_gtrI (gev (hs.ev rfl) hg) (hs.ev rfl)) rfl fun ac hs => ?_
  refine s_q hs (c_or (hs.ev rfl) (hs.ev rfl)) rfl fun ac hs => ?_
  refine s_end ?_
  replace hs := hs.sub (F' := [(5, _), (6, _), (7, _), (8, _), (9, _), (10, _), (27, _)]) ⟨rfl, rfl, rfl, rfl, rfl, rfl, rfl, trivial⟩
  refine then_n ?_
  refine s_cond hs rfl (fun hc => ?_) (fun hc => ?_)
  · skip
    refine wp_seq ?_
    refine wp_reg ?_
    refine s_call hs fu25 .nil (law09_awake _) rfl fun ac ww v28 hf hp hs => ?_
    obtain rfl := hp
    replace hs := hs [] (.nil _ _)
    refine s_q hs (c_assign (hs.ev rfl)) rfl fun ac hs => ?_
    refine s_end ?_
    replace hs := hs.sub (F' := [(5, _), (6, _), (7, _), (8, _), (9, _), (10, _)]) ⟨rfl, rfl, rfl, rfl, rfl, rfl, trivial⟩
    refine then_n ?_
    refine wp_ret ?_
    refine then_r ?_
    refine s_ret hs rfl (.tmp (hs.tmp rfl) .nil) rfl ⟨_, rfl, hs.fr, ?_⟩
    rfl
  · skip
    have hc2 : nw ≤ 20 ∧ np ≤ 20 ∧ nk ≤ 20 := by
      simp at hc
      omega
    obtain ⟨hw20, hp20, hk20⟩ := hc2
    refine wp_skip ?_
    refine then_n ?_
    refine wp_seq ?_
    refine wp_region_rgX (J := [10]) pmix 12 (by kernel_rfl) (by kernel_rfl) rfl rfl hs ?_
    simp only [List.take_succ_cons, List.take_zero]
    refine rg_q (fun ac ww h => c_loadW ty23 ag23 (h.ev rfl) (h.blk (hs.seg (i := 4) rfl)) (by rfl)) rfl ?_
    refine rg_call fu15 (fun ac ww h => (.cons (h.ev rfl) .nil)) (fun ww hf => law08_To W S H ww) rfl ?_
    refine rg_q (fun ac ww h => c_loadW ty35 rfl (h.ev rfl) (h.blk (hs.seg (i := 3) rfl)) (by rw [List.length_map, hrt])) rfl ?_
    refine rg_q (fun ac ww h => c_loadW ty54 ag54 (h.ev rfl) (h.blk (hs.seg (i := 2) rfl)) (by rfl)) rfl ?_
    refine rg_call fu27 (fun ac ww h => (.cons (h.ev rfl) .nil)) (fun ww hf => law09_To d mt sn ep sq ww) rfl ?_
    refine rg_q (fun ac ww h => c_loadW ty66 ag66 (h.ev rfl) (h.blk (hs.seg (i := 1) rfl)) (by simp [hlf])) rfl ?_
    refine rg_callE (crE 36 lf nw ws np ps) (fun _ _ _ _ _ h => h) fu34 (fun ac ww h => ?_) rfl ?_
    · exact ⟨_, .cons (h.ev rfl) (.nil), law09_ToCred lf ws ps nw np _ _ hlf hwl hpl (by omega) (by omega) _ (hqw.fr0 (hs.fr.trans0 h.fr)) (hqp.fr0 (hs.fr.trans0 h.fr))⟩
    refine rg_callV (c := .tuple #[.agg ((ckR W S H d mt sn ep sq rt lf ws nw ps np).1.map B).toArray, I (ckR W S H d mt sn ep sq rt lf ws nw ps np).2]) fu40 (fun ac ww h => ?_) rfl ?_
    · obtain ⟨u36, L36, he36, hee, hh36⟩ := h.ent (n := 36) rfl rfl
      obtain ⟨wv1, pv1, rfl, rfl⟩ := hee
      exact ⟨_, .cons (h.ev rfl) (.cons (h.ev rfl) (.cons (h.ev rfl) (.cons he36 .nil))), proof_Check W S H d mt sn ep sq rt lf ws ps nw np _ _ hrt hlf hwl hpl _ (Rd.of_row (hh36.holds _ (List.mem_of_getElem? (i := 1) rfl))) (Rd.of_row (hh36.holds _ (List.mem_of_getElem? (i := 0) rfl)))⟩
    refine rg_q (fun ac ww h => c_move (h.ev rfl)) rfl ?_
    refine rg_q (fun ac ww h => c_extract (h.ev rfl) rfl) rfl ?_
    refine rg_q (fun ac ww h => c_extract (h.ev rfl) rfl) rfl ?_
    refine rg_alloc ty36 rfl ?_
    refine rg_nil fun ac ww L' hf hfe hs hlk => ?_
    simp only [List.drop_succ_cons, List.drop_zero]
    obtain ⟨v11, L11, M11, h11, e11, ⟨v36, L36, M36, h36, e36, rfl, rfl⟩, rfl⟩ := hfe
    replace hs := hs.add h11
    replace hs := hs.add h36
    obtain ⟨g11, rfl, rfl⟩ := e11
    obtain ⟨wv1, pv1, rfl, rfl⟩ := e36
    refine sk_storeW (i := 0) hs ty36 rfl rfl rfl (by rw [List.length_map, ckR_length hlf]) (all_map_B _) rfl (fun ww hs => late_turn rfl rfl (late_nil)) fun ww hs => ?_
    refine s_q hs (c_assign (hs.ev rfl)) rfl fun ac hs => ?_
    refine s_end ?_
    replace hs := hs.sub (F' := [(5, _), (6, _), (7, _), (8, _), (9, _), (10, _), (11, _), (12, _)]) ⟨rfl, rfl, rfl, rfl, rfl, rfl, rfl, rfl, trivial⟩
    refine then_n ?_
    refine wp_seq ?_
    refine wp_reg ?_
    refine s_q hs (c_loadW ty23 ag23 (hs.ev rfl) (hs.seg (i := 7) rfl) (by rfl)) rfl fun ac hs => ?_
    refine s_q hs (c_loadW ty35 rfl (hs.ev rfl) (hs.seg (i := 6) rfl) (by rw [List.length_map, hrt])) rfl fun ac hs => ?_
    refine s_q hs (c_loadW ty54 ag54 (hs.ev rfl) (hs.seg (i := 5) rfl) (by rfl)) rfl fun ac hs => ?_
    refine s_q hs (c_loadW ty66 ag66 (hs.ev rfl) (hs.seg (i := 4) rfl) (by simp [hlf])) rfl fun ac hs => ?_
    refine s_call hs fu44 (.cons (hs.ev rfl) (.cons (hs.ev rfl) (.cons (hs.ev rfl) (.cons (hs.ev rfl) .nil)))) (ref09_Check W S H d mt sn ep sq rt lf ws ps nw np _ _ hrt hlf hwl hpl (by omega) _ (hqw.fr0 hs.fr) (hqp.fr0 hs.fr)) rfl fun ac ww v45 hf hp hs => ?_
    obtain rfl := hp
    replace hs := hs [] (.nil _ _)
    refine s_q hs (c_move (hs.ev rfl)) rfl fun ac hs => ?_
    refine s_q hs (c_extract (hs.ev rfl) rfl) rfl fun ac hs => ?_
    refine s_q hs (c_extract (hs.ev rfl) rfl) rfl fun ac hs => ?_
    refine s_alloc hs ty35 rfl fun ac ww g13 hs => ?_
    refine s_storeW (i := 0) hs ty35 rfl rfl rfl (by rw [List.length_map, ckR_length hlf]) (all_map_B _) rfl fun ww hs => ?_
    refine s_q hs (c_assign (hs.ev rfl)) rfl fun ac hs => ?_
    refine s_end ?_
    replace hs := hs.sub (F' := [(5, _), (7, _), (8, _), (9, _), (10, _), (11, _), (12, _), (13, _), (14, _)]) ⟨rfl, rfl, rfl, rfl, rfl, rfl, rfl, rfl, rfl, trivial⟩
    refine then_n ?_
    refine wp_seq ?_
    refine wp_region_rgX (J := [11]) pmix 13 (by kernel_rfl) (by kernel_rfl) rfl rfl hs ?_
    simp only [List.take_succ_cons, List.take_zero]
    refine rg_q (fun ac ww h => c_loadW ty23 ag23 (h.ev rfl) (h.blk (hs.seg (i := 8) rfl)) (by rfl)) rfl ?_
    refine rg_call fu15 (fun ac ww h => (.cons (h.ev rfl) .nil)) (fun ww hf => law08_To W S H ww) rfl ?_
    refine rg_q (fun ac ww h => c_loadW ty76 ag76 (h.ev rfl) (h.blk (hs.seg (i := 4) rfl)) (knC_length hek)) rfl ?_
    refine rg_callE (knE dk epk sqk mk ek pk nk) (fun _ _ _ _ _ h => h) fu46 (fun ac ww h => ?_) rfl ?_
    · exact ⟨_, .cons (h.ev rfl) (.nil), law09_toKnown dk mk epk sqk ek pk nk _ hek hkl (by omega) _ (hqk.fr0 (hs.fr.trans0 h.fr))⟩
    refine rg_q (fun ac ww h => c_loadW ty54 ag54 (h.ev rfl) (h.blk (hs.seg (i := 6) rfl)) (by rfl)) rfl ?_
    refine rg_call fu27 (fun ac ww h => (.cons (h.ev rfl) .nil)) (fun ww hf => law09_To d mt sn ep sq ww) rfl ?_
    refine rg_q (fun ac ww h => c_loadW ty66 ag66 (h.ev rfl) (h.blk (hs.seg (i := 5) rfl)) (by simp [hlf])) rfl ?_
    refine rg_callE (crE 36 lf nw ws np ps) (fun _ _ _ _ _ h => h) fu34 (fun ac ww h => ?_) rfl ?_
    · exact ⟨_, .cons (h.ev rfl) (.nil), law09_ToCred lf ws ps nw np _ _ hlf hwl hpl (by omega) (by omega) _ (hqw.fr0 (hs.fr.trans0 h.fr)) (hqp.fr0 (hs.fr.trans0 h.fr))⟩
    refine rg_callV (c := .tuple #[.agg ((qkV W S H d mt sn ep sq lf ws nw ps np dk mk epk sqk ek pk nk).map B).toArray, .bool (qkB W S H d mt sn ep sq lf ws nw ps np dk mk epk sqk ek pk nk)]) fu45 (fun ac ww h => ?_) rfl ?_
    · obtain ⟨u52, L52, he52, hee2, hh52⟩ := h.ent (n := 52) rfl rfl
      obtain ⟨kv2, rfl, rfl⟩ := hee2
      obtain ⟨u56, L56, he56, hee, hh56⟩ := h.ent (n := 56) rfl rfl
      obtain ⟨wv1, pv1, rfl, rfl⟩ := hee
      exact ⟨_, .cons (h.ev rfl) (.cons he52 (.cons (h.ev rfl) (.cons he56 .nil))), proof_Quick W S H d mt sn ep sq lf ws ps nw np _ _ dk mk epk sqk ek pk nk _ hlf hek hwl hpl hkl _ (Rd.of_row (hh56.holds _ (List.mem_of_getElem? (i := 1) rfl))) (Rd.of_row (hh56.holds _ (List.mem_of_getElem? (i := 0) rfl))) (Rd.of_row (hh52.holds _ (List.mem_of_getElem? (i := 0) rfl)))⟩
    refine rg_q (fun ac ww h => c_move (h.ev rfl)) rfl ?_
    refine rg_q (fun ac ww h => c_extract (h.ev rfl) rfl) rfl ?_
    refine rg_q (fun ac ww h => c_extract (h.ev rfl) rfl) rfl ?_
    refine rg_alloc ty36 rfl ?_
    refine rg_nil fun ac ww L' hf hfe hs hlk => ?_
    simp only [List.drop_succ_cons, List.drop_zero]
    obtain ⟨v15, L15, M15, h15, e15, ⟨v56, L56, M56, h56, e56, ⟨v52, L52, M52, h52, e52, rfl, rfl⟩, rfl⟩, rfl⟩ := hfe
    replace hs := hs.add h15
    replace hs := hs.add h56
    replace hs := hs.add h52
    obtain ⟨g15, rfl, rfl⟩ := e15
    obtain ⟨kv2, rfl, rfl⟩ := e52
    obtain ⟨wv2, pv2, rfl, rfl⟩ := e56
    refine sk_storeW (i := 0) hs ty36 rfl rfl rfl (by rw [List.length_map, qkV_length hlf]) (all_map_B _) rfl (fun ww hs => late_turn rfl rfl (late_nil)) fun ww hs => ?_
    refine s_q hs (c_assign (hs.ev rfl)) rfl fun ac hs => ?_
    refine s_end ?_
    replace hs := hs.sub (F' := [(5, _), (7, _), (8, _), (9, _), (10, _), (11, _), (12, _), (13, _), (14, _), (15, _), (16, _)]) ⟨rfl, rfl, rfl, rfl, rfl, rfl, rfl, rfl, rfl, rfl, rfl, trivial⟩
    refine then_n ?_
    refine wp_seq ?_
    refine wp_reg ?_
    refine s_q hs (c_loadW ty23 ag23 (hs.ev rfl) (hs.seg (i := 12) rfl) (by rfl)) rfl fun ac hs => ?_
    refine s_q hs (c_loadW ty76 ag76 (hs.ev rfl) (hs.seg (i := 8) rfl) (knC_length hek)) rfl fun ac hs => ?_
    refine s_q hs (c_loadW ty54 ag54 (hs.ev rfl) (hs.seg (i := 10) rfl) (by rfl)) rfl fun ac hs => ?_
    refine s_q hs (c_loadW ty66 ag66 (hs.ev rfl) (hs.seg (i := 9) rfl) (by simp [hlf])) rfl fun ac hs => ?_
    refine s_call hs fu47 (.cons (hs.ev rfl) (.cons (hs.ev rfl) (.cons (hs.ev rfl) (.cons (hs.ev rfl) .nil)))) (ref09_Quick W S H d mt sn ep sq lf ws ps nw np _ _ dk mk epk sqk ek pk nk _ hlf hek hwl hpl hkl (by omega) _ (hqw.fr0 hs.fr) (hqp.fr0 hs.fr) (hqk.fr0 hs.fr)) rfl fun ac ww v65 hf hp hs => ?_
    obtain rfl := hp
    replace hs := hs [] (.nil _ _)
    refine s_q hs (c_move (hs.ev rfl)) rfl fun ac hs => ?_
    refine s_q hs (c_extract (hs.ev rfl) rfl) rfl fun ac hs => ?_
    refine s_q hs (c_extract (hs.ev rfl) rfl) rfl fun ac hs => ?_
    refine s_alloc hs ty35 rfl fun ac ww g17 hs => ?_
    refine s_storeW (i := 0) hs ty35 rfl rfl rfl (by rw [List.length_map, qkV_length hlf]) (all_map_B _) rfl fun ww hs => ?_
    refine s_q hs (c_assign (hs.ev rfl)) rfl fun ac hs => ?_
    refine s_end ?_
    replace hs := hs.sub (F' := [(10, _), (11, _), (12, _), (13, _), (14, _), (15, _), (16, _), (17, _), (18, _)]) ⟨rfl, rfl, rfl, rfl, rfl, rfl, rfl, rfl, rfl, trivial⟩
    refine then_n ?_
    refine wp_seq ?_
    refine wp_reg ?_
    refine s_call hs fu25 .nil (law09_awake _) rfl fun ac ww v68 hf hp hs => ?_
    obtain rfl := hp
    replace hs := hs [] (.nil _ _)
    refine s_q hs (c_move (hs.ev rfl)) rfl fun ac hs => ?_
    refine s_yes hs rfl rfl ?_
    refine s_q hs (c_move (hs.ev rfl)) rfl fun ac hs => ?_
    refine s_yes hs rfl rfl ?_
    refine s_q hs (c_move (hs.ev rfl)) rfl fun ac hs => ?_
    refine s_yes hs rfl rfl ?_
    refine s_q hs (c_tt (c_eqlI (hs.ev rfl) (hs.ev rfl)) (by simp)) rfl fun ac hs => ?_
    refine s_q hs (c_pick (hs.ev rfl) (hs.ev rfl) (hs.ev rfl)) rfl fun ac hs => ?_
    refine s_q hs (c_move (hs.ev rfl)) rfl fun ac hs => ?_
    refine s_yes hs rfl rfl ?_
    refine s_q hs (c_loadW ty36 rfl (hs.ev rfl) (hs.seg (i := 6) rfl) (by rw [List.length_map, ckR_length hlf])) rfl fun ac hs => ?_
    refine s_yes hs rfl rfl ?_
    refine s_q hs (c_loadW ty35 rfl (hs.ev rfl) (hs.seg (i := 5) rfl) (by rw [List.length_map, ckR_length hlf])) rfl fun ac hs => ?_
    refine s_yes hs rfl rfl ?_
    refine s_q hs (c_tt (c_eqlAB un36 ty5 eg36 (hs.ev rfl) (hs.ev rfl) (ckR_length hlf) (ckR_length hlf)) (by simp)) rfl fun ac hs => ?_
    refine s_q hs (c_pick (hs.ev rfl) (hs.ev rfl) (hs.ev rfl)) rfl fun ac hs => ?_
    refine s_q hs (c_move (hs.ev rfl)) rfl fun ac hs => ?_
    refine s_yes hs rfl rfl ?_
    refine s_q hs (c_loadW ty36 rfl (hs.ev rfl) (hs.seg (i := 1) rfl) (by rw [List.length_map, qkV_length hlf])) rfl fun ac hs => ?_
    refine s_yes hs rfl rfl ?_
    refine s_q hs (c_loadW ty35 rfl (hs.ev rfl) (hs.seg (i := 0) rfl) (by rw [List.length_map, qkV_length hlf])) rfl fun ac hs => ?_
    refine s_yes hs rfl rfl ?_
    refine s_q hs (c_tt (c_eqlAB un36 ty5 eg36 (hs.ev rfl) (hs.ev rfl) (qkV_length hlf) (qkV_length hlf)) (by simp)) rfl fun ac hs => ?_
    refine s_q hs (c_pick (hs.ev rfl) (hs.ev rfl) (hs.ev rfl)) rfl fun ac hs => ?_
    refine s_q hs (c_move (hs.ev rfl)) rfl fun ac hs => ?_
    refine s_yes hs rfl rfl ?_
    refine s_q hs (c_move (hs.ev rfl)) rfl fun ac hs => ?_
    refine s_yes hs rfl rfl ?_
    refine s_q hs (c_move (hs.ev rfl)) rfl fun ac hs => ?_
    refine s_yes hs rfl rfl ?_
    refine s_q hs (c_tt (c_eqlbool un4 (hs.ev rfl) (hs.ev rfl)) (by simp)) rfl fun ac hs => ?_
    refine s_q hs (c_pick (hs.ev rfl) (hs.ev rfl) (hs.ev rfl)) rfl fun ac hs => ?_
    refine s_q hs (c_assign (hs.ev rfl)) rfl fun ac hs => ?_
    refine s_end ?_
    replace hs := hs.sub (F' := [(10, _)]) ⟨rfl, trivial⟩
    refine then_n ?_
    refine wp_ret ?_
    refine s_ret hs rfl (.tmp (hs.tmp rfl) .nil) rfl ⟨_, rfl, hs.fr, ?_⟩
    rfl
end Go.Proofs.YtklajbdbnnceiaaGreat
end

section
/- The opening of a struct of five cells: an int, a struct (uint32, uint32, int), an int. -/
set_option linter.unusedSimpArgs false
set_option linter.unusedVariables false
namespace Go.Fw
section
open Go Go.ChangeShapes Go.WideShapes Go.ChangeAt Go.RowKit
variable {H : Type} {enc : TypeId × Value → H} {P : Program} {w : World} {base : Nat} {spare : Nat → Bool} {held : Bool} {fuel : Nat} {t e u : TypeId} {cs : List Value} {x : DataW H × List MemPlace} {v : Value} {d : DataW H} {ps : List MemPlace} {r : Reach} {b0 : Nat}
theorem opIK {f0 f1 f2 g0 g1 g2 : Field} (ht : P.underlying t = some (.struct #[f0, f1, f2])) (h0 : P.underlying f0.type = some (.int .i64)) (h1 : P.underlying f1.type = some (.struct #[g0, g1, g2])) (h2 : P.underlying f2.type = some (.int .i64))
    (k0 : P.underlying g0.type = some (.int .u32)) (k1 : P.underlying g1.type = some (.int .u32)) (k2 : P.underlying g2.type = some (.int .i64)) (o0 : f0.offset = 0) (o1 : f1.offset = 1) (o2 : f2.offset = 4) (p0 : g0.offset = 0) (p1 : g1.offset = 1) (p2 : g2.offset = 2)
    (c0 : P.cellsOf f0.type = 1) (c1 : P.cellsOf f1.type = 3) (c2 : P.cellsOf f2.type = 1) (ct : P.cellsOf t = 5) (d0 : P.cellsOf g0.type = 1) (d1 : P.cellsOf g1.type = 1) (d2 : P.cellsOf g2.type = 1) (hval : Value.okWide P w r b0 t v) (hd : DataW.Trod enc P w base spare held t v d ps) :
    ∃ (n : Int) (ep sq : UInt32) (i j : Int), v = .agg #[I n, U ep, U sq, I i, I j] ∧ (-9223372036854775808 ≤ n ∧ n ≤ 9223372036854775807) ∧ (-9223372036854775808 ≤ i ∧ i ≤ 9223372036854775807) ∧ (-9223372036854775808 ≤ j ∧ j ≤ 9223372036854775807) := by
  obtain ⟨cs, rfl, _⟩ := okWide_struct ht hval
  obtain ⟨fu, hf⟩ := hd
  obtain ⟨y0, y1, y2, n, _, hl, hy0, hy1, hy2⟩ := Go.Deep.trod_struct3 ht hf
  obtain ⟨z0, z1, z2, m, _, hl1, hz0, hz1, hz2⟩ := Go.Deep.trod_struct3 h1 hy1
  simp only [Value.cells] at hl hy0 hy1 hy2 hz0 hz1 hz2
  rw [ct] at hl
  match hcs : cs.toList, hl with
  | [a, b, c, e, f], _ =>
    rw [hcs, o0, c0] at hy0
    rw [hcs, o2, c2] at hy2
    rw [hcs, o1, c1, p0, d0] at hz0
    rw [hcs, o1, c1, p1, d1] at hz1
    rw [hcs, o1, c1, p2, d2] at hz2
    obtain ⟨z, hz, _, hw⟩ := DataW.trod_int h0 hy0
    obtain ⟨ze, hze, _, hwe⟩ := DataW.trod_int k0 hz0
    obtain ⟨zs, hzs, _, hws⟩ := DataW.trod_int k1 hz1
    obtain ⟨zm, hzm, _, hwm⟩ := DataW.trod_int k2 hz2
    obtain ⟨zn, hzn, _, hwn⟩ := DataW.trod_int h2 hy2
    simp at hz hze hzs hzm hzn
    subst hz hze hzs hzm hzn
    obtain ⟨ep, hep⟩ := ofU hwe
    obtain ⟨sq, hsq⟩ := ofU hws
    refine ⟨z, ep, sq, zm, zn, ?_, bounds_i64 hw, bounds_i64 hwm, bounds_i64 hwn⟩
    congr 1
    apply Array.ext'
    rw [hcs, ← hep, ← hsq]
end
end Go.Fw
end

section
/- Openings: slices of arrays of bytes. -/
set_option linter.unusedSimpArgs false
set_option linter.unusedVariables false
namespace Go.Fw
open Go Go.ChangeShapes Go.WideShapes Go.ChangeAt Go.RowKit
section
variable {H : Type} {enc : TypeId × Value → H} {P : Program} {w : World} {base : Nat} {spare : Nat → Bool} {held : Bool} {fuel : Nat} {t e u : TypeId} {cs : List Value} {x : DataW H × List MemPlace} {v : Value} {d : DataW H} {ps : List MemPlace} {r : Reach} {b0 : Nat}
theorem add_add (a : Addr) (i j : Nat) (hs : a.spot = none) : (a.add i).add j = a.add (i + j) := by
  obtain ⟨b, o, s⟩ := a
  simp only at hs
  subst hs
  rw [add_lit, add_lit, add_lit, Nat.add_assoc]
end
end Go.Fw
end

section
/- The openings of structs that hold slices of arrays of bytes: credentials, what is known. -/
set_option linter.unusedSimpArgs false
set_option linter.unusedVariables false
namespace Go.Fw
open Go Go.ChangeShapes Go.WideShapes Go.ChangeAt Go.RowKit
section
variable {H : Type} {enc : TypeId × Value → H} {P : Program} {w : World} {base : Nat} {spare : Nat → Bool} {held : Bool} {fuel : Nat} {t e u : TypeId} {cs : List Value} {x : DataW H × List MemPlace} {v : Value} {d : DataW H} {ps : List MemPlace} {r : Reach} {b0 : Nat}
theorem trodSA {m : Nat} (ht : P.underlying t = some (.slice e)) (he : P.underlying e = some (.array m u)) (hu : P.underlying u = some (.int .u8)) (hcu : P.cellsOf u = 1) (hce : P.cellsOf e = m) (hm0 : 0 < m)
    (h : DataW.trod enc P w base spare held fuel t cs = some x) : ∃ (v : Value) (n : Nat) (ws : List UInt8), cs = [v] ∧ ws.length = n * m ∧ Rd w v n (ws.map B) := by
  rcases Deep.open_slice ht h with ⟨h1, h2⟩ | ⟨a, len, cap, q, n, D, Pl, h1, hb, hl, hm, hmm, h2, hx⟩
  · exact ⟨_, 0, [], h1, by simp, ⟨none, 0, rfl, Nat.le_refl _, Nat.zero_le _, fun _ => rfl, .inl rfl⟩⟩
  · have hlm : len ≤ q := by rw [hmm]; split <;> omega
    have each : ∀ i, i < len → ∃ l : List UInt8, l.length = m ∧ ∀ j, j < m → w.cell? ((a.add (i * m)).add j) = (l.map B)[j]? := fun i hi => by
      obtain ⟨cs', h3, h4⟩ := hx i (by omega)
      rw [hce] at h3
      obtain ⟨l, hl2, rfl⟩ := trodBs he hu hcu hce h4
      refine ⟨l, hl2, fun j hj => ?_⟩
      exact (World.cells?_some h3).2.2 j hj
    obtain ⟨F, hF⟩ := Deep.choose_lt (α := List UInt8) (p := fun i l => l.length = m ∧ ∀ j, j < m → w.cell? ((a.add (i * m)).add j) = (l.map B)[j]?) each
    have hfl : ∀ k, k ≤ len → ((List.range k).flatMap F).length = k * m ∧ ∀ i j, i < k → j < m → ((List.range k).flatMap F)[i * m + j]? = (F i)[j]? := by
      intro k
      induction k with
      | zero => intro _; exact ⟨by simp, fun i j hi _ => by omega⟩
      | succ k ih =>
        intro hk
        obtain ⟨ih1, ih2⟩ := ih (by omega)
        have hk1 := (hF k (by omega)).1
        rw [List.range_succ, List.flatMap_append]
        simp only [List.flatMap_cons, List.flatMap_nil, List.append_nil]
        refine ⟨by rw [List.length_append, ih1, hk1, Nat.succ_mul], fun i j hi hj => ?_⟩
        by_cases e : i = k
        · subst e
          rw [List.getElem?_append_right (by omega), ih1, Nat.add_sub_cancel_left]
        · have hle : (i + 1) * m ≤ k * m := Nat.mul_le_mul_right _ (by omega)
          rw [Nat.succ_mul] at hle
          rw [List.getElem?_append_left (by omega), ih2 i j (by omega) hj]
    obtain ⟨hf1, hf2⟩ := hfl len (Nat.le_refl _)
    refine ⟨_, len, (List.range len).flatMap F, h1, hf1, some a, cap, rfl, hl, hm, (fun h => by cases h), ?_⟩
    by_cases hp : len = 0
    · left; subst hp; rfl
    · right
      have hsp : a.spot = none := by
        have h5 := (hF 0 (by omega)).2 0 hm0
        have h6 := (hF 0 (by omega)).1
        rw [List.getElem?_eq_getElem (by simp; omega)] at h5
        have := World.cell?_spot h5
        have e0 : (a.add (0 * m)).add 0 = a := by rw [Nat.zero_mul]; obtain ⟨b, o, s⟩ := a; cases s <;> simp [Addr.add]
        rw [e0] at this
        exact this
      obtain ⟨b, o, T, fr, all, rfl, h5, h6⟩ := row_of (w := w) (a := a) (cs := ((List.range len).flatMap F).map B) (n := len * m) (Nat.mul_pos (by omega) hm0) (by simpa using hf1) (fun i hi => by
        have hdiv : i / m < len := Nat.div_lt_of_lt_mul (by rw [Nat.mul_comm]; exact hi)
        have hmod := Nat.mod_lt i hm0
        have h7 := (hF (i / m) hdiv).2 (i % m) hmod
        rw [add_add _ _ _ hsp, Nat.div_add_mod'] at h7
        rw [h7, List.getElem?_map, List.getElem?_map, ← hf2 (i / m) (i % m) hdiv hmod, Nat.div_add_mod'])
      exact ⟨b, o, T, fr, all, rfl, h5, h6⟩
theorem cut18 {α : Type} (l : List α) (h : l.length = 18) : l = (l.drop 0).take 16 ++ (l.drop 16).take 1 ++ (l.drop 17).take 1 := by
  have h3 : (l.drop 17).take 1 = l.drop 17 := List.take_of_length_le (by simp; omega)
  have h4 : (l.drop 16).take 1 ++ l.drop 17 = l.drop 16 := by
    have := List.take_append_drop 1 (l.drop 16)
    rw [List.drop_drop] at this
    exact this
  rw [h3, List.drop_zero, List.append_assoc, h4, List.take_append_drop]
theorem cut21 {α : Type} (l : List α) (h : l.length = 21) : l = (l.drop 0).take 1 ++ ((l.drop 1).take 3 ++ ((l.drop 4).take 16 ++ (l.drop 20).take 1)) := by
  have h3 : (l.drop 20).take 1 = l.drop 20 := List.take_of_length_le (by simp; omega)
  have h4 : (l.drop 4).take 16 ++ l.drop 20 = l.drop 4 := by
    have := List.take_append_drop 16 (l.drop 4)
    rw [List.drop_drop] at this
    exact this
  have h5 : (l.drop 1).take 3 ++ l.drop 4 = l.drop 1 := by
    have := List.take_append_drop 3 (l.drop 1)
    rw [List.drop_drop] at this
    exact this
  rw [h3, h4, h5, List.drop_zero, List.take_append_drop]
theorem opCr {f0 f1 f2 : Field} (ht : P.underlying t = some (.struct #[f0, f1, f2])) (h0 : P.underlying f0.type = some (.array 16 u)) (h1 : P.underlying f1.type = some (.slice e)) (h2 : P.underlying f2.type = some (.slice e)) (he : P.underlying e = some (.array 16 u)) (hu : P.underlying u = some (.int .u8))
    (o0 : f0.offset = 0) (o1 : f1.offset = 16) (o2 : f2.offset = 17) (c0 : P.cellsOf f0.type = 16) (c1 : P.cellsOf f1.type = 1) (c2 : P.cellsOf f2.type = 1) (hcu : P.cellsOf u = 1) (hce : P.cellsOf e = 16) (ct : P.cellsOf t = 18)
    (hval : Value.okWide P w r b0 t v) (hd : DataW.Trod enc P w base spare held t v d ps) :
    ∃ (l ws qs : List UInt8) (nw np : Nat) (wv pv : Value), l.length = 16 ∧ v = .agg (l.map B ++ [wv, pv]).toArray ∧ ws.length = nw * 16 ∧ qs.length = np * 16 ∧ Rd w wv nw (ws.map B) ∧ Rd w pv np (qs.map B) := by
  obtain ⟨cs, rfl, _⟩ := okWide_struct ht hval
  obtain ⟨fu, hf⟩ := hd
  obtain ⟨y0, y1, y2, n, _, hl, hy0, hy1, hy2⟩ := Go.Deep.trod_struct3 ht hf
  simp only [Value.cells] at hl hy0 hy1 hy2
  rw [ct] at hl
  rw [o0, c0] at hy0
  rw [o1, c1] at hy1
  rw [o2, c2] at hy2
  obtain ⟨l, hll, he0⟩ := trodBs h0 hu hcu c0 hy0
  obtain ⟨wv, nw, ws, he1, hwl, hqw⟩ := trodSA h1 he hu hcu hce (by decide) hy1
  obtain ⟨pv, np, qs, he2, hpl, hqp⟩ := trodSA h2 he hu hcu hce (by decide) hy2
  have hcut := cut18 cs.toList hl
  rw [he0, he1, he2] at hcut
  refine ⟨l, ws, qs, nw, np, wv, pv, hll, ?_, hwl, hpl, hqw, hqp⟩
  congr 1
  apply Array.ext'
  rw [hcut]
  simp
theorem opKn {f0 f1 f2 f3 g0 g1 g2 : Field} (ht : P.underlying t = some (.struct #[f0, f1, f2, f3])) (h0 : P.underlying f0.type = some (.int .i64)) (h1 : P.underlying f1.type = some (.struct #[g0, g1, g2])) (h2 : P.underlying f2.type = some (.array 16 u)) (h3 : P.underlying f3.type = some (.slice e)) (he : P.underlying e = some (.array 16 u)) (hu : P.underlying u = some (.int .u8))
    (k0 : P.underlying g0.type = some (.int .u32)) (k1 : P.underlying g1.type = some (.int .u32)) (k2 : P.underlying g2.type = some (.int .i64))
    (o0 : f0.offset = 0) (o1 : f1.offset = 1) (o2 : f2.offset = 4) (o3 : f3.offset = 20) (p0 : g0.offset = 0) (p1 : g1.offset = 1) (p2 : g2.offset = 2)
    (c0 : P.cellsOf f0.type = 1) (c1 : P.cellsOf f1.type = 3) (c2 : P.cellsOf f2.type = 16) (c3 : P.cellsOf f3.type = 1) (d0 : P.cellsOf g0.type = 1) (d1 : P.cellsOf g1.type = 1) (d2 : P.cellsOf g2.type = 1) (hcu : P.cellsOf u = 1) (hce : P.cellsOf e = 16) (ct : P.cellsOf t = 21)
    (hval : Value.okWide P w r b0 t v) (hd : DataW.Trod enc P w base spare held t v d ps) :
    ∃ (n : Int) (ep sq : UInt32) (i : Int) (l qs : List UInt8) (np : Nat) (pv : Value), l.length = 16 ∧ v = .agg ([I n, U ep, U sq, I i] ++ (l.map B ++ [pv])).toArray ∧ qs.length = np * 16 ∧ Rd w pv np (qs.map B) ∧ (-9223372036854775808 ≤ n ∧ n ≤ 9223372036854775807) ∧ (-9223372036854775808 ≤ i ∧ i ≤ 9223372036854775807) := by
  obtain ⟨cs, rfl, _⟩ := okWide_struct ht hval
  obtain ⟨fu, hf⟩ := hd
  obtain ⟨y0, y1, y2, y3, n, _, hl, hy0, hy1, hy2, hy3⟩ := Go.Joins.trod_struct4 ht hf
  obtain ⟨z0, z1, z2, m, _, hl1, hz0, hz1, hz2⟩ := Go.Deep.trod_struct3 h1 hy1
  simp only [Value.cells] at hl hy0 hy1 hy2 hy3 hz0 hz1 hz2 hl1
  rw [ct] at hl
  rw [o0, c0] at hy0
  rw [o1, c1] at hy1 hl1
  rw [o2, c2] at hy2
  rw [o3, c3] at hy3
  rw [o1, c1, p0, d0] at hz0
  rw [o1, c1, p1, d1] at hz1
  rw [o1, c1, p2, d2] at hz2
  obtain ⟨l, hll, he2⟩ := trodBs h2 hu hcu c2 hy2
  obtain ⟨pv, np, qs, he3, hpl, hqp⟩ := trodSA h3 he hu hcu hce (by decide) hy3
  obtain ⟨z, hz, _, hw⟩ := DataW.trod_int h0 hy0
  obtain ⟨ze, hze, _, hwe⟩ := DataW.trod_int k0 hz0
  obtain ⟨zs, hzs, _, hws⟩ := DataW.trod_int k1 hz1
  obtain ⟨zm, hzm, _, hwm⟩ := DataW.trod_int k2 hz2
  obtain ⟨ep, hep⟩ := ofU hwe
  obtain ⟨sq, hsq⟩ := ofU hws
  have hcut := cut21 cs.toList hl
  have hkey : (cs.toList.drop 1).take 3 = [U ep, U sq, I zm] := by
    match hk : (cs.toList.drop 1).take 3, hl1 with
    | [a, b, c], _ =>
      rw [hk] at hze hzs hzm
      simp at hze hzs hzm
      rw [hze, hzs, hzm, hep, hsq]
  rw [hz, hkey, he2, he3] at hcut
  refine ⟨z, ep, sq, zm, l, qs, np, pv, hll, ?_, hpl, hqp, bounds_i64 hw, bounds_i64 hwm⟩
  congr 1
  apply Array.ext'
  rw [hcut]
  rfl
end
end Go.Fw
end
