/- Own texts of this seat, laid together: OtsL, LadH. -/
import Derived.Test.YtmgnnclkjkbmdaaGa
import Derived.Test.YtmgnnclkjkbmdaaGb
import Derived.Test.YtmgnnclkjkbmdaaGe
import Derived.Test.YtmgnnclkjkbmdaaHb
/- Clashes: two unlike texts with one short sum. -/
section
set_option linter.unusedSimpArgs false
set_option linter.unusedVariables false
set_option maxRecDepth 100000
namespace Go.Proofs.Ytmgnnclkjkbmdaa
open Go Go.Fw

open Sha Ots
theorem bneL (a b : List UInt8) : (a != b) = decide (a ≠ b) := by by_cases h : a = b <;> simp [h]
/-- The text at a place. -/
def txt (xs : List (Value × List UInt8)) (k : Nat) : List UInt8 := (xs.getD k (.nilIface, [])).2
def hit (xs bs : List (Value × List UInt8)) (i q : Nat) : Bool := decide (ofT (txt xs i) = ofT (txt bs q)) && decide (txt xs i ≠ txt bs q)
theorem txt_mem {xs : List (Value × List UInt8)} {k : Nat} (h : k < xs.length) : txt xs k ∈ xs.map (·.2) := by
  rw [txt, List.getD, List.getElem?_eq_getElem h]
  exact List.mem_map_of_mem (List.getElem_mem h)
theorem mem_txt {xs : List (Value × List UInt8)} {x : List UInt8} (h : x ∈ xs.map (·.2)) : ∃ k, k < xs.length ∧ txt xs k = x := by
  obtain ⟨q, hq, rfl⟩ := List.mem_map.1 h
  obtain ⟨k, hk, rfl⟩ := List.getElem_of_mem hq
  exact ⟨k, hk, by simp [txt, List.getD, hk]⟩
theorem clash_hit {xs bs : List (Value × List UInt8)} {i q : Nat} (hi : i < xs.length) (hq : q < bs.length) (h : hit xs bs i q = true) : clash (xs.map (·.2)) (bs.map (·.2)) = true := by
  unfold hit at h
  exact List.any_eq_true.2 ⟨_, txt_mem hi, List.any_eq_true.2 ⟨_, txt_mem hq, h⟩⟩
theorem clash_none {xs bs : List (Value × List UInt8)} (h : ∀ i, i < xs.length → ∀ q, q < bs.length → hit xs bs i q = false) : clash (xs.map (·.2)) (bs.map (·.2)) = false := by
  apply Bool.eq_false_iff.2
  intro hc
  obtain ⟨x, hx, hz⟩ := List.any_eq_true.1 hc
  obtain ⟨y, hy, hxy⟩ := List.any_eq_true.1 hz
  obtain ⟨i, hi, rfl⟩ := mem_txt hx
  obtain ⟨q, hq, rfl⟩ := mem_txt hy
  have := h i hi q hq
  unfold hit at this
  rw [this] at hxy
  cases hxy
/-- The short sums of the first n texts. -/
def sums (xs : List (Value × List UInt8)) (n : Nat) : List UInt8 := rows (fun k => ofT (txt xs k)) n
theorem sums_len (xs : List (Value × List UInt8)) (n : Nat) : (sums xs n).length = n * 16 := by rw [sums, rows_length (N := n) (fun _ _ => rfl) n (Nat.le_refl _)]; omega
theorem sums_succ (xs : List (Value × List UInt8)) (n : Nat) : sums xs (n + 1) = sums xs n ++ ofT (txt xs n) := rows_succ _ _
theorem sums_piece (xs : List (Value × List UInt8)) {n i : Nat} (h : i < n) : ((sums xs n).drop (i * 16)).take 16 = ofT (txt xs i) := by
  have := rows_chunk (f := fun k => ofT (txt xs k)) (N := n) (fun _ _ => rfl) n (Nat.le_refl _) i h
  rw [← this, chunk, Nat.mul_comm]
  rfl
/-- Each text has a kind, and isn't too long. -/
def Good (xs : List (Value × List UInt8)) : Prop := xs.length ≤ 1000000 ∧ ∀ k, k < xs.length → ∃ kd tx, txt xs k = kd :: tx ∧ tx.length ≤ 140737488355199
theorem good_of {ps : List (Value × List UInt8)} {ls : List (List UInt8)} (h : ps.map (·.2) = ls) (hl : ls.length ≤ 1000000) (ha : ∀ t ∈ ls, ∃ kd tx, t = kd :: tx ∧ tx.length ≤ 140737488355199) : Good ps := by
  refine ⟨by rw [← h, List.length_map] at hl; exact hl, fun k hk => ?_⟩
  exact ha _ (h ▸ txt_mem hk)

-- fingerpostref06.Clash
set_option maxHeartbeats 4000000 in
theorem ref06_Clash (xs bs : List (Value × List UInt8)) (av bv : Value) (hga : Good xs) (hgb : Good bs) (w : World) (hqa : RdP w av xs) (hqb : RdP w bv bs) : Ctr Try.prog 66 [av, bv] w (fun _ => False) (fun v _ => v = .bool (clash (xs.map (·.2)) (bs.map (·.2)))) := by
  have hal := hqa.1.le
  have hbl := hqb.1.le
  have hal2 := hga.1
  have hbl2 := hgb.1
  obtain ⟨aad, acap, rfl, hac, ham⟩ := hqa.sl
  obtain ⟨bad, bcap, rfl, hbc, hbm⟩ := hqb.sl
  refine fn_start (N := 73) Try.func66 rfl rfl rfl fun ac hk => ?_
  have hs := St.start hk w
  refine wp_seq ?_
  refine wp_reg ?_
  refine s_q hs (c_assign (hs.ev rfl)) rfl fun ac hs => ?_
  refine s_end ?_
  refine then_n ?_
  refine wp_seq ?_
  refine wp_reg ?_
  refine s_q hs (c_assign (hs.ev rfl)) rfl fun ac hs => ?_
  refine s_q hs (c_assign (hs.ev rfl)) rfl fun ac hs => ?_
  refine s_end ?_
  replace hs := (hs.nilrow 22 16).nilrow 22 16
  refine then_n ?_
  refine wp_seq ?_
  refine wp_seq ?_
  refine wp_reg ?_
  refine s_q hs (c_assign (hs.ev rfl)) rfl fun ac hs => ?_
  refine s_end ?_
  refine then_n ?_
  refine wp_block ?_
  refine s_loop hs (X := Nat × Value) (fun x => [(5, x.2), (7, I x.1)]) [(0, _), (1, _), (4, _), (6, _)] (fun x => [_, .row x.2 (x.1) ((sums xs (x.1)).map B) 22 16]) (fun n x => x.1 ≤ xs.length ∧ n = xs.length - x.1) (_) ((0, _)) (⟨Nat.zero_le _, rfl⟩) ⟨rfl, rfl, rfl, rfl, rfl, rfl, trivial⟩ rfl ?_
  rintro n ⟨k, v⟩ ac ww hok hs
  simp only [List.cons_append, List.nil_append] at hs
  obtain ⟨hk, rfl⟩ := hok
  simp only at hk hs
  refine wp_seq ?_
  refine wp_seq ?_
  refine wp_reg ?_
  refine s_q hs (c_move (hs.ev rfl)) rfl fun ac hs => ?_
  refine s_q hs (c_move (hs.ev rfl)) rfl fun ac hs => ?_
  refine s_q hs (c_lenS un30 (hs.ev rfl)) rfl fun ac hs => ?_
  refine s_q hs (c_lssI (hs.ev rfl) (hs.ev rfl)) rfl fun ac hs => ?_
  refine s_end ?_
  refine then_n ?_
  refine s_cond hs rfl (fun hc => ?_) (fun hc => ?_)
  · try simp only [decide_eq_true_eq, decide_eq_false_iff_not, Bool.not_eq_true', Bool.not_eq_false', Bool.and_eq_true, Bool.or_eq_true, Bool.or_eq_false_iff] at hc
    have hka : k < xs.length := by omega
    obtain ⟨pb, po, pT, pf, pall, rfl, hpb, hps⟩ := hqa.at' (by omega)
    obtain ⟨kd, tx, htx, hxl⟩ := hga.2 k hka
    have hrd := hqa.get hka
    rw [show (xs.getD k (.nilIface, [])).2 = kd :: tx from htx] at hrd
    refine wp_skip ?_
    refine then_n ?_
    refine wp_seq ?_
    refine wp_block ?_
    refine wp_reg ?_
    refine s_q hs (c_move (hs.ev rfl)) rfl fun ac hs => ?_
    refine s_q hs (c_move (hs.ev rfl)) rfl fun ac hs => ?_
    refine s_q hs (c_move (hs.ev rfl)) rfl fun ac hs => ?_
    refine s_q hs (c_idxS (j := k) un30 ty34 (hs.ev rfl) (hs.ev rfl) (by omega) (by omega)) rfl fun ac hs => ?_
    refine s_q hs (c_loadS un34 rfl (hs.ev rfl) (hs.old hpb id) (seg_get (.nilIface, []) hps (by omega))) rfl fun ac hs => ?_
    refine s_call hs fu54 (.cons (hs.ev rfl) .nil) (ref06_Of kd tx _ hxl _ (hrd.fr0 hs.fr)) rfl fun ac ww v22 hf hp hs => ?_
    obtain rfl := hp
    replace hs := hs [] (.nil _ _)
    refine s_bslice hs un109 ty22 (.cons (hs.ev rfl) .nil) rfl (by intro v hv; simp only [List.mem_singleton] at hv; subst hv; simp [Value.cells]) (by decide) (show _ = (short kd tx).map B by simp [flatCells, Value.cells]) rfl fun ac ww g23 hs => ?_
    refine s_append (i := 2) hs un109 ty22 (by decide) rfl rfl rfl (Rd.of_seg (n := 1) (hs.seg (i := 0) rfl) (Nat.le_refl _) (by decide) (List.take_of_length_le (by simp))) (by simp) (all_map_B _) (by unfold maxLen; omega) (by omega) rfl fun ac ww v24 hf hnil hs => ?_
    rw [show short kd tx = ofT (txt xs k) from by rw [htx]; rfl] at hs
    refine s_q hs (c_assign (hs.ev rfl)) rfl fun ac hs => ?_
    refine s_end ?_
    replace hs := hs.pick (L' := [_, _]) (.cons _ (.refl _))
    refine blk_n ?_
    refine then_n ?_
    refine wp_reg ?_
    refine s_q hs (c_move (hs.ev rfl)) rfl fun ac hs => ?_
    refine s_q hs (c_addI (hs.ev rfl) (hs.ev rfl) (by omega) (by omega)) rfl fun ac hs => ?_
    refine s_q hs (c_assign (hs.ev rfl)) rfl fun ac hs => ?_
    refine s_end ?_
    refine then_n ?_
    exact ⟨xs.length - (k + 1), by (try simp only); omega, (k + 1, _), ⟨by (try simp only); omega, rfl⟩, St.next hs ⟨rfl, rfl, rfl, rfl, rfl, rfl, trivial⟩ (by rw [sums_succ, List.map_append]; try rfl)⟩
  · try simp only [decide_eq_true_eq, decide_eq_false_iff_not, Bool.not_eq_true', Bool.not_eq_false', Bool.and_eq_true, Bool.or_eq_true, Bool.or_eq_false_iff] at hc
    obtain rfl : k = xs.length := by omega
    refine wp_exit ?_
    refine then_e ?_
    refine then_e ?_
    refine blk_hit ?_
    refine then_n ?_
    refine wp_seq ?_
    refine wp_seq ?_
    refine wp_reg ?_
    refine s_q hs (c_assign (hs.ev rfl)) rfl fun ac hs => ?_
    refine s_end ?_
    replace hs := hs.sub (F' := [(0, _), (1, _), (4, _), (5, _), (6, _), (8, _)]) ⟨rfl, rfl, rfl, rfl, rfl, rfl, trivial⟩
    refine then_n ?_
    refine wp_block ?_
    refine s_loop hs (X := Nat × Value) (fun x => [(6, x.2), (8, I x.1)]) [(0, _), (1, _), (4, _), (5, _)] (fun x => [.row x.2 (x.1) ((sums bs (x.1)).map B) 22 16, _]) (fun n x => x.1 ≤ bs.length ∧ n = bs.length - x.1) (_) ((0, _)) (⟨Nat.zero_le _, rfl⟩) ⟨rfl, rfl, rfl, rfl, rfl, rfl, trivial⟩ rfl ?_
    rintro n ⟨k, v⟩ ac ww hok hs
    simp only [List.cons_append, List.nil_append] at hs
    obtain ⟨hk, rfl⟩ := hok
    simp only at hk hs
    refine wp_seq ?_
    refine wp_seq ?_
    refine wp_reg ?_
    refine s_q hs (c_move (hs.ev rfl)) rfl fun ac hs => ?_
    refine s_q hs (c_move (hs.ev rfl)) rfl fun ac hs => ?_
    refine s_q hs (c_lenS un30 (hs.ev rfl)) rfl fun ac hs => ?_
    refine s_q hs (c_lssI (hs.ev rfl) (hs.ev rfl)) rfl fun ac hs => ?_
    refine s_end ?_
    refine then_n ?_
    refine s_cond hs rfl (fun hc => ?_) (fun hc => ?_)
    · try simp only [decide_eq_true_eq, decide_eq_false_iff_not, Bool.not_eq_true', Bool.not_eq_false', Bool.and_eq_true, Bool.or_eq_true, Bool.or_eq_false_iff] at hc
      have hkb : k < bs.length := by omega
      obtain ⟨pb, po, pT, pf, pall, rfl, hpb, hps⟩ := hqb.at' (by omega)
      obtain ⟨kd, tx, htx, hxl⟩ := hgb.2 k hkb
      have hrd := hqb.get hkb
      rw [show (bs.getD k (.nilIface, [])).2 = kd :: tx from htx] at hrd
      refine wp_skip ?_
      refine then_n ?_
      refine wp_seq ?_
      refine wp_block ?_
      refine wp_reg ?_
      refine s_q hs (c_move (hs.ev rfl)) rfl fun ac hs => ?_
      refine s_q hs (c_move (hs.ev rfl)) rfl fun ac hs => ?_
      refine s_q hs (c_move (hs.ev rfl)) rfl fun ac hs => ?_
      refine s_q hs (c_idxS (j := k) un30 ty34 (hs.ev rfl) (hs.ev rfl) (by omega) (by omega)) rfl fun ac hs => ?_
      refine s_q hs (c_loadS un34 rfl (hs.ev rfl) (hs.old hpb id) (seg_get (.nilIface, []) hps (by omega))) rfl fun ac hs => ?_
      refine s_call hs fu54 (.cons (hs.ev rfl) .nil) (ref06_Of kd tx _ hxl _ (hrd.fr0 hs.fr)) rfl fun ac ww v36 hf hp hs => ?_
      obtain rfl := hp
      replace hs := hs [] (.nil _ _)
      refine s_bslice hs un109 ty22 (.cons (hs.ev rfl) .nil) rfl (by intro v hv; simp only [List.mem_singleton] at hv; subst hv; simp [Value.cells]) (by decide) (show _ = (short kd tx).map B by simp [flatCells, Value.cells]) rfl fun ac ww g37 hs => ?_
      refine s_append (i := 1) hs un109 ty22 (by decide) rfl rfl rfl (Rd.of_seg (n := 1) (hs.seg (i := 0) rfl) (Nat.le_refl _) (by decide) (List.take_of_length_le (by simp))) (by simp) (all_map_B _) (by unfold maxLen; omega) (by omega) rfl fun ac ww v38 hf hnil hs => ?_
      rw [show short kd tx = ofT (txt bs k) from by rw [htx]; rfl] at hs
      refine s_q hs (c_assign (hs.ev rfl)) rfl fun ac hs => ?_
      refine s_end ?_
      replace hs := hs.pick (L' := [_, _]) (.cons _ (.refl _))
      refine blk_n ?_
      refine then_n ?_
      refine wp_reg ?_
      refine s_q hs (c_move (hs.ev rfl)) rfl fun ac hs => ?_
      refine s_q hs (c_addI (hs.ev rfl) (hs.ev rfl) (by omega) (by omega)) rfl fun ac hs => ?_
      refine s_q hs (c_assign (hs.ev rfl)) rfl fun ac hs => ?_
      refine s_end ?_
      refine then_n ?_
      exact ⟨bs.length - (k + 1), by (try simp only); omega, (k + 1, _), ⟨by (try simp only); omega, rfl⟩, St.next hs ⟨rfl, rfl, rfl, rfl, rfl, rfl, trivial⟩ (by rw [sums_succ, List.map_append]; try rfl)⟩
    · try simp only [decide_eq_true_eq, decide_eq_false_iff_not, Bool.not_eq_true', Bool.not_eq_false', Bool.and_eq_true, Bool.or_eq_true, Bool.or_eq_false_iff] at hc
      obtain rfl : k = bs.length := by omega
      refine wp_exit ?_
      refine then_e ?_
      refine then_e ?_
      refine blk_hit ?_
      refine then_n ?_
      refine wp_seq ?_
      refine wp_seq ?_
      refine wp_reg ?_
      refine s_q hs (c_assign (hs.ev rfl)) rfl fun ac hs => ?_
      refine s_end ?_
      replace hs := hs.sub (F' := [(0, _), (1, _), (4, _), (5, _), (6, _), (9, _)]) ⟨rfl, rfl, rfl, rfl, rfl, rfl, trivial⟩
      refine then_n ?_
      refine wp_block ?_
      refine s_loop hs (X := Nat) (fun i => [(9, I i)]) [(0, _), (1, _), (5, _), (6, _)] (fun _ => [_, _]) (fun n i => i ≤ xs.length ∧ n = xs.length - i ∧ ∀ i2, i2 < i → ∀ q, q < bs.length → hit xs bs i2 q = false) (_) (0) (⟨Nat.zero_le _, rfl, fun _ h => absurd h (by omega)⟩) ⟨rfl, rfl, rfl, rfl, rfl, trivial⟩ rfl ?_
      rintro n i ac ww hok hs
      simp only [List.cons_append, List.nil_append] at hs
      obtain ⟨hi, rfl, hno⟩ := hok
      refine wp_seq ?_
      refine wp_seq ?_
      refine wp_reg ?_
      refine s_q hs (c_move (hs.ev rfl)) rfl fun ac hs => ?_
      refine s_q hs (c_move (hs.ev rfl)) rfl fun ac hs => ?_
      refine s_q hs (c_lenS un30 (hs.ev rfl)) rfl fun ac hs => ?_
      refine s_q hs (c_lssI (hs.ev rfl) (hs.ev rfl)) rfl fun ac hs => ?_
      refine s_end ?_
      refine then_n ?_
      refine s_cond hs rfl (fun hc => ?_) (fun hc => ?_)
      · try simp only [decide_eq_true_eq, decide_eq_false_iff_not, Bool.not_eq_true', Bool.not_eq_false', Bool.and_eq_true, Bool.or_eq_true, Bool.or_eq_false_iff] at hc
        have hil : i < xs.length := by omega
        refine wp_skip ?_
        refine then_n ?_
        refine wp_seq ?_
        refine wp_block ?_
        refine wp_seq ?_
        refine wp_reg ?_
        refine s_q hs (c_assign (hs.ev rfl)) rfl fun ac hs => ?_
        refine s_end ?_
        refine then_n ?_
        refine wp_block ?_
        refine s_loop hs (X := Nat) (fun q => [(10, I q)]) [(0, _), (1, _), (5, _), (6, _), (9, _), (39, _), (40, _), (41, _), (42, _)] (fun _ => [_, _]) (fun n q => q ≤ bs.length ∧ n = bs.length - q ∧ ∀ q2, q2 < q → hit xs bs i q2 = false) (_) (0) (⟨Nat.zero_le _, rfl, fun _ h => absurd h (by omega)⟩) ⟨rfl, rfl, rfl, rfl, rfl, rfl, rfl, rfl, rfl, rfl, trivial⟩ rfl ?_
        rintro n q ac ww hok hs
        simp only [List.cons_append, List.nil_append] at hs
        obtain ⟨hq, rfl, hno2⟩ := hok
        refine wp_seq ?_
        refine wp_seq ?_
        refine wp_reg ?_
        refine s_q hs (c_move (hs.ev rfl)) rfl fun ac hs => ?_
        refine s_q hs (c_move (hs.ev rfl)) rfl fun ac hs => ?_
        refine s_q hs (c_lenS un30 (hs.ev rfl)) rfl fun ac hs => ?_
        refine s_q hs (c_lssI (hs.ev rfl) (hs.ev rfl)) rfl fun ac hs => ?_
        refine s_end ?_
        refine then_n ?_
        refine s_cond hs rfl (fun hc => ?_) (fun hc => ?_)
        · try simp only [decide_eq_true_eq, decide_eq_false_iff_not, Bool.not_eq_true', Bool.not_eq_false', Bool.and_eq_true, Bool.or_eq_true, Bool.or_eq_false_iff] at hc
          have hql : q < bs.length := by omega
          obtain ⟨sg, scap, scur, rfl, hsg, hsn, hsm, hss, hst⟩ := hs.row_at (i := 1) rfl (by omega)
          obtain ⟨tg, tcap, tcur, rfl, htg, htn, htm, hts, htt⟩ := hs.row_at (i := 0) rfl (by omega)
          obtain ⟨pa, pao, paT, paf, paall, rfl, hpa, hpas⟩ := hqa.at' (by omega)
          obtain ⟨pb, po, pT, pf, pall, rfl, hpb, hps⟩ := hqb.at' (by omega)
          have hra := hqa.get hil
          have hrb := hqb.get hql
          refine wp_skip ?_
          refine then_n ?_
          refine wp_seq ?_
          refine wp_block ?_
          refine wp_seq ?_
          refine wp_region_rg pmix 22 (by kernel_rfl) rfl hs ?_
          simp only [List.take_succ_cons, List.take_zero]
          refine rg_q (fun ac ww h => c_move (h.ev rfl)) rfl ?_
          refine rg_q (fun ac ww h => c_move (h.ev rfl)) rfl ?_
          refine rg_q (fun ac ww h => c_idxS (j := i) un109 ty22 (h.ev rfl) (h.ev rfl) (by omega) (by omega)) rfl ?_
          refine rg_q (fun ac ww h => c_loadA ty22 rfl (h.ev rfl) (h.blk hsg) ((rowpiece hst (sums_len _ _) hil).trans (by rw [sums_piece _ hil])) (by simp)) rfl ?_
          refine rg_q (fun ac ww h => c_move (h.ev rfl)) rfl ?_
          refine rg_q (fun ac ww h => c_move (h.ev rfl)) rfl ?_
          refine rg_q (fun ac ww h => c_idxS (j := q) un109 ty22 (h.ev rfl) (h.ev rfl) (by omega) (by omega)) rfl ?_
          refine rg_q (fun ac ww h => c_loadA ty22 rfl (h.ev rfl) (h.blk htg) ((rowpiece htt (sums_len _ _) hql).trans (by rw [sums_piece _ hql])) (by simp)) rfl ?_
          refine rg_q (fun ac ww h => c_eqlAB un22 ty5 eg22 (h.ev rfl) (h.ev rfl) (ofT_length _) (ofT_length _)) rfl ?_
          refine rg_q (fun ac ww h => c_move (h.ev rfl)) rfl ?_
          refine rg_g rfl rfl (fun hg ac ww h => c_move (h.ev rfl)) rfl ?_
          refine rg_g rfl rfl (fun hg ac ww h => c_move (h.ev rfl)) rfl ?_
          refine rg_g rfl rfl (fun hg ac ww h => c_idxS (j := i) un30 ty34 (gev (h.ev rfl) hg) (gev (h.ev rfl) hg) (by omega) (by omega)) rfl ?_
          refine rg_g rfl rfl (fun hg ac ww h => c_loadS un34 rfl (gev (h.ev rfl) hg) (h.blk (hs.old hpa id)) (seg_get (.nilIface, []) hpas (by omega))) rfl ?_
          refine rg_g rfl rfl (fun hg ac ww h => c_cvST un34 un5 un9 (gev (h.ev rfl) hg) ((hra.fr0 hs.fr).fr0 h.fr)) rfl ?_
          refine rg_g rfl rfl (fun hg ac ww h => c_move (h.ev rfl)) rfl ?_
          refine rg_g rfl rfl (fun hg ac ww h => c_move (h.ev rfl)) rfl ?_
          refine rg_g rfl rfl (fun hg ac ww h => c_idxS (j := q) un30 ty34 (gev (h.ev rfl) hg) (gev (h.ev rfl) hg) (by omega) (by omega)) rfl ?_
          refine rg_g rfl rfl (fun hg ac ww h => c_loadS un34 rfl (gev (h.ev rfl) hg) (h.blk (hs.old hpb id)) (seg_get (.nilIface, []) hps (by omega))) rfl ?_
          refine rg_g rfl rfl (fun hg ac ww h => c_cvST un34 un5 un9 (gev (h.ev rfl) hg) ((hrb.fr0 hs.fr).fr0 h.fr)) rfl ?_
          refine rg_g rfl rfl (fun hg ac ww h => c_neqTT (gev (h.ev rfl) hg) (gev (h.ev rfl) hg)) rfl ?_
          refine rg_q (fun ac ww h => c_to (c_and (h.ev rfl) (h.ev rfl)) ((show Value.bool _ = Value.bool (hit xs bs i q) from congrArg Value.bool (by unfold hit; rw [bneL]; rfl)))) rfl ?_
          refine rg_nil fun ac ww L' hf hfe hs => ?_
          simp only [List.drop_succ_cons, List.drop_zero]
          obtain rfl : L' = [] := hfe
          replace hs := hs.toL (List.nil_append _)
          refine s_end ?_
          refine then_n ?_
          refine s_cond hs rfl (fun hc => ?_) (fun hc => ?_)
          · skip
            refine wp_seq ?_
            refine wp_reg ?_
            refine s_q hs (c_assign (hs.ev rfl)) rfl fun ac hs => ?_
            refine s_end ?_
            refine then_n ?_
            refine wp_ret ?_
            refine blk_r ?_
            refine then_r ?_
            refine then_r ?_
            refine blk_r ?_
            refine blk_r ?_
            refine then_r ?_
            refine then_r ?_
            refine blk_r ?_
            refine then_r ?_
            refine s_ret hs rfl (.tmp (hs.tmp rfl) .nil) rfl ⟨_, rfl, hs.fr, ?_⟩
            show Value.bool true = _
            rw [clash_hit hil hql hc]
          · skip
            refine wp_skip ?_
            refine blk_n ?_
            refine then_n ?_
            refine wp_reg ?_
            refine s_q hs (c_move (hs.ev rfl)) rfl fun ac hs => ?_
            refine s_q hs (c_addI (hs.ev rfl) (hs.ev rfl) (by omega) (by omega)) rfl fun ac hs => ?_
            refine s_q hs (c_assign (hs.ev rfl)) rfl fun ac hs => ?_
            refine s_end ?_
            refine then_n ?_
            exact ⟨bs.length - (q + 1), by omega, q + 1, ⟨by omega, rfl, fun q2 h2 => by
                by_cases e : q2 = q
                · subst e; exact hc
                · exact hno2 q2 (by omega)⟩, St.next hs ⟨rfl, rfl, rfl, rfl, rfl, rfl, rfl, rfl, rfl, rfl, trivial⟩ rfl⟩
        · try simp only [decide_eq_true_eq, decide_eq_false_iff_not, Bool.not_eq_true', Bool.not_eq_false', Bool.and_eq_true, Bool.or_eq_true, Bool.or_eq_false_iff] at hc
          obtain rfl : q = bs.length := by omega
          refine wp_exit ?_
          refine then_e ?_
          refine then_e ?_
          refine blk_hit ?_
          refine blk_n ?_
          refine then_n ?_
          refine wp_reg ?_
          refine s_q hs (c_move (hs.ev rfl)) rfl fun ac hs => ?_
          refine s_q hs (c_addI (hs.ev rfl) (hs.ev rfl) (by omega) (by omega)) rfl fun ac hs => ?_
          refine s_q hs (c_assign (hs.ev rfl)) rfl fun ac hs => ?_
          refine s_end ?_
          refine then_n ?_
          exact ⟨xs.length - (i + 1), by omega, i + 1, ⟨by omega, rfl, fun i2 h2 q hq => by
              by_cases e : i2 = i
              · subst e; exact hno2 q (by omega)
              · exact hno i2 (by omega) q hq⟩, St.next hs ⟨rfl, rfl, rfl, rfl, rfl, trivial⟩ rfl⟩
      · try simp only [decide_eq_true_eq, decide_eq_false_iff_not, Bool.not_eq_true', Bool.not_eq_false', Bool.and_eq_true, Bool.or_eq_true, Bool.or_eq_false_iff] at hc
        obtain rfl : i = xs.length := by omega
        refine wp_exit ?_
        refine then_e ?_
        refine then_e ?_
        refine blk_hit ?_
        refine then_n ?_
        refine wp_seq ?_
        refine wp_reg ?_
        refine s_q hs (c_assign (hs.ev rfl)) rfl fun ac hs => ?_
        refine s_end ?_
        replace hs := hs.sub (F' := [(4, _)]) ⟨rfl, trivial⟩
        refine then_n ?_
        refine wp_ret ?_
        refine s_ret hs rfl (.tmp (hs.tmp rfl) .nil) rfl ⟨_, rfl, hs.fr, ?_⟩
        show Value.bool false = _
        rw [clash_none fun i hi q hq => hno i hi q hq]

end Go.Proofs.Ytmgnnclkjkbmdaa
end

/- Lists of short sums. -/
section
set_option linter.unusedSimpArgs false
set_option linter.unusedVariables false
set_option maxRecDepth 100000
namespace Go.Proofs.Ytmgnnclkjkbmdaa
open Go Go.Fw

open Sha
/-- Short sums behind a slice read so. -/
theorem rdpiece {all : List Value} {o n k : Nat} {ws : List UInt8} (h : (all.drop o).take (ws.map B).length = ws.map B) (hw : ws.length = n * 16) (hk : k < n) : (all.drop (o + k * 16)).take 16 = (chunk ws k).map B := by
  have hle : k * 16 + 16 ≤ (ws.map B).length := by rw [List.length_map]; omega
  have h2 : (((all.drop o).take (ws.map B).length).drop (k * 16)).take 16 = ((ws.map B).drop (k * 16)).take 16 := by rw [h]
  rw [List.drop_take, List.take_take, Nat.min_eq_left (by omega), List.drop_drop] at h2
  rw [h2, chunk, List.map_take, List.map_drop, Nat.mul_comm]
theorem Rd.bytes_at {w : World} {ad : Option Addr} {cap n : Nat} {ws : List UInt8} (h : Rd w (.slice ad n cap) n (ws.map B)) (hw : ws.length = n * 16) (hn : 0 < n) :
    ∃ b o T fr all, ad = some ⟨b, o, none⟩ ∧ w.heap[b]? = some (.cells all T fr) ∧ (all.toList.drop o).take (ws.map B).length = ws.map B := by
  obtain ⟨b, o, cap', T, fr, all, e, _, _, hb, hc⟩ := Rd.at_ h (by intro e; have := congrArg List.length e; rw [List.length_map, List.length_nil] at this; omega)
  cases e
  exact ⟨b, o, T, fr, all, rfl, hb, hc⟩
theorem chunk_l {ws : List UInt8} {n k : Nat} (hw : ws.length = n * 16) (hk : k < n) : (chunk ws k).length = 16 := chunk_len (by omega)
def rowS (n : Nat) (ws : List UInt8) : Value → List Ent → World → Prop := fun v L _ => L = [.row v n (ws.map B) 54 16]
def rowS' (n : Nat) (ws : List UInt8) : Value → List Ent → World → Prop := fun v L _ => L = [.row v n (ws.map B) 22 16]

theorem sums_same {n : Nat} {xs ys : List UInt8} (hx : xs.length = n * 16) (hy : ys.length = n * 16) (h : ∀ i, i < n → chunk xs i = chunk ys i) : xs = ys := by
  refine (pieces_eq (m := 16) (by decide) hx hy).1 fun i hi => ?_
  have := h i hi
  rw [chunk, chunk, Nat.mul_comm] at this
  exact this

-- fingerpostlaw03.To
set_option maxHeartbeats 4000000 in
theorem law03_To (n : Nat) (ws : List UInt8) (wv : Value) (hwl : ws.length = n * 16) (hn : n ≤ 1000000) (w : World) (hq : Rd w wv n (ws.map B)) : Ctr Try.prog 93 [wv] w (fun _ => False) (outE (rowS n ws) w) := by
  obtain ⟨wad, wcap, rfl, hwc, hwm⟩ := Rd.sl hq
  refine fn_start (N := 18) Try.func93 rfl rfl rfl fun ac hk => ?_
  have hs := St.start hk w
  refine wp_seq ?_
  refine wp_reg ?_
  refine s_q hs (c_assign (hs.ev rfl)) rfl fun ac hs => ?_
  refine s_end ?_
  refine then_n ?_
  refine wp_seq ?_
  refine wp_reg ?_
  refine s_q hs (c_assign (hs.ev rfl)) rfl fun ac hs => ?_
  refine s_end ?_
  replace hs := hs.nilrow 54 16
  refine then_n ?_
  refine wp_seq ?_
  refine wp_seq ?_
  refine wp_reg ?_
  refine s_q hs (c_move (hs.ev rfl)) rfl fun ac hs => ?_
  refine s_q hs (c_lenS un109 (hs.ev rfl)) rfl fun ac hs => ?_
  refine s_q hs (c_move (hs.ev rfl)) rfl fun ac hs => ?_
  refine s_end ?_
  replace hs := hs.sub (F' := [(2, _), (3, _), (6, _), (7, _), (8, _)]) ⟨rfl, rfl, rfl, rfl, rfl, trivial⟩
  refine then_n ?_
  refine wp_block ?_
  refine s_loop hs (X := Nat × Value) (fun x => [(3, x.2), (8, I x.1)]) [(2, _), (6, _), (7, _)] (fun x => [.row x.2 x.1 ((ws.take (16 * x.1)).map B) 54 16]) (fun m x => x.1 ≤ n ∧ m = n - x.1) (_) ((0, _)) (⟨Nat.zero_le _, rfl⟩) ⟨rfl, rfl, rfl, rfl, rfl, trivial⟩ rfl ?_
  rintro n ⟨k, v⟩ ac ww hok hs
  simp only [List.cons_append, List.nil_append] at hs
  obtain ⟨hk, rfl⟩ := hok
  simp only at hk hs
  refine wp_seq ?_
  refine wp_reg ?_
  refine s_q hs (c_lssI (hs.ev rfl) (hs.ev rfl)) rfl fun ac hs => ?_
  refine s_end ?_
  refine then_n ?_
  refine wp_seq ?_
  refine s_cond hs rfl (fun hc => ?_) (fun hc => ?_)
  · try simp only [decide_eq_true_eq, decide_eq_false_iff_not, Bool.not_eq_true', Bool.not_eq_false', Bool.and_eq_true, Bool.or_eq_true, Bool.or_eq_false_iff] at hc
    have hkn : k < n := by omega
    have hcl := chunk_l hwl hkn
    obtain ⟨pb, po, pT, pf, pall, rfl, hpb, hps⟩ := Rd.bytes_at hq hwl (by omega)
    refine wp_skip ?_
    refine then_n ?_
    refine wp_seq ?_
    refine wp_block ?_
    refine wp_seq ?_
    refine wp_reg ?_
    refine s_q hs (c_idxS (j := k) un109 ty22 (hs.ev rfl) (hs.ev rfl) (by omega) (by omega)) rfl fun ac hs => ?_
    refine s_q hs (c_loadA ty22 rfl (hs.ev rfl) (hs.old hpb id) (rdpiece hps hwl hkn) (by rw [List.length_map, hcl])) rfl fun ac hs => ?_
    refine s_alloc hs ty22 rfl fun ac ww g5 hs => ?_
    refine s_storeW (i := 0) hs ty22 rfl rfl rfl (by rw [List.length_map, hcl]) (all_map_B _) rfl fun ww hs => ?_
    refine s_end ?_
    refine then_n ?_
    refine wp_reg ?_
    refine s_q hs (c_move (hs.ev rfl)) rfl fun ac hs => ?_
    refine s_q hs (c_loadW ty22 rfl (hs.ev rfl) (hs.seg (i := 0) rfl) (by rw [List.length_map, hcl])) rfl fun ac hs => ?_
    refine s_bslice hs un110 ty54 (.cons (hs.ev rfl) .nil) rfl (by intro v hv; simp only [List.mem_singleton] at hv; subst hv; simp [Value.cells, hcl]) (by decide) (show _ = (chunk ws k).map B by simp [flatCells, Value.cells]) rfl fun ac ww g14 hs => ?_
    refine s_append (i := 2) hs un110 ty54 (by decide) rfl rfl rfl (Rd.of_seg (n := 1) (hs.seg (i := 0) rfl) (Nat.le_refl _) (by decide) (List.take_of_length_le (by simp))) (by rw [List.length_map, hcl]) (all_map_B _) (by unfold maxLen; omega) (by omega) rfl fun ac ww v15 hf hnil hs => ?_
    refine s_q hs (c_assign (hs.ev rfl)) rfl fun ac hs => ?_
    refine s_end ?_
    refine blk_n ?_
    refine then_n ?_
    refine wp_reg ?_
    refine s_q hs (c_addI (hs.ev rfl) (hs.ev rfl) (by omega) (by omega)) rfl fun ac hs => ?_
    refine s_q hs (c_move (hs.ev rfl)) rfl fun ac hs => ?_
    refine s_end ?_
    refine then_n ?_
    replace hs := hs.pick (L' := [_]) (.cons _ (.cons _ (.refl _)))
    exact ⟨n - (k + 1), by (try simp only); omega, (k + 1, _), ⟨by (try simp only); omega, rfl⟩, St.next hs ⟨rfl, rfl, rfl, rfl, rfl, trivial⟩ (by rw [take_chunk, List.map_append]; try rfl)⟩
  · try simp only [decide_eq_true_eq, decide_eq_false_iff_not, Bool.not_eq_true', Bool.not_eq_false', Bool.and_eq_true, Bool.or_eq_true, Bool.or_eq_false_iff] at hc
    obtain rfl : n = k := by omega
    rw [List.take_of_length_le (by omega)] at hs
    refine wp_exit ?_
    refine then_e ?_
    refine then_e ?_
    refine blk_hit ?_
    refine then_n ?_
    refine wp_seq ?_
    refine wp_reg ?_
    refine s_q hs (c_move (hs.ev rfl)) rfl fun ac hs => ?_
    refine s_q hs (c_assign (hs.ev rfl)) rfl fun ac hs => ?_
    refine s_end ?_
    replace hs := hs.sub (F' := [(2, _)]) ⟨rfl, trivial⟩
    refine then_n ?_
    refine wp_ret ?_
    refine s_ret hs rfl (.tmp (hs.tmp rfl) .nil) rfl ⟨_, rfl, hs.fr, ?_⟩
    exact ⟨_, rfl, hs.made⟩

-- fingerpostlaw03.From
set_option maxHeartbeats 4000000 in
theorem law03_From (n : Nat) (ws : List UInt8) (wv : Value) (hwl : ws.length = n * 16) (hn : n ≤ 1000000) (w : World) (hq : Rd w wv n (ws.map B)) : Ctr Try.prog 103 [wv] w (fun _ => False) (outE (rowS' n ws) w) := by
  obtain ⟨wad, wcap, rfl, hwc, hwm⟩ := Rd.sl hq
  refine fn_start (N := 18) Try.func103 rfl rfl rfl fun ac hk => ?_
  have hs := St.start hk w
  refine wp_seq ?_
  refine wp_reg ?_
  refine s_q hs (c_assign (hs.ev rfl)) rfl fun ac hs => ?_
  refine s_end ?_
  refine then_n ?_
  refine wp_seq ?_
  refine wp_reg ?_
  refine s_q hs (c_assign (hs.ev rfl)) rfl fun ac hs => ?_
  refine s_end ?_
  replace hs := hs.nilrow 22 16
  refine then_n ?_
  refine wp_seq ?_
  refine wp_seq ?_
  refine wp_reg ?_
  refine s_q hs (c_move (hs.ev rfl)) rfl fun ac hs => ?_
  refine s_q hs (c_lenS un110 (hs.ev rfl)) rfl fun ac hs => ?_
  refine s_q hs (c_move (hs.ev rfl)) rfl fun ac hs => ?_
  refine s_end ?_
  replace hs := hs.sub (F' := [(2, _), (3, _), (6, _), (7, _), (8, _)]) ⟨rfl, rfl, rfl, rfl, rfl, trivial⟩
  refine then_n ?_
  refine wp_block ?_
  refine s_loop hs (X := Nat × Value) (fun x => [(3, x.2), (8, I x.1)]) [(2, _), (6, _), (7, _)] (fun x => [.row x.2 x.1 ((ws.take (16 * x.1)).map B) 22 16]) (fun m x => x.1 ≤ n ∧ m = n - x.1) (_) ((0, _)) (⟨Nat.zero_le _, rfl⟩) ⟨rfl, rfl, rfl, rfl, rfl, trivial⟩ rfl ?_
  rintro n ⟨k, v⟩ ac ww hok hs
  simp only [List.cons_append, List.nil_append] at hs
  obtain ⟨hk, rfl⟩ := hok
  simp only at hk hs
  refine wp_seq ?_
  refine wp_reg ?_
  refine s_q hs (c_lssI (hs.ev rfl) (hs.ev rfl)) rfl fun ac hs => ?_
  refine s_end ?_
  refine then_n ?_
  refine wp_seq ?_
  refine s_cond hs rfl (fun hc => ?_) (fun hc => ?_)
  · try simp only [decide_eq_true_eq, decide_eq_false_iff_not, Bool.not_eq_true', Bool.not_eq_false', Bool.and_eq_true, Bool.or_eq_true, Bool.or_eq_false_iff] at hc
    have hkn : k < n := by omega
    have hcl := chunk_l hwl hkn
    obtain ⟨pb, po, pT, pf, pall, rfl, hpb, hps⟩ := Rd.bytes_at hq hwl (by omega)
    refine wp_skip ?_
    refine then_n ?_
    refine wp_seq ?_
    refine wp_block ?_
    refine wp_seq ?_
    refine wp_reg ?_
    refine s_q hs (c_idxS (j := k) un110 ty54 (hs.ev rfl) (hs.ev rfl) (by omega) (by omega)) rfl fun ac hs => ?_
    refine s_q hs (c_loadA ty54 rfl (hs.ev rfl) (hs.old hpb id) (rdpiece hps hwl hkn) (by rw [List.length_map, hcl])) rfl fun ac hs => ?_
    refine s_alloc hs ty54 rfl fun ac ww g5 hs => ?_
    refine s_storeW (i := 0) hs ty54 rfl rfl rfl (by rw [List.length_map, hcl]) (all_map_B _) rfl fun ww hs => ?_
    refine s_end ?_
    refine then_n ?_
    refine wp_reg ?_
    refine s_q hs (c_move (hs.ev rfl)) rfl fun ac hs => ?_
    refine s_q hs (c_loadW ty54 rfl (hs.ev rfl) (hs.seg (i := 0) rfl) (by rw [List.length_map, hcl])) rfl fun ac hs => ?_
    refine s_bslice hs un109 ty22 (.cons (hs.ev rfl) .nil) rfl (by intro v hv; simp only [List.mem_singleton] at hv; subst hv; simp [Value.cells, hcl]) (by decide) (show _ = (chunk ws k).map B by simp [flatCells, Value.cells]) rfl fun ac ww g14 hs => ?_
    refine s_append (i := 2) hs un109 ty22 (by decide) rfl rfl rfl (Rd.of_seg (n := 1) (hs.seg (i := 0) rfl) (Nat.le_refl _) (by decide) (List.take_of_length_le (by simp))) (by rw [List.length_map, hcl]) (all_map_B _) (by unfold maxLen; omega) (by omega) rfl fun ac ww v15 hf hnil hs => ?_
    refine s_q hs (c_assign (hs.ev rfl)) rfl fun ac hs => ?_
    refine s_end ?_
    refine blk_n ?_
    refine then_n ?_
    refine wp_reg ?_
    refine s_q hs (c_addI (hs.ev rfl) (hs.ev rfl) (by omega) (by omega)) rfl fun ac hs => ?_
    refine s_q hs (c_move (hs.ev rfl)) rfl fun ac hs => ?_
    refine s_end ?_
    refine then_n ?_
    replace hs := hs.pick (L' := [_]) (.cons _ (.cons _ (.refl _)))
    exact ⟨n - (k + 1), by (try simp only); omega, (k + 1, _), ⟨by (try simp only); omega, rfl⟩, St.next hs ⟨rfl, rfl, rfl, rfl, rfl, trivial⟩ (by rw [take_chunk, List.map_append]; try rfl)⟩
  · try simp only [decide_eq_true_eq, decide_eq_false_iff_not, Bool.not_eq_true', Bool.not_eq_false', Bool.and_eq_true, Bool.or_eq_true, Bool.or_eq_false_iff] at hc
    obtain rfl : n = k := by omega
    rw [List.take_of_length_le (by omega)] at hs
    refine wp_exit ?_
    refine then_e ?_
    refine then_e ?_
    refine blk_hit ?_
    refine then_n ?_
    refine wp_seq ?_
    refine wp_reg ?_
    refine s_q hs (c_move (hs.ev rfl)) rfl fun ac hs => ?_
    refine s_q hs (c_assign (hs.ev rfl)) rfl fun ac hs => ?_
    refine s_end ?_
    replace hs := hs.sub (F' := [(2, _)]) ⟨rfl, trivial⟩
    refine then_n ?_
    refine wp_ret ?_
    refine s_ret hs rfl (.tmp (hs.tmp rfl) .nil) rfl ⟨_, rfl, hs.fr, ?_⟩
    exact ⟨_, rfl, hs.made⟩

-- fingerpostref03.SameSums
set_option maxHeartbeats 4000000 in
theorem ref03_SameSums (n m : Nat) (xs ys : List UInt8) (xv yv : Value) (hxl : xs.length = n * 16) (hyl : ys.length = m * 16) (w : World) (hqx : Rd w xv n (xs.map B)) (hqy : Rd w yv m (ys.map B)) : Ctr Try.prog 102 [xv, yv] w (fun _ => False) (fun v _ => v = .bool (decide (xs = ys))) := by
  have hnl := hqx.le
  have hml := hqy.le
  obtain ⟨xad, xcap, rfl, hxc, hxm⟩ := Rd.sl hqx
  obtain ⟨yad, ycap, rfl, hyc, hym⟩ := Rd.sl hqy
  refine fn_start (N := 26) Try.func102 rfl rfl rfl fun ac hk => ?_
  have hs := St.start hk w
  refine wp_seq ?_
  refine wp_reg ?_
  refine s_q hs (c_assign (hs.ev rfl)) rfl fun ac hs => ?_
  refine s_end ?_
  refine then_n ?_
  refine wp_seq ?_
  refine wp_seq ?_
  refine wp_reg ?_
  refine s_q hs (c_move (hs.ev rfl)) rfl fun ac hs => ?_
  refine s_q hs (c_lenS un109 (hs.ev rfl)) rfl fun ac hs => ?_
  refine s_q hs (c_move (hs.ev rfl)) rfl fun ac hs => ?_
  refine s_q hs (c_lenS un109 (hs.ev rfl)) rfl fun ac hs => ?_
  refine s_q hs (c_neqI (hs.ev rfl) (hs.ev rfl)) rfl fun ac hs => ?_
  refine s_end ?_
  replace hs := hs.sub (F' := [(0, _), (1, _), (4, _), (10, _)]) ⟨rfl, rfl, rfl, rfl, trivial⟩
  refine then_n ?_
  refine s_cond hs rfl (fun hc => ?_) (fun hc => ?_)
  · try simp only [decide_eq_true_eq, decide_eq_false_iff_not, Bool.not_eq_true', Bool.not_eq_false', Bool.and_eq_true, Bool.or_eq_true, Bool.or_eq_false_iff] at hc
    have hne : xs ≠ ys := fun e => hc (by rw [e, hyl] at hxl; omega)
    refine wp_seq ?_
    refine wp_reg ?_
    refine s_q hs (c_assign (hs.ev rfl)) rfl fun ac hs => ?_
    refine s_end ?_
    replace hs := hs.sub (F' := [(0, _), (1, _), (4, _)]) ⟨rfl, rfl, rfl, trivial⟩
    refine then_n ?_
    refine wp_ret ?_
    refine then_r ?_
    refine s_ret hs rfl (.tmp (hs.tmp rfl) .nil) rfl ⟨_, rfl, hs.fr, ?_⟩
    show Value.bool false = _
    rw [decide_eq_false hne]
  · try simp only [decide_eq_true_eq, decide_eq_false_iff_not, Bool.not_eq_true', Bool.not_eq_false', Bool.and_eq_true, Bool.or_eq_true, Bool.or_eq_false_iff] at hc
    obtain rfl : n = m := by omega
    refine wp_skip ?_
    refine then_n ?_
    refine wp_seq ?_
    refine wp_seq ?_
    refine wp_reg ?_
    refine s_q hs (c_assign (hs.ev rfl)) rfl fun ac hs => ?_
    refine s_end ?_
    replace hs := hs.sub (F' := [(0, _), (1, _), (4, _), (5, _)]) ⟨rfl, rfl, rfl, rfl, trivial⟩
    refine then_n ?_
    refine wp_block ?_
    refine s_loop hs (X := Nat) (fun k => [(5, I k)]) [(0, _), (1, _)] (fun _ => []) (fun j k => k ≤ n ∧ j = n - k ∧ ∀ i, i < k → chunk xs i = chunk ys i) (_) (0) (⟨Nat.zero_le _, rfl, fun _ h => absurd h (by omega)⟩) ⟨rfl, rfl, rfl, trivial⟩ rfl ?_
    rintro n k ac ww hok hs
    simp only [List.cons_append, List.nil_append] at hs
    obtain ⟨hk, rfl, heq⟩ := hok
    refine wp_seq ?_
    refine wp_seq ?_
    refine wp_reg ?_
    refine s_q hs (c_move (hs.ev rfl)) rfl fun ac hs => ?_
    refine s_q hs (c_move (hs.ev rfl)) rfl fun ac hs => ?_
    refine s_q hs (c_lenS un109 (hs.ev rfl)) rfl fun ac hs => ?_
    refine s_q hs (c_lssI (hs.ev rfl) (hs.ev rfl)) rfl fun ac hs => ?_
    refine s_end ?_
    refine then_n ?_
    refine s_cond hs rfl (fun hc => ?_) (fun hc => ?_)
    · try simp only [decide_eq_true_eq, decide_eq_false_iff_not, Bool.not_eq_true', Bool.not_eq_false', Bool.and_eq_true, Bool.or_eq_true, Bool.or_eq_false_iff] at hc
      have hkn : k < n := by omega
      obtain ⟨pb, po, pT, pf, pall, rfl, hpb, hps⟩ := Rd.bytes_at hqx hxl (by omega)
      obtain ⟨qb, qo, qT, qf, qall, rfl, hqb, hqs⟩ := Rd.bytes_at hqy hyl (by omega)
      refine wp_skip ?_
      refine then_n ?_
      refine wp_seq ?_
      refine wp_block ?_
      refine wp_seq ?_
      refine wp_region_rg pmix 8 (by kernel_rfl) rfl hs ?_
      simp only [List.take_succ_cons, List.take_zero]
      refine rg_q (fun ac ww h => c_move (h.ev rfl)) rfl ?_
      refine rg_q (fun ac ww h => c_move (h.ev rfl)) rfl ?_
      refine rg_q (fun ac ww h => c_idxS (j := k) un109 ty22 (h.ev rfl) (h.ev rfl) (by omega) (by omega)) rfl ?_
      refine rg_q (fun ac ww h => c_loadA ty22 rfl (h.ev rfl) (h.blk (hs.old hpb id)) (rdpiece hps hxl hkn) (by rw [List.length_map, chunk_l hxl hkn])) rfl ?_
      refine rg_q (fun ac ww h => c_move (h.ev rfl)) rfl ?_
      refine rg_q (fun ac ww h => c_move (h.ev rfl)) rfl ?_
      refine rg_q (fun ac ww h => c_idxS (j := k) un109 ty22 (h.ev rfl) (h.ev rfl) (by omega) (by omega)) rfl ?_
      refine rg_q (fun ac ww h => c_loadA ty22 rfl (h.ev rfl) (h.blk (hs.old hqb id)) (rdpiece hqs hyl hkn) (by rw [List.length_map, chunk_l hyl hkn])) rfl ?_
      refine rg_nil fun ac ww L' hf hfe hs => ?_
      simp only [List.drop_succ_cons, List.drop_zero]
      obtain rfl : L' = [] := hfe
      replace hs := hs.toL (List.nil_append _)
      refine s_q hs (c_neqAB un22 ty5 eg22 (hs.ev rfl) (hs.ev rfl) (chunk_l hxl hkn) (chunk_l hyl hkn)) rfl fun ac hs => ?_
      refine s_end ?_
      refine then_n ?_
      refine s_cond hs rfl (fun hc => ?_) (fun hc => ?_)
      · try simp only [decide_eq_true_eq, decide_eq_false_iff_not, Bool.not_eq_true', Bool.not_eq_false', Bool.and_eq_true, Bool.or_eq_true, Bool.or_eq_false_iff] at hc
        refine wp_seq ?_
        refine wp_reg ?_
        refine s_q hs (c_assign (hs.ev rfl)) rfl fun ac hs => ?_
        refine s_end ?_
        refine then_n ?_
        refine wp_ret ?_
        refine blk_r ?_
        refine then_r ?_
        refine then_r ?_
        refine blk_r ?_
        refine then_r ?_
        refine s_ret hs rfl (.tmp (hs.tmp rfl) .nil) rfl ⟨_, rfl, hs.fr, ?_⟩
        show Value.bool false = _
        rw [decide_eq_false fun e => hc (by rw [e])]
      · try simp only [decide_eq_true_eq, decide_eq_false_iff_not, Bool.not_eq_true', Bool.not_eq_false', Bool.and_eq_true, Bool.or_eq_true, Bool.or_eq_false_iff] at hc
        refine wp_skip ?_
        refine blk_n ?_
        refine then_n ?_
        refine wp_reg ?_
        refine s_q hs (c_move (hs.ev rfl)) rfl fun ac hs => ?_
        refine s_q hs (c_addI (hs.ev rfl) (hs.ev rfl) (by omega) (by omega)) rfl fun ac hs => ?_
        refine s_q hs (c_assign (hs.ev rfl)) rfl fun ac hs => ?_
        refine s_end ?_
        refine then_n ?_
        exact ⟨n - (k + 1), by omega, k + 1, ⟨by omega, rfl, fun i hi => by
            by_cases e : i = k
            · subst e; exact hc
            · exact heq i (by omega)⟩, St.next hs ⟨rfl, rfl, rfl, trivial⟩ rfl⟩
    · try simp only [decide_eq_true_eq, decide_eq_false_iff_not, Bool.not_eq_true', Bool.not_eq_false', Bool.and_eq_true, Bool.or_eq_true, Bool.or_eq_false_iff] at hc
      obtain rfl : n = k := by omega
      refine wp_exit ?_
      refine then_e ?_
      refine then_e ?_
      refine blk_hit ?_
      refine then_n ?_
      refine wp_seq ?_
      refine wp_reg ?_
      refine s_q hs (c_assign (hs.ev rfl)) rfl fun ac hs => ?_
      refine s_end ?_
      replace hs := hs.sub (F' := [(4, _)]) ⟨rfl, trivial⟩
      refine then_n ?_
      refine wp_ret ?_
      refine s_ret hs rfl (.tmp (hs.tmp rfl) .nil) rfl ⟨_, rfl, hs.fr, ?_⟩
      show Value.bool true = _
      rw [decide_eq_true (sums_same hxl hyl heq)]

end Go.Proofs.Ytmgnnclkjkbmdaa
end
