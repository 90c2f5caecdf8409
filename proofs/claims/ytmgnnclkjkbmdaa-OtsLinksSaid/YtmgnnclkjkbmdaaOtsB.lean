/- Names as bytes, links. -/
import Derived.Test.YtmgnnclkjkbmdaaMacLawsB
import Derived.Test.YtmgnnclkjkbmdaaOtsA
set_option linter.unusedSimpArgs false
set_option linter.unusedVariables false
set_option maxRecDepth 100000
namespace Go.Proofs.Ytmgnnclkjkbmdaa
open Go Go.Fw

open Sha
/-- The bytes of a name. -/
def headB (d : Int) (i : UInt32) : List UInt8 := i8 d :: be32 i
@[simp] theorem headB_length (d : Int) (i : UInt32) : (headB d i).length = 5 := rfl
/-- The text of a link, and the link. -/
def linkT (d : Int) (i : UInt32) (ch st : Int) (s : List UInt8) : List UInt8 := headB d i ++ [i8 ch, i8 st] ++ s
def link (d : Int) (i : UInt32) (ch st : Int) (s : List UInt8) : List UInt8 := short 87 (linkT d i ch st s)
@[simp] theorem link_length (d : Int) (i : UInt32) (ch st : Int) (s : List UInt8) : (link d i ch st s).length = 16 := rfl
theorem num4 (i : UInt32) : num i.toUInt64 4 4 = be32 i := by
  have h : (be64 i.toUInt64).drop 4 = be32 i := by
    simp only [be64, be32, List.drop_succ_cons, List.drop_zero]
    have e1 : ∀ k : Nat, k < 32 → (i.toUInt64 >>> UInt64.ofNat k).toUInt8 = (i >>> UInt32.ofNat k).toUInt8 := fun k hk => by
      apply UInt8.toNat_inj.1
      rw [UInt64.toNat_toUInt8, UInt32.toNat_toUInt8, UInt64.toNat_shiftRight, UInt32.toNat_shiftRight, UInt32.toNat_toUInt64, UInt64.toNat_ofNat', UInt32.toNat_ofNat']
      rw [show k % 2 ^ 64 % 64 = k from by omega, show k % 2 ^ 32 % 32 = k from by omega]
    have e2 : i.toUInt64.toUInt8 = i.toUInt8 := by
      apply UInt8.toNat_inj.1
      rw [UInt64.toNat_toUInt8, UInt32.toNat_toUInt8, UInt32.toNat_toUInt64]
    exact List.cons_eq_cons.2 ⟨e1 24 (by omega), List.cons_eq_cons.2 ⟨e1 16 (by omega), List.cons_eq_cons.2 ⟨e1 8 (by omega), List.cons_eq_cons.2 ⟨e2, rfl⟩⟩⟩⟩
  rw [← h]
  rfl
theorem flat3 {v1 v2 v3 : Value} {d : Int} {i : UInt32} {ch st : Int} {s : List UInt8} : flat [(v1, headB d i), (v2, [i8 ch, i8 st]), (v3, s)] = linkT d i ch st s := by simp [flat, linkT]
/-- A slice of these bytes, all of its block. -/
def segE (l : List UInt8) : Value → List Ent → World → Prop := fun v L _ => ∃ g, v = .slice (some ⟨g, 0, none⟩) l.length l.length ∧ L = [.seg g (l.map B) 5]
def rowE (l : List UInt8) : Value → List Ent → World → Prop := fun v L _ => L = [.row v l.length (l.map B) 5 1]
def outE (E : Value → List Ent → World → Prop) (w : World) : Value → World → Prop := fun v w' => ∃ L', E v L' w' ∧ Has w.heap.size w' L'

-- ots.Name).head
set_option maxHeartbeats 4000000 in
theorem ots_head (d : Int) (i : UInt32) (w : World)  : Ctr Try.prog 158 [.agg #[I d, U i]] w (fun _ => False) (outE (segE (headB d i)) w) := by
  refine fn_start (N := 22) Try.func158 rfl rfl rfl fun ac hk => ?_
  have hs := St.start hk w
  refine wp_seq ?_
  refine wp_reg ?_
  refine s_box hs rfl rfl rfl fun ac ww g1 hs => ?_
  refine s_q hs (c_assign (hs.ev rfl)) rfl fun ac hs => ?_
  refine s_end ?_
  replace hs := hs.sub (F' := [(1, _), (2, _)]) ⟨rfl, rfl, trivial⟩
  refine then_n ?_
  refine wp_seq ?_
  refine wp_reg ?_
  refine s_q hs (c_fld fl56_0 (hs.ev rfl)) rfl fun ac hs => ?_
  refine s_q hs (c_loadS un3 rfl (hs.ev rfl) (hs.seg (i := 0) rfl) rfl) rfl fun ac hs => ?_
  refine s_q hs (c_cvIB un3 un5 (hs.ev rfl)) rfl fun ac hs => ?_
  refine s_q hs (c_fld fl56_1 (hs.ev rfl)) rfl fun ac hs => ?_
  refine s_q hs (c_loadS un27 rfl (hs.ev rfl) (hs.seg (i := 0) rfl) rfl) rfl fun ac hs => ?_
  refine s_q hs (c_shrU (hs.ev rfl) (hs.ev rfl) (by decide)) rfl fun ac hs => ?_
  refine s_q hs (c_cvUB un27 un5 (hs.ev rfl)) rfl fun ac hs => ?_
  refine s_q hs (c_fld fl56_1 (hs.ev rfl)) rfl fun ac hs => ?_
  refine s_q hs (c_loadS un27 rfl (hs.ev rfl) (hs.seg (i := 0) rfl) rfl) rfl fun ac hs => ?_
  refine s_q hs (c_shrU (hs.ev rfl) (hs.ev rfl) (by decide)) rfl fun ac hs => ?_
  refine s_q hs (c_cvUB un27 un5 (hs.ev rfl)) rfl fun ac hs => ?_
  refine s_q hs (c_fld fl56_1 (hs.ev rfl)) rfl fun ac hs => ?_
  refine s_q hs (c_loadS un27 rfl (hs.ev rfl) (hs.seg (i := 0) rfl) rfl) rfl fun ac hs => ?_
  refine s_q hs (c_shrU (hs.ev rfl) (hs.ev rfl) (by decide)) rfl fun ac hs => ?_
  refine s_q hs (c_cvUB un27 un5 (hs.ev rfl)) rfl fun ac hs => ?_
  refine s_q hs (c_fld fl56_1 (hs.ev rfl)) rfl fun ac hs => ?_
  refine s_q hs (c_loadS un27 rfl (hs.ev rfl) (hs.seg (i := 0) rfl) rfl) rfl fun ac hs => ?_
  refine s_q hs (c_cvUB un27 un5 (hs.ev rfl)) rfl fun ac hs => ?_
  refine s_bslice hs un34 ty5 (.cons (hs.ev rfl) (.cons (hs.ev rfl) (.cons (hs.ev rfl) (.cons (hs.ev rfl) (.cons (hs.ev rfl) .nil))))) rfl (by simp [Value.cells]) (by decide) rfl rfl fun ac ww g21 hs => ?_
  refine s_q hs (c_assign (hs.ev rfl)) rfl fun ac hs => ?_
  refine s_end ?_
  replace hs := hs.sub (F' := [(2, _)]) ⟨rfl, trivial⟩
  refine then_n ?_
  refine wp_ret ?_
  refine s_ret hs rfl (.tmp (hs.tmp rfl) .nil) rfl ⟨_, rfl, hs.fr, ?_⟩
  exact ⟨_, ⟨_, rfl, rfl⟩, (hs.pick (L' := [_]) (.cons_cons _ (.cons _ .slnil))).made⟩

-- fingerpostref10.Head
set_option maxHeartbeats 4000000 in
theorem ref10_Head (d : Int) (i : UInt32) (w : World)  : Ctr Try.prog 160 [.agg #[I d, U i]] w (fun _ => False) (outE (rowE (headB d i)) w) := by
  refine fn_start (N := 12) Try.func160 rfl rfl rfl fun ac hk => ?_
  have hs := St.start hk w
  refine wp_seq ?_
  refine wp_reg ?_
  refine s_box hs rfl rfl rfl fun ac ww g1 hs => ?_
  refine s_q hs (c_assign (hs.ev rfl)) rfl fun ac hs => ?_
  refine s_end ?_
  replace hs := hs.sub (F' := [(1, _), (2, _)]) ⟨rfl, rfl, trivial⟩
  refine then_n ?_
  refine wp_seq ?_
  refine wp_region_rg pmix 8 (by kernel_rfl) rfl hs ?_
  simp only [List.take_succ_cons, List.take_zero]
  refine rg_q (fun ac ww h => c_fld fl29_0 (h.ev rfl)) rfl ?_
  refine rg_q (fun ac ww h => c_loadS un3 rfl (h.ev rfl) (h.blk (hs.seg (i := 0) rfl)) rfl) rfl ?_
  refine rg_q (fun ac ww h => c_cvIB un3 un5 (h.ev rfl)) rfl ?_
  refine rg_bslice un34 ty5 (fun ac ww h => (.cons (h.ev rfl) .nil)) rfl (by simp [Value.cells]) (by decide) rfl rfl ?_
  refine rg_q (fun ac ww h => c_fld fl29_1 (h.ev rfl)) rfl ?_
  refine rg_q (fun ac ww h => c_loadS un27 rfl (h.ev rfl) (h.blk (hs.seg (i := 0) rfl)) rfl) rfl ?_
  refine rg_q (fun ac ww h => c_cvUV un27 un210 (h.ev rfl)) rfl ?_
  refine rg_callE (fun v L _ => ∃ g, v = .slice (some ⟨g, 0, none⟩) 4 4 ∧ L = [.seg g ((num i.toUInt64 4 4).map B) 5]) (fun _ _ _ _ _ h => h) fu173 (fun ac ww h => ?_) rfl ?_
  · exact ⟨_, .cons (h.ev rfl) (.cons (h.ev rfl) .nil), (ref05_Num _ 4 (by omega) _).mono fun v w' _ ⟨g, hv, hh⟩ => ⟨_, ⟨g, hv, rfl⟩, hh⟩⟩
  refine rg_nil fun ac ww L' hf hfe hs => ?_
  simp only [List.drop_succ_cons, List.drop_zero]
  obtain ⟨v10, L10, M10, h10, e10, ⟨v6, L6, M6, h6, e6, rfl, rfl⟩, rfl⟩ := hfe
  replace hs := hs.add h10
  replace hs := hs.add h6
  obtain ⟨g6, rfl, rfl⟩ := e6
  obtain ⟨gn, rfl, rfl⟩ := e10
  replace hs := hs.segrow (i := 1) (n := 1) (sz := 1) rfl rfl (by decide)
  refine s_appB (i := 1) (l := [i8 d]) hs un34 ty5 rfl rfl rfl (RdB.segn (l := num i.toUInt64 4 4) (hs.seg (i := 0) rfl) (by rw [num4]; rfl) (by decide)) (by rw [num4]; simp) rfl fun ac ww v11 hf hnil hs => ?_
  refine s_q hs (c_assign (hs.ev rfl)) rfl fun ac hs => ?_
  refine s_end ?_
  replace hs := hs.sub (F' := [(2, _)]) ⟨rfl, trivial⟩
  refine then_n ?_
  refine wp_ret ?_
  refine s_ret hs rfl (.tmp (hs.tmp rfl) .nil) rfl ⟨_, rfl, hs.fr, ?_⟩
  rw [num4] at hs
  exact ⟨_, rfl, (hs.pick (L' := [_]) (.cons _ (.cons_cons _ (.cons _ .slnil)))).made⟩

-- ots.Link
set_option maxHeartbeats 4000000 in
theorem ots_Link (d : Int) (i : UInt32) (ch st : Int) (s : List UInt8) (hsl : s.length = 16) (w : World)  : Ctr Try.prog 52 [.agg #[I d, U i], I ch, I st, .agg (s.map B).toArray] w (fun _ => False) (fun v _ => v = .agg ((link d i ch st s).map B).toArray) := by
  refine fn_start (N := 19) Try.func52 rfl rfl rfl fun ac hk => ?_
  have hs := St.start hk w
  refine wp_seq ?_
  refine wp_reg ?_
  refine s_box hs rfl rfl rfl fun ac ww g4 hs => ?_
  refine s_box hs rfl rfl rfl fun ac ww g7 hs => ?_
  refine s_alloc hs ty54 rfl fun ac ww g8 hs => ?_
  refine s_end ?_
  replace hs := hs.sub (F' := [(1, _), (2, _), (4, _), (7, _), (8, _)]) ⟨rfl, rfl, rfl, rfl, rfl, trivial⟩
  refine then_n ?_
  refine wp_seq ?_
  refine wp_region_rg pmix 8 (by kernel_rfl) rfl hs ?_
  simp only [List.take_succ_cons, List.take_zero]
  refine rg_q (fun ac ww h => c_loadW ty56 ag56 (h.ev rfl) (h.blk (hs.seg (i := 2) rfl)) (by rfl)) rfl ?_
  refine rg_callE (segE (headB d i)) (fun _ _ _ _ _ h => h) fu158 (fun ac ww h => ?_) rfl ?_
  · exact ⟨_, .cons (h.ev rfl) .nil, ots_head d i _⟩
  refine rg_q (fun ac ww h => c_move (h.ev rfl)) rfl ?_
  refine rg_q (fun ac ww h => c_cvIB un3 un5 (h.ev rfl)) rfl ?_
  refine rg_q (fun ac ww h => c_move (h.ev rfl)) rfl ?_
  refine rg_q (fun ac ww h => c_cvIB un3 un5 (h.ev rfl)) rfl ?_
  refine rg_bslice un34 ty5 (fun ac ww h => (.cons (h.ev rfl) (.cons (h.ev rfl) .nil))) rfl (by simp [Value.cells]) (by decide) rfl rfl ?_
  refine rg_q (fun ac ww h => c_sliceA un54 ty5 (h.ev rfl)) rfl ?_
  refine rg_nil fun ac ww L' hf hfe hs => ?_
  simp only [List.drop_succ_cons, List.drop_zero]
  obtain ⟨v15, L15, M15, h15, e15, ⟨v10, L10, M10, h10, e10, rfl, rfl⟩, rfl⟩ := hfe
  replace hs := hs.add h15
  replace hs := hs.add h10
  obtain ⟨g15, rfl, rfl⟩ := e15
  obtain ⟨g10, rfl, rfl⟩ := e10
  refine s_bslice hs un30 ty34 (.cons (hs.ev rfl) (.cons (hs.ev rfl) (.cons (hs.ev rfl) .nil))) rfl (by simp [Value.cells]) (by decide) rfl rfl fun ac ww g17 hs => ?_
  refine s_call hs fu91 (.cons (hs.ev rfl) (.cons (hs.ev rfl) .nil)) (mac_Short 87 [(_, headB d i), (_, [i8 ch, i8 st]), (_, s)] _ (by simp [flat, hsl]) _ (RdP.seg (ps := [(_, headB d i), (_, [i8 ch, i8 st]), (_, s)]) (hs.seg (i := 0) rfl) (by show 3 ≤ maxLen; decide) (.cons (RdB.seg (hs.seg (i := 2) rfl) (by rw [headB_length]; decide)) (.cons (RdB.seg (l := [i8 ch, i8 st]) (hs.seg (i := 1) rfl) (by show 2 ≤ maxLen; decide)) (.cons (RdB.segn (hs.seg (i := 4) rfl) hsl (by decide)) .nil))))) rfl fun ac ww v18 hf hp hs => ?_
  obtain rfl := hp
  replace hs := hs [] (.nil _ _)
  refine s_storeW (i := 3) hs ty54 rfl rfl rfl (by simp) (all_map_B _) (by simp) fun ww hs => ?_
  refine s_end ?_
  replace hs := hs.sub (F' := [(8, _)]) ⟨rfl, trivial⟩
  refine then_n ?_
  refine wp_ret ?_
  refine s_ret hs rfl (.cell (hs.tmp rfl) (run_loadA ty54 rfl (hs.seg (i := 3) rfl) (List.take_of_length_le (by simp)) (by simp)) .nil) rfl ⟨_, rfl, hs.fr, ?_⟩
  show _ = _
  rw [flat3]
  rfl

-- fingerpostref10.Text
set_option maxHeartbeats 4000000 in
theorem ref10_Text (d : Int) (i : UInt32) (ch st : Int) (s : List UInt8) (hsl : s.length = 16) (w : World)  : Ctr Try.prog 55 [.agg #[I d, U i], I ch, I st, .agg (s.map B).toArray] w (fun _ => False) (outE (rowE (87 :: linkT d i ch st s)) w) := by
  refine fn_start (N := 19) Try.func55 rfl rfl rfl fun ac hk => ?_
  have hs := St.start hk w
  refine wp_seq ?_
  refine wp_reg ?_
  refine s_box hs rfl rfl rfl fun ac ww g4 hs => ?_
  refine s_box hs rfl rfl rfl fun ac ww g7 hs => ?_
  refine s_q hs (c_assign (hs.ev rfl)) rfl fun ac hs => ?_
  refine s_end ?_
  replace hs := hs.sub (F' := [(1, _), (2, _), (4, _), (7, _), (8, _)]) ⟨rfl, rfl, rfl, rfl, rfl, trivial⟩
  refine then_n ?_
  refine wp_seq ?_
  refine wp_region_rg pmix 8 (by kernel_rfl) rfl hs ?_
  simp only [List.take_succ_cons, List.take_zero]
  refine rg_q (fun ac ww h => c_loadW ty29 ag29 (h.ev rfl) (h.blk (hs.seg (i := 1) rfl)) (by rfl)) rfl ?_
  refine rg_callE (rowE (headB d i)) (fun _ _ _ _ _ h => h) fu160 (fun ac ww h => ?_) rfl ?_
  · exact ⟨_, .cons (h.ev rfl) .nil, ref10_Head d i _⟩
  refine rg_q (fun ac ww h => c_move (h.ev rfl)) rfl ?_
  refine rg_q (fun ac ww h => c_cvIB un3 un5 (h.ev rfl)) rfl ?_
  refine rg_q (fun ac ww h => c_move (h.ev rfl)) rfl ?_
  refine rg_q (fun ac ww h => c_cvIB un3 un5 (h.ev rfl)) rfl ?_
  refine rg_bslice un34 ty5 (fun ac ww h => (.cons (h.ev rfl) (.cons (h.ev rfl) .nil))) rfl (by simp [Value.cells]) (by decide) rfl rfl ?_
  refine rg_q (fun ac ww h => c_sliceA un22 ty5 (h.ev rfl)) rfl ?_
  refine rg_nil fun ac ww L' hf hfe hs => ?_
  simp only [List.drop_succ_cons, List.drop_zero]
  obtain ⟨v15, L15, M15, h15, e15, ⟨v10, L10, M10, h10, e10, rfl, rfl⟩, rfl⟩ := hfe
  replace hs := hs.add h15
  replace hs := hs.add h10
  obtain ⟨g15, rfl, rfl⟩ := e15
  obtain rfl := e10
  obtain ⟨ad10, cap10, rfl, _, _⟩ := Rd.sl (RdB.row (hs.get (i := 1) rfl))
  refine s_bslice hs un30 ty34 (.cons (hs.ev rfl) (.cons (hs.ev rfl) (.cons (hs.ev rfl) .nil))) rfl (by simp [Value.cells]) (by decide) rfl rfl fun ac ww g17 hs => ?_
  refine s_call hs fu159 (.cons (hs.ev rfl) (.cons (hs.ev rfl) .nil)) (ref05_Text 87 [(_, headB d i), (_, [i8 ch, i8 st]), (_, s)] _ (by simp [flat, hsl]) _ (RdP.seg (ps := [(_, headB d i), (_, [i8 ch, i8 st]), (_, s)]) (hs.seg (i := 0) rfl) (by show 3 ≤ maxLen; decide) (.cons (RdB.row (hs.get (i := 2) rfl)) (.cons (RdB.seg (l := [i8 ch, i8 st]) (hs.seg (i := 1) rfl) (by show 2 ≤ maxLen; decide)) (.cons (RdB.segn (hs.seg (i := 3) rfl) hsl (by decide)) .nil))))) rfl fun ac ww v18 hf hp hs => ?_
  obtain ⟨qv, rfl, hh⟩ := hp
  rw [flat3] at hh
  replace hs := hs _ hh
  refine s_q hs (c_assign (hs.ev rfl)) rfl fun ac hs => ?_
  refine s_end ?_
  replace hs := hs.sub (F' := [(8, _)]) ⟨rfl, trivial⟩
  refine then_n ?_
  refine wp_ret ?_
  refine s_ret hs rfl (.tmp (hs.tmp rfl) .nil) rfl ⟨_, rfl, hs.fr, ?_⟩
  exact ⟨_, rfl, (hs.pick (L' := [_]) (.cons_cons _ (.cons _ (.cons _ (.cons _ (.cons _ (.cons _ .slnil))))))).made⟩

-- fingerpostlaw10.To
set_option maxHeartbeats 4000000 in
theorem law10_To (d : Int) (i : UInt32) (w : World)  : Ctr Try.prog 53 [.agg #[I d, U i]] w (fun _ => False) (fun v _ => v = .agg #[I d, U i]) := by
  refine fn_start (N := 8) Try.func53 rfl rfl rfl fun ac hk => ?_
  have hs := St.start hk w
  refine wp_seq ?_
  refine wp_reg ?_
  refine s_box hs rfl rfl rfl fun ac ww g1 hs => ?_
  refine s_alloc hs ty56 rfl fun ac ww g2 hs => ?_
  refine s_end ?_
  replace hs := hs.sub (F' := [(1, _), (2, _)]) ⟨rfl, rfl, trivial⟩
  refine then_n ?_
  refine wp_seq ?_
  refine wp_reg ?_
  refine s_q hs (c_fld fl29_0 (hs.ev rfl)) rfl fun ac hs => ?_
  refine s_q hs (c_loadS un3 rfl (hs.ev rfl) (hs.seg (i := 1) rfl) rfl) rfl fun ac hs => ?_
  refine s_q hs (c_fld fl29_1 (hs.ev rfl)) rfl fun ac hs => ?_
  refine s_q hs (c_loadS un27 rfl (hs.ev rfl) (hs.seg (i := 1) rfl) rfl) rfl fun ac hs => ?_
  refine s_q hs (c_buildS ty56 bp56 (.cons (hs.ev rfl) (.cons (hs.ev rfl) .nil)) ⟨rfl, rfl, trivial⟩ (by simp [flatCells, Value.cells]) rfl) rfl fun ac hs => ?_
  refine s_storeW (i := 0) hs ty56 rfl rfl rfl (by rfl) (by rfl) (by simp) fun ww hs => ?_
  refine s_end ?_
  replace hs := hs.sub (F' := [(2, _)]) ⟨rfl, trivial⟩
  refine then_n ?_
  refine wp_ret ?_
  refine s_ret hs rfl (.cell (hs.tmp rfl) (run_loadA ty56 ag56 (hs.seg (i := 0) rfl) rfl (by rfl)) .nil) rfl ⟨_, rfl, hs.fr, ?_⟩
  rfl

-- fingerpostlaw10.OtsLinks
set_option maxHeartbeats 4000000 in
theorem law_OtsLinks (d : Int) (i : UInt32) (ch st : Int) (s : List UInt8) (hsl : s.length = 16) (w : World)  : Ctr Try.prog 9 [.agg #[I d, U i], I ch, I st, .agg (s.map B).toArray] w (fun _ => False) (fun v _ => v = .bool true) := by
  refine fn_start (N := 25) Try.func9 rfl rfl rfl fun ac hk => ?_
  have hs := St.start hk w
  refine wp_seq ?_
  refine wp_reg ?_
  refine s_box hs rfl rfl rfl fun ac ww g4 hs => ?_
  refine s_box hs rfl rfl rfl fun ac ww g7 hs => ?_
  refine s_q hs (c_assign (hs.ev rfl)) rfl fun ac hs => ?_
  refine s_end ?_
  replace hs := hs.sub (F' := [(1, _), (2, _), (4, _), (7, _), (8, _)]) ⟨rfl, rfl, rfl, rfl, rfl, trivial⟩
  refine then_n ?_
  refine wp_seq ?_
  refine wp_region_rg pmix 12 (by kernel_rfl) rfl hs ?_
  simp only [List.take_succ_cons, List.take_zero]
  refine rg_call fu37 (fun ac ww h => .nil) (fun ww hf => law10_awake _) rfl ?_
  refine rg_q (fun ac ww h => c_move (h.ev rfl)) rfl ?_
  refine rg_yes rfl rfl (fun ac ww h => c_loadW ty29 ag29 (h.ev rfl) (h.blk (hs.seg (i := 1) rfl)) (by rfl)) rfl ?_
  refine rg_strip rfl rfl ?_
  refine rg_call fu53 (fun ac ww h => (.cons (h.ev rfl) .nil)) (fun ww hf => law10_To d i ww) rfl ?_
  refine rg_yes rfl rfl (fun ac ww h => c_move (h.ev rfl)) rfl ?_
  refine rg_yes rfl rfl (fun ac ww h => c_move (h.ev rfl)) rfl ?_
  refine rg_yes rfl rfl (fun ac ww h => c_loadW ty22 rfl (h.ev rfl) (h.blk (hs.seg (i := 0) rfl)) (by rw [List.length_map, hsl])) rfl ?_
  refine rg_strip rfl rfl ?_
  refine rg_call fu52 (fun ac ww h => (.cons (h.ev rfl) (.cons (h.ev rfl) (.cons (h.ev rfl) (.cons (h.ev rfl) .nil))))) (fun ww hf => ots_Link d i ch st s hsl ww) rfl ?_
  refine rg_yes rfl rfl (fun ac ww h => c_loadW ty29 ag29 (h.ev rfl) (h.blk (hs.seg (i := 1) rfl)) (by rfl)) rfl ?_
  refine rg_yes rfl rfl (fun ac ww h => c_move (h.ev rfl)) rfl ?_
  refine rg_yes rfl rfl (fun ac ww h => c_move (h.ev rfl)) rfl ?_
  refine rg_yes rfl rfl (fun ac ww h => c_loadW ty22 rfl (h.ev rfl) (h.blk (hs.seg (i := 0) rfl)) (by rw [List.length_map, hsl])) rfl ?_
  refine rg_nil fun ac ww L' hf hfe hs => ?_
  simp only [List.drop_succ_cons, List.drop_zero]
  obtain rfl : L' = [] := hfe
  replace hs := hs.toL (List.nil_append _)
  refine s_yes hs rfl rfl ?_
  refine s_call hs fu55 (.cons (hs.ev rfl) (.cons (hs.ev rfl) (.cons (hs.ev rfl) (.cons (hs.ev rfl) .nil)))) (ref10_Text d i ch st s hsl _) rfl fun ac ww v21 hf hp hs => ?_
  obtain ⟨L', hv, hh⟩ := hp
  subst hv
  replace hs := hs _ hh
  refine s_yes hs rfl rfl ?_
  refine s_call hs fu54 (.cons (hs.ev rfl) .nil) (ref06_Of 87 (linkT d i ch st s) _ (by simp [linkT, hsl]) _ (RdB.row (hs.get (i := 0) rfl))) rfl fun ac ww v22 hf hp hs => ?_
  obtain rfl := hp
  replace hs := hs [] (.nil _ _)
  refine s_yes hs rfl rfl ?_
  refine s_q hs (c_tt (c_eqlAB un54 ty5 eg54 (hs.ev rfl) (hs.ev rfl) (link_length _ _ _ _ _) (link_length d i ch st s)) (by simp [link])) rfl fun ac hs => ?_
  refine s_q hs (c_pick (hs.ev rfl) (hs.ev rfl) (hs.ev rfl)) rfl fun ac hs => ?_
  refine s_q hs (c_assign (hs.ev rfl)) rfl fun ac hs => ?_
  refine s_end ?_
  replace hs := hs.sub (F' := [(8, _)]) ⟨rfl, trivial⟩
  refine then_n ?_
  refine wp_ret ?_
  refine s_ret hs rfl (.tmp (hs.tmp rfl) .nil) rfl ⟨_, rfl, hs.fr, ?_⟩
  rfl

end Go.Proofs.Ytmgnnclkjkbmdaa
