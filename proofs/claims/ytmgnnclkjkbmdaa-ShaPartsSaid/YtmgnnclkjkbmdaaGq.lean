/- Own texts of this seat, laid together: Fw39, ShaI. -/
import Derived.Test.YtmgnnclkjkbmdaaGa
import Derived.Test.YtmgnnclkjkbmdaaGb
import Derived.Test.YtmgnnclkjkbmdaaGc
import Derived.Test.YtmgnnclkjkbmdaaGd
import Derived.Test.YtmgnnclkjkbmdaaGe
import Derived.Test.YtmgnnclkjkbmdaaGf
import Derived.Test.YtmgnnclkjkbmdaaGg
import Derived.Test.YtmgnnclkjkbmdaaGh
import Derived.Test.YtmgnnclkjkbmdaaGi
import Derived.Test.YtmgnnclkjkbmdaaGj
import Derived.Test.YtmgnnclkjkbmdaaGk
import Derived.Test.YtmgnnclkjkbmdaaGl
import Derived.Test.YtmgnnclkjkbmdaaGm
import Derived.Test.YtmgnnclkjkbmdaaGn
import Derived.Test.YtmgnnclkjkbmdaaGp
/- Stores into the elements of a slice that may grow, its length by name. -/
section
set_option linter.unusedSimpArgs false
set_option linter.unusedVariables false
namespace Go.Fw
open Go
section
variable {P : Program} {ops : Array Oper} {Q : Exit → Act → World → Prop} {rest : List Oper} {N : Nat} {F F' : List (Nat × Value)} {L L' : List Ent} {M : Nat → Prop} {w0 w : World} {a : Act}
variable {d : Tmp} {op : Op} {ty : TypeId} {pos : String} {aft : Array Edge} {x y z : Operand} {t u : TypeId}
theorem s_storeRn {i g j cap n : Nat} {l : List UInt8} {T' : TypeId} {td : TypeDesc} {zz : List Value} {b : UInt8} (hs : St N F L M w0 a w) (hT : Ty P t td 1 1 zz) (hag : aggD td = false)
    (hx : ev F x = some (.pointer (some ⟨g, j, none⟩))) (hy : ev F y = some (B b)) (hn : l.length = n) (hi : L[i]? = some (.row (.slice (some ⟨g, 0, none⟩) n cap) n (l.map B) T' 1)) (hj : j < n)
    (k : ∀ w, St N F (L.set i (.row (.slice (some ⟨g, 0, none⟩) n cap) n ((l.set j b).map B) T' 1)) M w0 a w → wpList P ops Q rest a w) :
    wpList P ops Q (⟨none, .store t x y, ty, pos, aft, none⟩ :: rest) a w := by
  subst hn
  refine s_storeR hs hT hag hx hy hi hj fun w hs => k w ?_
  simpa only [List.length_set] using hs
end
theorem rowcellB {n j : Nat} {l : List UInt8} {cur : Array Value} (d : UInt8) (h : cur.toList.take (n * 1) = l.map B) (hj : j < l.length) : cur.toList[0 + j * 1]? = some (B (l.getD j d)) := by
  have h2 : (cur.toList.take (n * 1))[j]? = some (B (l.getD j d)) := by rw [h]; simp [List.getD, hj]
  rw [List.getElem?_take] at h2
  split at h2
  · simpa using h2
  · cases h2
theorem RdB.nil (w : World) : RdB w (.slice none 0 0) [] := ⟨none, 0, rfl, Nat.le_refl _, Nat.zero_le _, fun _ => rfl, .inl rfl⟩
end Go.Fw
end

/- The law of bytes that are taken in piece by piece. -/
section
set_option linter.unusedSimpArgs false
set_option linter.unusedVariables false
set_option maxRecDepth 100000
namespace Go.Proofs.Ytmgnnclkjkbmdaa
open Go Go.Fw

open Sha
-- sha.Hash).Write
set_option maxHeartbeats 4000000 in
theorem sha_WriteNil (pv : Value) (w : World)  : Ctr Try.prog 49 [.pointer none, pv] w (fun _ => False) (fun _ _ => True) := by
  refine fn_start (N := 60) Try.func49 rfl rfl rfl fun ac hk => ?_
  have hs := St.start hk w
  refine wp_seq ?_
  refine wp_seq ?_
  refine wp_reg ?_
  refine s_q hs (c_move (hs.ev rfl)) rfl fun ac hs => ?_
  refine s_q hs (c_eqlNil0 un48 (hs.ev rfl) (hs.ev rfl)) rfl fun ac hs => ?_
  refine s_end ?_
  replace hs := hs.sub (F' := [(0, _), (1, _), (5, _)]) ⟨rfl, rfl, rfl, trivial⟩
  refine then_n ?_
  refine wp_cond_true (hs.ev rfl) ?_
  refine wp_ret ?_
  refine then_r ?_
  refine s_ret hs rfl .nil rfl ⟨_, rfl, hs.fr, ?_⟩
  trivial

-- sha.Hash).Sum
set_option maxHeartbeats 4000000 in
theorem sha_HSumNil  (w : World)  : Ctr Try.prog 50 [.pointer none] w (fun _ => False) (fun v _ => v = .agg ((List.replicate 32 (0 : UInt8)).map B).toArray) := by
  refine fn_start (N := 87) Try.func50 rfl rfl rfl fun ac hk => ?_
  have hs := St.start hk w
  refine wp_seq ?_
  refine wp_reg ?_
  refine s_alloc hs ty41 rfl fun ac ww g2 hs => ?_
  refine s_end ?_
  refine then_n ?_
  refine wp_seq ?_
  refine wp_reg ?_
  refine s_alloc hs ty41 rfl fun ac ww g3 hs => ?_
  refine s_end ?_
  refine then_n ?_
  refine wp_seq ?_
  refine wp_seq ?_
  refine wp_reg ?_
  refine s_q hs (c_move (hs.ev rfl)) rfl fun ac hs => ?_
  refine s_q hs (c_eqlNil0 un48 (hs.ev rfl) (hs.ev rfl)) rfl fun ac hs => ?_
  refine s_end ?_
  replace hs := hs.sub (F' := [(0, _), (2, _), (3, _), (10, _)]) ⟨rfl, rfl, rfl, rfl, trivial⟩
  refine then_n ?_
  refine wp_cond_true (hs.ev rfl) ?_
  refine wp_seq ?_
  refine wp_reg ?_
  refine s_q hs (c_loadW ty41 rfl (hs.ev rfl) (hs.seg (i := 0) rfl) (by rfl)) rfl fun ac hs => ?_
  refine s_storeW (i := 1) hs ty41 rfl rfl rfl (by rfl) (by rfl) rfl fun ww hs => ?_
  refine s_end ?_
  replace hs := hs.sub (F' := [(0, _), (2, _), (3, _)]) ⟨rfl, rfl, rfl, trivial⟩
  refine then_n ?_
  refine wp_ret ?_
  refine then_r ?_
  refine s_ret hs rfl (.cell (hs.tmp rfl) (run_loadA ty41 rfl (hs.seg (i := 1) rfl) rfl (by rfl)) .nil) rfl ⟨_, rfl, hs.fr, ?_⟩
  rfl

-- sha.Hash).Blocks
set_option maxHeartbeats 4000000 in
theorem sha_HBlocksNil  (w : World)  : Ctr Try.prog 51 [.pointer none] w (fun _ => False) (fun v _ => v = I 0) := by
  refine fn_start (N := 16) Try.func51 rfl rfl rfl fun ac hk => ?_
  have hs := St.start hk w
  refine wp_seq ?_
  refine wp_reg ?_
  refine s_q hs (c_assign (hs.ev rfl)) rfl fun ac hs => ?_
  refine s_end ?_
  refine then_n ?_
  refine wp_seq ?_
  refine wp_seq ?_
  refine wp_reg ?_
  refine s_q hs (c_move (hs.ev rfl)) rfl fun ac hs => ?_
  refine s_q hs (c_eqlNil0 un48 (hs.ev rfl) (hs.ev rfl)) rfl fun ac hs => ?_
  refine s_end ?_
  replace hs := hs.sub (F' := [(0, _), (2, _), (4, _)]) ⟨rfl, rfl, rfl, trivial⟩
  refine then_n ?_
  refine wp_cond_true (hs.ev rfl) ?_
  refine wp_seq ?_
  refine wp_reg ?_
  refine s_q hs (c_assign (hs.ev rfl)) rfl fun ac hs => ?_
  refine s_end ?_
  replace hs := hs.sub (F' := [(0, _), (2, _)]) ⟨rfl, rfl, trivial⟩
  refine then_n ?_
  refine wp_ret ?_
  refine then_r ?_
  refine s_ret hs rfl (.tmp (hs.tmp rfl) .nil) rfl ⟨_, rfl, hs.fr, ?_⟩
  rfl

-- fingerpostlaw04.ShaParts
set_option maxHeartbeats 4000000 in
theorem law_ShaParts (ps : List (Value × List UInt8)) (pv : Value) (w : World) (hq : RdP w pv ps) : Ctr Try.prog 8 [pv] w (fun _ => False) (fun v _ => v = .bool true) := by
  have hpl := hq.1.le
  obtain ⟨pad_, pcap, rfl, hpc, hpm⟩ := hq.sl
  refine fn_start (N := 81) Try.func8 rfl rfl rfl fun ac hk => ?_
  have hs := St.start hk w
  refine wp_seq ?_
  refine wp_reg ?_
  refine s_q hs (c_assign (hs.ev rfl)) rfl fun ac hs => ?_
  refine s_end ?_
  refine then_n ?_
  refine wp_seq ?_
  refine wp_reg ?_
  refine s_call hs fu48 .nil (sha_New _) rfl fun ac ww v10 hf hp hs => ?_
  obtain ⟨g, rfl, hh⟩ := hp
  replace hs := hs _ (Has.grp' hh)
  refine s_q hs (c_assign (hs.ev rfl)) rfl fun ac hs => ?_
  refine s_end ?_
  replace hs := hs.sub (F' := [(0, _), (2, _), (3, _)]) ⟨rfl, rfl, rfl, trivial⟩
  refine then_n ?_
  refine wp_seq ?_
  refine wp_reg ?_
  refine s_q hs (c_assign (hs.ev rfl)) rfl fun ac hs => ?_
  refine s_end ?_
  replace hs := hs.nilrow 5 1
  refine then_n ?_
  refine wp_seq ?_
  refine wp_seq ?_
  refine wp_reg ?_
  refine s_q hs (c_move (hs.ev rfl)) rfl fun ac hs => ?_
  refine s_q hs (c_lenS un30 (hs.ev rfl)) rfl fun ac hs => ?_
  refine s_q hs (c_move (hs.ev rfl)) rfl fun ac hs => ?_
  refine s_end ?_
  replace hs := hs.sub (F' := [(2, _), (3, _), (4, _), (11, _), (12, _), (13, _)]) ⟨rfl, rfl, rfl, rfl, rfl, rfl, trivial⟩
  refine then_n ?_
  refine wp_block ?_
  refine s_loop hs (X := Nat × Value × Value) (fun x => [(4, x.2.1), (13, I x.1)]) [(3, _), (11, _), (12, _)] (fun x => [.row x.2.1 (flat (ps.take x.1)).length ((flat (ps.take x.1)).map B) 5 1, .grp (hash g x.2.2 (flat (ps.take x.1)))]) (fun n x => x.1 ≤ ps.length ∧ n = ps.length - x.1 ∧ x.1 ≤ 20 ∧ (flat (ps.take x.1)).length ≤ 500 * x.1) (_) ((0, _, _)) (⟨Nat.zero_le _, rfl, by decide, by simp [flat]⟩) ⟨rfl, rfl, rfl, rfl, rfl, trivial⟩ rfl ?_
  rintro n ⟨k, av, rv⟩ ac ww hok hs
  simp only [List.cons_append, List.nil_append] at hs
  obtain ⟨hk, rfl, hk20, hfl⟩ := hok
  simp only at hk hk20 hfl hs
  refine wp_seq ?_
  refine wp_reg ?_
  refine s_q hs (c_lssI (hs.ev rfl) (hs.ev rfl)) rfl fun ac hs => ?_
  refine s_end ?_
  refine then_n ?_
  refine wp_seq ?_
  refine s_cond hs rfl (fun hc => ?_) (fun hc => ?_)
  · try simp only [decide_eq_true_eq, decide_eq_false_iff_not, Bool.not_eq_true', Bool.not_eq_false', Bool.and_eq_true, Bool.or_eq_true, Bool.or_eq_false_iff] at hc
    have hips : k < ps.length := by omega
    obtain ⟨pb, po, pT, pf, pall, rfl, hpb, hps⟩ := hq.at' (by omega)
    have hpl2 := (hq.get hips).le
    refine wp_skip ?_
    refine then_n ?_
    refine wp_seq ?_
    refine wp_block ?_
    refine wp_seq ?_
    refine wp_reg ?_
    refine s_q hs (c_move (hs.ev rfl)) rfl fun ac hs => ?_
    refine s_q hs (c_idxS (j := k) un30 ty34 (hs.ev rfl) (hs.ev rfl) (by omega) (by omega)) rfl fun ac hs => ?_
    refine s_q hs (c_loadS un34 rfl (hs.ev rfl) (hs.old hpb id) (seg_get (.nilIface, []) hps (by omega))) rfl fun ac hs => ?_
    refine s_q hs (c_assign (hs.ev rfl)) rfl fun ac hs => ?_
    refine s_q hs (c_assign (hs.ev rfl)) rfl fun ac hs => ?_
    refine s_end ?_
    refine then_n ?_
    refine wp_seq ?_
    refine wp_seq ?_
    refine wp_reg ?_
    refine s_q hs (c_move (hs.ev rfl)) rfl fun ac hs => ?_
    refine s_q hs (c_geqI (hs.ev rfl) (hs.ev rfl)) rfl fun ac hs => ?_
    refine s_q hs (c_move (hs.ev rfl)) rfl fun ac hs => ?_
    refine s_g hs rfl rfl (fun hg => c_move (hs.ev rfl)) rfl fun ac hs => ?_
    refine s_g hs rfl rfl (fun hg => c_lenR un34 (gev (hs.ev rfl) hg) ((hq.get hips).fr0 hs.fr)) rfl fun ac hs => ?_
    refine s_g hs rfl rfl (fun hg => c_gtrI (gev (hs.ev rfl) hg) (hs.ev rfl)) rfl fun ac hs => ?_
    refine s_q hs (c_or (hs.ev rfl) (hs.ev rfl)) rfl fun ac hs => ?_
    refine s_end ?_
    refine then_n ?_
    refine s_cond hs rfl (fun hc => ?_) (fun hc => ?_)
    · skip
      refine wp_exit ?_
      refine then_e ?_
      refine blk_miss rfl ?_
      refine then_e ?_
      refine then_e ?_
      refine blk_hit ?_
      refine then_n ?_
      refine wp_seq ?_
      refine wp_reg ?_
      refine s_q hs (c_assign (hs.ev rfl)) rfl fun ac hs => ?_
      refine s_end ?_
      replace hs := hs.sub (F' := [(4, _), (9, _)]) ⟨rfl, rfl, trivial⟩
      refine then_n ?_
      refine wp_seq ?_
      refine wp_reg ?_
      refine s_q hs (c_move (hs.ev rfl)) rfl fun ac hs => ?_
      refine s_q hs (c_move (hs.ev rfl)) rfl fun ac hs => ?_
      refine s_call hs fu49 (.cons (hs.ev rfl) (.cons (hs.ev rfl) .nil)) (sha_WriteNil _ _) rfl fun ac ww v62 hf hp hs => ?_
      replace hs := hs [] (.nil _ _)
      refine s_end ?_
      replace hs := hs.sub (F' := [(9, _)]) ⟨rfl, trivial⟩
      refine then_n ?_
      refine wp_seq ?_
      refine wp_reg ?_
      refine s_call hs fu43 .nil (law04_awake _) rfl fun ac ww v63 hf hp hs => ?_
      obtain rfl := hp
      replace hs := hs [] (.nil _ _)
      refine s_q hs (c_move (hs.ev rfl)) rfl fun ac hs => ?_
      refine s_yes hs rfl rfl ?_
      refine s_call hs fu48 .nil (sha_New _) rfl fun ac ww v65 hf hp hs => ?_
      obtain ⟨g2, rfl, hh2⟩ := hp
      replace hs := hs _ (Has.grp' hh2)
      refine s_yes hs rfl rfl ?_
      refine s_call hs fu50 (.cons (hs.ev rfl) .nil) (sha_HSum [] g2 (.slice none 0 0) (by simp) _ (hash_get (hs.get (i := 0) rfl)).1 (hash_get (hs.get (i := 0) rfl)).2) rfl fun ac ww v66 hf hp hs => ?_
      obtain rfl := hp
      replace hs := hs [] (.nil _ _)
      refine s_yes hs rfl rfl ?_
      refine s_call hs fu45 (.cons (hs.ev rfl) .nil) (ref04_Sum [] (.slice none 0 0) (by simp) _ (RdB.nil _)) rfl fun ac ww v67 hf hp hs => ?_
      obtain rfl := hp
      replace hs := hs [] (.nil _ _)
      refine s_yes hs rfl rfl ?_
      refine s_q hs (c_tt (c_eqlAB un41 ty5 eg41 (hs.ev rfl) (hs.ev rfl) (sum_length _) (sum_length _)) (by simp)) rfl fun ac hs => ?_
      refine s_q hs (c_pick (hs.ev rfl) (hs.ev rfl) (hs.ev rfl)) rfl fun ac hs => ?_
      refine s_q hs (c_move (hs.ev rfl)) rfl fun ac hs => ?_
      refine s_yes hs rfl rfl ?_
      refine s_q hs (c_move (hs.ev rfl)) rfl fun ac hs => ?_
      refine s_yes hs rfl rfl ?_
      refine s_call hs fu50 (.cons (hs.ev rfl) .nil) (sha_HSumNil _) rfl fun ac ww v72 hf hp hs => ?_
      obtain rfl := hp
      replace hs := hs [] (.nil _ _)
      refine s_yes hs rfl rfl ?_
      refine s_q hs (c_buildA ty41 un41 ty5 (zc := (List.replicate 32 (0 : UInt8)).map B) (vs := []) .nil (by simp) (by simp [flatCells]) rfl) rfl fun ac hs => ?_
      refine s_yes hs rfl rfl ?_
      refine s_q hs (c_tt (c_eqlAB un41 ty5 eg41 (hs.ev rfl) (hs.ev rfl) (by simp) (by simp)) (by simp)) rfl fun ac hs => ?_
      refine s_q hs (c_pick (hs.ev rfl) (hs.ev rfl) (hs.ev rfl)) rfl fun ac hs => ?_
      refine s_q hs (c_move (hs.ev rfl)) rfl fun ac hs => ?_
      refine s_yes hs rfl rfl ?_
      refine s_q hs (c_move (hs.ev rfl)) rfl fun ac hs => ?_
      refine s_yes hs rfl rfl ?_
      refine s_call hs fu51 (.cons (hs.ev rfl) .nil) (sha_HBlocksNil _) rfl fun ac ww v78 hf hp hs => ?_
      obtain rfl := hp
      replace hs := hs [] (.nil _ _)
      refine s_yes hs rfl rfl ?_
      refine s_q hs (c_tt (c_eqlI (hs.ev rfl) (hs.ev rfl)) (by simp)) rfl fun ac hs => ?_
      refine s_q hs (c_pick (hs.ev rfl) (hs.ev rfl) (hs.ev rfl)) rfl fun ac hs => ?_
      refine s_q hs (c_assign (hs.ev rfl)) rfl fun ac hs => ?_
      refine s_end ?_
      replace hs := hs.sub (F' := [(2, _)]) ⟨rfl, trivial⟩
      refine then_n ?_
      refine wp_ret ?_
      refine s_ret hs rfl (.tmp (hs.tmp rfl) .nil) rfl ⟨_, rfl, hs.fr, ?_⟩
      rfl
    · skip
      simp only [Bool.or_eq_false_iff, decide_eq_false_iff_not] at hc
      have hk2 : k < 20 := by omega
      have hp5 : (ps.getD k (.nilIface, [])).2.length ≤ 500 := by omega
      refine wp_skip ?_
      refine then_n ?_
      refine wp_seq ?_
      refine wp_reg ?_
      refine s_bslice hs un34 ty5 .nil rfl (by simp [Value.cells]) (by decide) rfl rfl fun ac ww g25 hs => ?_
      refine s_q hs (c_move (hs.ev rfl)) rfl fun ac hs => ?_
      replace hs := hs.segrow (i := 0) (n := 0) (sz := 1) rfl rfl (by decide)
      refine s_appB (i := 0) (l := []) hs un34 ty5 rfl rfl rfl ((hq.get hips).fr0 hs.fr) (by rw [List.length_nil]; omega) rfl fun ac ww v27 hf hnil hs => ?_
      rw [List.nil_append] at hs
      refine s_q hs (c_assign (hs.ev rfl)) rfl fun ac hs => ?_
      refine s_end ?_
      refine then_n ?_
      refine wp_seq ?_
      refine wp_reg ?_
      refine s_q hs (c_move (hs.ev rfl)) rfl fun ac hs => ?_
      refine s_q hs (c_move (hs.ev rfl)) rfl fun ac hs => ?_
      refine s_callM (i := 2) hs fu49 (.cons (hs.ev rfl) (.cons (hs.ev rfl) .nil)) rfl (sha_Write (flat (ps.take k)) (ps.getD k (.nilIface, [])).2 g rv _ (by omega) _ (hs.get (i := 2) rfl) (RdB.row (hs.get (i := 0) rfl)) (fun _ => hs.apart_of (i := 0) (j := 2) rfl rfl (by decide))) rfl fun ac ww v30 hf hp hs => ?_
      obtain ⟨rv2, h1, h2⟩ := hp
      replace hs := hs (Ent.grp (hash g rv2 (flat (ps.take k) ++ (ps.getD k (.nilIface, [])).2))) h1 (fun k2 hk2 => ⟨h2 k2 hk2, grp_lt h1 k2 hk2⟩)
      refine s_end ?_
      replace hs := hs.sub (F' := [(3, _), (4, _), (5, _), (6, _), (7, _), (11, _), (12, _), (13, _), (14, _), (15, _), (16, _), (17, _), (18, _), (19, _), (20, _), (21, _), (22, _), (23, _), (24, _), (25, _), (26, _), (27, _), (28, _), (29, _)]) ⟨rfl, rfl, rfl, rfl, rfl, rfl, rfl, rfl, rfl, rfl, rfl, rfl, rfl, rfl, rfl, rfl, rfl, rfl, rfl, rfl, rfl, rfl, rfl, rfl, trivial⟩
      refine then_n ?_
      refine wp_seq ?_
      refine wp_seq ?_
      refine wp_reg ?_
      refine s_q hs (c_move (hs.ev rfl)) rfl fun ac hs => ?_
      refine s_q hs (c_lenR un34 (hs.ev rfl) (RdB.row (hs.get (i := 0) rfl))) rfl fun ac hs => ?_
      refine s_q hs (c_move (hs.ev rfl)) rfl fun ac hs => ?_
      refine s_end ?_
      refine then_n ?_
      refine wp_block ?_
      refine s_loop hs (X := Nat × List UInt8) (fun x => [(33, I x.1)]) [(3, _), (4, _), (5, _), (6, _), (7, _), (11, _), (12, _), (13, _), (14, _), (15, _), (16, _), (17, _), (18, _), (19, _), (20, _), (21, _), (22, _), (23, _), (24, _), (25, _), (26, _), (27, _), (28, _), (29, _), (31, _), (32, _)] (fun x => [.row v27 (ps.getD k (.nilIface, [])).2.length (x.2.map B) 5 1, _, _]) (fun n x => x.1 ≤ (ps.getD k (.nilIface, [])).2.length ∧ n = (ps.getD k (.nilIface, [])).2.length - x.1 ∧ x.2.length = (ps.getD k (.nilIface, [])).2.length) (_) ((0, (ps.getD k (.nilIface, [])).2)) (⟨Nat.zero_le _, rfl, rfl⟩) ⟨rfl, rfl, rfl, rfl, rfl, rfl, rfl, rfl, rfl, rfl, rfl, rfl, rfl, rfl, rfl, rfl, rfl, rfl, rfl, rfl, rfl, rfl, rfl, rfl, rfl, rfl, rfl, trivial⟩ rfl ?_
      rintro n ⟨j, ls⟩ ac ww hok hs
      simp only [List.cons_append, List.nil_append] at hs
      obtain ⟨hj, rfl, hll⟩ := hok
      simp only at hj hll hs
      refine wp_seq ?_
      refine wp_reg ?_
      refine s_q hs (c_lssI (hs.ev rfl) (hs.ev rfl)) rfl fun ac hs => ?_
      refine s_end ?_
      refine then_n ?_
      refine wp_seq ?_
      refine s_cond hs rfl (fun hc => ?_) (fun hc => ?_)
      · try simp only [decide_eq_true_eq, decide_eq_false_iff_not, Bool.not_eq_true', Bool.not_eq_false', Bool.and_eq_true, Bool.or_eq_true, Bool.or_eq_false_iff] at hc
        have hjl : j < (ps.getD k (.nilIface, [])).2.length := by omega
        obtain ⟨rg, rcap, rcur, rfl, hrg, hrn, hrm, hrs, hrt⟩ := hs.row_at (i := 0) rfl (by omega)
        refine wp_skip ?_
        refine then_n ?_
        refine wp_seq ?_
        refine wp_block ?_
        refine wp_seq ?_
        refine wp_reg ?_
        refine s_q hs (c_move (hs.ev rfl)) rfl fun ac hs => ?_
        refine s_q hs (c_assign (hs.ev rfl)) rfl fun ac hs => ?_
        refine s_end ?_
        refine then_n ?_
        refine wp_reg ?_
        refine s_q hs (c_move (hs.ev rfl)) rfl fun ac hs => ?_
        refine s_q hs (c_move (hs.ev rfl)) rfl fun ac hs => ?_
        refine s_q hs (c_idxS (j := j) un34 ty5 (hs.ev rfl) (hs.ev rfl) (by omega) (by omega)) rfl fun ac hs => ?_
        refine s_q hs (c_loadS un5 rfl (hs.ev rfl) hrg (rowcellB 0 hrt (by omega))) rfl fun ac hs => ?_
        refine s_q hs (c_xorB (hs.ev rfl) (St.ev (v := B 255) hs rfl)) rfl fun ac hs => ?_
        refine s_q hs (c_idxS (j := j) un34 ty5 (hs.ev rfl) (hs.ev rfl) (by omega) (by omega)) rfl fun ac hs => ?_
        refine s_storeRn (i := 0) (j := j) hs ty5 rfl (Eq.trans (b := some (Value.pointer (some ⟨_, 0 + j * 1, none⟩))) rfl (congrArg (fun n : Nat => some (Value.pointer (some ⟨_, n, none⟩))) (by omega))) rfl hll rfl (by omega) fun ww hs => ?_
        refine s_end ?_
        refine blk_n ?_
        refine then_n ?_
        refine wp_reg ?_
        refine s_q hs (c_addI (hs.ev rfl) (hs.ev rfl) (by omega) (by omega)) rfl fun ac hs => ?_
        refine s_q hs (c_move (hs.ev rfl)) rfl fun ac hs => ?_
        refine s_end ?_
        refine then_n ?_
        exact ⟨(ps.getD k (.nilIface, [])).2.length - (j + 1), by (try simp only); omega, (j + 1, ls.set j (ls.getD j 0 ^^^ 255)), ⟨by (try simp only); omega, rfl, by (try simp only); rw [List.length_set]; exact hll⟩, St.next hs ⟨rfl, rfl, rfl, rfl, rfl, rfl, rfl, rfl, rfl, rfl, rfl, rfl, rfl, rfl, rfl, rfl, rfl, rfl, rfl, rfl, rfl, rfl, rfl, rfl, rfl, rfl, rfl, trivial⟩ rfl⟩
      · try simp only [decide_eq_true_eq, decide_eq_false_iff_not, Bool.not_eq_true', Bool.not_eq_false', Bool.and_eq_true, Bool.or_eq_true, Bool.or_eq_false_iff] at hc
        refine wp_exit ?_
        refine then_e ?_
        refine then_e ?_
        refine blk_hit ?_
        refine then_n ?_
        refine wp_seq ?_
        refine wp_reg ?_
        refine s_q hs (c_move (hs.ev rfl)) rfl fun ac hs => ?_
        refine s_q hs (c_move (hs.ev rfl)) rfl fun ac hs => ?_
        refine s_appB (i := 1) hs un34 ty5 rfl rfl rfl ((hq.get hips).fr0 hs.fr) (by omega) rfl fun ac ww v45 hf hnil hs => ?_
        refine s_q hs (c_assign (hs.ev rfl)) rfl fun ac hs => ?_
        refine s_end ?_
        refine then_n ?_
        refine wp_seq ?_
        refine wp_reg ?_
        refine s_q hs (c_move (hs.ev rfl)) rfl fun ac hs => ?_
        refine s_call hs fu50 (.cons (hs.ev rfl) .nil) (sha_HSum (flat (ps.take k) ++ (ps.getD k (.nilIface, [])).2) g rv2 (by rw [List.length_append]; omega) _ (hash_get (hs.get (i := 2) rfl)).1 (hash_get (hs.get (i := 2) rfl)).2) rfl fun ac ww v47 hf hp hs => ?_
        obtain rfl := hp
        replace hs := hs [] (.nil _ _)
        refine s_q hs (c_move (hs.ev rfl)) rfl fun ac hs => ?_
        refine s_call hs fu45 (.cons (hs.ev rfl) .nil) (ref04_Sum (flat (ps.take k) ++ (ps.getD k (.nilIface, [])).2) _ (by rw [List.length_append]; omega) _ (RdB.row (hs.get (i := 1) rfl))) rfl fun ac ww v49 hf hp hs => ?_
        obtain rfl := hp
        replace hs := hs [] (.nil _ _)
        refine s_q hs (c_ff (c_neqAB un41 ty5 eg41 (hs.ev rfl) (hs.ev rfl) (sum_length _) (sum_length _)) (by simp)) rfl fun ac hs => ?_
        refine s_q hs (c_move (hs.ev rfl)) rfl fun ac hs => ?_
        refine s_yes hs rfl rfl ?_
        refine s_q hs (c_move (hs.ev rfl)) rfl fun ac hs => ?_
        refine s_yes hs rfl rfl ?_
        refine s_call hs fu51 (.cons (hs.ev rfl) .nil) (sha_HBlocks (flat (ps.take k) ++ (ps.getD k (.nilIface, [])).2) g rv2 (by rw [List.length_append]; omega) _ (hash_get (hs.get (i := 2) rfl)).1 (hash_get (hs.get (i := 2) rfl)).2) rfl fun ac ww v53 hf hp hs => ?_
        obtain rfl := hp
        replace hs := hs [] (.nil _ _)
        refine s_yes hs rfl rfl ?_
        refine s_q hs (c_move (hs.ev rfl)) rfl fun ac hs => ?_
        refine s_yes hs rfl rfl ?_
        refine s_q hs (c_lenR un34 (hs.ev rfl) (RdB.row (hs.get (i := 1) rfl))) rfl fun ac hs => ?_
        refine s_yes hs rfl rfl ?_
        refine s_call hs fu47 (.cons (hs.ev rfl) .nil) (ref04_Blocks _ (by omega) (by rw [List.length_append]; omega) _) rfl fun ac ww v56 hf hp hs => ?_
        obtain rfl := hp
        replace hs := hs [] (.nil _ _)
        refine s_yes hs rfl rfl ?_
        refine s_q hs (c_ff (c_neqI (hs.ev rfl) (hs.ev rfl)) (by rw [blI_nat]; simp)) rfl fun ac hs => ?_
        refine s_q hs (c_pick (hs.ev rfl) (hs.ev rfl) (hs.ev rfl)) rfl fun ac hs => ?_
        refine s_end ?_
        refine then_n ?_
        refine wp_cond_false (hs.ev rfl) ?_
        refine wp_skip ?_
        refine blk_n ?_
        refine then_n ?_
        refine wp_reg ?_
        refine s_q hs (c_addI (hs.ev rfl) (hs.ev rfl) (by omega) (by omega)) rfl fun ac hs => ?_
        refine s_q hs (c_move (hs.ev rfl)) rfl fun ac hs => ?_
        refine s_end ?_
        refine then_n ?_
        replace hs := hs.pick (L' := [_, _]) (.cons _ (.refl _))
        exact ⟨ps.length - (k + 1), by (try simp only); omega, (k + 1, _, rv2), ⟨by (try simp only); omega, rfl, by (try simp only); omega, by (try simp only); rw [flat_take ps k hips, List.length_append]; omega⟩, St.next hs ⟨rfl, rfl, rfl, rfl, rfl, trivial⟩ (by rw [flat_take ps k hips])⟩
  · try simp only [decide_eq_true_eq, decide_eq_false_iff_not, Bool.not_eq_true', Bool.not_eq_false', Bool.and_eq_true, Bool.or_eq_true, Bool.or_eq_false_iff] at hc
    skip
    refine wp_exit ?_
    refine then_e ?_
    refine then_e ?_
    refine blk_hit ?_
    refine then_n ?_
    refine wp_seq ?_
    refine wp_reg ?_
    refine s_q hs (c_assign (hs.ev rfl)) rfl fun ac hs => ?_
    refine s_end ?_
    replace hs := hs.sub (F' := [(4, _), (9, _)]) ⟨rfl, rfl, trivial⟩
    refine then_n ?_
    refine wp_seq ?_
    refine wp_reg ?_
    refine s_q hs (c_move (hs.ev rfl)) rfl fun ac hs => ?_
    refine s_q hs (c_move (hs.ev rfl)) rfl fun ac hs => ?_
    refine s_call hs fu49 (.cons (hs.ev rfl) (.cons (hs.ev rfl) .nil)) (sha_WriteNil _ _) rfl fun ac ww v62 hf hp hs => ?_
    replace hs := hs [] (.nil _ _)
    refine s_end ?_
    replace hs := hs.sub (F' := [(9, _)]) ⟨rfl, trivial⟩
    refine then_n ?_
    refine wp_seq ?_
    refine wp_reg ?_
    refine s_call hs fu43 .nil (law04_awake _) rfl fun ac ww v63 hf hp hs => ?_
    obtain rfl := hp
    replace hs := hs [] (.nil _ _)
    refine s_q hs (c_move (hs.ev rfl)) rfl fun ac hs => ?_
    refine s_yes hs rfl rfl ?_
    refine s_call hs fu48 .nil (sha_New _) rfl fun ac ww v65 hf hp hs => ?_
    obtain ⟨g2, rfl, hh2⟩ := hp
    replace hs := hs _ (Has.grp' hh2)
    refine s_yes hs rfl rfl ?_
    refine s_call hs fu50 (.cons (hs.ev rfl) .nil) (sha_HSum [] g2 (.slice none 0 0) (by simp) _ (hash_get (hs.get (i := 0) rfl)).1 (hash_get (hs.get (i := 0) rfl)).2) rfl fun ac ww v66 hf hp hs => ?_
    obtain rfl := hp
    replace hs := hs [] (.nil _ _)
    refine s_yes hs rfl rfl ?_
    refine s_call hs fu45 (.cons (hs.ev rfl) .nil) (ref04_Sum [] (.slice none 0 0) (by simp) _ (RdB.nil _)) rfl fun ac ww v67 hf hp hs => ?_
    obtain rfl := hp
    replace hs := hs [] (.nil _ _)
    refine s_yes hs rfl rfl ?_
    refine s_q hs (c_tt (c_eqlAB un41 ty5 eg41 (hs.ev rfl) (hs.ev rfl) (sum_length _) (sum_length _)) (by simp)) rfl fun ac hs => ?_
    refine s_q hs (c_pick (hs.ev rfl) (hs.ev rfl) (hs.ev rfl)) rfl fun ac hs => ?_
    refine s_q hs (c_move (hs.ev rfl)) rfl fun ac hs => ?_
    refine s_yes hs rfl rfl ?_
    refine s_q hs (c_move (hs.ev rfl)) rfl fun ac hs => ?_
    refine s_yes hs rfl rfl ?_
    refine s_call hs fu50 (.cons (hs.ev rfl) .nil) (sha_HSumNil _) rfl fun ac ww v72 hf hp hs => ?_
    obtain rfl := hp
    replace hs := hs [] (.nil _ _)
    refine s_yes hs rfl rfl ?_
    refine s_q hs (c_buildA ty41 un41 ty5 (zc := (List.replicate 32 (0 : UInt8)).map B) (vs := []) .nil (by simp) (by simp [flatCells]) rfl) rfl fun ac hs => ?_
    refine s_yes hs rfl rfl ?_
    refine s_q hs (c_tt (c_eqlAB un41 ty5 eg41 (hs.ev rfl) (hs.ev rfl) (by simp) (by simp)) (by simp)) rfl fun ac hs => ?_
    refine s_q hs (c_pick (hs.ev rfl) (hs.ev rfl) (hs.ev rfl)) rfl fun ac hs => ?_
    refine s_q hs (c_move (hs.ev rfl)) rfl fun ac hs => ?_
    refine s_yes hs rfl rfl ?_
    refine s_q hs (c_move (hs.ev rfl)) rfl fun ac hs => ?_
    refine s_yes hs rfl rfl ?_
    refine s_call hs fu51 (.cons (hs.ev rfl) .nil) (sha_HBlocksNil _) rfl fun ac ww v78 hf hp hs => ?_
    obtain rfl := hp
    replace hs := hs [] (.nil _ _)
    refine s_yes hs rfl rfl ?_
    refine s_q hs (c_tt (c_eqlI (hs.ev rfl) (hs.ev rfl)) (by simp)) rfl fun ac hs => ?_
    refine s_q hs (c_pick (hs.ev rfl) (hs.ev rfl) (hs.ev rfl)) rfl fun ac hs => ?_
    refine s_q hs (c_assign (hs.ev rfl)) rfl fun ac hs => ?_
    refine s_end ?_
    replace hs := hs.sub (F' := [(2, _)]) ⟨rfl, trivial⟩
    refine then_n ?_
    refine wp_ret ?_
    refine s_ret hs rfl (.tmp (hs.tmp rfl) .nil) rfl ⟨_, rfl, hs.fr, ?_⟩
    rfl

end Go.Proofs.Ytmgnnclkjkbmdaa
end
