/- A sum under way. -/
import Derived.Test.YtmgnnclkjkbmdaaFacts2
import Derived.Test.YtmgnnclkjkbmdaaShaA
import Derived.Test.YtmgnnclkjkbmdaaShaSpec2
import Derived.Test.YtmgnnclkjkbmdaaFw18
set_option linter.unusedSimpArgs false
set_option linter.unusedVariables false
set_option maxRecDepth 100000
namespace Go.Proofs.Ytmgnnclkjkbmdaa
open Go Go.Fw

open Sha
/-- The cells of a sum under way, of the bytes a. -/
def ws (r : R) (rv : Value) (n : UInt64) (b : Int) : List Value := r.list.map U ++ [rv, V n, I b]
@[simp] theorem ws_length (r : R) (rv : Value) (n : UInt64) (b : Int) : (ws r rv n b).length = 11 := rfl
def hcells (a : List UInt8) (rv : Value) : List Value := ws (foldB first a (a.length / 64)) rv (UInt64.ofNat a.length) ((a.length / 64 : Nat) : Int)
def hash (g : Nat) (rv : Value) (a : List UInt8) : List Ent := [.seg g (hcells a rv) 213, .row rv (rest a).length ((rest a).map B) 5 1]
@[simp] theorem hcells_length (a : List UInt8) (rv : Value) : (hcells a rv).length = 11 := by simp [hcells, ws]

-- sha.New
set_option maxHeartbeats 4000000 in
theorem sha_New  (w : World)  : Ctr Try.prog 48 [] w (fun _ => False) (fun v w' => ∃ g, v = .pointer (some ⟨g, 0, none⟩) ∧ Has w.heap.size w' (hash g (.slice none 0 0) [])) := by
  refine fn_start (N := 4) Try.func48 rfl rfl rfl fun ac hk => ?_
  have hs := St.start hk w
  refine wp_seq ?_
  refine wp_reg ?_
  refine s_q hs (c_assign (hs.ev rfl)) rfl fun ac hs => ?_
  refine s_end ?_
  refine then_n ?_
  refine wp_seq ?_
  refine wp_reg ?_
  refine s_q hs (c_buildA (zc := first.list.map U) ty205 un205 ty27 (.cons (St.ev (v := U 1779033703) hs rfl) (.cons (St.ev (v := U 3144134277) hs rfl) (.cons (St.ev (v := U 1013904242) hs rfl) (.cons (St.ev (v := U 2773480762) hs rfl) (.cons (St.ev (v := U 1359893119) hs rfl) (.cons (St.ev (v := U 2600822924) hs rfl) (.cons (St.ev (v := U 528734635) hs rfl) (.cons (St.ev (v := U 1541459225) hs rfl) .nil)))))))) (by simp [Value.cells]) (by simp [flatCells, Value.cells]) rfl) rfl fun ac hs => ?_
  refine s_q hs (c_buildS (zc := hcells [] (.slice none 0 0)) ty213 bp213 (.cons (hs.ev rfl) .nil) ⟨rfl, trivial⟩ (by simp [flatCells, Value.cells]) rfl) rfl fun ac hs => ?_
  refine s_box hs rfl rfl rfl fun ac ww g3 hs => ?_
  refine s_q hs (c_assign (hs.ev rfl)) rfl fun ac hs => ?_
  refine s_end ?_
  replace hs := hs.sub (F' := [(0, _)]) ⟨rfl, trivial⟩
  refine then_n ?_
  refine wp_ret ?_
  replace hs := (hs.nilrow 5 1).perm (L' := hash g3 (.slice none 0 0) []) (by unfold hash; exact List.Perm.swap _ _ _)
  refine s_ret hs rfl (.tmp (hs.tmp rfl) .nil) rfl ⟨_, rfl, hs.fr, ?_⟩
  exact ⟨g3, rfl, hs.made⟩

theorem row_congr {v : Value} {l m : List UInt8} (h : l = m) {T : TypeId} : Ent.row v l.length (l.map B) T 1 = Ent.row v m.length (m.map B) T 1 := by rw [h]
theorem w_start {g : Nat} {v : Value} {a p : List UInt8} (h : a.length + p.length ≤ 140737488355328) {b : Int} : [Ent.seg g (ws (foldB first a (a.length / 64)) v (UInt64.ofNat a.length + i64 (p.length : Int)) b) 213, .row v (rest a ++ p).length ((rest a ++ p).map B) 5 1] =
    [Ent.seg g (ws (foldB first (a ++ p) (a.length / 64)) v (UInt64.ofNat (a ++ p).length) b) 213, .row v ((a ++ p).drop (64 * (a.length / 64))).length (((a ++ p).drop (64 * (a.length / 64))).map B) 5 1] := by
  rw [u64_app a p (by omega), foldB_app _ _ _ _ (by omega), List.drop_append_of_le_length (by omega), rest]
theorem w_next {g : Nat} {ad : Option Addr} {cap : Nat} {l : List UInt8} {k : Nat} : [Ent.seg g (ws (comp (foldB first l k) (l.drop (64 * k))) (.slice ad ([] ++ (l.drop (64 * k)).drop 64).length cap) (UInt64.ofNat l.length) ((k : Int) + 1)) 213, .row (.slice ad ([] ++ (l.drop (64 * k)).drop 64).length cap) ([] ++ (l.drop (64 * k)).drop 64).length (([] ++ (l.drop (64 * k)).drop 64).map B) 5 1] =
    [Ent.seg g (ws (foldB first l (k + 1)) (.slice ad ([] ++ (l.drop (64 * k)).drop 64).length cap) (UInt64.ofNat l.length) ((k + 1 : Nat) : Int)) 213, .row (.slice ad ([] ++ (l.drop (64 * k)).drop 64).length cap) (l.drop (64 * (k + 1))).length ((l.drop (64 * (k + 1))).map B) 5 1] := by
  rw [show l.drop (64 * (k + 1)) = [] ++ (l.drop (64 * k)).drop 64 from by rw [List.nil_append, List.drop_drop]; rfl]
  rfl
theorem w_end {g : Nat} {v : Value} {l : List UInt8} {k : Nat} (h : k = l.length / 64) : [Ent.seg g (ws (foldB first l k) v (UInt64.ofNat l.length) (k : Int)) 213, .row v (l.drop (64 * k)).length ((l.drop (64 * k)).map B) 5 1] = hash g v l := by
  subst h; rfl

theorem hash_get {w : World} {g : Nat} {rv : Value} {a : List UInt8} (h : Has 0 w (hash g rv a)) : w.heap[g]? = some (.cells (hcells a rv).toArray 213 (0, 0)) ∧ RdB w rv (rest a) :=
  ⟨h.holds _ (by simp [hash] : Ent.seg g (hcells a rv) 213 ∈ hash g rv a), RdB.row (h.holds _ (by simp [hash] : Ent.row rv (rest a).length ((rest a).map B) 5 1 ∈ hash g rv a))⟩

-- sha.Hash).Write
set_option maxHeartbeats 4000000 in
theorem sha_Write (a p : List UInt8) (g : Nat) (rv pv : Value) (hle : a.length + p.length ≤ 140737488355328) (w : World) (hh : Has 0 w (hash g rv a)) (hq : RdB w pv p) (hpM : p ≠ [] → ∀ k, pv.ownBlock = some k → ¬ (Ent.grp (hash g rv a)).keys k) : Ctr Try.prog 49 [.pointer (some ⟨g, 0, none⟩), pv] w (Ent.grp (hash g rv a)).keys (fun _ w' => ∃ rv', Has 0 w' (hash g rv' (a ++ p)) ∧ ∀ k, (Ent.grp (hash g rv' (a ++ p))).keys k → (Ent.grp (hash g rv a)).keys k ∨ w.heap.size ≤ k) := by
  obtain ⟨pad, pcap, rfl, hpc, hpm⟩ := Rd.sl hq
  refine fn_start (N := 60) Try.func49 rfl rfl rfl fun ac hk => ?_
  have hs := St.startG hk hh
  refine wp_seq ?_
  refine wp_seq ?_
  refine wp_reg ?_
  refine s_q hs (c_move (hs.ev rfl)) rfl fun ac hs => ?_
  refine s_q hs (c_eqlNil un48 (hs.ev rfl) (hs.ev rfl)) rfl fun ac hs => ?_
  refine s_end ?_
  replace hs := hs.sub (F' := [(0, _), (1, _), (5, _)]) ⟨rfl, rfl, rfl, trivial⟩
  refine then_n ?_
  refine wp_cond_false (hs.ev rfl) ?_
  refine wp_skip ?_
  refine then_n ?_
  refine wp_seq ?_
  refine wp_reg ?_
  refine s_q hs (c_move (hs.ev rfl)) rfl fun ac hs => ?_
  refine s_q hs (c_nil (hs.ev rfl)) rfl fun ac hs => ?_
  refine s_q hs (c_fld fl213_2 (hs.ev rfl)) rfl fun ac hs => ?_
  refine s_q hs (c_loadS un210 rfl (hs.ev rfl) (hs.seg (i := 0) rfl) rfl) rfl fun ac hs => ?_
  refine s_q hs (c_move (hs.ev rfl)) rfl fun ac hs => ?_
  refine s_q hs (c_lenS un34 (hs.ev rfl)) rfl fun ac hs => ?_
  refine s_q hs (c_cvIV un3 un210 (hs.ev rfl)) rfl fun ac hs => ?_
  refine s_q hs (c_addV (hs.ev rfl) (hs.ev rfl)) rfl fun ac hs => ?_
  refine s_q hs (c_nil (hs.ev rfl)) rfl fun ac hs => ?_
  refine s_q hs (c_fld fl213_2 (hs.ev rfl)) rfl fun ac hs => ?_
  refine s_store (i := 0) hs ty210 rfl rfl rfl rfl rfl rfl (by simp) (show _ = ws (foldB first a (a.length / 64)) (rv) (UInt64.ofNat a.length + i64 (p.length : Int)) (((a.length / 64 : Nat) : Int)) from rfl) fun ww hs => ?_
  refine s_end ?_
  replace hs := hs.sub (F' := [(0, _), (1, _)]) ⟨rfl, rfl, trivial⟩
  refine then_n ?_
  refine wp_seq ?_
  refine wp_reg ?_
  refine s_q hs (c_move (hs.ev rfl)) rfl fun ac hs => ?_
  refine s_q hs (c_move (hs.ev rfl)) rfl fun ac hs => ?_
  refine s_q hs (c_nil (hs.ev rfl)) rfl fun ac hs => ?_
  refine s_q hs (c_fld fl213_1 (hs.ev rfl)) rfl fun ac hs => ?_
  refine s_q hs (c_loadS un34 rfl (hs.ev rfl) (hs.seg (i := 0) rfl) rfl) rfl fun ac hs => ?_
  refine s_q hs (c_move (hs.ev rfl)) rfl fun ac hs => ?_
  refine s_appB (i := 1) hs un34 ty5 rfl rfl rfl (hq.fr' hs.fr hpM) (by rw [rest_length]; omega) rfl fun ac ww v22 hf hnil hs => ?_
  obtain ⟨ad22, cap22, rfl, _, _⟩ := Rd.sl (RdB.row (hs.get (i := 1) rfl))
  refine s_q hs (c_nil (hs.ev rfl)) rfl fun ac hs => ?_
  refine s_q hs (c_fld fl213_1 (hs.ev rfl)) rfl fun ac hs => ?_
  refine s_store (i := 0) hs ty34 rfl rfl rfl rfl rfl rfl (by simp) (show _ = ws (foldB first a (a.length / 64)) (_) (UInt64.ofNat a.length + i64 (p.length : Int)) (((a.length / 64 : Nat) : Int)) from rfl) fun ww hs => ?_
  refine s_end ?_
  replace hs := hs.sub (F' := [(0, _)]) ⟨rfl, trivial⟩
  refine then_n ?_
  refine wp_block ?_
  refine s_loop hs (X := Nat × Value) (fun _ => []) [(0, _)] (fun x => [.seg g (ws (foldB first (a ++ p) x.1) x.2 (UInt64.ofNat (a ++ p).length) (x.1 : Int)) 213, .row x.2 ((a ++ p).drop (64 * x.1)).length (((a ++ p).drop (64 * x.1)).map B) 5 1]) (fun n x => 64 * x.1 ≤ (a ++ p).length ∧ n = (a ++ p).length / 64 - x.1) (_) ((a.length / 64, _)) (⟨by simp only [List.length_append]; omega, rfl⟩) ⟨rfl, trivial⟩ (w_start hle) ?_
  rintro n ⟨k, rv⟩ ac ww hok hs
  simp only [List.cons_append, List.nil_append] at hs
  obtain ⟨hk, rfl⟩ := hok
  simp only at hk hs
  obtain ⟨rad, rcap, rfl, hrc, hrm⟩ := Rd.sl (RdB.row (hs.get (i := 1) rfl))
  have hll : (a ++ p).length ≤ 140737488355328 := by simp only [List.length_append]; omega
  have hdl : ((a ++ p).drop (64 * k)).length = (a ++ p).length - 64 * k := List.length_drop
  refine wp_seq ?_
  refine wp_seq ?_
  refine wp_reg ?_
  refine s_q hs (c_move (hs.ev rfl)) rfl fun ac hs => ?_
  refine s_q hs (c_nil (hs.ev rfl)) rfl fun ac hs => ?_
  refine s_q hs (c_fld fl213_1 (hs.ev rfl)) rfl fun ac hs => ?_
  refine s_q hs (c_loadS un34 rfl (hs.ev rfl) (hs.seg (i := 0) rfl) rfl) rfl fun ac hs => ?_
  refine s_q hs (c_lenS un34 (hs.ev rfl)) rfl fun ac hs => ?_
  refine s_q hs (c_geqI (hs.ev rfl) (hs.ev rfl)) rfl fun ac hs => ?_
  refine s_end ?_
  refine then_n ?_
  refine s_cond hs rfl (fun hc => ?_) (fun hc => ?_)
  · try simp only [decide_eq_true_eq, decide_eq_false_iff_not, Bool.not_eq_true', Bool.not_eq_false', Bool.and_eq_true, Bool.or_eq_true, Bool.or_eq_false_iff] at hc
    refine wp_skip ?_
    refine then_n ?_
    refine wp_block ?_
    refine wp_seq ?_
    refine wp_region_rg pmix 12 (by kernel_rfl) rfl hs ?_
    simp only [List.take_succ_cons, List.take_zero]
    refine rg_q (fun ac ww h => c_move (h.ev rfl)) rfl ?_
    refine rg_q (fun ac ww h => c_move (h.ev rfl)) rfl ?_
    refine rg_q (fun ac ww h => c_nil (h.ev rfl)) rfl ?_
    refine rg_q (fun ac ww h => c_fld fl213_0 (h.ev rfl)) rfl ?_
    refine rg_q (fun ac ww h => c_loadA ty205 rfl (h.ev rfl) (h.blk (hs.seg (i := 0) rfl)) rfl (by simp)) rfl ?_
    refine rg_q (fun ac ww h => c_move (h.ev rfl)) rfl ?_
    refine rg_q (fun ac ww h => c_nil (h.ev rfl)) rfl ?_
    refine rg_q (fun ac ww h => c_fld fl213_1 (h.ev rfl)) rfl ?_
    refine rg_q (fun ac ww h => c_loadS un34 rfl (h.ev rfl) (h.blk (hs.seg (i := 0) rfl)) rfl) rfl ?_
    refine rg_call fu157 (fun ac ww h => (.cons (h.ev rfl) (.cons (h.ev rfl) .nil))) (fun ww hf => sha_mix (foldB first (a ++ p) k) ((a ++ p).drop (64 * k)) _ (by omega) ww ((RdB.row (hs.get (i := 1) rfl)).fr0 hf)) rfl ?_
    refine rg_q (fun ac ww h => c_nil (h.ev rfl)) rfl ?_
    refine rg_q (fun ac ww h => c_fld fl213_0 (h.ev rfl)) rfl ?_
    refine rg_nil fun ac ww L' hf hfe hs => ?_
    simp only [List.drop_succ_cons, List.drop_zero]
    obtain rfl : L' = [] := hfe
    replace hs := hs.toL (List.nil_append _)
    refine s_store (i := 0) hs ty205 rfl rfl rfl (show _ = (comp (foldB first (a ++ p) k) ((a ++ p).drop (64 * k))).list.map U from rfl) (by simp) (all_map_U _) (by simp) (show _ = ws (comp (foldB first (a ++ p) k) ((a ++ p).drop (64 * k))) (_) (UInt64.ofNat (a ++ p).length) ((k : Int)) from rfl) fun ww hs => ?_
    refine s_end ?_
    refine then_n ?_
    refine wp_seq ?_
    refine wp_reg ?_
    refine s_q hs (c_move (hs.ev rfl)) rfl fun ac hs => ?_
    refine s_bslice hs un34 ty5 .nil rfl (by simp [Value.cells]) (by decide) rfl rfl fun ac ww g44 hs => ?_
    refine s_q hs (c_move (hs.ev rfl)) rfl fun ac hs => ?_
    refine s_q hs (c_nil (hs.ev rfl)) rfl fun ac hs => ?_
    refine s_q hs (c_fld fl213_1 (hs.ev rfl)) rfl fun ac hs => ?_
    refine s_q hs (c_loadS un34 rfl (hs.ev rfl) (hs.seg (i := 1) rfl) rfl) rfl fun ac hs => ?_
    refine s_q hs (c_sliceL (i := 64) un34 ty5 (hs.ev rfl) (hs.ev rfl) (by omega) (by omega)) rfl fun ac hs => ?_
    replace hs := hs.segrow (i := 0) (n := 0) (sz := 1) rfl rfl (by decide)
    refine s_appB (i := 0) (l := []) hs un34 ty5 rfl rfl rfl (RdB.cut (i := 64) (RdB.row (hs.get (i := 2) rfl)) (by omega)) (by simp; omega) rfl fun ac ww v50 hf hnil hs => ?_
    obtain ⟨ad50, cap50, rfl, _, _⟩ := Rd.sl (RdB.row (hs.get (i := 0) rfl))
    refine s_q hs (c_nil (hs.ev rfl)) rfl fun ac hs => ?_
    refine s_q hs (c_fld fl213_1 (hs.ev rfl)) rfl fun ac hs => ?_
    refine s_store (i := 1) hs ty34 rfl rfl rfl rfl rfl rfl (by simp) (show _ = ws (comp (foldB first (a ++ p) k) ((a ++ p).drop (64 * k))) (_) (UInt64.ofNat (a ++ p).length) ((k : Int)) from rfl) fun ww hs => ?_
    refine s_end ?_
    refine then_n ?_
    refine wp_reg ?_
    refine s_q hs (c_move (hs.ev rfl)) rfl fun ac hs => ?_
    refine s_q hs (c_nil (hs.ev rfl)) rfl fun ac hs => ?_
    refine s_q hs (c_fld fl213_3 (hs.ev rfl)) rfl fun ac hs => ?_
    refine s_q hs (c_loadS un3 rfl (hs.ev rfl) (hs.seg (i := 1) rfl) rfl) rfl fun ac hs => ?_
    refine s_q hs (c_addI (hs.ev rfl) (hs.ev rfl) (by omega) (by omega)) rfl fun ac hs => ?_
    refine s_q hs (c_nil (hs.ev rfl)) rfl fun ac hs => ?_
    refine s_q hs (c_fld fl213_3 (hs.ev rfl)) rfl fun ac hs => ?_
    refine s_store (i := 1) hs ty3 rfl rfl rfl rfl rfl rfl (by simp) (show _ = ws (comp (foldB first (a ++ p) k) ((a ++ p).drop (64 * k))) (_) (UInt64.ofNat (a ++ p).length) ((k : Int) + 1) from rfl) fun ww hs => ?_
    refine s_end ?_
    refine blk_n ?_
    refine then_n ?_
    replace hs := (hs.pick (L' := [_, _]) (.cons_cons _ (.cons_cons _ (.cons _ .slnil)))).perm (List.Perm.swap _ _ _)
    exact ⟨(a ++ p).length / 64 - (k + 1), by rw [hdl] at hc; omega, (k + 1, _), ⟨by rw [hdl] at hc; simp only; omega, rfl⟩, St.next hs ⟨rfl, trivial⟩ w_next⟩
  · try simp only [decide_eq_true_eq, decide_eq_false_iff_not, Bool.not_eq_true', Bool.not_eq_false', Bool.and_eq_true, Bool.or_eq_true, Bool.or_eq_false_iff] at hc
    have hkk : k = (a ++ p).length / 64 := by rw [hdl] at hc; omega
    refine wp_exit ?_
    refine then_e ?_
    refine then_e ?_
    refine blk_hit ?_
    refine s_ret_end hs rfl .nil rfl ⟨_, rfl, hs.fr, ?_⟩
    exact ⟨_, (hs.toL (w_end hkk)).grp⟩

end Go.Proofs.Ytmgnnclkjkbmdaa
