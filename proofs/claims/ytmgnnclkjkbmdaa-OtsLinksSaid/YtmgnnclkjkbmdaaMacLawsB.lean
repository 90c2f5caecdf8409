/- Laws of keyed sums, walked: what a seed gives. -/
import Derived.Test.YtmgnnclkjkbmdaaMacLawsA
import Derived.Test.YtmgnnclkjkbmdaaFw21
set_option linter.unusedSimpArgs false
set_option linter.unusedVariables false
set_option maxRecDepth 100000
namespace Go.Proofs.Ytmgnnclkjkbmdaa
open Go Go.Fw

open Sha
-- fingerpostlaw05.MacGives
set_option maxHeartbeats 4000000 in
theorem law_MacGives (seed : List UInt8) (kind : UInt8) (nums : List UInt64) (nv : Value) (hsd : seed.length = 32) (hle : nums.length ≤ 17592186044000) (w : World) (hq : RdV w nv nums) : Ctr Try.prog 21 [.agg (seed.map B).toArray, B kind, nv] w (fun _ => False) (fun v _ => v = .bool true) := by
  refine fn_start (N := 19) Try.func21 rfl rfl rfl fun ac hk => ?_
  have hs := St.start hk w
  refine wp_seq ?_
  refine wp_reg ?_
  refine s_box hs rfl rfl rfl fun ac ww g3 hs => ?_
  refine s_q hs (c_assign (hs.ev rfl)) rfl fun ac hs => ?_
  refine s_end ?_
  replace hs := hs.sub (F' := [(1, _), (2, _), (3, _), (6, _)]) ⟨rfl, rfl, rfl, rfl, trivial⟩
  refine then_n ?_
  refine wp_seq ?_
  refine wp_region_rg pmix 13 (by kernel_rfl) rfl hs ?_
  simp only [List.take_succ_cons, List.take_zero]
  refine rg_call fu77 (fun ac ww h => .nil) (fun ww hf => law05_awake _) rfl ?_
  refine rg_q (fun ac ww h => c_move (h.ev rfl)) rfl ?_
  refine rg_yes rfl rfl (fun ac ww h => c_loadW ty40 rfl (h.ev rfl) (h.blk (hs.seg (i := 0) rfl)) (by rw [List.length_map, hsd])) rfl ?_
  refine rg_yes rfl rfl (fun ac ww h => c_move (h.ev rfl)) rfl ?_
  refine rg_yes rfl rfl (fun ac ww h => c_move (h.ev rfl)) rfl ?_
  refine rg_strip rfl rfl ?_
  refine rg_call fu105 (fun ac ww h => (.cons (h.ev rfl) (.cons (h.ev rfl) (.cons (h.ev rfl) .nil)))) (fun ww hf => mac_Prf seed kind nums _ hsd (by omega) ww (Rd.fr0 (Rd.fr0 hq hs.fr) hf)) rfl ?_
  refine rg_yes rfl rfl (fun ac ww h => c_loadW ty40 rfl (h.ev rfl) (h.blk (hs.seg (i := 0) rfl)) (by rw [List.length_map, hsd])) rfl ?_
  refine rg_yes rfl rfl (fun ac ww h => c_move (h.ev rfl)) rfl ?_
  refine rg_yes rfl rfl (fun ac ww h => c_move (h.ev rfl)) rfl ?_
  refine rg_strip rfl rfl ?_
  refine rg_call fu106 (fun ac ww h => (.cons (h.ev rfl) (.cons (h.ev rfl) (.cons (h.ev rfl) .nil)))) (fun ww hf => ref05_Prf seed kind nums _ hsd (by omega) ww (Rd.fr0 (Rd.fr0 hq hs.fr) hf)) rfl ?_
  refine rg_yes rfl rfl (fun ac ww h => c_tt (c_eqlAB un54 ty5 eg54 (h.ev rfl) (h.ev rfl) (prf_length _ _ _) (prf_length _ _ _)) (by simp)) rfl ?_
  refine rg_q (fun ac ww h => c_pick (h.ev rfl) (h.ev rfl) (h.ev rfl)) rfl ?_
  refine rg_q (fun ac ww h => c_assign (h.ev rfl)) rfl ?_
  refine rg_nil fun ac ww L' hf hfe hs => ?_
  simp only [List.drop_succ_cons, List.drop_zero]
  obtain rfl : L' = [] := hfe
  replace hs := hs.toL (List.nil_append _)
  refine s_end ?_
  replace hs := hs.sub (F' := [(6, _)]) ⟨rfl, trivial⟩
  refine then_n ?_
  refine wp_ret ?_
  refine s_ret hs rfl (.tmp (hs.tmp rfl) .nil) rfl ⟨_, rfl, hs.fr, ?_⟩
  rfl

end Go.Proofs.Ytmgnnclkjkbmdaa
