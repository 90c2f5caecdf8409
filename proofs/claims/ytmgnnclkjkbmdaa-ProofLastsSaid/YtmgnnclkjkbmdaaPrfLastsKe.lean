/- Own texts of this seat, laid together for one claim (with what its proof uses alone). -/
import Derived.Test.YtmgnnclkjkbmdaaPrfLastsKd
section
/- The law of what lasts. -/
set_option linter.unusedSimpArgs false
set_option linter.unusedVariables false
set_option maxRecDepth 100000
namespace Go.Proofs.Ytmgnnclkjkbmdaa
open Go Go.Fw
open Sha
theorem modq32 (sq : UInt32) {H : Nat} (h : H ≤ 6) : i32 ((2 ^ H : Nat) : Int) ≠ 0 ∧ ∃ s2, sq % i32 ((2 ^ H : Nat) : Int) = s2 ∧ s2.toNat < 2 ^ H := by
  have hp := Nat.two_pow_pos H
  have hq : 2 ^ H ≤ 64 := Nat.pow_le_pow_right (show 0 < 2 by decide) h
  have h1 := i32_toNat ((2 ^ H : Nat) : Int)
  have h2 : (i32 ((2 ^ H : Nat) : Int)).toNat = 2 ^ H := by omega
  refine ⟨fun e => ?_, _, rfl, ?_⟩
  · rw [e] at h2
    simp at h2
    omega
  · rw [UInt32.toNat_mod, h2]
    exact Nat.mod_lt _ hp
theorem ne_kind {w : World} {b b' : Nat} {cs cs' : Array Value} {T T' : TypeId} {fr fr' : Nat × Nat} (h : w.heap[b]? = some (.cells cs T fr)) (h' : w.heap[b']? = some (.cells cs' T' fr')) (hT : Nat.beq T T' = false) : b ≠ b' := fun e => by
  subst e
  rw [h] at h'
  cases h'
  simp at hT
theorem two_keys {g h : Nat} {x y : List Value} {U V : TypeId} {k : Nat} (hm : (Ent.grp [.seg g x U, .seg h y V]).keys k) : k = g ∨ k = h := by
  obtain ⟨e, he, hk⟩ := hm
  simp only [List.mem_cons, List.not_mem_nil, or_false] at he
  rcases he with rfl | rfl
  · exact .inl hk
  · exact .inr hk
theorem not_two {w : World} {b g h : Nat} {cs cs1 cs2 : Array Value} {T T1 T2 U V : TypeId} {fr fr1 fr2 : Nat × Nat} {x y : List Value} (hb : w.heap[b]? = some (.cells cs T fr)) (hg : w.heap[g]? = some (.cells cs1 T1 fr1)) (hh : w.heap[h]? = some (.cells cs2 T2 fr2)) (n1 : Nat.beq T T1 = false) (n2 : Nat.beq T T2 = false) : ¬ (Ent.grp [.seg g x U, .seg h y V]).keys b := fun hm => by
  rcases two_keys hm with rfl | rfl
  · rw [hb] at hg; cases hg; simp at n1
  · rw [hb] at hh; cases hh; simp at n2
theorem fits_right {W S H d : Int} {ep sq : UInt32} (h : spFits W S H d ep = true) (hq : sq.toNat < 2 ^ H.toNat) : clRight W S H d ((0 : Nat) : Int) d ep sq = true := by
  obtain ⟨hR, h1, h2, h3⟩ := spFits_iff.1 h
  have h4 := spRight_iff.1 hR
  exact clRight_iff.2 ⟨hR, h1, h2, h1, h2, h3, hq, by omega, by omega⟩
set_option maxHeartbeats 4000000 in
theorem law_ProofLasts (W S H d : Int) (ep sq : UInt32) (seed : List UInt8) (hsd : seed.length = 32) (ids : List Int) (idv : Value) (w : World) (hqi : Rd w idv ids.length (ids.map I)) : Ctr Try.prog 34 [.agg #[I W, I S, I H], .agg (seed.map B).toArray, I d, U ep, U sq, idv] w (fun _ => False) (fun v _ => v = .bool true) := by
  have hnil := hqi.le
  obtain ⟨iad, icp, rfl, hicp, hicm⟩ := Rd.sl hqi
  refine fn_start (N := 129) Try.func34 rfl rfl rfl fun ac hk => ?_
  have hs := St.start hk w
  refine wp_seq ?_
  refine wp_reg ?_
  refine s_box hs rfl rfl rfl fun ac ww g6 hs => ?_
  refine s_box hs rfl rfl rfl fun ac ww g7 hs => ?_
  refine s_q hs (c_assign (hs.ev rfl)) rfl fun ac hs => ?_
  refine s_end ?_
  replace hs := hs.sub (F' := [(2, _), (3, _), (4, _), (5, _), (6, _), (7, _), (12, _)]) ⟨rfl, rfl, rfl, rfl, rfl, rfl, rfl, trivial⟩
  refine then_n ?_
  refine wp_seq ?_
  refine wp_seq ?_
  refine wp_reg ?_
  refine s_q hs (c_loadW ty158 ag158 (hs.ev rfl) (hs.seg (i := 1) rfl) (by rfl)) rfl fun ac hs => ?_
  refine s_call hs fu134 (.cons (hs.ev rfl) .nil) (law08_Light W S H _) rfl fun ac ww v25 hf hp hs => ?_
  obtain rfl := hp
  replace hs := hs [] (.nil _ _)
  refine s_q hs (c_not (hs.ev rfl)) rfl fun ac hs => ?_
  refine s_q hs (c_move (hs.ev rfl)) rfl fun ac hs => ?_
  refine s_g hs rfl rfl (fun hg => c_loadW ty158 ag158 (hs.ev rfl) (hs.seg (i := 1) rfl) (by rfl)) rfl fun ac hs => ?_
  refine s_g hs rfl rfl (fun hg => c_move (hs.ev rfl)) rfl fun ac hs => ?_
  refine s_g hs rfl rfl (fun hg => c_move (hs.ev rfl)) rfl fun ac hs => ?_
  refine s_gcall hs rfl rfl fu128 (fun hg => (.cons (gev (hs.ev rfl) hg) (.cons (gev (hs.ev rfl) hg) (.cons (gev (hs.ev rfl) hg) .nil)))) (fun hg => ref08_Fits W S H d ep _) rfl fun ac ww hf hs => ?_
  refine s_g hs rfl rfl (fun hg => c_not (gev (hs.ev rfl) hg)) rfl fun ac hs => ?_
  refine s_q hs (c_or (hs.ev rfl) (hs.ev rfl)) rfl fun ac hs => ?_
  refine s_end ?_
  replace hs := hs.sub (F' := [(2, _), (3, _), (4, _), (5, _), (6, _), (7, _), (12, _), (33, _)]) ⟨rfl, rfl, rfl, rfl, rfl, rfl, rfl, rfl, trivial⟩
  refine then_n ?_
  refine s_cond hs rfl (fun hc => ?_) (fun hc => ?_)
  · skip
    refine wp_seq ?_
    refine wp_reg ?_
    refine s_call hs fu139 .nil (law09_awake _) rfl fun ac ww v34 hf hp hs => ?_
    obtain rfl := hp
    replace hs := hs [] (.nil _ _)
    refine s_q hs (c_assign (hs.ev rfl)) rfl fun ac hs => ?_
    refine s_end ?_
    replace hs := hs.sub (F' := [(2, _), (3, _), (4, _), (5, _), (6, _), (7, _), (12, _)]) ⟨rfl, rfl, rfl, rfl, rfl, rfl, rfl, trivial⟩
    refine then_n ?_
    refine wp_ret ?_
    refine then_r ?_
    refine s_ret hs rfl (.tmp (hs.tmp rfl) .nil) rfl ⟨_, rfl, hs.fr, ?_⟩
    rfl
  · skip
    have hfit : spFits W S H d ep = true := by
      simp at hc
      exact hc.2
    refine wp_skip ?_
    refine then_n ?_
    refine wp_seq ?_
    refine wp_reg ?_
    refine s_q hs (c_loadW ty158 ag158 (hs.ev rfl) (hs.seg (i := 1) rfl) (by rfl)) rfl fun ac hs => ?_
    refine s_call hs fu127 (.cons (hs.ev rfl) .nil) (law08_To W S H _) rfl fun ac ww v36 hf hp hs => ?_
    obtain rfl := hp
    replace hs := hs [] (.nil _ _)
    refine s_alloc hs ty162 rfl fun ac ww g13 hs => ?_
    refine s_storeW (i := 0) hs ty162 rfl rfl rfl (by rfl) (by rfl) (by simp) fun ww hs => ?_
    refine s_end ?_
    replace hs := hs.sub (F' := [(2, _), (3, _), (4, _), (5, _), (6, _), (7, _), (12, _), (13, _)]) ⟨rfl, rfl, rfl, rfl, rfl, rfl, rfl, rfl, trivial⟩
    refine then_n ?_
    refine wp_seq ?_
    refine wp_reg ?_
    refine s_q hs (c_loadW ty162 ag162 (hs.ev rfl) (hs.seg (i := 0) rfl) (by rfl)) rfl fun ac hs => ?_
    refine s_q hs (c_loadW ty40 rfl (hs.ev rfl) (hs.seg (i := 1) rfl) (by rw [List.length_map, hsd])) rfl fun ac hs => ?_
    refine s_q hs (c_move (hs.ev rfl)) rfl fun ac hs => ?_
    refine s_q hs (c_move (hs.ev rfl)) rfl fun ac hs => ?_
    have hs0 := hs
    refine s_call hs fu126 (.cons (hs.ev rfl) (.cons (hs.ev rfl) (.cons (hs.ev rfl) (.cons (hs.ev rfl) .nil)))) (spring_New W S H d ep seed hsd _) rfl fun ac ww v42 hf hp hs => ?_
    have hsz0 := hs0.fr.size
    have hf0 := hf
    obtain ⟨p, hsi, hsp, hg0, hc0, rfl⟩ : ∃ p, SpIs p W S H seed d ep ∧ SpAt ww p 0 (fun _ => none) none ∧ _ ≤ p.g ∧ _ ≤ p.cg ∧ _ := hp.elim (fun h => absurd (hfit.symm.trans h.1) (by decide)) (fun h => h.2)
    replace hs := hs _ (.nil _ _)
    have hg1 : w.heap.size ≤ p.g := Nat.le_trans hsz0 hg0
    have hc1 : w.heap.size ≤ p.cg := Nat.le_trans hsz0 hc0
    have ho := hsi.ok
    have hfr0 := hs.fr
    have hb13 := hs.seg (i := 0) rfl
    have hb6 := hs.seg (i := 2) rfl
    have hsN := St.start hs.know ww
    obtain ⟨_, hW, hS, hH, hse, hde, hee⟩ := hsi
    subst hW
    subst hS
    subst hH
    subst hde
    subst hee
    obtain ⟨hR, hd0, hdW, hep⟩ := spFits_iff.1 hfit
    obtain ⟨hlv, hS1, hS16, hH0, hH6⟩ := spRight_iff.1 hR
    obtain ⟨lvn, Wn, hlv3, hW2, hWe, _⟩ := levels_lv hlv
    have hW8 : Wn ≤ 8 := by rw [hW2]; exact pow8 hlv3
    have hWn0 : 0 < Wn := by omega
    obtain ⟨hz0, sq2, hsqe, hsql⟩ := modq32 sq (H := p.H) (by omega)
    have hcr0 := fits_right (sq := sq2) hfit (by simpa using hsql)
    have hpl := hPs_length hcr0
    have hs := hsN
    refine s_q hs (c_move (hs.ev rfl)) rfl fun ac hs => ?_
    refine s_q hs (c_extract (hs.ev rfl) rfl) rfl fun ac hs => ?_
    refine s_q hs (c_extract (hs.ev rfl) rfl) rfl fun ac hs => ?_
    refine s_q hs (c_assign (hs.ev rfl)) rfl fun ac hs => ?_
    refine s_q hs (c_assign (hs.ev rfl)) rfl fun ac hs => ?_
    refine s_end ?_
    replace hs := hs.sub (F' := [(2, _), (3, _), (4, _), (5, _), (6, _), (12, _), (13, _), (14, _)]) ⟨rfl, rfl, rfl, rfl, rfl, rfl, rfl, rfl, trivial⟩
    refine then_n ?_
    refine wp_seq ?_
    refine wp_reg ?_
    refine s_q hs (c_move (hs.ev rfl)) rfl fun ac hs => ?_
    refine s_q hs (c_move (hs.ev rfl)) rfl fun ac hs => ?_
    refine s_q hs (c_move (hs.ev rfl)) rfl fun ac hs => ?_
    refine s_q hs (c_loadW ty158 ag158 (hs.ev rfl) (hs.old hb6 id) (by rfl)) rfl fun ac hs => ?_
    refine s_call hs fu135 (.cons (hs.ev rfl) .nil) (ref08_Many p.W p.S p.H (by omega) _) rfl fun ac ww v49 hf hp hs => ?_
    obtain rfl := hp
    replace hs := hs [] (.nil _ _)
    refine s_q hs (c_cvIU un3 un27 (hs.ev rfl)) rfl fun ac hs => ?_
    refine s_q hs (c_to (c_remU (hs.ev rfl) (hs.ev rfl) hz0) ((congrArg (fun z : UInt32 => U z) hsqe))) rfl fun ac hs => ?_
    refine s_q hs (c_buildS ty180 bp180 (.cons (hs.ev rfl) (.cons (hs.ev rfl) .nil)) ⟨rfl, rfl, trivial⟩ (by simp [flatCells, Value.cells]) rfl) rfl fun ac hs => ?_
    refine s_q hs (c_move (hs.ev rfl)) rfl fun ac hs => ?_
    refine s_q hs (c_buildS ty182 bp182 (.cons (hs.ev rfl) (.cons (hs.ev rfl) (.cons (hs.ev rfl) .nil))) ⟨rfl, rfl, rfl, trivial⟩ (by simp [flatCells, Value.cells]) rfl) rfl fun ac hs => ?_
    refine s_alloc hs ty182 rfl fun ac ww g16 hs => ?_
    refine s_storeW (i := 0) hs ty182 rfl rfl rfl (by rfl) (by rfl) (by simp) fun ww hs => ?_
    refine s_end ?_
    replace hs := hs.sub (F' := [(2, _), (5, _), (6, _), (12, _), (13, _), (14, _), (16, _)]) ⟨rfl, rfl, rfl, rfl, rfl, rfl, rfl, trivial⟩
    refine then_n ?_
    refine wp_seq ?_
    refine wp_reg ?_
    refine s_q hs (c_move (hs.ev rfl)) rfl fun ac hs => ?_
    refine s_q hs (c_loadW ty182 ag182 (hs.ev rfl) (hs.seg (i := 0) rfl) (by rfl)) rfl fun ac hs => ?_
    have hfr1 := hfr0.trans0 hs.fr
    have hb6p := hs.old hb6 id
    have hb13p := hs.old hb13 id
    have hb16p := hs.seg (i := 0) rfl
    have hg16 : w.heap.size ≤ g16 := Nat.le_trans hfr0.size ((hs.own _ (List.mem_of_getElem? (i := 0) rfl) g16 rfl).resolve_right (fun h => h))
    have hspP := hsp.fr0 hs.fr
    refine s_callR hs fu148 (.cons (hs.ev rfl) (.cons (hs.ev rfl) .nil)) (proof_Issue p ho _ none p.d ((0 : Nat) : Int) p.d p.ep sq2 _ hspP) rfl fun ac ww v58 hf hp hs => ?_
    simp only [Int.toNat_natCast] at hp
    obtain ⟨hsm, wv, pv, rfl, hwv, hpv, how, hop⟩ := (hp.elim (fun h => absurd (hcr0.symm.trans h.1) (by decide)) fun h => h.2)
    replace hfr0 := over_sp hfr1 hf hg1 hc1
    replace hb6 := keepS hspP hf hb6p
    replace hb13 := keepS hspP hf hb13p
    have hb16 := keepS hspP hf hb16p
    have hwo := hwv.one
    have hpo := hpv.one
    have hn6 : ¬ g6 = g16 := ne_kind hb6 hb16 rfl
    have hn13 : ¬ g13 = g16 := ne_kind hb13 hb16 rfl
    have hlt16 := heap_lt hb16p
    replace hs := St.own1 (cs := [I p.d, U p.ep, U sq2, I ((0 : Nat) : Int), I p.d]) hs.know hb16
    refine s_q hs (c_move (hs.ev rfl)) rfl fun ac hs => ?_
    refine s_q hs (c_extract (hs.ev rfl) rfl) rfl fun ac hs => ?_
    refine s_q hs (c_extract (hs.ev rfl) rfl) rfl fun ac hs => ?_
    refine s_alloc hs ty192 rfl fun ac ww g17 hs => ?_
    refine s_storeW (i := 0) hs ty192 rfl rfl rfl (by simp [shL_length]) (by simp [hwo, hpo]; exact fun x _ => rfl) rfl fun ww hs => ?_
    refine s_q hs (c_assign (hs.ev rfl)) rfl fun ac hs => ?_
    refine s_end ?_
    replace hs := hs.sub (F' := [(2, _), (5, _), (6, _), (12, _), (13, _), (14, _), (16, _), (17, _), (18, _)]) ⟨rfl, rfl, rfl, rfl, rfl, rfl, rfl, rfl, rfl, trivial⟩
    refine then_n ?_
    refine wp_seq ?_
    refine wp_seq ?_
    refine wp_reg ?_
    refine s_call hs fu139 .nil (law09_awake _) rfl fun ac ww v61 hf hp hs => ?_
    obtain rfl := hp
    replace hs := hs [] (.nil _ _)
    refine s_q hs (c_not (hs.ev rfl)) rfl fun ac hs => ?_
    refine s_q hs (c_move (hs.ev rfl)) rfl fun ac hs => ?_
    refine s_yes hs rfl rfl ?_
    refine s_q hs (c_move (hs.ev rfl)) rfl fun ac hs => ?_
    refine s_yes hs rfl rfl ?_
    refine s_q hs (c_neqI (hs.ev rfl) (hs.ev rfl)) rfl fun ac hs => ?_
    refine s_q hs (c_pick (hs.ev rfl) (hs.ev rfl) (hs.ev rfl)) rfl fun ac hs => ?_
    refine s_end ?_
    replace hs := hs.sub (F' := [(2, _), (5, _), (6, _), (12, _), (13, _), (14, _), (16, _), (17, _), (18, _), (66, _)]) ⟨rfl, rfl, rfl, rfl, rfl, rfl, rfl, rfl, rfl, rfl, trivial⟩
    refine then_n ?_
    refine wp_cond_false (hs.ev rfl) ?_
    refine wp_skip ?_
    refine then_n ?_
    refine wp_seq ?_
    refine wp_reg ?_
    refine s_q hs (c_assign (hs.ev rfl)) rfl fun ac hs => ?_
    refine s_end ?_
    replace hs := hs.sub (F' := [(2, _), (5, _), (6, _), (12, _), (13, _), (14, _), (16, _), (17, _), (18, _), (19, _)]) ⟨rfl, rfl, rfl, rfl, rfl, rfl, rfl, rfl, rfl, rfl, trivial⟩
    refine then_n ?_
    refine wp_block ?_
    refine s_loopW hs (X := Nat × Int × Value × Value) (fun x => [(19, I x.1)]) [(2, _), (5, _), (6, _), (13, _), (14, _), (16, _), (17, _)] (fun x => [.seg g17 ((hLf p x.1 x.2.1 sq2).map Go.Fw.B ++ [x.2.2.1, x.2.2.2]) 192, .seg g16 [I p.d, U p.ep, U sq2, I x.1, I x.2.1] 182]) (fun j x wc => j = p.S - x.1 ∧ x.1 < p.S ∧ 0 ≤ x.2.1 ∧ x.2.1 < p.W ∧ SpMade wc p ∧ Rd wc x.2.2.1 (shN (x.1 : Int) p.W x.2.1) ((hWs p x.1 x.2.1 sq2).map Go.Fw.B) ∧ Rd wc x.2.2.2 p.H ((hPs p sq2).map Go.Fw.B)) (_) ((0, p.d, wv, pv)) (⟨rfl, by (try simp only); omega, hd0, hdW, hsm.other hs.fr (fun k hk => ⟨_, _, _, hk ▸ hb16, rfl⟩), hwv.fr hs.fr (fun k hk hm => by have h1 := (how k hk).1; have hm : k = g16 := hm; omega), hpv.fr hs.fr (fun k hk hm => by have h1 := (hop k hk).1; have hm : k = g16 := hm; omega)⟩) ⟨rfl, rfl, rfl, rfl, rfl, rfl, rfl, rfl, trivial⟩ rfl ?_
    rintro n ⟨k, sn, wv, pv⟩ ac ww hok hs
    simp only [List.cons_append, List.nil_append] at hs
    obtain ⟨rfl, hkS, hsn0, hsnW, hsmc, hwvc, hpvc⟩ := hok
    simp only at hkS hsn0 hsnW hwvc hpvc hs
    have hsL := hs
    have hb17c := hs.seg (i := 0) rfl
    have hb16c := hs.seg (i := 1) rfl
    have hb6c := hs.old hb6 hn6
    have hb13c := hs.old hb13 hn13
    have hwoc := hwvc.one
    have hpoc := hpvc.one
    have hcr := far_right (s2 := sn) (m2 := (k : Nat)) hcr0 hsn0 hsnW (by omega) (by omega)
    have hl1 : (hLf p k sn sq2).length = 16 := shL_length _ _ _ _ _ _ _
    have hw1 : (hWs p k sn sq2).length = (shN (k : Int) p.W sn) * 16 := shW_length _ _ _ _ _ _ _
    obtain ⟨dv, hdv⟩ : ∃ z, p.d = z := ⟨_, rfl⟩
    have hdv0 : 0 ≤ dv := hdv ▸ hd0
    have hdvW : dv < p.W := hdv ▸ hdW
    have hap9 : ∀ x, ww.heap.size ≤ x → ¬ (x = g17 ∨ x = g16) := fun x h9 e => e.elim (fun e => by have := heap_lt hb17c; omega) fun e => by have := heap_lt hb16c; omega
    replace hs := St.start hs.know ww
    refine wp_seq ?_
    refine wp_block ?_
    refine wp_seq ?_
    refine wp_region_rgX (J := [8]) pmix 10 (by kernel_rfl) (by kernel_rfl) rfl rfl hs ?_
    simp only [List.take_succ_cons, List.take_zero]
    refine rg_q (fun ac ww h => c_loadW ty162 ag162 (h.ev rfl) (h.blk (hs.old hb13c id)) (by rfl)) rfl ?_
    refine rg_q (fun ac ww h => c_move (h.ev rfl)) rfl ?_
    refine rg_call fu136 (fun ac ww h => (.cons (h.ev rfl) .nil)) (fun ww hf => spring_RootMade p ho ww (hsmc.fr0 (hs.fr.trans0 hf))) rfl ?_
    refine rg_q (fun ac ww h => c_loadW ty182 ag182 (h.ev rfl) (h.blk (hs.old hb16c id)) (by rfl)) rfl ?_
    refine rg_q (fun ac ww h => c_loadW ty192 ag192 (h.ev rfl) (h.blk (hs.old hb17c id)) (by simp [shL_length])) rfl ?_
    refine rg_call fu149 (fun ac ww h => (.cons (h.ev rfl) (.cons (h.ev rfl) (.cons (h.ev rfl) (.cons (h.ev rfl) .nil))))) (fun ww hf => (by have h9 := proof_Check p.W p.S p.H p.d (k : Nat) sn p.ep sq2 (hRt p) (hLf p k sn sq2) (hWs p k sn sq2) (hPs p sq2) (shN (k : Int) p.W sn) p.H wv pv hRt_length hl1 hw1 hpl ww (hwvc.fr0 (hs.fr.trans0 hf)) (hpvc.fr0 (hs.fr.trans0 hf)); rw [check_honest ho hcr] at h9; exact h9)) rfl ?_
    refine rg_q (fun ac ww h => c_move (h.ev rfl)) rfl ?_
    refine rg_q (fun ac ww h => c_extract (h.ev rfl) rfl) rfl ?_
    refine rg_q (fun ac ww h => c_extract (h.ev rfl) rfl) rfl ?_
    refine rg_alloc ty54 rfl ?_
    refine rg_nil fun ac ww L' hf hfe hs hlk => ?_
    simp only [List.drop_succ_cons, List.drop_zero]
    obtain ⟨v20, L20, M20, h20, e20, rfl, rfl⟩ := hfe
    replace hs := hs.add h20
    obtain ⟨g20, rfl, rfl⟩ := e20
    refine sk_storeW (i := 0) hs ty54 rfl rfl rfl (by rw [List.length_map, el_length]) (all_map_B _) rfl (fun ww hs => late_turn rfl rfl (late_nil)) fun ww hs => ?_
    refine s_q hs (c_assign (hs.ev rfl)) rfl fun ac hs => ?_
    refine s_end ?_
    refine then_n ?_
    refine wp_seq ?_
    refine wp_seq ?_
    refine wp_reg ?_
    refine s_q hs (c_move (hs.ev rfl)) rfl fun ac hs => ?_
    refine s_q hs (c_neqI (hs.ev rfl) (hs.ev rfl)) rfl fun ac hs => ?_
    refine s_q hs (c_move (hs.ev rfl)) rfl fun ac hs => ?_
    refine s_yes hs rfl rfl ?_
    refine s_q hs (c_fld fl182_1 (hs.ev rfl)) rfl fun ac hs => ?_
    refine s_yes hs rfl rfl ?_
    refine s_q hs (c_fld fl180_2 (hs.ev rfl)) rfl fun ac hs => ?_
    refine s_yes hs rfl rfl ?_
    refine s_q hs (c_loadS un3 rfl (hs.ev rfl) (hs.old hb16c id) rfl) rfl fun ac hs => ?_
    refine s_yes hs rfl rfl ?_
    refine s_q hs (c_move (hs.ev rfl)) rfl fun ac hs => ?_
    refine s_yes hs rfl rfl ?_
    refine s_q hs (c_ff (c_neqI (hs.ev rfl) (hs.ev rfl)) (by simp)) rfl fun ac hs => ?_
    refine s_q hs (c_pick (hs.ev rfl) (hs.ev rfl) (hs.ev rfl)) rfl fun ac hs => ?_
    refine s_end ?_
    refine then_n ?_
    refine wp_cond_false (hs.ev rfl) ?_
    refine wp_skip ?_
    refine then_n ?_
    refine wp_seq ?_
    refine wp_reg ?_
    refine s_q hs (c_to (c_move (hs.ev rfl)) ((congrArg (fun z : Int => I z) hdv))) rfl fun ac hs => ?_
    refine s_q hs (c_assign (hs.ev rfl)) rfl fun ac hs => ?_
    refine s_end ?_
    refine then_n ?_
    refine wp_seq ?_
    refine wp_seq ?_
    refine wp_reg ?_
    refine s_q hs (c_move (hs.ev rfl)) rfl fun ac hs => ?_
    refine s_q hs (c_move (hs.ev rfl)) rfl fun ac hs => ?_
    refine s_q hs (c_lenS un169 (hs.ev rfl)) rfl fun ac hs => ?_
    refine s_q hs (c_lssI (hs.ev rfl) (hs.ev rfl)) rfl fun ac hs => ?_
    refine s_end ?_
    refine then_n ?_
    refine s_cond hs rfl (fun hc => ?_) (fun hc => ?_)
    · try simp only [decide_eq_true_eq, decide_eq_false_iff_not, Bool.not_eq_true', Bool.not_eq_false', Bool.and_eq_true, Bool.or_eq_true, Bool.or_eq_false_iff] at hc
      have hkn : k < ids.length := by omega
      obtain ⟨ib, io, icap, iT, ifr, iall, hie, _, _, hib, hit⟩ := Rd.at_ hqi (by intro e; have := congrArg List.length e; simp at this; rw [this] at hkn; simp at hkn)
      injection hie with hie1 _ _
      rw [hie1] at hs
      have hibc := hsL.old (hfr0.block ib (heap_lt hib) id |>.trans hib) (fun e => by have := heap_lt hib; omega)
      obtain ⟨hz2, s3, hse3, hsl3⟩ := modq (ids.getD k 0) Wn hWn0 (by omega)
      obtain ⟨s2, hs2e⟩ : ∃ z : Int, (s3 : Int) = z := ⟨_, rfl⟩
      have h20 : 0 ≤ s2 := by omega
      have h2W : s2 < p.W := by omega
      refine wp_region_rg pmix 8 (by kernel_rfl) rfl hs ?_
      simp only [List.take_succ_cons, List.take_zero]
      refine rg_q (fun ac ww h => c_move (h.ev rfl)) rfl ?_
      refine rg_q (fun ac ww h => c_move (h.ev rfl)) rfl ?_
      refine rg_q (fun ac ww h => c_idxS (j := k) un169 ty3 (h.ev rfl) (h.ev rfl) (by omega) (by omega)) rfl ?_
      refine rg_q (fun ac ww h => c_loadS un3 rfl (h.ev rfl) (h.blk (hs.old hibc id)) (seg_get 0 hit hkn)) rfl ?_
      refine rg_q (fun ac ww h => c_cvIV un3 un75 (h.ev rfl)) rfl ?_
      refine rg_q (fun ac ww h => c_fld fl158_0 (h.ev rfl)) rfl ?_
      refine rg_q (fun ac ww h => c_loadS un3 rfl (h.ev rfl) (h.blk (hs.old hb6c id)) rfl) rfl ?_
      refine rg_q (fun ac ww h => c_to (c_cvIV un3 un75 (h.ev rfl)) ((congrArg (fun z : Int => V (i64 z)) hWe))) rfl ?_
      refine rg_nil fun ac ww L' hf hfe hs => ?_
      simp only [List.drop_succ_cons, List.drop_zero]
      obtain rfl : L' = [] := hfe
      replace hs := hs.toL (List.nil_append _)
      refine s_q hs (c_remV (hs.ev rfl) (hs.ev rfl) hz2) rfl fun ac hs => ?_
      refine s_q hs (c_to (c_cvVI un75 un3 (hs.ev rfl) (by omega)) (((congrArg (fun z : Nat => I z) hse3).trans (congrArg (fun z : Int => I z) hs2e)))) rfl fun ac hs => ?_
      refine s_q hs (c_assign (hs.ev rfl)) rfl fun ac hs => ?_
      refine s_end ?_
      rw [← hie1] at hs
      refine then_n ?_
      refine wp_seq ?_
      refine wp_reg ?_
      refine s_q hs (c_loadW ty182 ag182 (hs.ev rfl) (hs.old hb16c id) (by rfl)) rfl fun ac hs => ?_
      refine s_q hs (c_loadW ty54 rfl (hs.ev rfl) (hs.seg (i := 0) rfl) (by rw [List.length_map, el_length])) rfl fun ac hs => ?_
      refine s_q hs (c_loadW ty192 ag192 (hs.ev rfl) (hs.old hb17c id) (by simp [shL_length])) rfl fun ac hs => ?_
      refine s_call hs fu150 (.cons (hs.ev rfl) (.cons (hs.ev rfl) (.cons (hs.ev rfl) .nil))) (proof_Learn p.d (k : Nat) sn p.ep sq2 (el p sq2.toNat (k + 1)) (hLf p k sn sq2) (hPs p sq2) p.H wv pv (el_length _ _ _) hl1 hpl (by omega) (by omega) _ hwoc (hpvc.fr0 hs.fr)) rfl fun ac ww v105 hf hp hs => ?_
      obtain ⟨L', ⟨kv, rfl, rfl⟩, hh⟩ := hp
      replace hs := hs _ hh
      obtain ⟨kad, kcap, rfl, hkc, hkm⟩ := Rd.sl (Rd.of_row (hs.get (i := 0) rfl))
      refine s_alloc hs ty197 rfl fun ac ww g23 hs => ?_
      refine s_storeW (i := 0) hs ty197 rfl rfl rfl (knC_length (el_length _ _ _)) (by simp [knC, Value.oneCell', Go.Fw.B]) rfl fun ww hs => ?_
      refine s_end ?_
      refine then_n ?_
      refine wp_seq ?_
      refine wp_reg ?_
      cases hR2 : clRight p.W p.S p.H p.d ((k : Int) + 1) s2 p.ep sq2
      · refine s_q hs (c_loadW ty162 ag162 (hs.ev rfl) (hs.old hb13c id) (by rfl)) rfl fun ac hs => ?_
        refine s_q hs (c_loadW ty197 ag197 (hs.ev rfl) (hs.seg (i := 0) rfl) (knC_length (el_length _ _ _))) rfl fun ac hs => ?_
        refine s_q hs (c_move (hs.ev rfl)) rfl fun ac hs => ?_
        refine s_call hs fu151 (.cons (hs.ev rfl) (.cons (hs.ev rfl) (.cons (hs.ev rfl) .nil))) (proof_Pass p.W p.S p.H p.d ((k : Int) + 1) s2 p.ep sq2 (el p sq2.toNat (k + 1)) (hPs p sq2) p.H _ (el_length _ _ _) hpl (by omega) _ (Rd.of_row (hs.get (i := 1) rfl))) rfl fun ac ww v110 hf hp hs => ?_
        obtain ⟨L', hps, hh⟩ := hp
        obtain ⟨_, rfl, rfl⟩ := hps.resolve_right (fun h => by rw [hR2] at h; exact absurd h.1 (by decide))
        replace hs := hs _ hh
        have hk1 : k + 1 = p.S := Classical.byContradiction fun h => by
          have h9 := far_right (s2 := s2) (m2 := (k : Int) + 1) hcr0 h20 h2W (by omega) (by omega)
          rw [hR2] at h9
          cases h9
        have hfC := hs.fr
        have hsF := (St.frameBack hsL hs).pick (L' := [_, _]) (.cons _ (.cons _ (.cons _ (.refl _))))
        have hb17P := hsF.seg (i := 0) rfl
        have hb6P := (hfC.block g6 (heap_lt hb6c) (fun h => h)).trans hb6c
        have hb16P := hsF.seg (i := 1) rfl
        replace hs := hsF.rebase
        refine s_q hs (c_move (hs.ev rfl)) rfl fun ac hs => ?_
        refine s_q hs (c_extract (hs.ev rfl) rfl) rfl fun ac hs => ?_
        refine s_q hs (c_extract (hs.ev rfl) rfl) rfl fun ac hs => ?_
        refine s_q hs (c_extract (hs.ev rfl) rfl) rfl fun ac hs => ?_
        refine s_store (i := 1) hs ty182 rfl rfl rfl rfl (by rfl) (by rfl) (by simp) rfl fun ww hs => ?_
        refine s_storeW (i := 0) hs ty192 rfl rfl rfl (by simp) (by simp [Value.oneCell', Go.Fw.B]) (by simp [shL_length]) fun ww hs => ?_
        refine s_q hs (c_assign (hs.ev rfl)) rfl fun ac hs => ?_
        refine s_end ?_
        refine then_n ?_
        refine wp_seq ?_
        refine wp_seq ?_
        refine wp_reg ?_
        refine s_q hs (c_move (hs.ev rfl)) rfl fun ac hs => ?_
        refine s_q hs (c_neqI (hs.ev rfl) (hs.ev rfl)) rfl fun ac hs => ?_
        refine s_end ?_
        refine then_n ?_
        refine wp_cond_true (hs.ev rfl) ?_
        refine wp_seq ?_
        refine wp_reg ?_
        refine s_q hs (c_move (hs.ev rfl)) rfl fun ac hs => ?_
        refine s_q hs (c_fld fl158_1 (hs.ev rfl)) rfl fun ac hs => ?_
        refine s_q hs (c_loadS un3 rfl (hs.ev rfl) (hs.old hb6P (not_two hb6P hb17P hb16P rfl rfl)) rfl) rfl fun ac hs => ?_
        refine s_q hs (c_subI (hs.ev rfl) (hs.ev rfl) (by omega) (by omega)) rfl fun ac hs => ?_
        refine s_q hs (c_tt (c_eqlI (hs.ev rfl) (hs.ev rfl)) (by simp; omega)) rfl fun ac hs => ?_
        refine s_q hs (c_move (hs.ev rfl)) rfl fun ac hs => ?_
        refine s_yes hs rfl rfl ?_
        refine s_q hs (c_move (hs.ev rfl)) rfl fun ac hs => ?_
        refine s_yes hs rfl rfl ?_
        refine s_q hs (c_eqlI (hs.ev rfl) (hs.ev rfl)) rfl fun ac hs => ?_
        refine s_q hs (c_pick (hs.ev rfl) (hs.ev rfl) (hs.ev rfl)) rfl fun ac hs => ?_
        refine s_q hs (c_assign (hs.ev rfl)) rfl fun ac hs => ?_
        refine s_end ?_
        refine then_n ?_
        refine wp_ret ?_
        refine then_r ?_
        refine blk_r ?_
        refine then_r ?_
        refine then_r ?_
        refine blk_r ?_
        refine s_ret hs rfl (.tmp (hs.tmp rfl) .nil) rfl ⟨_, rfl, (hfr0.over (Fr.rebase hsF.fr hsF.own hs.fr) fun i hi => (show i = g16 from hi) ▸ hg16), ?_⟩
        rfl
      · refine s_q hs (c_loadW ty162 ag162 (hs.ev rfl) (hs.old hb13c id) (by rfl)) rfl fun ac hs => ?_
        refine s_q hs (c_loadW ty197 ag197 (hs.ev rfl) (hs.seg (i := 0) rfl) (knC_length (el_length _ _ _))) rfl fun ac hs => ?_
        refine s_q hs (c_move (hs.ev rfl)) rfl fun ac hs => ?_
        refine s_call hs fu151 (.cons (hs.ev rfl) (.cons (hs.ev rfl) (.cons (hs.ev rfl) .nil))) (proof_Pass p.W p.S p.H p.d ((k : Int) + 1) s2 p.ep sq2 (el p sq2.toNat (k + 1)) (hPs p sq2) p.H _ (el_length _ _ _) hpl (by omega) _ (Rd.of_row (hs.get (i := 1) rfl))) rfl fun ac ww v110 hf hp hs => ?_
        obtain ⟨L', hps, hh⟩ := hp
        obtain ⟨_, wv2, pv2, rfl, rfl⟩ := hps.resolve_left (fun h => by rw [hR2] at h; exact absurd h.1 (by decide))
        replace hs := hs _ hh
        have hpP := Rd.of_row (hs.get (i := 0) rfl)
        have hwP := Rd.of_row (hs.get (i := 1) rfl)
        have hpPo : ∀ k, _ → _ ≤ k := fun k hk => (hs.own _ (List.mem_of_getElem? (i := 0) rfl) k hk).resolve_right id
        have hwPo : ∀ k, _ → _ ≤ k := fun k hk => (hs.own _ (List.mem_of_getElem? (i := 1) rfl) k hk).resolve_right id
        have hwo2 := hwP.one
        have hpo2 := hpP.one
        have hk1 : k + 1 < p.S := by
          obtain ⟨_, _, _, _, _, _, _, _, h9⟩ := clRight_iff.1 hR2
          omega
        have hfC := hs.fr
        have hsF := (St.frameBack hsL hs).pick (L' := [_, _]) (.cons _ (.cons _ (.cons _ (.cons _ (.cons _ (.refl _))))))
        have hb17P := hsF.seg (i := 0) rfl
        have hb6P := (hfC.block g6 (heap_lt hb6c) (fun h => h)).trans hb6c
        have hb16P := hsF.seg (i := 1) rfl
        replace hs := hsF.rebase
        refine s_q hs (c_move (hs.ev rfl)) rfl fun ac hs => ?_
        refine s_q hs (c_extract (hs.ev rfl) rfl) rfl fun ac hs => ?_
        refine s_q hs (c_extract (hs.ev rfl) rfl) rfl fun ac hs => ?_
        refine s_q hs (c_extract (hs.ev rfl) rfl) rfl fun ac hs => ?_
        refine s_store (i := 1) hs ty182 rfl rfl rfl rfl (by rfl) (by rfl) (by simp) rfl fun ww hs => ?_
        refine s_storeW (i := 0) hs ty192 rfl rfl rfl (by simp [shL_length]) (by simp [hwo2, hpo2]; exact fun x _ => rfl) (by simp [shL_length]) fun ww hs => ?_
        refine s_q hs (c_assign (hs.ev rfl)) rfl fun ac hs => ?_
        refine s_end ?_
        refine then_n ?_
        refine wp_seq ?_
        refine wp_seq ?_
        refine wp_reg ?_
        refine s_q hs (c_move (hs.ev rfl)) rfl fun ac hs => ?_
        refine s_q hs (c_neqI (hs.ev rfl) (hs.ev rfl)) rfl fun ac hs => ?_
        refine s_end ?_
        refine then_n ?_
        refine wp_cond_false (hs.ev rfl) ?_
        refine wp_skip ?_
        refine then_n ?_
        refine wp_seq ?_
        refine wp_reg ?_
        refine s_q hs (c_fld fl182_2 (hs.ev rfl)) rfl fun ac hs => ?_
        refine s_q hs (c_loadS un3 rfl (hs.ev rfl) (hs.seg (i := 1) rfl) rfl) rfl fun ac hs => ?_
        refine s_q hs (c_move (hs.ev rfl)) rfl fun ac hs => ?_
        refine s_q hs (c_ff (c_neqI (hs.ev rfl) (hs.ev rfl)) (by simp)) rfl fun ac hs => ?_
        refine s_end ?_
        refine then_n ?_
        refine wp_cond_false (hs.ev rfl) ?_
        refine wp_skip ?_
        refine blk_n ?_
        refine then_n ?_
        refine wp_reg ?_
        refine s_q hs (c_move (hs.ev rfl)) rfl fun ac hs => ?_
        refine s_q hs (c_addI (hs.ev rfl) (hs.ev rfl) (by omega) (by omega)) rfl fun ac hs => ?_
        refine s_q hs (c_assign (hs.ev rfl)) rfl fun ac hs => ?_
        refine s_end ?_
        refine then_n ?_
        have hsm9 : SpMade ww p := (hsmc.fr0 hfC).other hs.fr fun k hm => (two_keys hm).elim (fun e => ⟨_, _, _, e ▸ hb17P, rfl⟩) fun e => ⟨_, _, _, e ▸ hb16P, rfl⟩
        have hwv9 := hwP.fr hs.fr fun k hk hm => hap9 k (hwPo k hk) (two_keys hm)
        have hpv9 := hpP.fr hs.fr fun k hk hm => hap9 k (hpPo k hk) (two_keys hm)
        replace hs := hs.unrebase hsF.fr hsF.own
        exact ⟨p.S - (k + 1), by (try simp only); omega, (k + 1, s2, _, _), ⟨rfl, by (try simp only); omega, h20, h2W, hsm9, hwv9, hpv9⟩, St.next hs ⟨rfl, rfl, rfl, rfl, rfl, rfl, rfl, rfl, trivial⟩ rfl⟩
    · try simp only [decide_eq_true_eq, decide_eq_false_iff_not, Bool.not_eq_true', Bool.not_eq_false', Bool.and_eq_true, Bool.or_eq_true, Bool.or_eq_false_iff] at hc
      obtain ⟨s2, hz⟩ : ∃ z, z = dv := ⟨_, rfl⟩
      subst hz
      have h20 := hdv0
      have h2W := hdvW
      refine wp_skip ?_
      refine then_n ?_
      refine wp_seq ?_
      refine wp_reg ?_
      refine s_q hs (c_loadW ty182 ag182 (hs.ev rfl) (hs.old hb16c id) (by rfl)) rfl fun ac hs => ?_
      refine s_q hs (c_loadW ty54 rfl (hs.ev rfl) (hs.seg (i := 0) rfl) (by rw [List.length_map, el_length])) rfl fun ac hs => ?_
      refine s_q hs (c_loadW ty192 ag192 (hs.ev rfl) (hs.old hb17c id) (by simp [shL_length])) rfl fun ac hs => ?_
      refine s_call hs fu150 (.cons (hs.ev rfl) (.cons (hs.ev rfl) (.cons (hs.ev rfl) .nil))) (proof_Learn p.d (k : Nat) sn p.ep sq2 (el p sq2.toNat (k + 1)) (hLf p k sn sq2) (hPs p sq2) p.H wv pv (el_length _ _ _) hl1 hpl (by omega) (by omega) _ hwoc (hpvc.fr0 hs.fr)) rfl fun ac ww v105 hf hp hs => ?_
      obtain ⟨L', ⟨kv, rfl, rfl⟩, hh⟩ := hp
      replace hs := hs _ hh
      obtain ⟨kad, kcap, rfl, hkc, hkm⟩ := Rd.sl (Rd.of_row (hs.get (i := 0) rfl))
      refine s_alloc hs ty197 rfl fun ac ww g23 hs => ?_
      refine s_storeW (i := 0) hs ty197 rfl rfl rfl (knC_length (el_length _ _ _)) (by simp [knC, Value.oneCell', Go.Fw.B]) rfl fun ww hs => ?_
      refine s_end ?_
      refine then_n ?_
      refine wp_seq ?_
      refine wp_reg ?_
      cases hR2 : clRight p.W p.S p.H p.d ((k : Int) + 1) s2 p.ep sq2
      · refine s_q hs (c_loadW ty162 ag162 (hs.ev rfl) (hs.old hb13c id) (by rfl)) rfl fun ac hs => ?_
        refine s_q hs (c_loadW ty197 ag197 (hs.ev rfl) (hs.seg (i := 0) rfl) (knC_length (el_length _ _ _))) rfl fun ac hs => ?_
        refine s_q hs (c_move (hs.ev rfl)) rfl fun ac hs => ?_
        refine s_call hs fu151 (.cons (hs.ev rfl) (.cons (hs.ev rfl) (.cons (hs.ev rfl) .nil))) (proof_Pass p.W p.S p.H p.d ((k : Int) + 1) s2 p.ep sq2 (el p sq2.toNat (k + 1)) (hPs p sq2) p.H _ (el_length _ _ _) hpl (by omega) _ (Rd.of_row (hs.get (i := 1) rfl))) rfl fun ac ww v110 hf hp hs => ?_
        obtain ⟨L', hps, hh⟩ := hp
        obtain ⟨_, rfl, rfl⟩ := hps.resolve_right (fun h => by rw [hR2] at h; exact absurd h.1 (by decide))
        replace hs := hs _ hh
        have hk1 : k + 1 = p.S := Classical.byContradiction fun h => by
          have h9 := far_right (s2 := s2) (m2 := (k : Int) + 1) hcr0 h20 h2W (by omega) (by omega)
          rw [hR2] at h9
          cases h9
        have hfC := hs.fr
        have hsF := (St.frameBack hsL hs).pick (L' := [_, _]) (.cons _ (.cons _ (.cons _ (.refl _))))
        have hb17P := hsF.seg (i := 0) rfl
        have hb6P := (hfC.block g6 (heap_lt hb6c) (fun h => h)).trans hb6c
        have hb16P := hsF.seg (i := 1) rfl
        replace hs := hsF.rebase
        refine s_q hs (c_move (hs.ev rfl)) rfl fun ac hs => ?_
        refine s_q hs (c_extract (hs.ev rfl) rfl) rfl fun ac hs => ?_
        refine s_q hs (c_extract (hs.ev rfl) rfl) rfl fun ac hs => ?_
        refine s_q hs (c_extract (hs.ev rfl) rfl) rfl fun ac hs => ?_
        refine s_store (i := 1) hs ty182 rfl rfl rfl rfl (by rfl) (by rfl) (by simp) rfl fun ww hs => ?_
        refine s_storeW (i := 0) hs ty192 rfl rfl rfl (by simp) (by simp [Value.oneCell', Go.Fw.B]) (by simp [shL_length]) fun ww hs => ?_
        refine s_q hs (c_assign (hs.ev rfl)) rfl fun ac hs => ?_
        refine s_end ?_
        refine then_n ?_
        refine wp_seq ?_
        refine wp_seq ?_
        refine wp_reg ?_
        refine s_q hs (c_move (hs.ev rfl)) rfl fun ac hs => ?_
        refine s_q hs (c_neqI (hs.ev rfl) (hs.ev rfl)) rfl fun ac hs => ?_
        refine s_end ?_
        refine then_n ?_
        refine wp_cond_true (hs.ev rfl) ?_
        refine wp_seq ?_
        refine wp_reg ?_
        refine s_q hs (c_move (hs.ev rfl)) rfl fun ac hs => ?_
        refine s_q hs (c_fld fl158_1 (hs.ev rfl)) rfl fun ac hs => ?_
        refine s_q hs (c_loadS un3 rfl (hs.ev rfl) (hs.old hb6P (not_two hb6P hb17P hb16P rfl rfl)) rfl) rfl fun ac hs => ?_
        refine s_q hs (c_subI (hs.ev rfl) (hs.ev rfl) (by omega) (by omega)) rfl fun ac hs => ?_
        refine s_q hs (c_tt (c_eqlI (hs.ev rfl) (hs.ev rfl)) (by simp; omega)) rfl fun ac hs => ?_
        refine s_q hs (c_move (hs.ev rfl)) rfl fun ac hs => ?_
        refine s_yes hs rfl rfl ?_
        refine s_q hs (c_move (hs.ev rfl)) rfl fun ac hs => ?_
        refine s_yes hs rfl rfl ?_
        refine s_q hs (c_eqlI (hs.ev rfl) (hs.ev rfl)) rfl fun ac hs => ?_
        refine s_q hs (c_pick (hs.ev rfl) (hs.ev rfl) (hs.ev rfl)) rfl fun ac hs => ?_
        refine s_q hs (c_assign (hs.ev rfl)) rfl fun ac hs => ?_
        refine s_end ?_
        refine then_n ?_
        refine wp_ret ?_
        refine then_r ?_
        refine blk_r ?_
        refine then_r ?_
        refine then_r ?_
        refine blk_r ?_
        refine s_ret hs rfl (.tmp (hs.tmp rfl) .nil) rfl ⟨_, rfl, (hfr0.over (Fr.rebase hsF.fr hsF.own hs.fr) fun i hi => (show i = g16 from hi) ▸ hg16), ?_⟩
        rfl
      · refine s_q hs (c_loadW ty162 ag162 (hs.ev rfl) (hs.old hb13c id) (by rfl)) rfl fun ac hs => ?_
        refine s_q hs (c_loadW ty197 ag197 (hs.ev rfl) (hs.seg (i := 0) rfl) (knC_length (el_length _ _ _))) rfl fun ac hs => ?_
        refine s_q hs (c_move (hs.ev rfl)) rfl fun ac hs => ?_
        refine s_call hs fu151 (.cons (hs.ev rfl) (.cons (hs.ev rfl) (.cons (hs.ev rfl) .nil))) (proof_Pass p.W p.S p.H p.d ((k : Int) + 1) s2 p.ep sq2 (el p sq2.toNat (k + 1)) (hPs p sq2) p.H _ (el_length _ _ _) hpl (by omega) _ (Rd.of_row (hs.get (i := 1) rfl))) rfl fun ac ww v110 hf hp hs => ?_
        obtain ⟨L', hps, hh⟩ := hp
        obtain ⟨_, wv2, pv2, rfl, rfl⟩ := hps.resolve_left (fun h => by rw [hR2] at h; exact absurd h.1 (by decide))
        replace hs := hs _ hh
        have hpP := Rd.of_row (hs.get (i := 0) rfl)
        have hwP := Rd.of_row (hs.get (i := 1) rfl)
        have hpPo : ∀ k, _ → _ ≤ k := fun k hk => (hs.own _ (List.mem_of_getElem? (i := 0) rfl) k hk).resolve_right id
        have hwPo : ∀ k, _ → _ ≤ k := fun k hk => (hs.own _ (List.mem_of_getElem? (i := 1) rfl) k hk).resolve_right id
        have hwo2 := hwP.one
        have hpo2 := hpP.one
        have hk1 : k + 1 < p.S := by
          obtain ⟨_, _, _, _, _, _, _, _, h9⟩ := clRight_iff.1 hR2
          omega
        have hfC := hs.fr
        have hsF := (St.frameBack hsL hs).pick (L' := [_, _]) (.cons _ (.cons _ (.cons _ (.cons _ (.cons _ (.refl _))))))
        have hb17P := hsF.seg (i := 0) rfl
        have hb6P := (hfC.block g6 (heap_lt hb6c) (fun h => h)).trans hb6c
        have hb16P := hsF.seg (i := 1) rfl
        replace hs := hsF.rebase
        refine s_q hs (c_move (hs.ev rfl)) rfl fun ac hs => ?_
        refine s_q hs (c_extract (hs.ev rfl) rfl) rfl fun ac hs => ?_
        refine s_q hs (c_extract (hs.ev rfl) rfl) rfl fun ac hs => ?_
        refine s_q hs (c_extract (hs.ev rfl) rfl) rfl fun ac hs => ?_
        refine s_store (i := 1) hs ty182 rfl rfl rfl rfl (by rfl) (by rfl) (by simp) rfl fun ww hs => ?_
        refine s_storeW (i := 0) hs ty192 rfl rfl rfl (by simp [shL_length]) (by simp [hwo2, hpo2]; exact fun x _ => rfl) (by simp [shL_length]) fun ww hs => ?_
        refine s_q hs (c_assign (hs.ev rfl)) rfl fun ac hs => ?_
        refine s_end ?_
        refine then_n ?_
        refine wp_seq ?_
        refine wp_seq ?_
        refine wp_reg ?_
        refine s_q hs (c_move (hs.ev rfl)) rfl fun ac hs => ?_
        refine s_q hs (c_neqI (hs.ev rfl) (hs.ev rfl)) rfl fun ac hs => ?_
        refine s_end ?_
        refine then_n ?_
        refine wp_cond_false (hs.ev rfl) ?_
        refine wp_skip ?_
        refine then_n ?_
        refine wp_seq ?_
        refine wp_reg ?_
        refine s_q hs (c_fld fl182_2 (hs.ev rfl)) rfl fun ac hs => ?_
        refine s_q hs (c_loadS un3 rfl (hs.ev rfl) (hs.seg (i := 1) rfl) rfl) rfl fun ac hs => ?_
        refine s_q hs (c_move (hs.ev rfl)) rfl fun ac hs => ?_
        refine s_q hs (c_ff (c_neqI (hs.ev rfl) (hs.ev rfl)) (by simp)) rfl fun ac hs => ?_
        refine s_end ?_
        refine then_n ?_
        refine wp_cond_false (hs.ev rfl) ?_
        refine wp_skip ?_
        refine blk_n ?_
        refine then_n ?_
        refine wp_reg ?_
        refine s_q hs (c_move (hs.ev rfl)) rfl fun ac hs => ?_
        refine s_q hs (c_addI (hs.ev rfl) (hs.ev rfl) (by omega) (by omega)) rfl fun ac hs => ?_
        refine s_q hs (c_assign (hs.ev rfl)) rfl fun ac hs => ?_
        refine s_end ?_
        refine then_n ?_
        have hsm9 : SpMade ww p := (hsmc.fr0 hfC).other hs.fr fun k hm => (two_keys hm).elim (fun e => ⟨_, _, _, e ▸ hb17P, rfl⟩) fun e => ⟨_, _, _, e ▸ hb16P, rfl⟩
        have hwv9 := hwP.fr hs.fr fun k hk hm => hap9 k (hwPo k hk) (two_keys hm)
        have hpv9 := hpP.fr hs.fr fun k hk hm => hap9 k (hpPo k hk) (two_keys hm)
        replace hs := hs.unrebase hsF.fr hsF.own
        exact ⟨p.S - (k + 1), by (try simp only); omega, (k + 1, s2, _, _), ⟨rfl, by (try simp only); omega, h20, h2W, hsm9, hwv9, hpv9⟩, St.next hs ⟨rfl, rfl, rfl, rfl, rfl, rfl, rfl, rfl, trivial⟩ rfl⟩
end Go.Proofs.Ytmgnnclkjkbmdaa
end
