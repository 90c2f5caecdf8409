/- Own texts of this seat, laid together for one claim (with what its proof uses alone). -/
import Derived.Test.YtklajbdbnnceiaaGreatOwnKe
section
/- What the oracle tells; what the document tells. -/
set_option linter.unusedSimpArgs false
set_option linter.unusedVariables false
set_option maxRecDepth 100000
namespace Go.Proofs.YtklajbdbnnceiaaGreat
open Go Go.Fw
open Sha
def kpO : Obj → Bool := fun x => match x with
  | .cells _ T _ => !(Nat.beq 149 T || Nat.beq 203 T)
  | _ => false
def kpB (w : World) (k : Nat) : Prop := ∃ x, w.heap[k]? = some x ∧ kpO x = true
abbrev pr (W : Int) (S H : Nat) (seed : List UInt8) (d : Int) (ep : UInt32) : Spr := ⟨0, 1, W, S, H, seed, d, ep⟩
theorem pr_ok {W : Int} {S H : Nat} {seed : List UInt8} {d : Int} {ep : UInt32} (hS : S ≤ 16) (hH : H ≤ 6) (hs : seed.length = 32) : (pr W S H seed d ep).Ok := ⟨show (0 : Nat) ≠ 1 by decide, hS, hH, hs⟩
abbrev Orc.pr (o : Orc) (d : Int) (ep : UInt32) : Spr := Go.Proofs.YtklajbdbnnceiaaGreat.pr o.W o.S.toNat o.H.toNat (o.seed d) d ep
theorem spr_eq {p : Spr} {o : Orc} {d : Int} {ep : UInt32} (h : SpIs p o.W o.S o.H (o.seed d) d ep) : p = ⟨p.g, p.cg, o.W, o.S.toNat, o.H.toNat, o.seed d, d, ep⟩ := by
  obtain ⟨_, h1, h2, h3, h4, h5, h6⟩ := h
  obtain ⟨g, cg, W, S, H, seed, d', ep'⟩ := p
  simp only at h1 h2 h3 h4 h5 h6
  subst h1 h4 h5 h6
  simp only [Spr.mk.injEq, true_and, and_true]
  omega
def elV (p : Spr) (q r : Int) : Value := .tuple #[.agg ((elB p q r).map B).toArray, I (elR p q r)]
def clV (p : Spr) (mt sn : Int) (sq : UInt32) (lf ws ps : List UInt8) : Bool := decide (shL p.d p.ep sq mt (el p sq.toNat mt.toNat) p.W sn = lf) && decide (shW p.d p.ep sq mt (el p sq.toNat mt.toNat) p.W sn = ws) && decide (gPath p.d p.ep (ends p p.m) sq.toNat p.H = ps)
def rtV (p : Spr) : List UInt8 := gNode p.d p.ep (ends p p.m) p.H 0
theorem elV_pr (g cg : Nat) (W : Int) (S H : Nat) (seed : List UInt8) (d : Int) (ep : UInt32) (q r : Int) : elV ⟨g, cg, W, S, H, seed, d, ep⟩ q r = elV (pr W S H seed d ep) q r := rfl
theorem clV_pr (g cg : Nat) (W : Int) (S H : Nat) (seed : List UInt8) (d : Int) (ep : UInt32) (mt sn : Int) (sq : UInt32) (lf ws ps : List UInt8) : clV ⟨g, cg, W, S, H, seed, d, ep⟩ mt sn sq lf ws ps = clV (pr W S H seed d ep) mt sn sq lf ws ps := rfl
theorem rtV_pr (g cg : Nat) (W : Int) (S H : Nat) (seed : List UInt8) (d : Int) (ep : UInt32) : rtV ⟨g, cg, W, S, H, seed, d, ep⟩ = rtV (pr W S H seed d ep) := rfl
/-- The oracle, which has made a spring for this destination and epoch at the most; all that it may turn is new. -/
def OrZ (w : World) (o : Orc) (d : Int) (ep : UInt32) (sz : Nat) : Prop := sz ≤ o.mb ∧ ∃ s, OrAt w o s ∧ ∀ p, s = some p → p.d = d ∧ p.ep = ep ∧ sz ≤ p.g ∧ sz ≤ p.cg
theorem OrZ.fr0 {w w' : World} {o : Orc} {d : Int} {ep : UInt32} {sz : Nat} (h : OrZ w o d ep sz) (hf : Fr0 w w') : OrZ w' o d ep sz := by
  obtain ⟨h0, s, h1, h2⟩ := h
  exact ⟨h0, s, h1.fr0 hf, h2⟩
theorem orM_kp {w : World} {o : Orc} {s : Option Spr} (h : OrAt w o s) {k : Nat} (hm : OrM o s k) : ¬ kpB w k := by
  rintro ⟨x, hx, hk⟩
  rcases hm with e | ⟨p, e, hm⟩
  · cases x with
    | cells cs T fr => exact h.mapBlk _ e _ _ _ hx
    | map es cl => cases hk
    | _ => cases hk
  · obtain ⟨cs, T, fr, h1, h2⟩ := spBlk (h.sp p e).2.2 hm
    rw [hx] at h1
    cases h1
    have hk : (!(Nat.beq 149 T || Nat.beq 203 T)) = true := hk
    rw [h2] at hk
    cases hk
theorem keepKB {w w' : World} {o : Orc} {s : Option Spr} (h : OrAt w o s) (hf : Fr (OrM o s) w w') : FwO.KeepB kpO w w' := fun g x hx hk => (hf.block g (Array.getElem?_eq_some_iff.1 hx).1 fun hm => orM_kp h hm ⟨x, hx, hk⟩).trans hx
theorem RdT.kb {w w' : World} {v : Value} {n sz : Nat} {l : List Value} {T : TypeId} (h : RdT w v n sz l T) (hf : FwO.KeepB kpO w w') (hT : (Nat.beq 149 T || Nat.beq 203 T) = false := by rfl) : RdT w' v n sz l T := by
  obtain ⟨h1, g, cap, cur, h2, h3, h4⟩ := h
  exact ⟨h1, g, cap, cur, h2, hf g _ h3 (by show (!(Nat.beq 149 T || Nat.beq 203 T)) = true; rw [hT]; rfl), h4⟩
theorem row_kp {w : World} {v : Value} {n sz : Nat} {l : List Value} {T : TypeId} (h : w.ownsRow 0 T sz v n l) (hT : (Nat.beq 149 T || Nat.beq 203 T) = false := by rfl) : ∀ k, v.ownBlock = some k → kpB w k := by
  intro k hk
  obtain ⟨h1, ⟨h2, _⟩ | ⟨g, cap, cur, h2, _, h3, _⟩⟩ := h
  · subst h2
    cases hk
  · subst h2
    simp only [Value.ownBlock, Option.some.injEq] at hk
    subst hk
    exact ⟨_, h3, by show (!(Nat.beq 149 T || Nat.beq 203 T)) = true; rw [hT]; rfl⟩
theorem orM_ge {o : Orc} {s : Option Spr} {d : Int} {ep : UInt32} {sz : Nat} (h0 : sz ≤ o.mb) (h2 : ∀ p, s = some p → p.d = d ∧ p.ep = ep ∧ sz ≤ p.g ∧ sz ≤ p.cg) : ∀ k, OrM o s k → sz ≤ k := by
  rintro k (e | ⟨p, e, rfl | rfl⟩)
  · rw [e]; exact h0
  · exact (h2 p e).2.2.1
  · exact (h2 p e).2.2.2
theorem OrNext.z {w w' : World} {o : Orc} {s : Option Spr} {d : Int} {ep : UInt32} {p : Spr} {sz : Nat} (h : OrNext w w' o s d ep p) (h0 : sz ≤ o.mb) (h2 : ∀ p, s = some p → p.d = d ∧ p.ep = ep ∧ sz ≤ p.g ∧ sz ≤ p.cg) (hw : sz ≤ w.heap.size) : OrZ w' o d ep sz :=
  ⟨h0, some p, h.at_, fun p2 e => by
    cases e
    exact ⟨h.d, h.ep, h.was.elim (fun e => (h2 p e).2.2) fun e => ⟨Nat.le_trans hw e.2.1, Nat.le_trans hw e.2.2⟩⟩⟩
theorem OrNext.is {w w' : World} {o : Orc} {s : Option Spr} {d : Int} {ep : UInt32} {p : Spr} (h : OrNext w w' o s d ep p) : SpIs p o.W o.S o.H (o.seed d) d ep := by
  have h1 := (h.at_.sp p rfl).1
  rw [h.d, h.ep] at h1
  exact h1
abbrev ownV (o : Orc) (d mt sn : Int) (ep sq : UInt32) (lf ws ps : List UInt8) : Bool := clRight o.W o.S o.H d mt sn ep sq && clV (o.pr d ep) mt sn sq lf ws ps
theorem own_at {w : World} {o : Orc} {s : Option Spr} {d : Int} {ep : UInt32} {sz : Nat} (h0 : sz ≤ o.mb) (hor : OrAt w o s) (h2 : ∀ p, s = some p → p.d = d ∧ p.ep = ep ∧ sz ≤ p.g ∧ sz ≤ p.cg) (hw : sz ≤ w.heap.size) (mt sn : Int) (sq : UInt32) (lf ws ps : List UInt8) (nw np : Nat) (wv pv : Value) (hlf : lf.length = 16) (hwl : ws.length = nw * 16) (hpl : ps.length = np * 16)
    (hqw : Rd w wv nw (ws.map B)) (hqp : Rd w pv np (ps.map B)) (hfw : ∀ k, wv.ownBlock = some k → kpB w k) (hfp : ∀ k, pv.ownBlock = some k → kpB w k) :
    Ctr Tryz.prog 57 [.pointer (some ⟨o.g, 0, none⟩), .agg #[I d, U ep, U sq, I mt, I sn], credV lf wv pv] w (OrM o s) fun v w' => v = .bool (ownV o d mt sn ep sq lf ws ps) ∧ OrZ w' o d ep sz := by
  refine Calls.mono (tr_Own o s d mt sn ep sq lf ws ps nw np wv pv hlf hwl hpl w hor (fun p e => ⟨(h2 p e).1, (h2 p e).2.1⟩) hqw hqp (fun k hk hm => orM_kp hor hm (hfw k hk)) fun k hk hm => orM_kp hor hm (hfp k hk)) ?_
  rintro e w' ⟨v, he, hf, hp⟩
  refine ⟨v, he, hf, ?_⟩
  rcases hp with ⟨h1, rfl, h3⟩ | ⟨h1, p, rfl, hn⟩
  · refine ⟨by rw [ownV, h1]; rfl, ?_⟩
    rcases h3 with ⟨_, h3⟩ | ⟨_, p, h3⟩
    · exact ⟨h0, s, h3, h2⟩
    · exact h3.z h0 h2 hw
  · refine ⟨?_, hn.z h0 h2 hw⟩
    rw [ownV, h1, Bool.true_and, ← clV_pr p.g p.cg, ← spr_eq hn.is, clV, hn.d, hn.ep]
theorem z_Element {w : World} {o : Orc} {d : Int} {ep : UInt32} {sz : Nat} (hz : OrZ w o d ep sz) (hw : sz ≤ w.heap.size) (q r : Int) :
    Ctr Tryz.prog 59 [.pointer (some ⟨o.g, 0, none⟩), I d, U ep, I q, I r] w (fun k => sz ≤ k) fun v w' => v = (if spFits o.W o.S o.H d ep = true then elV (o.pr d ep) q r else .tuple #[.agg ((List.replicate 16 (0 : UInt8)).map B).toArray, I 1]) ∧ OrZ w' o d ep sz ∧ FwO.KeepB kpO w w' := by
  obtain ⟨h0, s, hor, h2⟩ := hz
  refine Calls.mono (tr_Element o s d ep q r w hor fun p e => ⟨(h2 p e).1, (h2 p e).2.1⟩) ?_
  rintro e w' ⟨v, he, hf, hp⟩
  refine ⟨v, he, hf.mono (fun k _ => orM_ge h0 h2 k), ?_⟩
  rcases hp with ⟨h1, rfl, h3⟩ | ⟨h1, p, rfl, hn⟩
  · exact ⟨by rw [if_neg (by rw [h1]; simp)], ⟨h0, s, h3, h2⟩, keepKB hor hf⟩
  · exact ⟨by rw [if_pos h1, ← elV_pr p.g p.cg, ← spr_eq hn.is, elV], hn.z h0 h2 hw, keepKB hor hf⟩
theorem z_Root {w : World} {o : Orc} {d : Int} {ep : UInt32} {sz : Nat} (hz : OrZ w o d ep sz) (hw : sz ≤ w.heap.size) :
    Ctr Tryz.prog 60 [.pointer (some ⟨o.g, 0, none⟩), I d, U ep] w (fun k => sz ≤ k) fun v w' => v = (if spFits o.W o.S o.H d ep = true then .tuple #[.agg ((rtV (o.pr d ep)).map B).toArray, I 0] else .tuple #[.agg ((List.replicate 16 (0 : UInt8)).map B).toArray, I 1]) ∧ OrZ w' o d ep sz ∧ FwO.KeepB kpO w w' := by
  obtain ⟨h0, s, hor, h2⟩ := hz
  refine Calls.mono (tr_Root o s d ep w hor fun p e => ⟨(h2 p e).1, (h2 p e).2.1⟩) ?_
  rintro e w' ⟨v, he, hf, hp⟩
  refine ⟨v, he, hf.mono (fun k _ => orM_ge h0 h2 k), ?_⟩
  rcases hp with ⟨h1, rfl, h3⟩ | ⟨h1, p, rfl, hn⟩
  · exact ⟨by rw [if_neg (by rw [h1]; simp)], ⟨h0, s, h3, h2⟩, keepKB hor hf⟩
  · exact ⟨by rw [if_pos h1, ← rtV_pr p.g p.cg, ← spr_eq hn.is, rtV], hn.z h0 h2 hw, keepKB hor hf⟩
theorem right_eq {W S H d mt sn : Int} {ep sq : UInt32} {b : Bool} (h : clRight W S H d mt sn ep sq = b) (w : World) : Ctr Tryz.prog 28 [.agg #[I W, I S, I H], .agg #[I d, U ep, U sq, I mt, I sn]] w (fun _ => False) fun v _ => v = .bool b := h ▸ ref09_Right W S H d mt sn ep sq w
/-- The seed at a row's place. -/
def sdAt (sd : List UInt8) (d : Int) : List UInt8 := (sd.drop (d.toNat * 32)).take 32
theorem decide_eq_comm {α : Type} [DecidableEq α] (x y : α) : decide (x = y) = decide (y = x) := decide_eq_decide.2 ⟨Eq.symm, Eq.symm⟩
theorem same_clV {p : Spr} {m : Nat} {sn : Int} {sq : UInt32} {lf ws ps : List UInt8} {nw np : Nat} {wv pv wv2 pv2 : Value} (hlf : lf.length = 16) (hwl : ws.length = nw * 16) (hpl : ps.length = np * 16) (hpl2 : (hPs p sq).length = p.H * 16) (w : World)
    (h1 : Rd w wv nw (ws.map B)) (h2 : Rd w pv np (ps.map B)) (h3 : Rd w wv2 (shN (m : Int) p.W sn) ((hWs p m sn sq).map B)) (h4 : Rd w pv2 p.H ((hPs p sq).map B)) :
    Ctr Tryz.prog 29 [credV lf wv pv, credV (hLf p m sn sq) wv2 pv2] w (fun _ => False) fun v _ => v = .bool (clV p (m : Int) sn sq lf ws ps) := by
  have h9 := ref09_SameCred lf ws ps (hLf p m sn sq) (hWs p m sn sq) (hPs p sq) nw np (shN (m : Int) p.W sn) p.H wv pv wv2 pv2 hlf (shL_length _ _ _ _ _ _ _) hwl hpl (shW_length _ _ _ _ _ _ _) hpl2 w h1 h2 h3 h4
  rw [clV, Int.toNat_natCast, decide_eq_comm _ lf, decide_eq_comm _ ws, decide_eq_comm _ ps]
  exact h9
set_option maxHeartbeats 4000000 in
theorem ref28_Own (W : Int) (Sn Hn n : Nat) (sd : List UInt8) (v : Value) (hsd : sd.length = n * 32) (hnW : (n : Int) = W) (d mt sn : Int) (ep sq : UInt32) (lf ws ps : List UInt8) (nw np : Nat) (wv pv : Value) (hlf : lf.length = 16) (hwl : ws.length = nw * 16) (hpl : ps.length = np * 16) (w : World) (hq : Rd w v n (sd.map B)) (hqw : Rd w wv nw (ws.map B)) (hqp : Rd w pv np (ps.map B)) : Ctr Tryz.prog 58 [.agg #[I W, I (Sn : Nat), I (Hn : Nat)], v, .agg #[I d, U ep, U sq, I mt, I sn], credV lf wv pv] w (fun _ => False) (fun v2 _ => v2 = .bool (clRight W Sn Hn d mt sn ep sq && clV (pr W Sn Hn (sdAt sd d) d ep) mt sn sq lf ws ps)) := by
  have hnl := hq.le
  obtain ⟨vad, vcap, rfl, hvc, hvm⟩ := Rd.sl hq
  obtain ⟨wad, wcap, rfl, hwc, hwm⟩ := Rd.sl hqw
  obtain ⟨pad, pcap, rfl, hpc0, hpm0⟩ := Rd.sl hqp
  refine fn_start (N := 24) Tryz.func58 rfl rfl rfl fun ac hk => ?_
  have hs := St.start hk w
  refine wp_seq ?_
  refine wp_reg ?_
  refine s_box hs rfl rfl rfl fun ac ww g4 hs => ?_
  refine s_box hs rfl rfl rfl fun ac ww g6 hs => ?_
  refine s_box hs rfl rfl rfl fun ac ww g7 hs => ?_
  cases hcr : clRight W Sn Hn d mt sn ep sq
  · refine s_q hs (c_assign (hs.ev rfl)) rfl fun ac hs => ?_
    refine s_end ?_
    replace hs := hs.sub (F' := [(1, _), (4, _), (6, _), (7, _), (8, _)]) ⟨rfl, rfl, rfl, rfl, rfl, trivial⟩
    refine then_n ?_
    refine wp_seq ?_
    refine wp_region_rg pmix 13 (by kernel_rfl) rfl hs ?_
    simp only [List.take_succ_cons, List.take_zero]
    refine rg_q (fun ac ww h => c_loadW ty23 ag23 (h.ev rfl) (h.blk (hs.seg (i := 2) rfl)) (by rfl)) rfl ?_
    refine rg_q (fun ac ww h => c_loadW ty54 ag54 (h.ev rfl) (h.blk (hs.seg (i := 1) rfl)) (by rfl)) rfl ?_
    refine rg_call fu28 (fun ac ww h => (.cons (h.ev rfl) (.cons (h.ev rfl) .nil))) (fun ww hf => right_eq hcr ww) rfl ?_
    refine rg_q (fun ac ww h => c_move (h.ev rfl)) rfl ?_
    refine rg_no rfl rfl rfl rfl ?_
    refine rg_no rfl rfl rfl rfl ?_
    refine rg_no rfl rfl rfl rfl ?_
    refine rg_no rfl rfl rfl rfl ?_
    refine rg_no rfl rfl rfl rfl ?_
    refine rg_no rfl rfl rfl rfl ?_
    refine rg_no rfl rfl rfl rfl ?_
    refine rg_no rfl rfl rfl rfl ?_
    refine rg_no rfl rfl rfl rfl ?_
    refine rg_nil fun ac ww L' hf hfe hs => ?_
    simp only [List.drop_succ_cons, List.drop_zero]
    obtain rfl : L' = [] := hfe
    replace hs := hs.toL (List.nil_append _)
    refine s_no hs rfl rfl rfl rfl fun ac hs => ?_
    refine s_q hs (c_pick (hs.ev rfl) (hs.ev rfl) (hs.ev rfl)) rfl fun ac hs => ?_
    refine s_q hs (c_assign (hs.ev rfl)) rfl fun ac hs => ?_
    refine s_end ?_
    replace hs := hs.sub (F' := [(8, _)]) ⟨rfl, trivial⟩
    refine then_n ?_
    refine wp_ret ?_
    refine s_ret hs rfl (.tmp (hs.tmp rfl) .nil) rfl ⟨_, rfl, hs.fr, ?_⟩
    rfl
  · refine s_q hs (c_assign (hs.ev rfl)) rfl fun ac hs => ?_
    refine s_end ?_
    replace hs := hs.sub (F' := [(1, _), (4, _), (6, _), (7, _), (8, _)]) ⟨rfl, rfl, rfl, rfl, rfl, trivial⟩
    refine then_n ?_
    refine wp_seq ?_
    obtain ⟨hR, hd0, hdW, hsn0, hsnW, hep, hsq, hmt0, hmtS⟩ := clRight_iff.1 hcr
    obtain ⟨m, rfl⟩ := int_of hmt0
    obtain ⟨hlv, hS1, hS16, hH0, hH6⟩ := spRight_iff.1 hR
    have hdn : d.toNat < n := by omega
    have hsl : (sdAt sd d).length = 32 := by
      have h2 := Nat.mul_le_mul_right 32 (show d.toNat + 1 ≤ n from hdn)
      rw [Nat.succ_mul] at h2
      rw [sdAt, List.length_take, List.length_drop]
      omega
    obtain ⟨pb, po, pT, pf, pall, rfl, hpb, hps⟩ := Rd.bytes_at32 hq hsd (by omega)
    have hpc := piece32 hps hsd hdn
    have hko : (pr W Sn Hn (sdAt sd d) d ep).Ok := pr_ok (by omega) (by omega) hsl
    have hpl2 : (hPs (pr W Sn Hn (sdAt sd d) d ep) sq).length = Hn * 16 := hPs_length (p := pr W Sn Hn (sdAt sd d) d ep) (m := m) (sn := sn) hcr
    refine wp_region_rg pmix 13 (by kernel_rfl) rfl hs ?_
    simp only [List.take_succ_cons, List.take_zero]
    refine rg_q (fun ac ww h => c_loadW ty23 ag23 (h.ev rfl) (h.blk (hs.seg (i := 2) rfl)) (by rfl)) rfl ?_
    refine rg_q (fun ac ww h => c_loadW ty54 ag54 (h.ev rfl) (h.blk (hs.seg (i := 1) rfl)) (by rfl)) rfl ?_
    refine rg_call fu28 (fun ac ww h => (.cons (h.ev rfl) (.cons (h.ev rfl) .nil))) (fun ww hf => right_eq hcr ww) rfl ?_
    refine rg_q (fun ac ww h => c_move (h.ev rfl)) rfl ?_
    refine rg_yes rfl rfl (fun ac ww h => c_loadW ty66 ag66 (h.ev rfl) (h.blk (hs.seg (i := 0) rfl)) (by simp [hlf])) rfl ?_
    refine rg_yes rfl rfl (fun ac ww h => c_loadW ty23 ag23 (h.ev rfl) (h.blk (hs.seg (i := 2) rfl)) (by rfl)) rfl ?_
    refine rg_yes rfl rfl (fun ac ww h => c_move (h.ev rfl)) rfl ?_
    refine rg_yes rfl rfl (fun ac ww h => c_fld fl54_0 (h.ev rfl)) rfl ?_
    refine rg_yes rfl rfl (fun ac ww h => c_loadS un3 rfl (h.ev rfl) (h.blk (hs.seg (i := 1) rfl)) rfl) rfl ?_
    refine rg_yes rfl rfl (fun ac ww h => c_idxS (j := d.toNat) un100 ty24 (h.ev rfl) (h.ev rfl) (by omega) hdn) rfl ?_
    refine rg_yes rfl rfl (fun ac ww h => c_loadA ty24 rfl (h.ev rfl) (h.blk (hs.old hpb id)) hpc (show (List.map B (sdAt sd d)).length = 32 by rw [List.length_map, hsl])) rfl ?_
    refine rg_yes rfl rfl (fun ac ww h => c_loadW ty54 ag54 (h.ev rfl) (h.blk (hs.seg (i := 1) rfl)) (by rfl)) rfl ?_
    refine rg_strip rfl rfl ?_
    refine rg_callE (crE 35 (hLf (pr W Sn Hn (sdAt sd d) d ep) m sn sq) (shN (m : Int) W sn) (hWs (pr W Sn Hn (sdAt sd d) d ep) m sn sq) Hn (hPs (pr W Sn Hn (sdAt sd d) d ep) sq)) (fun _ _ _ _ _ h => h) fu31 (fun ac ww h => ?_) rfl ?_
    · exact ⟨_, .cons (h.ev rfl) (.cons (h.ev rfl) (.cons (h.ev rfl) (.nil))), ref09_Issue (pr W Sn Hn (sdAt sd d) d ep) hko m sn sq hcr ww⟩
    refine rg_nil fun ac ww L' hf hfe hs => ?_
    simp only [List.drop_succ_cons, List.drop_zero]
    obtain ⟨v21, L21, M21, h21, e21, rfl, rfl⟩ := hfe
    replace hs := hs.add h21
    obtain ⟨wv2, pv2, rfl, rfl⟩ := e21
    refine s_yes hs rfl rfl ?_
    refine s_call hs fu29 (.cons (hs.ev rfl) (.cons (hs.ev rfl) .nil)) (same_clV (p := (pr W Sn Hn (sdAt sd d) d ep)) hlf hwl hpl hpl2 _ (hqw.fr0 hs.fr) (hqp.fr0 hs.fr) (Rd.of_row (hs.get (i := 1) rfl)) (Rd.of_row (hs.get (i := 0) rfl))) rfl fun ac ww v22 hf hp hs => ?_
    obtain rfl := hp
    replace hs := hs [] (.nil _ _)
    refine s_q hs (c_pick (hs.ev rfl) (hs.ev rfl) (hs.ev rfl)) rfl fun ac hs => ?_
    refine s_q hs (c_assign (hs.ev rfl)) rfl fun ac hs => ?_
    refine s_end ?_
    replace hs := hs.sub (F' := [(8, _)]) ⟨rfl, trivial⟩
    refine then_n ?_
    refine wp_ret ?_
    refine s_ret hs rfl (.tmp (hs.tmp rfl) .nil) rfl ⟨_, rfl, hs.fr, ?_⟩
    rfl
end Go.Proofs.YtklajbdbnnceiaaGreat
end

section
/- No oracle, no ledger; a ledger awake. -/
set_option linter.unusedSimpArgs false
set_option linter.unusedVariables false
set_option maxRecDepth 100000
namespace Go.Proofs.YtklajbdbnnceiaaGreat
open Go Go.Fw
set_option maxHeartbeats 4000000 in
theorem tr_awake  (w : World)  : Ctr Tryz.prog 48 [] w (fun _ => False) (fun v _ => v = .bool true) := by
  refine fn_start (N := 37) Tryz.func48 rfl rfl rfl fun ac hk => ?_
  have hs := St.start hk w
  refine wp_seq ?_
  refine wp_reg ?_
  refine s_q hs (c_assign (hs.ev rfl)) rfl fun ac hs => ?_
  refine s_end ?_
  refine then_n ?_
  refine wp_seq ?_
  refine wp_reg ?_
  refine s_call hs fu52 .nil (tr_Open _) rfl fun ac ww v5 hf hp hs => ?_
  obtain ⟨gl, mb, rfl, hh⟩ := hp
  replace hs := hs _ (Has.grp' hh)
  refine s_q hs (c_assign (hs.ev rfl)) rfl fun ac hs => ?_
  refine s_end ?_
  replace hs := hs.sub (F' := [(0, _), (1, _)]) ⟨rfl, rfl, trivial⟩
  refine then_n ?_
  refine wp_seq ?_
  refine wp_reg ?_
  refine s_q hs (c_buildQ (zc := [U 0, U 0, I 2]) ty59 bp59 (.cons (hs.ev rfl) .nil) rfl) rfl fun ac hs => ?_
  refine s_q hs (c_buildS (zc := [I 1, U 0, U 0, I 2, I 3]) ty61 bp61 (.cons (hs.ev rfl) (.cons (hs.ev rfl) (.cons (hs.ev rfl) .nil))) ⟨rfl, rfl, rfl, trivial⟩ (by simp [flatCells, Value.cells]) rfl) rfl fun ac hs => ?_
  refine s_alloc hs ty61 rfl fun ac ww g2 hs => ?_
  refine s_storeW (i := 0) hs ty61 rfl rfl rfl (by rfl) (by rfl) rfl fun ww hs => ?_
  refine s_end ?_
  replace hs := hs.sub (F' := [(0, _), (1, _), (2, _)]) ⟨rfl, rfl, rfl, trivial⟩
  refine then_n ?_
  refine wp_seq ?_
  refine wp_seq ?_
  refine wp_reg ?_
  refine s_q hs (c_move (hs.ev rfl)) rfl fun ac hs => ?_
  refine s_q hs (c_loadW ty61 ag61 (hs.ev rfl) (hs.seg (i := 0) rfl) (by rfl)) rfl fun ac hs => ?_
  refine s_call hs fu94 (.cons (hs.ev rfl) (.cons (hs.ev rfl) .nil)) (tr_May _ _ _ _ [] (fun _ => false) (⟨1, 0, 0, 2, 3⟩ : Cl) ⟨by decide, by decide⟩ _ (led_get (hs.get (i := 1) rfl))) rfl fun ac ww v10 hf hp hs => ?_
  obtain rfl : _ = Value.bool false := hp.trans (congrArg Value.bool (by decide))
  replace hs := hs [] (.nil _ _)
  refine s_q hs (c_move (hs.ev rfl)) rfl fun ac hs => ?_
  refine s_yes hs rfl rfl ?_
  refine s_q hs (c_move (hs.ev rfl)) rfl fun ac hs => ?_
  refine s_yes hs rfl rfl ?_
  refine s_q hs (c_loadW ty61 ag61 (hs.ev rfl) (hs.seg (i := 0) rfl) (by rfl)) rfl fun ac hs => ?_
  refine s_yes hs rfl rfl ?_
  refine s_callM (i := 1) hs fu53 (.cons (hs.ev rfl) (.cons (hs.ev rfl) .nil)) rfl (tr_Show _ _ _ _ [] (fun _ => false) (⟨1, 0, 0, 2, 3⟩ : Cl) (by decide) _ (hs.get (i := 1) rfl)) rfl fun ac ww v14 hf hp hs => ?_
  obtain ⟨rfl, v', h1, h2⟩ := hp
  replace hs := hs (Ent.grp (led gl mb 0 v' [(⟨1, 0, 0, 2, 3⟩ : Cl)] (fun _ => false))) h1 (fun k hk => ⟨h2 k hk, grp_lt h1 k hk⟩)
  refine s_yes hs rfl rfl ?_
  refine s_q hs (c_neqI (hs.ev rfl) (hs.ev rfl)) rfl fun ac hs => ?_
  refine s_q hs (c_pick (hs.ev rfl) (hs.ev rfl) (hs.ev rfl)) rfl fun ac hs => ?_
  refine s_end ?_
  replace hs := hs.sub (F' := [(0, _), (1, _), (2, _), (16, _)]) ⟨rfl, rfl, rfl, rfl, trivial⟩
  refine then_n ?_
  refine wp_cond_false (hs.ev rfl) ?_
  refine wp_skip ?_
  refine then_n ?_
  refine wp_seq ?_
  refine wp_region_rgX (J := [1]) pmix 4 (by kernel_rfl) (by kernel_rfl) rfl rfl hs ?_
  simp only [List.take_succ_cons, List.take_zero]
  refine rg_q (fun ac ww h => c_loadW ty61 ag61 (h.ev rfl) (h.blk (hs.seg (i := 0) rfl)) (by rfl)) rfl ?_
  refine rg_q (fun ac ww h => c_loadW ty61 ag61 (h.ev rfl) (h.blk (hs.seg (i := 0) rfl)) (by rfl)) rfl ?_
  refine rg_alloc ty61 rfl ?_
  refine rg_alloc ty61 rfl ?_
  refine rg_nil fun ac ww L' hf hfe hs hlk => ?_
  simp only [List.drop_succ_cons, List.drop_zero]
  obtain ⟨v4, L4, M4, h4, e4, ⟨v3, L3, M3, h3, e3, rfl, rfl⟩, rfl⟩ := hfe
  replace hs := hs.add h4
  replace hs := hs.add h3
  obtain ⟨g4, rfl, rfl⟩ := e4
  obtain ⟨g3, rfl, rfl⟩ := e3
  refine sk_storeW (i := 1) hs ty61 rfl rfl rfl (by rfl) (by rfl) rfl (fun ww hs => late_read rfl rfl (hs.know.at_ 18 _ rfl) (c_loadW ty61 ag61 (hs.ev rfl) (hs.seg (i := 2) rfl) (by rfl)) (late_nil)) fun ww hs => ?_
  refine s_storeW (i := 0) hs ty61 rfl rfl rfl (by rfl) (by rfl) rfl fun ww hs => ?_
  refine s_end ?_
  replace hs := hs.sub (F' := [(0, _), (1, _), (2, _), (3, _), (4, _)]) ⟨rfl, rfl, rfl, rfl, rfl, trivial⟩
  refine then_n ?_
  refine wp_seq ?_
  refine wp_reg ?_
  refine s_q hs (c_fld fl61_2 (hs.ev rfl)) rfl fun ac hs => ?_
  refine s_store (i := 1) hs ty3 rfl rfl rfl rfl rfl rfl (by simp) rfl fun ww hs => ?_
  refine s_q hs (c_fld fl61_2 (hs.ev rfl)) rfl fun ac hs => ?_
  refine s_store (i := 0) hs ty3 rfl rfl rfl rfl rfl rfl (by simp) rfl fun ww hs => ?_
  refine s_q hs (c_fld fl61_1 (hs.ev rfl)) rfl fun ac hs => ?_
  refine s_q hs (c_fld fl59_2 (hs.ev rfl)) rfl fun ac hs => ?_
  refine s_store (i := 0) hs ty3 rfl rfl rfl rfl rfl rfl (by simp) rfl fun ww hs => ?_
  refine s_end ?_
  replace hs := hs.sub (F' := [(0, _), (1, _), (2, _), (3, _), (4, _)]) ⟨rfl, rfl, rfl, rfl, rfl, trivial⟩
  refine then_n ?_
  refine wp_seq ?_
  refine wp_reg ?_
  refine s_q hs (c_move (hs.ev rfl)) rfl fun ac hs => ?_
  refine s_q hs (c_loadW ty61 ag61 (hs.ev rfl) (hs.seg (i := 2) rfl) (by rfl)) rfl fun ac hs => ?_
  refine s_call hs fu94 (.cons (hs.ev rfl) (.cons (hs.ev rfl) .nil)) (tr_May _ _ _ _ [(⟨1, 0, 0, 2, 3⟩ : Cl)] (fun _ => false) (⟨1, 0, 0, 2, 3⟩ : Cl) ⟨by decide, by decide⟩ _ (led_get (hs.get (i := 3) rfl))) rfl fun ac ww v25 hf hp hs => ?_
  obtain rfl : _ = Value.bool true := hp.trans (congrArg Value.bool (by decide))
  replace hs := hs [] (.nil _ _)
  refine s_q hs (c_move (hs.ev rfl)) rfl fun ac hs => ?_
  refine s_yes hs rfl rfl ?_
  refine s_q hs (c_move (hs.ev rfl)) rfl fun ac hs => ?_
  refine s_yes hs rfl rfl ?_
  refine s_q hs (c_loadW ty61 ag61 (hs.ev rfl) (hs.seg (i := 1) rfl) (by rfl)) rfl fun ac hs => ?_
  refine s_yes hs rfl rfl ?_
  refine s_call hs fu94 (.cons (hs.ev rfl) (.cons (hs.ev rfl) .nil)) (tr_May _ _ _ _ [(⟨1, 0, 0, 2, 3⟩ : Cl)] (fun _ => false) (⟨1, 0, 0, 2, 2⟩ : Cl) ⟨by decide, by decide⟩ _ (led_get (hs.get (i := 3) rfl))) rfl fun ac ww v29 hf hp hs => ?_
  obtain rfl : _ = Value.bool false := hp.trans (congrArg Value.bool (by decide))
  replace hs := hs [] (.nil _ _)
  refine s_yes hs rfl rfl ?_
  refine s_q hs (c_not (hs.ev rfl)) rfl fun ac hs => ?_
  refine s_q hs (c_pick (hs.ev rfl) (hs.ev rfl) (hs.ev rfl)) rfl fun ac hs => ?_
  refine s_q hs (c_move (hs.ev rfl)) rfl fun ac hs => ?_
  refine s_yes hs rfl rfl ?_
  refine s_q hs (c_move (hs.ev rfl)) rfl fun ac hs => ?_
  refine s_yes hs rfl rfl ?_
  refine s_q hs (c_loadW ty61 ag61 (hs.ev rfl) (hs.seg (i := 0) rfl) (by rfl)) rfl fun ac hs => ?_
  refine s_yes hs rfl rfl ?_
  refine s_call hs fu94 (.cons (hs.ev rfl) (.cons (hs.ev rfl) .nil)) (tr_May _ _ _ _ [(⟨1, 0, 0, 2, 3⟩ : Cl)] (fun _ => false) (⟨1, 0, 0, 3, 2⟩ : Cl) ⟨by decide, by decide⟩ _ (led_get (hs.get (i := 3) rfl))) rfl fun ac ww v35 hf hp hs => ?_
  obtain rfl : _ = Value.bool true := hp.trans (congrArg Value.bool (by decide))
  replace hs := hs [] (.nil _ _)
  refine s_q hs (c_pick (hs.ev rfl) (hs.ev rfl) (hs.ev rfl)) rfl fun ac hs => ?_
  refine s_q hs (c_assign (hs.ev rfl)) rfl fun ac hs => ?_
  refine s_end ?_
  replace hs := hs.sub (F' := [(0, _)]) ⟨rfl, trivial⟩
  refine then_n ?_
  refine wp_ret ?_
  refine s_ret hs rfl (.tmp (hs.tmp rfl) .nil) rfl ⟨_, rfl, hs.fr, ?_⟩
  rfl
end Go.Proofs.YtklajbdbnnceiaaGreat
end

section
/- The law of what the oracle owns. -/
set_option linter.unusedSimpArgs false
set_option linter.unusedVariables false
set_option maxRecDepth 100000
namespace Go.Proofs.YtklajbdbnnceiaaGreat
open Go Go.Fw
open Sha
theorem RdT.piece {w : World} {b cap n : Nat} {ws : List UInt8} {T : TypeId} (h : RdT w (.slice (some ⟨b, 0, none⟩) n cap) n 32 (ws.map B) T) {k : Nat} (hk : k < n) : ∃ cur, w.heap[b]? = some (.cells cur T (0, 0)) ∧ (cur.toList.drop (0 + k * 32)).take 32 = ((ws.drop (k * 32)).take 32).map B := by
  obtain ⟨h1, g, cap', cur, h2, h3, h4, h5, h6, h7⟩ := h
  cases h2
  exact ⟨cur, h3, piece32 (o := 0) (by rw [List.drop_zero, h7]) (by simpa using h1) hk⟩
theorem RdT.is {w : World} {v : Value} {n : Nat} {l : List Value} {T : TypeId} (h : RdT w v n 32 l T) : ∃ b cap, v = .slice (some ⟨b, 0, none⟩) n cap := by
  obtain ⟨h1, g, cap', cur, h2, _⟩ := h
  exact ⟨g, cap', h2⟩
theorem Rd.lt {w : World} {v : Value} {n : Nat} {cs : List Value} (h : Rd w v n cs) (h0 : cs ≠ []) : ∀ k, v.ownBlock = some k → k < w.heap.size := by
  intro k hk
  obtain ⟨b, o, cap', T, fr, all, e, _, _, hb, hc⟩ := Rd.at_ h h0
  subst e
  simp only [Value.ownBlock, Option.some.injEq] at hk
  subst hk
  exact heap_lt hb
theorem Rd.frL {w0 w w' : World} {v : Value} {n : Nat} {cs : List Value} {M : Nat → Prop} (h0 : Rd w0 v n cs) (h : Rd w v n cs) (hf : Fr M w w') (hM : ∀ k, M k → w0.heap.size ≤ k) : Rd w' v n cs := by
  by_cases e : cs = []
  · obtain ⟨ad, cap, hv, h1, h2, h3, _⟩ := h
    exact ⟨ad, cap, hv, h1, h2, h3, .inl e⟩
  · exact h.fr hf fun k hk hm => by
      have h5 := Rd.lt h0 e k hk
      have h6 := hM k hm
      omega
theorem i64_natT {n : Nat} (h : n < 18446744073709551616) : (i64 (n : Int)).toNat = n := by
  rw [i64, UInt64.toNat_ofNat']
  omega
theorem rtV_length (p : Spr) : (rtV p).length = 16 := hRt_length
theorem Fr0.overC {w0 w w' : World} {sz : Nat} (h : Fr0 w0 w) (k : Fr (fun k => sz ≤ k) w w') (hs : w0.heap.size ≤ sz) : Fr0 w0 w' := h.over k fun i hi => Nat.le_trans hs hi
set_option maxHeartbeats 4000000 in
theorem law_TruthOwns (W S H d mt sn r : Int) (ep sq : UInt32) (sd0 lf ws ps : List UInt8) (nw np : Nat) (wv pv : Value) (b : Bool) (hsd : sd0.length = 32) (hlf : lf.length = 16) (hwl : ws.length = nw * 16) (hpl : ps.length = np * 16) (w : World) (hqw : Rd w wv nw (ws.map B)) (hqp : Rd w pv np (ps.map B)) : Ctr Tryz.prog 9 [.agg #[I W, I S, I H], .agg (sd0.map B).toArray, .agg #[I d, U ep, U sq, I mt, I sn], credV lf wv pv, .bool b, I r] w (fun _ => False) (fun v _ => v = .bool true) := by
  have hnlw := hqw.le
  have hnlp := hqp.le
  obtain ⟨wad, wcap, rfl, hwc, hwm⟩ := Rd.sl hqw
  obtain ⟨pad, pcap, rfl, hpc0, hpm0⟩ := Rd.sl hqp
  refine fn_start (N := 196) Tryz.func9 rfl rfl rfl fun ac hk => ?_
  have hs := St.start hk w
  refine wp_seq ?_
  refine wp_reg ?_
  refine s_box hs rfl rfl rfl fun ac ww g6 hs => ?_
  refine s_box hs rfl rfl rfl fun ac ww g7 hs => ?_
  refine s_box hs rfl rfl rfl fun ac ww g8 hs => ?_
  refine s_box hs rfl rfl rfl fun ac ww g9 hs => ?_
  refine s_q hs (c_assign (hs.ev rfl)) rfl fun ac hs => ?_
  refine s_end ?_
  replace hs := hs.sub (F' := [(4, _), (5, _), (6, _), (7, _), (8, _), (9, _), (12, _)]) ⟨rfl, rfl, rfl, rfl, rfl, rfl, rfl, trivial⟩
  refine then_n ?_
  refine wp_seq ?_
  refine wp_seq ?_
  refine wp_reg ?_
  refine s_q hs (c_loadW ty23 ag23 (hs.ev rfl) (hs.seg (i := 3) rfl) (by rfl)) rfl fun ac hs => ?_
  refine s_call hs fu11 (.cons (hs.ev rfl) .nil) (law08_Light W S H _) rfl fun ac ww v23 hf hp hs => ?_
  obtain rfl := hp
  replace hs := hs [] (.nil _ _)
  refine s_q hs (c_not (hs.ev rfl)) rfl fun ac hs => ?_
  refine s_q hs (c_move (hs.ev rfl)) rfl fun ac hs => ?_
  refine s_g hs rfl rfl (fun hg => c_loadW ty66 ag66 (hs.ev rfl) (hs.seg (i := 0) rfl) (by simp [hlf])) rfl fun ac hs => ?_
  refine s_gcall hs rfl rfl fu32 (fun hg => (.cons (gev (hs.ev rfl) hg) .nil)) (fun hg => law09_Light lf ws ps nw np _ _ hlf _ (hqw.fr0 hs.fr) (hqp.fr0 hs.fr)) rfl fun ac ww hf hs => ?_
  refine s_g hs rfl rfl (fun hg => c_not (gev (hs.ev rfl) hg)) rfl fun ac hs => ?_
  refine s_q hs (c_or (hs.ev rfl) (hs.ev rfl)) rfl fun ac hs => ?_
  refine s_end ?_
  replace hs := hs.sub (F' := [(4, _), (5, _), (6, _), (7, _), (8, _), (9, _), (12, _), (29, _)]) ⟨rfl, rfl, rfl, rfl, rfl, rfl, rfl, rfl, trivial⟩
  refine then_n ?_
  refine s_cond hs rfl (fun hc => ?_) (fun hc => ?_)
  · skip
    refine wp_seq ?_
    refine wp_reg ?_
    refine s_call hs fu48 .nil (tr_awake _) rfl fun ac ww v30 hf hp hs => ?_
    obtain rfl := hp
    replace hs := hs [] (.nil _ _)
    refine s_q hs (c_assign (hs.ev rfl)) rfl fun ac hs => ?_
    refine s_end ?_
    replace hs := hs.sub (F' := [(4, _), (5, _), (6, _), (7, _), (8, _), (9, _), (12, _)]) ⟨rfl, rfl, rfl, rfl, rfl, rfl, rfl, trivial⟩
    refine then_n ?_
    refine wp_ret ?_
    refine then_r ?_
    refine s_ret hs rfl (.tmp (hs.tmp rfl) .nil) rfl ⟨_, rfl, hs.fr, ?_⟩
    rfl
  · skip
    have hc2 : spLight W S H = true ∧ nw ≤ 20 ∧ np ≤ 20 := by
      simp at hc
      exact hc
    obtain ⟨hlight, hnw20, hnp20⟩ := hc2
    have hright : spRight W S H = true := by
      simp only [spLight, Bool.and_eq_true] at hlight
      exact hlight.1.1
    obtain ⟨hlv, hS1, hS16, hH0, hH6⟩ := spRight_iff.1 hright
    obtain ⟨n, rfl⟩ := int_of (show 0 ≤ W by have := levels_cases W; omega)
    obtain ⟨Sn, rfl⟩ := int_of (show 0 ≤ S by omega)
    obtain ⟨Hn, rfl⟩ := int_of hH0
    have hn8 : n ≤ 8 := by have := levels_cases (n : Int); omega
    have hn0 : 0 < n := by have := levels_cases (n : Int); omega
    have hyN : (spRight (n : Int) Sn Hn && decide ((n : Int) = (n : Int))) = true := by rw [hright]; simp
    have hnN : (spRight (n : Int) Sn Hn && decide (((0 : Nat) : Int) = (n : Int))) = false := by
      rw [Bool.and_eq_false_iff]
      right
      simp
      omega
    refine wp_skip ?_
    refine then_n ?_
    refine wp_seq ?_
    refine wp_reg ?_
    refine s_q hs (c_loadW ty23 ag23 (hs.ev rfl) (hs.seg (i := 3) rfl) (by rfl)) rfl fun ac hs => ?_
    refine s_q hs (c_loadW ty24 rfl (hs.ev rfl) (hs.seg (i := 2) rfl) (by rw [List.length_map, hsd])) rfl fun ac hs => ?_
    refine s_call hs fu49 (.cons (hs.ev rfl) (.cons (hs.ev rfl) .nil)) (tr_made n Sn Hn sd0 hsd (by omega) _) rfl fun ac ww v33 hf hp hs => ?_
    obtain ⟨L9, rfl, hh⟩ := hp
    replace hs := hs _ hh
    refine s_q hs (c_assign (hs.ev rfl)) rfl fun ac hs => ?_
    refine s_end ?_
    replace hs := hs.sub (F' := [(4, _), (5, _), (6, _), (8, _), (9, _), (12, _), (13, _)]) ⟨rfl, rfl, rfl, rfl, rfl, rfl, rfl, trivial⟩
    refine then_n ?_
    refine wp_seq ?_
    refine wp_reg ?_
    refine s_q hs (c_loadW ty23 ag23 (hs.ev rfl) (hs.seg (i := 4) rfl) (by rfl)) rfl fun ac hs => ?_
    refine s_call hs fu15 (.cons (hs.ev rfl) .nil) (law08_To n Sn Hn _) rfl fun ac ww v36 hf hp hs => ?_
    obtain rfl := hp
    replace hs := hs [] (.nil _ _)
    refine s_q hs (c_move (hs.ev rfl)) rfl fun ac hs => ?_
    refine s_call hs fu51 (.cons (hs.ev rfl) .nil) (tr_digests n (sdR sd0 n) _ (sdR_length hsd n) (by omega) _ (Rd.of_row (hs.get (i := 0) rfl))) rfl fun ac ww v38 hf hp hs => ?_
    obtain ⟨L9, rfl, hh⟩ := hp
    replace hs := hs _ hh
    have hszN := hs.fr.size
    refine s_call hs fu50 (.cons (hs.ev rfl) (.cons (hs.ev rfl) .nil)) (tr_New n Sn Hn n (sdR sd0 n) _ (sdR_length hsd n) (by omega) _ (Rd.of_row (hs.get (i := 0) rfl))) rfl fun ac ww v39 hf hp hs => ?_
    obtain ⟨o, hoW, hoS, hoH, hosd, hon, hor, hmb1, rfl⟩ := (hp.elim (fun h => absurd (hyN.symm.trans h.1) (by decide)) fun h => h.2)
    have hmb : w.heap.size ≤ o.mb := Nat.le_trans hszN hmb1
    replace hs := hs [] (.nil _ _)
    refine s_q hs (c_move (hs.ev rfl)) rfl fun ac hs => ?_
    refine s_q hs (c_extract (hs.ev rfl) rfl) rfl fun ac hs => ?_
    refine s_q hs (c_extract (hs.ev rfl) rfl) rfl fun ac hs => ?_
    refine s_q hs (c_assign (hs.ev rfl)) rfl fun ac hs => ?_
    refine s_q hs (c_assign (hs.ev rfl)) rfl fun ac hs => ?_
    refine s_end ?_
    have hb6 := hs.seg (i := 5) rfl
    have hb7 := hs.seg (i := 4) rfl
    have hb8 := hs.seg (i := 3) rfl
    have hb9 := hs.seg (i := 2) rfl
    have hg9 := (hs.own _ (List.mem_of_getElem? (i := 2) rfl) g9 rfl).resolve_right id
    have hR13 : RdT ww _ n 32 ((sdR sd0 n).map B) 24 := RdT.row (hs.get (i := 1) rfl) hn0
    obtain ⟨rb, rcap, hv33⟩ := hR13.is
    subst hv33
    have ne6 := kinds_ne hb6 hb9 rfl
    have ne7 := kinds_ne hb7 hb9 rfl
    have ne8 := kinds_ne hb8 hb9 rfl
    have hfr0 := hs.fr
    have hbase := hb9
    obtain ⟨wq, hwq⟩ : ∃ z, z = ww := ⟨_, rfl⟩
    have hpr : o.pr d ep = (pr n Sn Hn (sdAt (sdR sd0 n) d) d ep) := by
      show pr o.W o.S.toNat o.H.toNat (sdAt o.sd d) d ep = _
      rw [hoW, hoS, hoH, hosd]
      rfl
    replace hs := St.own1 hs.know hb9
    replace hs := hs.sub (F' := [(4, _), (5, _), (6, _), (8, _), (9, _), (12, _), (13, _), (14, _), (15, _)]) ⟨rfl, rfl, rfl, rfl, rfl, rfl, rfl, rfl, rfl, trivial⟩
    refine then_n ?_
    refine wp_seq ?_
    refine wp_reg ?_
    refine s_q hs (c_loadW ty23 ag23 (hs.ev rfl) (hs.old hb6 ne6) (by rfl)) rfl fun ac hs => ?_
    refine s_call hs fu15 (.cons (hs.ev rfl) .nil) (law08_To n Sn Hn _) rfl fun ac ww v44 hf hp hs => ?_
    obtain rfl := hp
    replace hs := hs [] (.nil _ _)
    refine s_call hs fu50 (.cons (hs.ev rfl) (.cons (hs.ev rfl) .nil)) (tr_New n Sn Hn 0 [] _ rfl (by decide) _ ⟨none, 0, rfl, Nat.le_refl _, Nat.zero_le _, fun _ => rfl, .inl rfl⟩) rfl fun ac ww v45 hf hp hs => ?_
    obtain rfl := (hp.elim (fun h => h.2) fun h => absurd (hnN.symm.trans h.1) (by decide))
    replace hs := hs [] (.nil _ _)
    refine s_q hs (c_move (hs.ev rfl)) rfl fun ac hs => ?_
    refine s_q hs (c_extract (hs.ev rfl) rfl) rfl fun ac hs => ?_
    refine s_q hs (c_extract (hs.ev rfl) rfl) rfl fun ac hs => ?_
    refine s_q hs (c_assign (hs.ev rfl)) rfl fun ac hs => ?_
    refine s_q hs (c_assign (hs.ev rfl)) rfl fun ac hs => ?_
    refine s_end ?_
    replace hs := hs.sub (F' := [(4, _), (5, _), (6, _), (8, _), (9, _), (12, _), (13, _), (14, _), (15, _), (17, _)]) ⟨rfl, rfl, rfl, rfl, rfl, rfl, rfl, rfl, rfl, rfl, trivial⟩
    refine then_n ?_
    refine wp_seq ?_
    refine wp_seq ?_
    refine wp_reg ?_
    refine s_call hs fu48 .nil (tr_awake _) rfl fun ac ww v48 hf hp hs => ?_
    obtain rfl := hp
    replace hs := hs [] (.nil _ _)
    refine s_q hs (c_not (hs.ev rfl)) rfl fun ac hs => ?_
    refine s_q hs (c_move (hs.ev rfl)) rfl fun ac hs => ?_
    refine s_yes hs rfl rfl ?_
    refine s_q hs (c_move (hs.ev rfl)) rfl fun ac hs => ?_
    refine s_yes hs rfl rfl ?_
    refine s_q hs (c_eqlNil un102 (hs.ev rfl) (hs.ev rfl)) rfl fun ac hs => ?_
    refine s_q hs (c_pick (hs.ev rfl) (hs.ev rfl) (hs.ev rfl)) rfl fun ac hs => ?_
    refine s_q hs (c_move (hs.ev rfl)) rfl fun ac hs => ?_
    refine s_yes hs rfl rfl ?_
    refine s_q hs (c_move (hs.ev rfl)) rfl fun ac hs => ?_
    refine s_yes hs rfl rfl ?_
    refine s_q hs (c_ff (c_neqI (hs.ev rfl) (hs.ev rfl)) (by rfl)) rfl fun ac hs => ?_
    refine s_q hs (c_pick (hs.ev rfl) (hs.ev rfl) (hs.ev rfl)) rfl fun ac hs => ?_
    refine s_q hs (c_move (hs.ev rfl)) rfl fun ac hs => ?_
    refine s_yes hs rfl rfl ?_
    refine s_q hs (c_move (hs.ev rfl)) rfl fun ac hs => ?_
    refine s_yes hs rfl rfl ?_
    refine s_q hs (c_ff (c_neqI (hs.ev rfl) (hs.ev rfl)) (by rfl)) rfl fun ac hs => ?_
    refine s_q hs (c_pick (hs.ev rfl) (hs.ev rfl) (hs.ev rfl)) rfl fun ac hs => ?_
    refine s_end ?_
    replace hs := hs.sub (F' := [(4, _), (5, _), (6, _), (8, _), (9, _), (12, _), (13, _), (14, _), (61, _)]) ⟨rfl, rfl, rfl, rfl, rfl, rfl, rfl, rfl, rfl, trivial⟩
    refine then_n ?_
    refine wp_cond_false (hs.ev rfl) ?_
    refine wp_skip ?_
    refine then_n ?_
    refine wp_seq ?_
    refine wp_seq ?_
    refine wp_reg ?_
    refine s_q hs (c_move (hs.ev rfl)) rfl fun ac hs => ?_
    refine s_q hs (c_move (hs.ev rfl)) rfl fun ac hs => ?_
    refine s_g hs rfl rfl (fun hg => c_loadW ty23 ag23 (hs.ev rfl) (hs.old hb6 ne6) (by rfl)) rfl fun ac hs => ?_
    refine s_g hs rfl rfl (fun hg => c_loadW ty54 ag54 (hs.ev rfl) (hs.old hb8 ne8) (by rfl)) rfl fun ac hs => ?_
    refine s_gcall hs rfl rfl fu28 (fun hg => (.cons (gev (hs.ev rfl) hg) (.cons (gev (hs.ev rfl) hg) .nil))) (fun hg => ref09_Right n Sn Hn d mt sn ep sq _) rfl fun ac ww hf hs => ?_
    refine s_q hs (c_and (hs.ev rfl) (hs.ev rfl)) rfl fun ac hs => ?_
    refine s_end ?_
    replace hs := hs.sub (F' := [(5, _), (6, _), (8, _), (9, _), (12, _), (13, _), (14, _), (67, _)]) ⟨rfl, rfl, rfl, rfl, rfl, rfl, rfl, rfl, trivial⟩
    refine then_n ?_
    refine s_cond hs rfl (fun hc => ?_) (fun hc => ?_)
    · skip
      have hcr : clRight n Sn Hn d mt sn ep sq = true := by
        simp at hc
        exact hc.2
      obtain ⟨hR, hd0, hdW, hsn0, hsnW, hep, hsq, hmt0, hmtS⟩ := clRight_iff.1 hcr
      obtain ⟨m, rfl⟩ := int_of hmt0
      have hdn : d.toNat < n := by omega
      obtain ⟨rcur, hrb, hpc⟩ := hR13.piece hdn
      have ner := kinds_ne hrb hbase rfl
      have hsl : (sdAt (sdR sd0 n) d).length = 32 := by
        have h2 := Nat.mul_le_mul_right 32 (show d.toNat + 1 ≤ n from hdn)
        have h3 := sdR_length hsd n
        rw [Nat.succ_mul] at h2
        rw [sdAt, List.length_take, List.length_drop]
        omega
      have hko : ((pr n Sn Hn (sdAt (sdR sd0 n) d) d ep)).Ok := pr_ok (by omega) (by omega) hsl
      have hpl2 : (hPs ((pr n Sn Hn (sdAt (sdR sd0 n) d) d ep)) sq).length = Hn * 16 := hPs_length (p := (pr n Sn Hn (sdAt (sdR sd0 n) d) d ep)) (m := m) (sn := sn) hcr
      have hnwk := shN_le (m : Int) n sn
      refine wp_region_rg pmix 7 (by kernel_rfl) rfl hs ?_
      simp only [List.take_succ_cons, List.take_zero]
      refine rg_q (fun ac ww h => c_loadW ty23 ag23 (h.ev rfl) (h.blk (hs.old hb6 ne6)) (by rfl)) rfl ?_
      refine rg_q (fun ac ww h => c_move (h.ev rfl)) rfl ?_
      refine rg_q (fun ac ww h => c_fld fl54_0 (h.ev rfl)) rfl ?_
      refine rg_q (fun ac ww h => c_loadS un3 rfl (h.ev rfl) (h.blk (hs.old hb8 ne8)) rfl) rfl ?_
      refine rg_q (fun ac ww h => c_idxS (j := d.toNat) un100 ty24 (h.ev rfl) (h.ev rfl) (by omega) hdn) rfl ?_
      refine rg_q (fun ac ww h => c_loadA ty24 rfl (h.ev rfl) (h.blk (hs.old hrb ner)) hpc (show (List.map B (sdAt (sdR sd0 n) d)).length = 32 by rw [List.length_map, hsl])) rfl ?_
      refine rg_q (fun ac ww h => c_loadW ty54 ag54 (h.ev rfl) (h.blk (hs.old hb8 ne8)) (by rfl)) rfl ?_
      refine rg_nil fun ac ww L' hf hfe hs => ?_
      simp only [List.drop_succ_cons, List.drop_zero]
      obtain rfl : L' = [] := hfe
      replace hs := hs.toL (List.nil_append _)
      refine s_call hs fu31 (.cons (hs.ev rfl) (.cons (hs.ev rfl) (.cons (hs.ev rfl) .nil))) (ref09_Issue (pr n Sn Hn (sdAt (sdR sd0 n) d) d ep) hko m sn sq hcr _) rfl fun ac ww v75 hf hp hs => ?_
      obtain ⟨L9, ⟨wv2, pv2, rfl, rfl⟩, hh⟩ := hp
      replace hs := hs _ hh
      have hwo2 := (Rd.of_row (hs.get (i := 1) rfl)).one
      have hpo2 := (Rd.of_row (hs.get (i := 0) rfl)).one
      refine s_storeW (i := 2) hs ty66 rfl rfl rfl (by simp [shL_length]) (by simp [hwo2, hpo2]; exact fun x _ => rfl) (by simp [hlf]) fun ww hs => ?_
      refine s_end ?_
      have hor2 : OrAt ww o none := hor.frX hs.fr (fun k e => ⟨_, _, _, e ▸ hbase, rfl⟩) (fun _ h => by cases h)
      replace hR13 := hR13.frM hs.fr (fun k e cs fr h9 => by have e : k = g9 := e; rw [e, hbase] at h9; cases h9)
      obtain ⟨lfc, wsc, psc, nwc, npc, wvc, pvc, hlfc, hwlc, hplc, hnwc, hnpc, hb9c, hqwc, hqpc, hnw, hnp⟩ : ∃ (lfc wsc psc : List UInt8) (nwc npc : Nat) (wvc pvc : Value), lfc.length = 16 ∧ wsc.length = nwc * 16 ∧ psc.length = npc * 16 ∧ nwc ≤ 1000 ∧ npc ≤ 1000 ∧ ww.heap[g9]? = some (.cells (lfc.map B ++ [wvc, pvc]).toArray 66 (0, 0)) ∧ Rd ww wvc nwc (wsc.map B) ∧ Rd ww pvc npc (psc.map B) ∧ (∀ w9, Fr (OrM o none) ww w9 → Rd w9 wvc nwc (wsc.map B)) ∧ (∀ w9, Fr (OrM o none) ww w9 → Rd w9 pvc npc (psc.map B)) := ⟨hLf (pr n Sn Hn (sdAt (sdR sd0 n) d) d ep) m sn sq, hWs (pr n Sn Hn (sdAt (sdR sd0 n) d) d ep) m sn sq, hPs (pr n Sn Hn (sdAt (sdR sd0 n) d) d ep) sq, shN (m : Int) n sn, Hn, _, _, shL_length _ _ _ _ _ _ _, shW_length _ _ _ _ _ _ _, hpl2, by omega, by omega, hs.seg (i := 2) rfl, Rd.of_row (hs.get (i := 1) rfl), Rd.of_row (hs.get (i := 0) rfl), fun w9 hf9 => (Rd.of_row (hs.get (i := 1) rfl)).fr hf9 fun k hk hm => orM_kp hor2 hm (row_kp (hs.get (i := 1) rfl) rfl k hk), fun w9 hf9 => (Rd.of_row (hs.get (i := 0) rfl)).fr hf9 fun k hk hm => orM_kp hor2 hm (row_kp (hs.get (i := 0) rfl) rfl k hk)⟩
      replace hb6 := hs.old hb6 ne6
      replace hb7 := hs.old hb7 ne7
      replace hb8 := hs.old hb8 ne8
      have hfrQ : Fr0 w ww := hfr0.over hs.fr (fun i e => by have e : i = g9 := e; rw [e]; exact hg9)
      replace hs := St.start hs.know ww
      replace hs := hs.sub (F' := [(5, _), (6, _), (8, _), (9, _), (12, _), (13, _), (14, _)]) ⟨rfl, rfl, rfl, rfl, rfl, rfl, rfl, trivial⟩
      refine then_n ?_
      refine wp_seq ?_
      refine wp_seq ?_
      have hK := FwO.frKO (M := OrM o none) (kp := kpO) (R := fun a b => OrZ a o d ep w.heap.size → OrZ b o d ep w.heap.size) (B1 := ww.heap.size) (fun k hm => by
        rcases hm with e | ⟨_, e, _⟩
        · obtain ⟨es, cl, h8⟩ := hor2.mp.blk
          rw [e]
          exact heap_lt h8
        · cases e) (fun h k x => k (h x)) (fun hf x => x.fr0 hf)
      have hszB := hfrQ.size
      have hzz : OrZ ww o d ep w.heap.size := ⟨hmb, none, hor2, fun _ e => by cases e⟩
      refine FwO.wp_region_rgO (cc := 81) pmix hK 12 (by kernel_rfl) rfl hs.know ?_
      simp only [List.take_succ_cons, List.take_zero]
      refine FwO.rg_q hK (fun ac ww h => c_move (h.ev rfl)) rfl ?_
      refine FwO.rg_q hK (fun ac ww h => c_loadW ty54 ag54 (h.ev rfl) (h.blk hb8) (by rfl)) rfl ?_
      refine FwO.rg_call hK fu27 (fun ac ww h => (.cons (h.ev rfl) .nil)) (fun ww hf => law09_To d (m : Int) sn ep sq ww) rfl ?_
      refine FwO.rg_q hK (fun ac ww h => c_loadW ty66 ag66 (h.ev rfl) (h.blk hb9c) (by simp [hlfc])) rfl ?_
      refine FwO.rg_callE hK (crE 36 lfc nwc wsc npc psc) (fun _ _ _ _ _ h => h) fu34 (fun ac ww h => ?_) rfl ?_
      · exact ⟨_, .cons (h.ev rfl) (.nil), law09_ToCred lfc wsc psc nwc npc _ _ hlfc hwlc hplc (by omega) (by omega) _ (hnw _ h.fr.1) (hnp _ h.fr.1)⟩
      refine FwO.rg_callOneE hK fu57 (c := .bool (ownV o d (m : Int) sn ep sq lfc wsc psc)) (fun ac w8 h hf0 => ?_) rfl ?_
      · obtain ⟨v80, L80, he80, ⟨wv8, pv8, rfl, rfl⟩, hh80⟩ := h.ent (n := 80) rfl rfl
        refine ⟨_, .cons (h.ev rfl) (.cons (h.ev rfl) (.cons he80 .nil)), Calls.mono (own_at hmb (hor2.fr0 hf0) (fun _ e => by cases e) (Nat.le_trans hszB hf0.size) (m : Int) sn sq lfc wsc psc nwc npc wv8 pv8 hlfc hwlc hplc (Rd.of_row (hh80.holds _ (List.mem_of_getElem? (i := 1) rfl))) (Rd.of_row (hh80.holds _ (List.mem_of_getElem? (i := 0) rfl))) (row_kp (hh80.holds _ (List.mem_of_getElem? (i := 1) rfl))) (row_kp (hh80.holds _ (List.mem_of_getElem? (i := 0) rfl)))) ?_⟩
        rintro e9 w9 ⟨v9, he9, hf9, hv9, hz9⟩
        exact ⟨by rw [he9, hv9], hf9, keepKB (hor2.fr0 hf0) hf9, fun _ => hz9⟩
      refine FwO.rg_q hK (fun ac ww h => c_loadW ty23 ag23 (h.ev rfl) (h.blk hb6) (by rfl)) rfl ?_
      refine FwO.rg_q hK (fun ac ww h => c_move (h.ev rfl)) rfl ?_
      refine FwO.rg_q hK (fun ac ww h => c_loadW ty54 ag54 (h.ev rfl) (h.blk hb8) (by rfl)) rfl ?_
      refine FwO.rg_q hK (fun ac ww h => c_loadW ty66 ag66 (h.ev rfl) (h.blk hb9c) (by simp [hlfc])) rfl ?_
      refine FwO.rg_call hK fu58 (fun ac ww h => (.cons (h.ev rfl) (.cons (h.ev rfl) (.cons (h.ev rfl) (.cons (h.ev rfl) .nil))))) (fun ww hf => ref28_Own n Sn Hn n (sdR sd0 n) _ (sdR_length hsd n) rfl d (m : Int) sn ep sq lfc wsc psc nwc npc _ _ hlfc hwlc hplc ww (hR13.kb hf.2.1).rd (hnw _ hf.1) (hnp _ hf.1)) rfl ?_
      refine FwO.rg_q hK (fun ac ww h => c_ff (c_neqbool un4 (h.ev rfl) (h.ev rfl)) ((by rw [ownV, hpr, hoW, hoS, hoH]; simp))) rfl ?_
      refine FwO.rg_nil fun ac ww L' hfk hfe hkn hhas hlk => ?_
      simp only [List.drop_succ_cons, List.drop_zero]
      have hz := hfk.2.2 hzz
      replace hb6 := hfk.2.1 _ _ hb6 rfl
      replace hb8 := hfk.2.1 _ _ hb8 rfl
      replace hR13 := hR13.kb hfk.2.1
      replace hfrQ := hfrQ.over hfk.1 (fun k hk => by
        rcases hk with e | ⟨_, e, _⟩
        · rw [e]; exact hmb
        · cases e)
      replace hs := St.start hkn ww
      refine s_end ?_
      replace hs := hs.sub (F' := [(5, _), (6, _), (8, _), (12, _), (13, _), (14, _), (87, _)]) ⟨rfl, rfl, rfl, rfl, rfl, rfl, rfl, trivial⟩
      refine then_n ?_
      refine wp_cond_false (hs.ev rfl) ?_
      refine wp_skip ?_
      refine then_n ?_
      refine wp_seq ?_
      refine wp_reg ?_
      cases hfit : spFits n Sn Hn d ep
      · refine s_q hs (c_move (hs.ev rfl)) rfl fun ac hs => ?_
        refine s_q hs (c_fld fl54_0 (hs.ev rfl)) rfl fun ac hs => ?_
        refine s_q hs (c_loadS un3 rfl (hs.ev rfl) (hs.old hb8 id) rfl) rfl fun ac hs => ?_
        refine s_q hs (c_fld fl54_1 (hs.ev rfl)) rfl fun ac hs => ?_
        refine s_q hs (c_fld fl52_0 (hs.ev rfl)) rfl fun ac hs => ?_
        refine s_q hs (c_loadS un25 rfl (hs.ev rfl) (hs.old hb8 id) rfl) rfl fun ac hs => ?_
        refine s_q hs (c_fld fl54_1 (hs.ev rfl)) rfl fun ac hs => ?_
        refine s_q hs (c_fld fl52_1 (hs.ev rfl)) rfl fun ac hs => ?_
        refine s_q hs (c_loadS un25 rfl (hs.ev rfl) (hs.old hb8 id) rfl) rfl fun ac hs => ?_
        refine s_q hs (c_cvUI un25 un3 (hs.ev rfl)) rfl fun ac hs => ?_
        refine s_q hs (c_move (hs.ev rfl)) rfl fun ac hs => ?_
        have hz1 := hz.fr0 hs.fr
        have hb6p := hs.old hb6 id
        have hb8p := hs.old hb8 id
        have hR13p := hR13.fr0 hs.fr
        have hfrP := hfrQ.trans0 hs.fr
        refine s_callR hs fu59 (.cons (hs.ev rfl) (.cons (hs.ev rfl) (.cons (hs.ev rfl) (.cons (hs.ev rfl) (.cons (hs.ev rfl) .nil))))) (z_Element hz1 hfrP.size (sq.toNat : Int) r) rfl fun ac ww v100 hf hp hs => ?_
        obtain ⟨hv, hz, hkb⟩ := hp
        replace hb6 := hkb _ _ hb6p rfl
        replace hb8 := hkb _ _ hb8p rfl
        replace hR13 := hR13p.kb hkb
        replace hfrQ := Fr0.overC hfrP hf (Nat.le_refl _)
        rw [if_neg (by rw [hoW, hoS, hoH, hfit]; simp)] at hv
        subst hv
        refine s_q hs (c_move (hs.ev rfl)) rfl fun ac hs => ?_
        refine s_q hs (c_extract (hs.ev rfl) rfl) rfl fun ac hs => ?_
        refine s_q hs (c_extract (hs.ev rfl) rfl) rfl fun ac hs => ?_
        refine s_alloc hs ty36 rfl fun ac ww g18 hs => ?_
        refine s_storeW (i := 0) hs ty36 rfl rfl rfl (by simp) (all_map_B _) rfl fun ww hs => ?_
        refine s_q hs (c_assign (hs.ev rfl)) rfl fun ac hs => ?_
        refine s_end ?_
        replace hs := hs.sub (F' := [(5, _), (6, _), (8, _), (12, _), (13, _), (14, _), (18, _), (19, _)]) ⟨rfl, rfl, rfl, rfl, rfl, rfl, rfl, rfl, trivial⟩
        refine then_n ?_
        refine wp_seq ?_
        refine wp_reg ?_
        refine s_q hs (c_move (hs.ev rfl)) rfl fun ac hs => ?_
        refine s_q hs (c_fld fl54_0 (hs.ev rfl)) rfl fun ac hs => ?_
        refine s_q hs (c_loadS un3 rfl (hs.ev rfl) (hs.old hb8 id) rfl) rfl fun ac hs => ?_
        refine s_q hs (c_fld fl54_1 (hs.ev rfl)) rfl fun ac hs => ?_
        refine s_q hs (c_fld fl52_0 (hs.ev rfl)) rfl fun ac hs => ?_
        refine s_q hs (c_loadS un25 rfl (hs.ev rfl) (hs.old hb8 id) rfl) rfl fun ac hs => ?_
        have hz1 := hz.fr0 hs.fr
        have hb6p := hs.old hb6 id
        have hb8p := hs.old hb8 id
        have hR13p := hR13.fr0 hs.fr
        have hfrP := hfrQ.trans0 hs.fr
        have hb18p := hs.seg (i := 0) rfl
        refine s_callR hs fu60 (.cons (hs.ev rfl) (.cons (hs.ev rfl) (.cons (hs.ev rfl) .nil))) (z_Root hz1 hfrP.size) rfl fun ac ww v110 hf hp hs => ?_
        obtain ⟨hv, hz, hkb⟩ := hp
        replace hb6 := hkb _ _ hb6p rfl
        replace hb8 := hkb _ _ hb8p rfl
        replace hR13 := hR13p.kb hkb
        replace hfrQ := Fr0.overC hfrP hf (Nat.le_refl _)
        have hb18 := hkb _ _ hb18p rfl
        rw [if_neg (by rw [hoW, hoS, hoH, hfit]; simp)] at hv
        subst hv
        refine s_q hs (c_move (hs.ev rfl)) rfl fun ac hs => ?_
        refine s_q hs (c_extract (hs.ev rfl) rfl) rfl fun ac hs => ?_
        refine s_q hs (c_extract (hs.ev rfl) rfl) rfl fun ac hs => ?_
        refine s_alloc hs ty36 rfl fun ac ww g20 hs => ?_
        refine s_storeW (i := 0) hs ty36 rfl rfl rfl (by simp) (all_map_B _) rfl fun ww hs => ?_
        refine s_q hs (c_assign (hs.ev rfl)) rfl fun ac hs => ?_
        refine s_end ?_
        replace hs := hs.sub (F' := [(5, _), (6, _), (8, _), (12, _), (13, _), (18, _), (19, _), (20, _), (21, _)]) ⟨rfl, rfl, rfl, rfl, rfl, rfl, rfl, rfl, rfl, trivial⟩
        refine then_n ?_
        refine wp_seq ?_
        refine wp_seq ?_
        refine wp_reg ?_
        refine s_q hs (c_fld fl54_0 (hs.ev rfl)) rfl fun ac hs => ?_
        refine s_q hs (c_loadS un3 rfl (hs.ev rfl) (hs.old hb8 id) rfl) rfl fun ac hs => ?_
        refine s_q hs (c_lssI (hs.ev rfl) (hs.ev rfl)) rfl fun ac hs => ?_
        refine s_q hs (c_move (hs.ev rfl)) rfl fun ac hs => ?_
        refine s_g hs rfl rfl (fun hg => c_fld fl54_0 (hs.ev rfl)) rfl fun ac hs => ?_
        refine s_g hs rfl rfl (fun hg => c_loadS un3 rfl (gev (hs.ev rfl) hg) (hs.old hb8 id) rfl) rfl fun ac hs => ?_
        refine s_g hs rfl rfl (fun hg => c_fld fl23_0 (hs.ev rfl)) rfl fun ac hs => ?_
        refine s_g hs rfl rfl (fun hg => c_loadS un3 rfl (gev (hs.ev rfl) hg) (hs.old hb6 id) rfl) rfl fun ac hs => ?_
        refine s_g hs rfl rfl (fun hg => c_geqI (gev (hs.ev rfl) hg) (gev (hs.ev rfl) hg)) rfl fun ac hs => ?_
        refine s_q hs (c_or (hs.ev rfl) (hs.ev rfl)) rfl fun ac hs => ?_
        refine s_q hs (c_move (hs.ev rfl)) rfl fun ac hs => ?_
        refine s_g hs rfl rfl (fun hg => c_fld fl54_1 (hs.ev rfl)) rfl fun ac hs => ?_
        refine s_g hs rfl rfl (fun hg => c_fld fl52_0 (gev (hs.ev rfl) hg)) rfl fun ac hs => ?_
        refine s_g hs rfl rfl (fun hg => c_loadS un25 rfl (gev (hs.ev rfl) hg) (hs.old hb8 id) rfl) rfl fun ac hs => ?_
        refine s_g hs rfl rfl (fun hg => c_gtrU (gev (hs.ev rfl) hg) (St.ev (v := U 65536) hs rfl)) rfl fun ac hs => ?_
        refine s_q hs (c_tt (c_or (hs.ev rfl) (hs.ev rfl)) ((by
            rw [← Bool.not_eq_false]
            intro h9
            simp only [Bool.or_eq_false_iff, decide_eq_false_iff_not] at h9
            have h8 : spFits n Sn Hn d ep = true := spFits_iff.2 ⟨hright, by omega, by omega, by omega⟩
            rw [hfit] at h8
            cases h8))) rfl fun ac hs => ?_
        refine s_end ?_
        replace hs := hs.sub (F' := [(5, _), (6, _), (8, _), (12, _), (13, _), (18, _), (19, _), (20, _), (21, _), (128, _)]) ⟨rfl, rfl, rfl, rfl, rfl, rfl, rfl, rfl, rfl, rfl, trivial⟩
        refine then_n ?_
        refine wp_cond_true (hs.ev rfl) ?_
        refine wp_seq ?_
        refine wp_reg ?_
        refine s_q hs (c_move (hs.ev rfl)) rfl fun ac hs => ?_
        refine s_q hs (c_eqlI (hs.ev rfl) (hs.ev rfl)) rfl fun ac hs => ?_
        refine s_q hs (c_move (hs.ev rfl)) rfl fun ac hs => ?_
        refine s_yes hs rfl rfl ?_
        refine s_q hs (c_move (hs.ev rfl)) rfl fun ac hs => ?_
        refine s_yes hs rfl rfl ?_
        refine s_q hs (c_eqlI (hs.ev rfl) (hs.ev rfl)) rfl fun ac hs => ?_
        refine s_q hs (c_pick (hs.ev rfl) (hs.ev rfl) (hs.ev rfl)) rfl fun ac hs => ?_
        refine s_q hs (c_assign (hs.ev rfl)) rfl fun ac hs => ?_
        refine s_end ?_
        replace hs := hs.sub (F' := [(5, _), (6, _), (8, _), (12, _), (13, _), (18, _), (19, _), (20, _), (21, _)]) ⟨rfl, rfl, rfl, rfl, rfl, rfl, rfl, rfl, rfl, trivial⟩
        refine then_n ?_
        refine wp_ret ?_
        refine then_r ?_
        refine s_ret hs rfl (.tmp (hs.tmp rfl) .nil) rfl ⟨_, rfl, (hfrQ.trans0 hs.fr), ?_⟩
        rfl
      · refine s_q hs (c_move (hs.ev rfl)) rfl fun ac hs => ?_
        refine s_q hs (c_fld fl54_0 (hs.ev rfl)) rfl fun ac hs => ?_
        refine s_q hs (c_loadS un3 rfl (hs.ev rfl) (hs.old hb8 id) rfl) rfl fun ac hs => ?_
        refine s_q hs (c_fld fl54_1 (hs.ev rfl)) rfl fun ac hs => ?_
        refine s_q hs (c_fld fl52_0 (hs.ev rfl)) rfl fun ac hs => ?_
        refine s_q hs (c_loadS un25 rfl (hs.ev rfl) (hs.old hb8 id) rfl) rfl fun ac hs => ?_
        refine s_q hs (c_fld fl54_1 (hs.ev rfl)) rfl fun ac hs => ?_
        refine s_q hs (c_fld fl52_1 (hs.ev rfl)) rfl fun ac hs => ?_
        refine s_q hs (c_loadS un25 rfl (hs.ev rfl) (hs.old hb8 id) rfl) rfl fun ac hs => ?_
        refine s_q hs (c_cvUI un25 un3 (hs.ev rfl)) rfl fun ac hs => ?_
        refine s_q hs (c_move (hs.ev rfl)) rfl fun ac hs => ?_
        have hz1 := hz.fr0 hs.fr
        have hb6p := hs.old hb6 id
        have hb8p := hs.old hb8 id
        have hR13p := hR13.fr0 hs.fr
        have hfrP := hfrQ.trans0 hs.fr
        refine s_callR hs fu59 (.cons (hs.ev rfl) (.cons (hs.ev rfl) (.cons (hs.ev rfl) (.cons (hs.ev rfl) (.cons (hs.ev rfl) .nil))))) (z_Element hz1 hfrP.size (sq.toNat : Int) r) rfl fun ac ww v100 hf hp hs => ?_
        obtain ⟨hv, hz, hkb⟩ := hp
        replace hb6 := hkb _ _ hb6p rfl
        replace hb8 := hkb _ _ hb8p rfl
        replace hR13 := hR13p.kb hkb
        replace hfrQ := Fr0.overC hfrP hf (Nat.le_refl _)
        rw [if_pos (by rw [hoW, hoS, hoH, hfit]), hpr] at hv
        subst hv
        refine s_q hs (c_move (hs.ev rfl)) rfl fun ac hs => ?_
        refine s_q hs (c_extract (hs.ev rfl) rfl) rfl fun ac hs => ?_
        refine s_q hs (c_extract (hs.ev rfl) rfl) rfl fun ac hs => ?_
        refine s_alloc hs ty36 rfl fun ac ww g18 hs => ?_
        refine s_storeW (i := 0) hs ty36 rfl rfl rfl (by rw [List.length_map, elB_length]) (all_map_B _) rfl fun ww hs => ?_
        refine s_q hs (c_assign (hs.ev rfl)) rfl fun ac hs => ?_
        refine s_end ?_
        replace hs := hs.sub (F' := [(5, _), (6, _), (8, _), (12, _), (13, _), (14, _), (18, _), (19, _)]) ⟨rfl, rfl, rfl, rfl, rfl, rfl, rfl, rfl, trivial⟩
        refine then_n ?_
        refine wp_seq ?_
        refine wp_reg ?_
        refine s_q hs (c_move (hs.ev rfl)) rfl fun ac hs => ?_
        refine s_q hs (c_fld fl54_0 (hs.ev rfl)) rfl fun ac hs => ?_
        refine s_q hs (c_loadS un3 rfl (hs.ev rfl) (hs.old hb8 id) rfl) rfl fun ac hs => ?_
        refine s_q hs (c_fld fl54_1 (hs.ev rfl)) rfl fun ac hs => ?_
        refine s_q hs (c_fld fl52_0 (hs.ev rfl)) rfl fun ac hs => ?_
        refine s_q hs (c_loadS un25 rfl (hs.ev rfl) (hs.old hb8 id) rfl) rfl fun ac hs => ?_
        have hz1 := hz.fr0 hs.fr
        have hb6p := hs.old hb6 id
        have hb8p := hs.old hb8 id
        have hR13p := hR13.fr0 hs.fr
        have hfrP := hfrQ.trans0 hs.fr
        have hb18p := hs.seg (i := 0) rfl
        refine s_callR hs fu60 (.cons (hs.ev rfl) (.cons (hs.ev rfl) (.cons (hs.ev rfl) .nil))) (z_Root hz1 hfrP.size) rfl fun ac ww v110 hf hp hs => ?_
        obtain ⟨hv, hz, hkb⟩ := hp
        replace hb6 := hkb _ _ hb6p rfl
        replace hb8 := hkb _ _ hb8p rfl
        replace hR13 := hR13p.kb hkb
        replace hfrQ := Fr0.overC hfrP hf (Nat.le_refl _)
        have hb18 := hkb _ _ hb18p rfl
        rw [if_pos (by rw [hoW, hoS, hoH, hfit]), hpr] at hv
        subst hv
        refine s_q hs (c_move (hs.ev rfl)) rfl fun ac hs => ?_
        refine s_q hs (c_extract (hs.ev rfl) rfl) rfl fun ac hs => ?_
        refine s_q hs (c_extract (hs.ev rfl) rfl) rfl fun ac hs => ?_
        refine s_alloc hs ty36 rfl fun ac ww g20 hs => ?_
        refine s_storeW (i := 0) hs ty36 rfl rfl rfl (by rw [List.length_map, rtV_length]) (all_map_B _) rfl fun ww hs => ?_
        refine s_q hs (c_assign (hs.ev rfl)) rfl fun ac hs => ?_
        refine s_end ?_
        replace hs := hs.sub (F' := [(5, _), (6, _), (8, _), (12, _), (13, _), (18, _), (19, _), (20, _), (21, _)]) ⟨rfl, rfl, rfl, rfl, rfl, rfl, rfl, rfl, rfl, trivial⟩
        refine then_n ?_
        refine wp_seq ?_
        refine wp_seq ?_
        refine wp_reg ?_
        refine s_q hs (c_fld fl54_0 (hs.ev rfl)) rfl fun ac hs => ?_
        refine s_q hs (c_loadS un3 rfl (hs.ev rfl) (hs.old hb8 id) rfl) rfl fun ac hs => ?_
        refine s_q hs (c_lssI (hs.ev rfl) (hs.ev rfl)) rfl fun ac hs => ?_
        refine s_q hs (c_move (hs.ev rfl)) rfl fun ac hs => ?_
        refine s_g hs rfl rfl (fun hg => c_fld fl54_0 (hs.ev rfl)) rfl fun ac hs => ?_
        refine s_g hs rfl rfl (fun hg => c_loadS un3 rfl (gev (hs.ev rfl) hg) (hs.old hb8 id) rfl) rfl fun ac hs => ?_
        refine s_g hs rfl rfl (fun hg => c_fld fl23_0 (hs.ev rfl)) rfl fun ac hs => ?_
        refine s_g hs rfl rfl (fun hg => c_loadS un3 rfl (gev (hs.ev rfl) hg) (hs.old hb6 id) rfl) rfl fun ac hs => ?_
        refine s_g hs rfl rfl (fun hg => c_geqI (gev (hs.ev rfl) hg) (gev (hs.ev rfl) hg)) rfl fun ac hs => ?_
        refine s_q hs (c_or (hs.ev rfl) (hs.ev rfl)) rfl fun ac hs => ?_
        refine s_q hs (c_move (hs.ev rfl)) rfl fun ac hs => ?_
        refine s_g hs rfl rfl (fun hg => c_fld fl54_1 (hs.ev rfl)) rfl fun ac hs => ?_
        refine s_g hs rfl rfl (fun hg => c_fld fl52_0 (gev (hs.ev rfl) hg)) rfl fun ac hs => ?_
        refine s_g hs rfl rfl (fun hg => c_loadS un25 rfl (gev (hs.ev rfl) hg) (hs.old hb8 id) rfl) rfl fun ac hs => ?_
        refine s_g hs rfl rfl (fun hg => c_gtrU (gev (hs.ev rfl) hg) (St.ev (v := U 65536) hs rfl)) rfl fun ac hs => ?_
        refine s_q hs (c_ff (c_or (hs.ev rfl) (hs.ev rfl)) ((by
            have h9 := spFits_iff.1 hfit
            simp only [Bool.or_eq_false_iff, decide_eq_false_iff_not]
            omega))) rfl fun ac hs => ?_
        refine s_end ?_
        replace hs := hs.sub (F' := [(5, _), (6, _), (8, _), (12, _), (13, _), (18, _), (19, _), (20, _), (21, _), (128, _)]) ⟨rfl, rfl, rfl, rfl, rfl, rfl, rfl, rfl, rfl, rfl, trivial⟩
        refine then_n ?_
        refine wp_cond_false (hs.ev rfl) ?_
        refine wp_skip ?_
        refine then_n ?_
        refine wp_seq ?_
        refine wp_seq ?_
        obtain ⟨_, hd0, hdW, hep⟩ := spFits_iff.1 hfit
        have hdn : d.toNat < n := by omega
        obtain ⟨rcur, hrb, hpc⟩ := hR13.piece hdn
        have hsl : (sdAt (sdR sd0 n) d).length = 32 := by
          have h2 := Nat.mul_le_mul_right 32 (show d.toNat + 1 ≤ n from hdn)
          have h3 := sdR_length hsd n
          rw [Nat.succ_mul] at h2
          rw [sdAt, List.length_take, List.length_drop]
          omega
        have hko : ((pr n Sn Hn (sdAt (sdR sd0 n) d) d ep)).Ok := pr_ok (by omega) (by omega) hsl
        refine wp_region_rg pmix 16 (by kernel_rfl) rfl hs ?_
        simp only [List.take_succ_cons, List.take_zero]
        refine rg_q (fun ac ww h => c_move (h.ev rfl)) rfl ?_
        refine rg_q (fun ac ww h => c_ff (c_neqI (h.ev rfl) (h.ev rfl)) (by rfl)) rfl ?_
        refine rg_q (fun ac ww h => c_move (h.ev rfl)) rfl ?_
        refine rg_yes rfl rfl (fun ac ww h => c_loadW ty36 rfl (h.ev rfl) (h.blk (hs.seg (i := 0) rfl)) (by rw [List.length_map, rtV_length])) rfl ?_
        refine rg_yes rfl rfl (fun ac ww h => c_loadW ty23 ag23 (h.ev rfl) (h.blk (hs.old hb6 id)) (by rfl)) rfl ?_
        refine rg_yes rfl rfl (fun ac ww h => c_move (h.ev rfl)) rfl ?_
        refine rg_yes rfl rfl (fun ac ww h => c_fld fl54_0 (h.ev rfl)) rfl ?_
        refine rg_yes rfl rfl (fun ac ww h => c_loadS un3 rfl (h.ev rfl) (h.blk (hs.old hb8 id)) rfl) rfl ?_
        refine rg_yes rfl rfl (fun ac ww h => c_idxS (j := d.toNat) un100 ty24 (h.ev rfl) (h.ev rfl) (by omega) hdn) rfl ?_
        refine rg_yes rfl rfl (fun ac ww h => c_loadA ty24 rfl (h.ev rfl) (h.blk (hs.old hrb id)) hpc (show (List.map B (sdAt (sdR sd0 n) d)).length = 32 by rw [List.length_map, hsl])) rfl ?_
        refine rg_yes rfl rfl (fun ac ww h => c_fld fl54_0 (h.ev rfl)) rfl ?_
        refine rg_yes rfl rfl (fun ac ww h => c_loadS un3 rfl (h.ev rfl) (h.blk (hs.old hb8 id)) rfl) rfl ?_
        refine rg_yes rfl rfl (fun ac ww h => c_fld fl54_1 (h.ev rfl)) rfl ?_
        refine rg_yes rfl rfl (fun ac ww h => c_fld fl52_0 (h.ev rfl)) rfl ?_
        refine rg_yes rfl rfl (fun ac ww h => c_loadS un25 rfl (h.ev rfl) (h.blk (hs.old hb8 id)) rfl) rfl ?_
        refine rg_strip rfl rfl ?_
        refine rg_call fu20 (fun ac ww h => (.cons (h.ev rfl) (.cons (h.ev rfl) (.cons (h.ev rfl) (.cons (h.ev rfl) .nil))))) (fun ww hf => ref08_Root (pr n Sn Hn (sdAt (sdR sd0 n) d) d ep) hko hlv _) rfl ?_
        refine rg_nil fun ac ww L' hf hfe hs => ?_
        simp only [List.drop_succ_cons, List.drop_zero]
        obtain rfl : L' = [] := hfe
        replace hs := hs.toL (List.nil_append _)
        refine s_yes hs rfl rfl ?_
        refine s_q hs (c_ff (c_neqAB un36 ty5 eg36 (hs.ev rfl) (hs.ev rfl) (rtV_length _) (rtV_length _)) ((by simp [rtV]))) rfl fun ac hs => ?_
        refine s_q hs (c_pick (hs.ev rfl) (hs.ev rfl) (hs.ev rfl)) rfl fun ac hs => ?_
        refine s_end ?_
        replace hs := hs.sub (F' := [(5, _), (6, _), (8, _), (12, _), (13, _), (18, _), (19, _), (152, _)]) ⟨rfl, rfl, rfl, rfl, rfl, rfl, rfl, rfl, trivial⟩
        refine then_n ?_
        refine wp_cond_false (hs.ev rfl) ?_
        refine wp_skip ?_
        refine then_n ?_
        refine wp_seq ?_
        refine wp_seq ?_
        refine wp_region_rg pmix 16 (by kernel_rfl) rfl hs ?_
        simp only [List.take_succ_cons, List.take_zero]
        refine rg_q (fun ac ww h => c_move (h.ev rfl)) rfl ?_
        refine rg_q (fun ac ww h => c_lssI (h.ev rfl) (h.ev rfl)) rfl ?_
        refine rg_q (fun ac ww h => c_move (h.ev rfl)) rfl ?_
        refine rg_g rfl rfl (fun hg ac ww h => c_move (h.ev rfl)) rfl ?_
        refine rg_g rfl rfl (fun hg ac ww h => c_fld fl23_1 (h.ev rfl)) rfl ?_
        refine rg_g rfl rfl (fun hg ac ww h => c_loadS un3 rfl (gev (h.ev rfl) hg) (h.blk (hs.old hb6 id)) rfl) rfl ?_
        refine rg_g rfl rfl (fun hg ac ww h => c_gtrI (gev (h.ev rfl) hg) (gev (h.ev rfl) hg)) rfl ?_
        refine rg_q (fun ac ww h => c_or (h.ev rfl) (h.ev rfl)) rfl ?_
        refine rg_q (fun ac ww h => c_move (h.ev rfl)) rfl ?_
        refine rg_g rfl rfl (fun hg ac ww h => c_fld fl54_1 (h.ev rfl)) rfl ?_
        refine rg_g rfl rfl (fun hg ac ww h => c_fld fl52_1 (gev (h.ev rfl) hg)) rfl ?_
        refine rg_g rfl rfl (fun hg ac ww h => c_loadS un25 rfl (gev (h.ev rfl) hg) (h.blk (hs.old hb8 id)) rfl) rfl ?_
        refine rg_g rfl rfl (fun hg ac ww h => c_cvUV un25 un124 (gev (h.ev rfl) hg)) rfl ?_
        refine rg_g rfl rfl (fun hg ac ww h => c_loadW ty23 ag23 (h.ev rfl) (h.blk (hs.old hb6 id)) (by rfl)) rfl ?_
        refine rg_gcall rfl rfl fu18 (fun hg ac ww h => (.cons (gev (h.ev rfl) hg) .nil)) (fun hg ww hf => ref08_Many n Sn Hn (by omega) _) rfl ?_
        refine rg_g rfl rfl (fun hg ac ww h => c_cvIV un3 un124 (gev (h.ev rfl) hg)) rfl ?_
        refine rg_nil fun ac ww L' hf hfe hs => ?_
        simp only [List.drop_succ_cons, List.drop_zero]
        obtain rfl : L' = [] := hfe
        replace hs := hs.toL (List.nil_append _)
        refine s_g hs rfl rfl (fun hg => c_geqV (gev (hs.ev rfl) hg) (gev (hs.ev rfl) hg)) rfl fun ac hs => ?_
        refine s_q hs (c_or (hs.ev rfl) (hs.ev rfl)) rfl fun ac hs => ?_
        refine s_end ?_
        replace hs := hs.sub (F' := [(5, _), (6, _), (8, _), (12, _), (13, _), (18, _), (19, _), (170, _)]) ⟨rfl, rfl, rfl, rfl, rfl, rfl, rfl, rfl, trivial⟩
        refine then_n ?_
        refine s_cond hs rfl (fun hc => ?_) (fun hc => ?_)
        · skip
          have hel : elR (pr n Sn Hn (sdAt (sdR sd0 n) d) d ep) (sq.toNat : Int) r = 1 := by
            rw [elR, if_neg]
            intro h9
            have h8 := elOk_iff.1 h9
            have hm : (((pr n Sn Hn (sdAt (sdR sd0 n) d) d ep)).m : Int) = 2 ^ Hn := by rw [Spr.m]; push_cast; rfl
            have hp6 := pow64 (lv := Hn) (by omega)
            have hpi : (i64 ((2 ^ Hn : Nat) : Int)).toNat = 2 ^ Hn := i64_natT (by omega)
            simp only [Bool.or_eq_true, decide_eq_true_eq, hpi, UInt32.toNat_toUInt64] at hc
            rw [hm] at h8
            have h7 : (((pr n Sn Hn (sdAt (sdR sd0 n) d) d ep)).S : Int) = Sn := rfl
            rw [h7] at h8
            rcases hc with (hc | hc) | hc
            · omega
            · omega
            · have := h8.2.1
              have h5 : ((2 ^ Hn : Nat) : Int) = 2 ^ Hn := by push_cast; rfl
              omega
          refine wp_seq ?_
          refine wp_reg ?_
          refine s_q hs (c_move (hs.ev rfl)) rfl fun ac hs => ?_
          refine s_q hs (c_eqlI (hs.ev rfl) (hs.ev rfl)) rfl fun ac hs => ?_
          refine s_q hs (c_assign (hs.ev rfl)) rfl fun ac hs => ?_
          refine s_end ?_
          replace hs := hs.sub (F' := [(5, _), (6, _), (8, _), (12, _), (13, _), (18, _), (19, _)]) ⟨rfl, rfl, rfl, rfl, rfl, rfl, rfl, trivial⟩
          refine then_n ?_
          refine wp_ret ?_
          refine then_r ?_
          refine s_ret hs rfl (.tmp (hs.tmp rfl) .nil) rfl ⟨_, rfl, (hfrQ.trans0 hs.fr), ?_⟩
          rw [hel]
          rfl
        · skip
          have hp6 := pow64 (lv := Hn) (by omega)
          have hpi : (i64 ((2 ^ Hn : Nat) : Int)).toNat = 2 ^ Hn := i64_natT (by omega)
          simp only [Bool.or_eq_false_iff, decide_eq_false_iff_not, hpi, UInt32.toNat_toUInt64] at hc
          obtain ⟨rn, rfl⟩ := int_of (show 0 ≤ r by omega)
          have hok : elOk (pr n Sn Hn (sdAt (sdR sd0 n) d) d ep) (sq.toNat : Int) (rn : Int) = true := by
            have hm : (((pr n Sn Hn (sdAt (sdR sd0 n) d) d ep)).m : Int) = 2 ^ Hn := by rw [Spr.m]; push_cast; rfl
            have h7 : (((pr n Sn Hn (sdAt (sdR sd0 n) d) d ep)).S : Int) = Sn := rfl
            have h5 : ((2 ^ Hn : Nat) : Int) = 2 ^ Hn := by push_cast; rfl
            refine elOk_iff.2 ⟨by omega, ?_, by omega, by omega⟩
            rw [hm]
            omega
          have hrn16 : rn ≤ 16 := by omega
          refine wp_skip ?_
          refine then_n ?_
          refine wp_seq ?_
          refine wp_region_rg pmix 21 (by kernel_rfl) rfl hs ?_
          simp only [List.take_succ_cons, List.take_zero]
          refine rg_q (fun ac ww h => c_move (h.ev rfl)) rfl ?_
          refine rg_q (fun ac ww h => c_tt (c_eqlI (h.ev rfl) (h.ev rfl)) ((by rw [elR, if_pos hok]; rfl))) rfl ?_
          refine rg_q (fun ac ww h => c_move (h.ev rfl)) rfl ?_
          refine rg_yes rfl rfl (fun ac ww h => c_loadW ty36 rfl (h.ev rfl) (h.blk (hs.old hb18 id)) (by rw [List.length_map, elB_length])) rfl ?_
          refine rg_yes rfl rfl (fun ac ww h => c_loadW ty23 ag23 (h.ev rfl) (h.blk (hs.old hb6 id)) (by rfl)) rfl ?_
          refine rg_yes rfl rfl (fun ac ww h => c_move (h.ev rfl)) rfl ?_
          refine rg_yes rfl rfl (fun ac ww h => c_fld fl54_0 (h.ev rfl)) rfl ?_
          refine rg_yes rfl rfl (fun ac ww h => c_loadS un3 rfl (h.ev rfl) (h.blk (hs.old hb8 id)) rfl) rfl ?_
          refine rg_yes rfl rfl (fun ac ww h => c_idxS (j := d.toNat) un100 ty24 (h.ev rfl) (h.ev rfl) (by omega) hdn) rfl ?_
          refine rg_yes rfl rfl (fun ac ww h => c_loadA ty24 rfl (h.ev rfl) (h.blk (hs.old hrb id)) hpc (show (List.map B (sdAt (sdR sd0 n) d)).length = 32 by rw [List.length_map, hsl])) rfl ?_
          refine rg_yes rfl rfl (fun ac ww h => c_fld fl54_0 (h.ev rfl)) rfl ?_
          refine rg_yes rfl rfl (fun ac ww h => c_loadS un3 rfl (h.ev rfl) (h.blk (hs.old hb8 id)) rfl) rfl ?_
          refine rg_yes rfl rfl (fun ac ww h => c_fld fl54_1 (h.ev rfl)) rfl ?_
          refine rg_yes rfl rfl (fun ac ww h => c_fld fl52_0 (h.ev rfl)) rfl ?_
          refine rg_yes rfl rfl (fun ac ww h => c_loadS un25 rfl (h.ev rfl) (h.blk (hs.old hb8 id)) rfl) rfl ?_
          refine rg_yes rfl rfl (fun ac ww h => c_fld fl54_1 (h.ev rfl)) rfl ?_
          refine rg_yes rfl rfl (fun ac ww h => c_fld fl52_1 (h.ev rfl)) rfl ?_
          refine rg_yes rfl rfl (fun ac ww h => c_loadS un25 rfl (h.ev rfl) (h.blk (hs.old hb8 id)) rfl) rfl ?_
          refine rg_yes rfl rfl (fun ac ww h => c_cvUI un25 un3 (h.ev rfl)) rfl ?_
          refine rg_yes rfl rfl (fun ac ww h => c_move (h.ev rfl)) rfl ?_
          refine rg_strip rfl rfl ?_
          refine rg_call fu21 (fun ac ww h => (.cons (h.ev rfl) (.cons (h.ev rfl) (.cons (h.ev rfl) (.cons (h.ev rfl) (.cons (h.ev rfl) (.cons (h.ev rfl) .nil))))))) (fun ww hf => ref08_Element (pr n Sn Hn (sdAt (sdR sd0 n) d) d ep) hko hlv sq.toNat rn hrn16 _) rfl ?_
          refine rg_nil fun ac ww L' hf hfe hs => ?_
          simp only [List.drop_succ_cons, List.drop_zero]
          obtain rfl : L' = [] := hfe
          replace hs := hs.toL (List.nil_append _)
          refine s_yes hs rfl rfl ?_
          refine s_q hs (c_tt (c_eqlAB un36 ty5 eg36 (hs.ev rfl) (hs.ev rfl) (elB_length _ _ _) (el_length _ _ _)) ((by rw [elB, if_pos hok]; simp))) rfl fun ac hs => ?_
          refine s_q hs (c_pick (hs.ev rfl) (hs.ev rfl) (hs.ev rfl)) rfl fun ac hs => ?_
          refine s_q hs (c_assign (hs.ev rfl)) rfl fun ac hs => ?_
          refine s_end ?_
          replace hs := hs.sub (F' := [(12, _)]) ⟨rfl, trivial⟩
          refine then_n ?_
          refine wp_ret ?_
          refine s_ret hs rfl (.tmp (hs.tmp rfl) .nil) rfl ⟨_, rfl, (hfrQ.trans0 hs.fr), ?_⟩
          rfl
    · skip
      have hor2 : OrAt ww o none := hor.frX hs.fr (fun k e => ⟨_, _, _, e ▸ hbase, rfl⟩) (fun _ h => by cases h)
      replace hR13 := hR13.frM hs.fr (fun k e cs fr h9 => by have e : k = g9 := e; rw [e, hbase] at h9; cases h9)
      obtain ⟨lfc, wsc, psc, nwc, npc, wvc, pvc, hlfc, hwlc, hplc, hnwc, hnpc, hb9c, hqwc, hqpc, hnw, hnp⟩ : ∃ (lfc wsc psc : List UInt8) (nwc npc : Nat) (wvc pvc : Value), lfc.length = 16 ∧ wsc.length = nwc * 16 ∧ psc.length = npc * 16 ∧ nwc ≤ 1000 ∧ npc ≤ 1000 ∧ ww.heap[g9]? = some (.cells (lfc.map B ++ [wvc, pvc]).toArray 66 (0, 0)) ∧ Rd ww wvc nwc (wsc.map B) ∧ Rd ww pvc npc (psc.map B) ∧ (∀ w9, Fr (OrM o none) ww w9 → Rd w9 wvc nwc (wsc.map B)) ∧ (∀ w9, Fr (OrM o none) ww w9 → Rd w9 pvc npc (psc.map B)) := ⟨lf, ws, ps, nw, np, _, _, hlf, hwl, hpl, by omega, by omega, hs.seg (i := 0) rfl, hqw.fr0 (hfr0.over hs.fr (fun i e => by have e : i = g9 := e; rw [e]; exact hg9)), hqp.fr0 (hfr0.over hs.fr (fun i e => by have e : i = g9 := e; rw [e]; exact hg9)), fun w9 hf9 => Rd.frL hqw (hqw.fr0 (hfr0.over hs.fr (fun i e => by have e : i = g9 := e; rw [e]; exact hg9))) hf9 (fun k hk => by
        rcases hk with e | ⟨_, e, _⟩
        · rw [e]; exact hmb
        · cases e), fun w9 hf9 => Rd.frL hqp (hqp.fr0 (hfr0.over hs.fr (fun i e => by have e : i = g9 := e; rw [e]; exact hg9))) hf9 (fun k hk => by
        rcases hk with e | ⟨_, e, _⟩
        · rw [e]; exact hmb
        · cases e)⟩
      replace hb6 := hs.old hb6 ne6
      replace hb7 := hs.old hb7 ne7
      replace hb8 := hs.old hb8 ne8
      have hfrQ : Fr0 w ww := hfr0.over hs.fr (fun i e => by have e : i = g9 := e; rw [e]; exact hg9)
      replace hs := St.start hs.know ww
      refine wp_skip ?_
      refine then_n ?_
      refine wp_seq ?_
      refine wp_seq ?_
      have hK := FwO.frKO (M := OrM o none) (kp := kpO) (R := fun a b => OrZ a o d ep w.heap.size → OrZ b o d ep w.heap.size) (B1 := ww.heap.size) (fun k hm => by
        rcases hm with e | ⟨_, e, _⟩
        · obtain ⟨es, cl, h8⟩ := hor2.mp.blk
          rw [e]
          exact heap_lt h8
        · cases e) (fun h k x => k (h x)) (fun hf x => x.fr0 hf)
      have hszB := hfrQ.size
      have hzz : OrZ ww o d ep w.heap.size := ⟨hmb, none, hor2, fun _ e => by cases e⟩
      refine FwO.wp_region_rgO (cc := 81) pmix hK 12 (by kernel_rfl) rfl hs.know ?_
      simp only [List.take_succ_cons, List.take_zero]
      refine FwO.rg_q hK (fun ac ww h => c_move (h.ev rfl)) rfl ?_
      refine FwO.rg_q hK (fun ac ww h => c_loadW ty54 ag54 (h.ev rfl) (h.blk hb8) (by rfl)) rfl ?_
      refine FwO.rg_call hK fu27 (fun ac ww h => (.cons (h.ev rfl) .nil)) (fun ww hf => law09_To d mt sn ep sq ww) rfl ?_
      refine FwO.rg_q hK (fun ac ww h => c_loadW ty66 ag66 (h.ev rfl) (h.blk hb9c) (by simp [hlfc])) rfl ?_
      refine FwO.rg_callE hK (crE 36 lfc nwc wsc npc psc) (fun _ _ _ _ _ h => h) fu34 (fun ac ww h => ?_) rfl ?_
      · exact ⟨_, .cons (h.ev rfl) (.nil), law09_ToCred lfc wsc psc nwc npc _ _ hlfc hwlc hplc (by omega) (by omega) _ (hnw _ h.fr.1) (hnp _ h.fr.1)⟩
      refine FwO.rg_callOneE hK fu57 (c := .bool (ownV o d mt sn ep sq lfc wsc psc)) (fun ac w8 h hf0 => ?_) rfl ?_
      · obtain ⟨v80, L80, he80, ⟨wv8, pv8, rfl, rfl⟩, hh80⟩ := h.ent (n := 80) rfl rfl
        refine ⟨_, .cons (h.ev rfl) (.cons (h.ev rfl) (.cons he80 .nil)), Calls.mono (own_at hmb (hor2.fr0 hf0) (fun _ e => by cases e) (Nat.le_trans hszB hf0.size) mt sn sq lfc wsc psc nwc npc wv8 pv8 hlfc hwlc hplc (Rd.of_row (hh80.holds _ (List.mem_of_getElem? (i := 1) rfl))) (Rd.of_row (hh80.holds _ (List.mem_of_getElem? (i := 0) rfl))) (row_kp (hh80.holds _ (List.mem_of_getElem? (i := 1) rfl))) (row_kp (hh80.holds _ (List.mem_of_getElem? (i := 0) rfl)))) ?_⟩
        rintro e9 w9 ⟨v9, he9, hf9, hv9, hz9⟩
        exact ⟨by rw [he9, hv9], hf9, keepKB (hor2.fr0 hf0) hf9, fun _ => hz9⟩
      refine FwO.rg_q hK (fun ac ww h => c_loadW ty23 ag23 (h.ev rfl) (h.blk hb6) (by rfl)) rfl ?_
      refine FwO.rg_q hK (fun ac ww h => c_move (h.ev rfl)) rfl ?_
      refine FwO.rg_q hK (fun ac ww h => c_loadW ty54 ag54 (h.ev rfl) (h.blk hb8) (by rfl)) rfl ?_
      refine FwO.rg_q hK (fun ac ww h => c_loadW ty66 ag66 (h.ev rfl) (h.blk hb9c) (by simp [hlfc])) rfl ?_
      refine FwO.rg_call hK fu58 (fun ac ww h => (.cons (h.ev rfl) (.cons (h.ev rfl) (.cons (h.ev rfl) (.cons (h.ev rfl) .nil))))) (fun ww hf => ref28_Own n Sn Hn n (sdR sd0 n) _ (sdR_length hsd n) rfl d mt sn ep sq lfc wsc psc nwc npc _ _ hlfc hwlc hplc ww (hR13.kb hf.2.1).rd (hnw _ hf.1) (hnp _ hf.1)) rfl ?_
      refine FwO.rg_q hK (fun ac ww h => c_ff (c_neqbool un4 (h.ev rfl) (h.ev rfl)) ((by rw [ownV, hpr, hoW, hoS, hoH]; simp))) rfl ?_
      refine FwO.rg_nil fun ac ww L' hfk hfe hkn hhas hlk => ?_
      simp only [List.drop_succ_cons, List.drop_zero]
      have hz := hfk.2.2 hzz
      replace hb6 := hfk.2.1 _ _ hb6 rfl
      replace hb8 := hfk.2.1 _ _ hb8 rfl
      replace hR13 := hR13.kb hfk.2.1
      replace hfrQ := hfrQ.over hfk.1 (fun k hk => by
        rcases hk with e | ⟨_, e, _⟩
        · rw [e]; exact hmb
        · cases e)
      replace hs := St.start hkn ww
      refine s_end ?_
      replace hs := hs.sub (F' := [(5, _), (6, _), (8, _), (12, _), (13, _), (14, _), (87, _)]) ⟨rfl, rfl, rfl, rfl, rfl, rfl, rfl, trivial⟩
      refine then_n ?_
      refine wp_cond_false (hs.ev rfl) ?_
      refine wp_skip ?_
      refine then_n ?_
      refine wp_seq ?_
      refine wp_reg ?_
      cases hfit : spFits n Sn Hn d ep
      · refine s_q hs (c_move (hs.ev rfl)) rfl fun ac hs => ?_
        refine s_q hs (c_fld fl54_0 (hs.ev rfl)) rfl fun ac hs => ?_
        refine s_q hs (c_loadS un3 rfl (hs.ev rfl) (hs.old hb8 id) rfl) rfl fun ac hs => ?_
        refine s_q hs (c_fld fl54_1 (hs.ev rfl)) rfl fun ac hs => ?_
        refine s_q hs (c_fld fl52_0 (hs.ev rfl)) rfl fun ac hs => ?_
        refine s_q hs (c_loadS un25 rfl (hs.ev rfl) (hs.old hb8 id) rfl) rfl fun ac hs => ?_
        refine s_q hs (c_fld fl54_1 (hs.ev rfl)) rfl fun ac hs => ?_
        refine s_q hs (c_fld fl52_1 (hs.ev rfl)) rfl fun ac hs => ?_
        refine s_q hs (c_loadS un25 rfl (hs.ev rfl) (hs.old hb8 id) rfl) rfl fun ac hs => ?_
        refine s_q hs (c_cvUI un25 un3 (hs.ev rfl)) rfl fun ac hs => ?_
        refine s_q hs (c_move (hs.ev rfl)) rfl fun ac hs => ?_
        have hz1 := hz.fr0 hs.fr
        have hb6p := hs.old hb6 id
        have hb8p := hs.old hb8 id
        have hR13p := hR13.fr0 hs.fr
        have hfrP := hfrQ.trans0 hs.fr
        refine s_callR hs fu59 (.cons (hs.ev rfl) (.cons (hs.ev rfl) (.cons (hs.ev rfl) (.cons (hs.ev rfl) (.cons (hs.ev rfl) .nil))))) (z_Element hz1 hfrP.size (sq.toNat : Int) r) rfl fun ac ww v100 hf hp hs => ?_
        obtain ⟨hv, hz, hkb⟩ := hp
        replace hb6 := hkb _ _ hb6p rfl
        replace hb8 := hkb _ _ hb8p rfl
        replace hR13 := hR13p.kb hkb
        replace hfrQ := Fr0.overC hfrP hf (Nat.le_refl _)
        rw [if_neg (by rw [hoW, hoS, hoH, hfit]; simp)] at hv
        subst hv
        refine s_q hs (c_move (hs.ev rfl)) rfl fun ac hs => ?_
        refine s_q hs (c_extract (hs.ev rfl) rfl) rfl fun ac hs => ?_
        refine s_q hs (c_extract (hs.ev rfl) rfl) rfl fun ac hs => ?_
        refine s_alloc hs ty36 rfl fun ac ww g18 hs => ?_
        refine s_storeW (i := 0) hs ty36 rfl rfl rfl (by simp) (all_map_B _) rfl fun ww hs => ?_
        refine s_q hs (c_assign (hs.ev rfl)) rfl fun ac hs => ?_
        refine s_end ?_
        replace hs := hs.sub (F' := [(5, _), (6, _), (8, _), (12, _), (13, _), (14, _), (18, _), (19, _)]) ⟨rfl, rfl, rfl, rfl, rfl, rfl, rfl, rfl, trivial⟩
        refine then_n ?_
        refine wp_seq ?_
        refine wp_reg ?_
        refine s_q hs (c_move (hs.ev rfl)) rfl fun ac hs => ?_
        refine s_q hs (c_fld fl54_0 (hs.ev rfl)) rfl fun ac hs => ?_
        refine s_q hs (c_loadS un3 rfl (hs.ev rfl) (hs.old hb8 id) rfl) rfl fun ac hs => ?_
        refine s_q hs (c_fld fl54_1 (hs.ev rfl)) rfl fun ac hs => ?_
        refine s_q hs (c_fld fl52_0 (hs.ev rfl)) rfl fun ac hs => ?_
        refine s_q hs (c_loadS un25 rfl (hs.ev rfl) (hs.old hb8 id) rfl) rfl fun ac hs => ?_
        have hz1 := hz.fr0 hs.fr
        have hb6p := hs.old hb6 id
        have hb8p := hs.old hb8 id
        have hR13p := hR13.fr0 hs.fr
        have hfrP := hfrQ.trans0 hs.fr
        have hb18p := hs.seg (i := 0) rfl
        refine s_callR hs fu60 (.cons (hs.ev rfl) (.cons (hs.ev rfl) (.cons (hs.ev rfl) .nil))) (z_Root hz1 hfrP.size) rfl fun ac ww v110 hf hp hs => ?_
        obtain ⟨hv, hz, hkb⟩ := hp
        replace hb6 := hkb _ _ hb6p rfl
        replace hb8 := hkb _ _ hb8p rfl
        replace hR13 := hR13p.kb hkb
        replace hfrQ := Fr0.overC hfrP hf (Nat.le_refl _)
        have hb18 := hkb _ _ hb18p rfl
        rw [if_neg (by rw [hoW, hoS, hoH, hfit]; simp)] at hv
        subst hv
        refine s_q hs (c_move (hs.ev rfl)) rfl fun ac hs => ?_
        refine s_q hs (c_extract (hs.ev rfl) rfl) rfl fun ac hs => ?_
        refine s_q hs (c_extract (hs.ev rfl) rfl) rfl fun ac hs => ?_
        refine s_alloc hs ty36 rfl fun ac ww g20 hs => ?_
        refine s_storeW (i := 0) hs ty36 rfl rfl rfl (by simp) (all_map_B _) rfl fun ww hs => ?_
        refine s_q hs (c_assign (hs.ev rfl)) rfl fun ac hs => ?_
        refine s_end ?_
        replace hs := hs.sub (F' := [(5, _), (6, _), (8, _), (12, _), (13, _), (18, _), (19, _), (20, _), (21, _)]) ⟨rfl, rfl, rfl, rfl, rfl, rfl, rfl, rfl, rfl, trivial⟩
        refine then_n ?_
        refine wp_seq ?_
        refine wp_seq ?_
        refine wp_reg ?_
        refine s_q hs (c_fld fl54_0 (hs.ev rfl)) rfl fun ac hs => ?_
        refine s_q hs (c_loadS un3 rfl (hs.ev rfl) (hs.old hb8 id) rfl) rfl fun ac hs => ?_
        refine s_q hs (c_lssI (hs.ev rfl) (hs.ev rfl)) rfl fun ac hs => ?_
        refine s_q hs (c_move (hs.ev rfl)) rfl fun ac hs => ?_
        refine s_g hs rfl rfl (fun hg => c_fld fl54_0 (hs.ev rfl)) rfl fun ac hs => ?_
        refine s_g hs rfl rfl (fun hg => c_loadS un3 rfl (gev (hs.ev rfl) hg) (hs.old hb8 id) rfl) rfl fun ac hs => ?_
        refine s_g hs rfl rfl (fun hg => c_fld fl23_0 (hs.ev rfl)) rfl fun ac hs => ?_
        refine s_g hs rfl rfl (fun hg => c_loadS un3 rfl (gev (hs.ev rfl) hg) (hs.old hb6 id) rfl) rfl fun ac hs => ?_
        refine s_g hs rfl rfl (fun hg => c_geqI (gev (hs.ev rfl) hg) (gev (hs.ev rfl) hg)) rfl fun ac hs => ?_
        refine s_q hs (c_or (hs.ev rfl) (hs.ev rfl)) rfl fun ac hs => ?_
        refine s_q hs (c_move (hs.ev rfl)) rfl fun ac hs => ?_
        refine s_g hs rfl rfl (fun hg => c_fld fl54_1 (hs.ev rfl)) rfl fun ac hs => ?_
        refine s_g hs rfl rfl (fun hg => c_fld fl52_0 (gev (hs.ev rfl) hg)) rfl fun ac hs => ?_
        refine s_g hs rfl rfl (fun hg => c_loadS un25 rfl (gev (hs.ev rfl) hg) (hs.old hb8 id) rfl) rfl fun ac hs => ?_
        refine s_g hs rfl rfl (fun hg => c_gtrU (gev (hs.ev rfl) hg) (St.ev (v := U 65536) hs rfl)) rfl fun ac hs => ?_
        refine s_q hs (c_tt (c_or (hs.ev rfl) (hs.ev rfl)) ((by
            rw [← Bool.not_eq_false]
            intro h9
            simp only [Bool.or_eq_false_iff, decide_eq_false_iff_not] at h9
            have h8 : spFits n Sn Hn d ep = true := spFits_iff.2 ⟨hright, by omega, by omega, by omega⟩
            rw [hfit] at h8
            cases h8))) rfl fun ac hs => ?_
        refine s_end ?_
        replace hs := hs.sub (F' := [(5, _), (6, _), (8, _), (12, _), (13, _), (18, _), (19, _), (20, _), (21, _), (128, _)]) ⟨rfl, rfl, rfl, rfl, rfl, rfl, rfl, rfl, rfl, rfl, trivial⟩
        refine then_n ?_
        refine wp_cond_true (hs.ev rfl) ?_
        refine wp_seq ?_
        refine wp_reg ?_
        refine s_q hs (c_move (hs.ev rfl)) rfl fun ac hs => ?_
        refine s_q hs (c_eqlI (hs.ev rfl) (hs.ev rfl)) rfl fun ac hs => ?_
        refine s_q hs (c_move (hs.ev rfl)) rfl fun ac hs => ?_
        refine s_yes hs rfl rfl ?_
        refine s_q hs (c_move (hs.ev rfl)) rfl fun ac hs => ?_
        refine s_yes hs rfl rfl ?_
        refine s_q hs (c_eqlI (hs.ev rfl) (hs.ev rfl)) rfl fun ac hs => ?_
        refine s_q hs (c_pick (hs.ev rfl) (hs.ev rfl) (hs.ev rfl)) rfl fun ac hs => ?_
        refine s_q hs (c_assign (hs.ev rfl)) rfl fun ac hs => ?_
        refine s_end ?_
        replace hs := hs.sub (F' := [(5, _), (6, _), (8, _), (12, _), (13, _), (18, _), (19, _), (20, _), (21, _)]) ⟨rfl, rfl, rfl, rfl, rfl, rfl, rfl, rfl, rfl, trivial⟩
        refine then_n ?_
        refine wp_ret ?_
        refine then_r ?_
        refine s_ret hs rfl (.tmp (hs.tmp rfl) .nil) rfl ⟨_, rfl, (hfrQ.trans0 hs.fr), ?_⟩
        rfl
      · refine s_q hs (c_move (hs.ev rfl)) rfl fun ac hs => ?_
        refine s_q hs (c_fld fl54_0 (hs.ev rfl)) rfl fun ac hs => ?_
        refine s_q hs (c_loadS un3 rfl (hs.ev rfl) (hs.old hb8 id) rfl) rfl fun ac hs => ?_
        refine s_q hs (c_fld fl54_1 (hs.ev rfl)) rfl fun ac hs => ?_
        refine s_q hs (c_fld fl52_0 (hs.ev rfl)) rfl fun ac hs => ?_
        refine s_q hs (c_loadS un25 rfl (hs.ev rfl) (hs.old hb8 id) rfl) rfl fun ac hs => ?_
        refine s_q hs (c_fld fl54_1 (hs.ev rfl)) rfl fun ac hs => ?_
        refine s_q hs (c_fld fl52_1 (hs.ev rfl)) rfl fun ac hs => ?_
        refine s_q hs (c_loadS un25 rfl (hs.ev rfl) (hs.old hb8 id) rfl) rfl fun ac hs => ?_
        refine s_q hs (c_cvUI un25 un3 (hs.ev rfl)) rfl fun ac hs => ?_
        refine s_q hs (c_move (hs.ev rfl)) rfl fun ac hs => ?_
        have hz1 := hz.fr0 hs.fr
        have hb6p := hs.old hb6 id
        have hb8p := hs.old hb8 id
        have hR13p := hR13.fr0 hs.fr
        have hfrP := hfrQ.trans0 hs.fr
        refine s_callR hs fu59 (.cons (hs.ev rfl) (.cons (hs.ev rfl) (.cons (hs.ev rfl) (.cons (hs.ev rfl) (.cons (hs.ev rfl) .nil))))) (z_Element hz1 hfrP.size (sq.toNat : Int) r) rfl fun ac ww v100 hf hp hs => ?_
        obtain ⟨hv, hz, hkb⟩ := hp
        replace hb6 := hkb _ _ hb6p rfl
        replace hb8 := hkb _ _ hb8p rfl
        replace hR13 := hR13p.kb hkb
        replace hfrQ := Fr0.overC hfrP hf (Nat.le_refl _)
        rw [if_pos (by rw [hoW, hoS, hoH, hfit]), hpr] at hv
        subst hv
        refine s_q hs (c_move (hs.ev rfl)) rfl fun ac hs => ?_
        refine s_q hs (c_extract (hs.ev rfl) rfl) rfl fun ac hs => ?_
        refine s_q hs (c_extract (hs.ev rfl) rfl) rfl fun ac hs => ?_
        refine s_alloc hs ty36 rfl fun ac ww g18 hs => ?_
        refine s_storeW (i := 0) hs ty36 rfl rfl rfl (by rw [List.length_map, elB_length]) (all_map_B _) rfl fun ww hs => ?_
        refine s_q hs (c_assign (hs.ev rfl)) rfl fun ac hs => ?_
        refine s_end ?_
        replace hs := hs.sub (F' := [(5, _), (6, _), (8, _), (12, _), (13, _), (14, _), (18, _), (19, _)]) ⟨rfl, rfl, rfl, rfl, rfl, rfl, rfl, rfl, trivial⟩
        refine then_n ?_
        refine wp_seq ?_
        refine wp_reg ?_
        refine s_q hs (c_move (hs.ev rfl)) rfl fun ac hs => ?_
        refine s_q hs (c_fld fl54_0 (hs.ev rfl)) rfl fun ac hs => ?_
        refine s_q hs (c_loadS un3 rfl (hs.ev rfl) (hs.old hb8 id) rfl) rfl fun ac hs => ?_
        refine s_q hs (c_fld fl54_1 (hs.ev rfl)) rfl fun ac hs => ?_
        refine s_q hs (c_fld fl52_0 (hs.ev rfl)) rfl fun ac hs => ?_
        refine s_q hs (c_loadS un25 rfl (hs.ev rfl) (hs.old hb8 id) rfl) rfl fun ac hs => ?_
        have hz1 := hz.fr0 hs.fr
        have hb6p := hs.old hb6 id
        have hb8p := hs.old hb8 id
        have hR13p := hR13.fr0 hs.fr
        have hfrP := hfrQ.trans0 hs.fr
        have hb18p := hs.seg (i := 0) rfl
        refine s_callR hs fu60 (.cons (hs.ev rfl) (.cons (hs.ev rfl) (.cons (hs.ev rfl) .nil))) (z_Root hz1 hfrP.size) rfl fun ac ww v110 hf hp hs => ?_
        obtain ⟨hv, hz, hkb⟩ := hp
        replace hb6 := hkb _ _ hb6p rfl
        replace hb8 := hkb _ _ hb8p rfl
        replace hR13 := hR13p.kb hkb
        replace hfrQ := Fr0.overC hfrP hf (Nat.le_refl _)
        have hb18 := hkb _ _ hb18p rfl
        rw [if_pos (by rw [hoW, hoS, hoH, hfit]), hpr] at hv
        subst hv
        refine s_q hs (c_move (hs.ev rfl)) rfl fun ac hs => ?_
        refine s_q hs (c_extract (hs.ev rfl) rfl) rfl fun ac hs => ?_
        refine s_q hs (c_extract (hs.ev rfl) rfl) rfl fun ac hs => ?_
        refine s_alloc hs ty36 rfl fun ac ww g20 hs => ?_
        refine s_storeW (i := 0) hs ty36 rfl rfl rfl (by rw [List.length_map, rtV_length]) (all_map_B _) rfl fun ww hs => ?_
        refine s_q hs (c_assign (hs.ev rfl)) rfl fun ac hs => ?_
        refine s_end ?_
        replace hs := hs.sub (F' := [(5, _), (6, _), (8, _), (12, _), (13, _), (18, _), (19, _), (20, _), (21, _)]) ⟨rfl, rfl, rfl, rfl, rfl, rfl, rfl, rfl, rfl, trivial⟩
        refine then_n ?_
        refine wp_seq ?_
        refine wp_seq ?_
        refine wp_reg ?_
        refine s_q hs (c_fld fl54_0 (hs.ev rfl)) rfl fun ac hs => ?_
        refine s_q hs (c_loadS un3 rfl (hs.ev rfl) (hs.old hb8 id) rfl) rfl fun ac hs => ?_
        refine s_q hs (c_lssI (hs.ev rfl) (hs.ev rfl)) rfl fun ac hs => ?_
        refine s_q hs (c_move (hs.ev rfl)) rfl fun ac hs => ?_
        refine s_g hs rfl rfl (fun hg => c_fld fl54_0 (hs.ev rfl)) rfl fun ac hs => ?_
        refine s_g hs rfl rfl (fun hg => c_loadS un3 rfl (gev (hs.ev rfl) hg) (hs.old hb8 id) rfl) rfl fun ac hs => ?_
        refine s_g hs rfl rfl (fun hg => c_fld fl23_0 (hs.ev rfl)) rfl fun ac hs => ?_
        refine s_g hs rfl rfl (fun hg => c_loadS un3 rfl (gev (hs.ev rfl) hg) (hs.old hb6 id) rfl) rfl fun ac hs => ?_
        refine s_g hs rfl rfl (fun hg => c_geqI (gev (hs.ev rfl) hg) (gev (hs.ev rfl) hg)) rfl fun ac hs => ?_
        refine s_q hs (c_or (hs.ev rfl) (hs.ev rfl)) rfl fun ac hs => ?_
        refine s_q hs (c_move (hs.ev rfl)) rfl fun ac hs => ?_
        refine s_g hs rfl rfl (fun hg => c_fld fl54_1 (hs.ev rfl)) rfl fun ac hs => ?_
        refine s_g hs rfl rfl (fun hg => c_fld fl52_0 (gev (hs.ev rfl) hg)) rfl fun ac hs => ?_
        refine s_g hs rfl rfl (fun hg => c_loadS un25 rfl (gev (hs.ev rfl) hg) (hs.old hb8 id) rfl) rfl fun ac hs => ?_
        refine s_g hs rfl rfl (fun hg => c_gtrU (gev (hs.ev rfl) hg) (St.ev (v := U 65536) hs rfl)) rfl fun ac hs => ?_
        refine s_q hs (c_ff (c_or (hs.ev rfl) (hs.ev rfl)) ((by
            have h9 := spFits_iff.1 hfit
            simp only [Bool.or_eq_false_iff, decide_eq_false_iff_not]
            omega))) rfl fun ac hs => ?_
        refine s_end ?_
        replace hs := hs.sub (F' := [(5, _), (6, _), (8, _), (12, _), (13, _), (18, _), (19, _), (20, _), (21, _), (128, _)]) ⟨rfl, rfl, rfl, rfl, rfl, rfl, rfl, rfl, rfl, rfl, trivial⟩
        refine then_n ?_
        refine wp_cond_false (hs.ev rfl) ?_
        refine wp_skip ?_
        refine then_n ?_
        refine wp_seq ?_
        refine wp_seq ?_
        obtain ⟨_, hd0, hdW, hep⟩ := spFits_iff.1 hfit
        have hdn : d.toNat < n := by omega
        obtain ⟨rcur, hrb, hpc⟩ := hR13.piece hdn
        have hsl : (sdAt (sdR sd0 n) d).length = 32 := by
          have h2 := Nat.mul_le_mul_right 32 (show d.toNat + 1 ≤ n from hdn)
          have h3 := sdR_length hsd n
          rw [Nat.succ_mul] at h2
          rw [sdAt, List.length_take, List.length_drop]
          omega
        have hko : ((pr n Sn Hn (sdAt (sdR sd0 n) d) d ep)).Ok := pr_ok (by omega) (by omega) hsl
        refine wp_region_rg pmix 16 (by kernel_rfl) rfl hs ?_
        simp only [List.take_succ_cons, List.take_zero]
        refine rg_q (fun ac ww h => c_move (h.ev rfl)) rfl ?_
        refine rg_q (fun ac ww h => c_ff (c_neqI (h.ev rfl) (h.ev rfl)) (by rfl)) rfl ?_
        refine rg_q (fun ac ww h => c_move (h.ev rfl)) rfl ?_
        refine rg_yes rfl rfl (fun ac ww h => c_loadW ty36 rfl (h.ev rfl) (h.blk (hs.seg (i := 0) rfl)) (by rw [List.length_map, rtV_length])) rfl ?_
        refine rg_yes rfl rfl (fun ac ww h => c_loadW ty23 ag23 (h.ev rfl) (h.blk (hs.old hb6 id)) (by rfl)) rfl ?_
        refine rg_yes rfl rfl (fun ac ww h => c_move (h.ev rfl)) rfl ?_
        refine rg_yes rfl rfl (fun ac ww h => c_fld fl54_0 (h.ev rfl)) rfl ?_
        refine rg_yes rfl rfl (fun ac ww h => c_loadS un3 rfl (h.ev rfl) (h.blk (hs.old hb8 id)) rfl) rfl ?_
        refine rg_yes rfl rfl (fun ac ww h => c_idxS (j := d.toNat) un100 ty24 (h.ev rfl) (h.ev rfl) (by omega) hdn) rfl ?_
        refine rg_yes rfl rfl (fun ac ww h => c_loadA ty24 rfl (h.ev rfl) (h.blk (hs.old hrb id)) hpc (show (List.map B (sdAt (sdR sd0 n) d)).length = 32 by rw [List.length_map, hsl])) rfl ?_
        refine rg_yes rfl rfl (fun ac ww h => c_fld fl54_0 (h.ev rfl)) rfl ?_
        refine rg_yes rfl rfl (fun ac ww h => c_loadS un3 rfl (h.ev rfl) (h.blk (hs.old hb8 id)) rfl) rfl ?_
        refine rg_yes rfl rfl (fun ac ww h => c_fld fl54_1 (h.ev rfl)) rfl ?_
        refine rg_yes rfl rfl (fun ac ww h => c_fld fl52_0 (h.ev rfl)) rfl ?_
        refine rg_yes rfl rfl (fun ac ww h => c_loadS un25 rfl (h.ev rfl) (h.blk (hs.old hb8 id)) rfl) rfl ?_
        refine rg_strip rfl rfl ?_
        refine rg_call fu20 (fun ac ww h => (.cons (h.ev rfl) (.cons (h.ev rfl) (.cons (h.ev rfl) (.cons (h.ev rfl) .nil))))) (fun ww hf => ref08_Root (pr n Sn Hn (sdAt (sdR sd0 n) d) d ep) hko hlv _) rfl ?_
        refine rg_nil fun ac ww L' hf hfe hs => ?_
        simp only [List.drop_succ_cons, List.drop_zero]
        obtain rfl : L' = [] := hfe
        replace hs := hs.toL (List.nil_append _)
        refine s_yes hs rfl rfl ?_
        refine s_q hs (c_ff (c_neqAB un36 ty5 eg36 (hs.ev rfl) (hs.ev rfl) (rtV_length _) (rtV_length _)) ((by simp [rtV]))) rfl fun ac hs => ?_
        refine s_q hs (c_pick (hs.ev rfl) (hs.ev rfl) (hs.ev rfl)) rfl fun ac hs => ?_
        refine s_end ?_
        replace hs := hs.sub (F' := [(5, _), (6, _), (8, _), (12, _), (13, _), (18, _), (19, _), (152, _)]) ⟨rfl, rfl, rfl, rfl, rfl, rfl, rfl, rfl, trivial⟩
        refine then_n ?_
        refine wp_cond_false (hs.ev rfl) ?_
        refine wp_skip ?_
        refine then_n ?_
        refine wp_seq ?_
        refine wp_seq ?_
        refine wp_region_rg pmix 16 (by kernel_rfl) rfl hs ?_
        simp only [List.take_succ_cons, List.take_zero]
        refine rg_q (fun ac ww h => c_move (h.ev rfl)) rfl ?_
        refine rg_q (fun ac ww h => c_lssI (h.ev rfl) (h.ev rfl)) rfl ?_
        refine rg_q (fun ac ww h => c_move (h.ev rfl)) rfl ?_
        refine rg_g rfl rfl (fun hg ac ww h => c_move (h.ev rfl)) rfl ?_
        refine rg_g rfl rfl (fun hg ac ww h => c_fld fl23_1 (h.ev rfl)) rfl ?_
        refine rg_g rfl rfl (fun hg ac ww h => c_loadS un3 rfl (gev (h.ev rfl) hg) (h.blk (hs.old hb6 id)) rfl) rfl ?_
        refine rg_g rfl rfl (fun hg ac ww h => c_gtrI (gev (h.ev rfl) hg) (gev (h.ev rfl) hg)) rfl ?_
        refine rg_q (fun ac ww h => c_or (h.ev rfl) (h.ev rfl)) rfl ?_
        refine rg_q (fun ac ww h => c_move (h.ev rfl)) rfl ?_
        refine rg_g rfl rfl (fun hg ac ww h => c_fld fl54_1 (h.ev rfl)) rfl ?_
        refine rg_g rfl rfl (fun hg ac ww h => c_fld fl52_1 (gev (h.ev rfl) hg)) rfl ?_
        refine rg_g rfl rfl (fun hg ac ww h => c_loadS un25 rfl (gev (h.ev rfl) hg) (h.blk (hs.old hb8 id)) rfl) rfl ?_
        refine rg_g rfl rfl (fun hg ac ww h => c_cvUV un25 un124 (gev (h.ev rfl) hg)) rfl ?_
        refine rg_g rfl rfl (fun hg ac ww h => c_loadW ty23 ag23 (h.ev rfl) (h.blk (hs.old hb6 id)) (by rfl)) rfl ?_
        refine rg_gcall rfl rfl fu18 (fun hg ac ww h => (.cons (gev (h.ev rfl) hg) .nil)) (fun hg ww hf => ref08_Many n Sn Hn (by omega) _) rfl ?_
        refine rg_g rfl rfl (fun hg ac ww h => c_cvIV un3 un124 (gev (h.ev rfl) hg)) rfl ?_
        refine rg_nil fun ac ww L' hf hfe hs => ?_
        simp only [List.drop_succ_cons, List.drop_zero]
        obtain rfl : L' = [] := hfe
        replace hs := hs.toL (List.nil_append _)
        refine s_g hs rfl rfl (fun hg => c_geqV (gev (hs.ev rfl) hg) (gev (hs.ev rfl) hg)) rfl fun ac hs => ?_
        refine s_q hs (c_or (hs.ev rfl) (hs.ev rfl)) rfl fun ac hs => ?_
        refine s_end ?_
        replace hs := hs.sub (F' := [(5, _), (6, _), (8, _), (12, _), (13, _), (18, _), (19, _), (170, _)]) ⟨rfl, rfl, rfl, rfl, rfl, rfl, rfl, rfl, trivial⟩
        refine then_n ?_
        refine s_cond hs rfl (fun hc => ?_) (fun hc => ?_)
        · skip
          have hel : elR (pr n Sn Hn (sdAt (sdR sd0 n) d) d ep) (sq.toNat : Int) r = 1 := by
            rw [elR, if_neg]
            intro h9
            have h8 := elOk_iff.1 h9
            have hm : (((pr n Sn Hn (sdAt (sdR sd0 n) d) d ep)).m : Int) = 2 ^ Hn := by rw [Spr.m]; push_cast; rfl
            have hp6 := pow64 (lv := Hn) (by omega)
            have hpi : (i64 ((2 ^ Hn : Nat) : Int)).toNat = 2 ^ Hn := i64_natT (by omega)
            simp only [Bool.or_eq_true, decide_eq_true_eq, hpi, UInt32.toNat_toUInt64] at hc
            rw [hm] at h8
            have h7 : (((pr n Sn Hn (sdAt (sdR sd0 n) d) d ep)).S : Int) = Sn := rfl
            rw [h7] at h8
            rcases hc with (hc | hc) | hc
            · omega
            · omega
            · have := h8.2.1
              have h5 : ((2 ^ Hn : Nat) : Int) = 2 ^ Hn := by push_cast; rfl
              omega
          refine wp_seq ?_
          refine wp_reg ?_
          refine s_q hs (c_move (hs.ev rfl)) rfl fun ac hs => ?_
          refine s_q hs (c_eqlI (hs.ev rfl) (hs.ev rfl)) rfl fun ac hs => ?_
          refine s_q hs (c_assign (hs.ev rfl)) rfl fun ac hs => ?_
          refine s_end ?_
          replace hs := hs.sub (F' := [(5, _), (6, _), (8, _), (12, _), (13, _), (18, _), (19, _)]) ⟨rfl, rfl, rfl, rfl, rfl, rfl, rfl, trivial⟩
          refine then_n ?_
          refine wp_ret ?_
          refine then_r ?_
          refine s_ret hs rfl (.tmp (hs.tmp rfl) .nil) rfl ⟨_, rfl, (hfrQ.trans0 hs.fr), ?_⟩
          rw [hel]
          rfl
        · skip
          have hp6 := pow64 (lv := Hn) (by omega)
          have hpi : (i64 ((2 ^ Hn : Nat) : Int)).toNat = 2 ^ Hn := i64_natT (by omega)
          simp only [Bool.or_eq_false_iff, decide_eq_false_iff_not, hpi, UInt32.toNat_toUInt64] at hc
          obtain ⟨rn, rfl⟩ := int_of (show 0 ≤ r by omega)
          have hok : elOk (pr n Sn Hn (sdAt (sdR sd0 n) d) d ep) (sq.toNat : Int) (rn : Int) = true := by
            have hm : (((pr n Sn Hn (sdAt (sdR sd0 n) d) d ep)).m : Int) = 2 ^ Hn := by rw [Spr.m]; push_cast; rfl
            have h7 : (((pr n Sn Hn (sdAt (sdR sd0 n) d) d ep)).S : Int) = Sn := rfl
            have h5 : ((2 ^ Hn : Nat) : Int) = 2 ^ Hn := by push_cast; rfl
            refine elOk_iff.2 ⟨by omega, ?_, by omega, by omega⟩
            rw [hm]
            omega
          have hrn16 : rn ≤ 16 := by omega
          refine wp_skip ?_
          refine then_n ?_
          refine wp_seq ?_
          refine wp_region_rg pmix 21 (by kernel_rfl) rfl hs ?_
          simp only [List.take_succ_cons, List.take_zero]
          refine rg_q (fun ac ww h => c_move (h.ev rfl)) rfl ?_
          refine rg_q (fun ac ww h => c_tt (c_eqlI (h.ev rfl) (h.ev rfl)) ((by rw [elR, if_pos hok]; rfl))) rfl ?_
          refine rg_q (fun ac ww h => c_move (h.ev rfl)) rfl ?_
          refine rg_yes rfl rfl (fun ac ww h => c_loadW ty36 rfl (h.ev rfl) (h.blk (hs.old hb18 id)) (by rw [List.length_map, elB_length])) rfl ?_
          refine rg_yes rfl rfl (fun ac ww h => c_loadW ty23 ag23 (h.ev rfl) (h.blk (hs.old hb6 id)) (by rfl)) rfl ?_
          refine rg_yes rfl rfl (fun ac ww h => c_move (h.ev rfl)) rfl ?_
          refine rg_yes rfl rfl (fun ac ww h => c_fld fl54_0 (h.ev rfl)) rfl ?_
          refine rg_yes rfl rfl (fun ac ww h => c_loadS un3 rfl (h.ev rfl) (h.blk (hs.old hb8 id)) rfl) rfl ?_
          refine rg_yes rfl rfl (fun ac ww h => c_idxS (j := d.toNat) un100 ty24 (h.ev rfl) (h.ev rfl) (by omega) hdn) rfl ?_
          refine rg_yes rfl rfl (fun ac ww h => c_loadA ty24 rfl (h.ev rfl) (h.blk (hs.old hrb id)) hpc (show (List.map B (sdAt (sdR sd0 n) d)).length = 32 by rw [List.length_map, hsl])) rfl ?_
          refine rg_yes rfl rfl (fun ac ww h => c_fld fl54_0 (h.ev rfl)) rfl ?_
          refine rg_yes rfl rfl (fun ac ww h => c_loadS un3 rfl (h.ev rfl) (h.blk (hs.old hb8 id)) rfl) rfl ?_
          refine rg_yes rfl rfl (fun ac ww h => c_fld fl54_1 (h.ev rfl)) rfl ?_
          refine rg_yes rfl rfl (fun ac ww h => c_fld fl52_0 (h.ev rfl)) rfl ?_
          refine rg_yes rfl rfl (fun ac ww h => c_loadS un25 rfl (h.ev rfl) (h.blk (hs.old hb8 id)) rfl) rfl ?_
          refine rg_yes rfl rfl (fun ac ww h => c_fld fl54_1 (h.ev rfl)) rfl ?_
          refine rg_yes rfl rfl (fun ac ww h => c_fld fl52_1 (h.ev rfl)) rfl ?_
          refine rg_yes rfl rfl (fun ac ww h => c_loadS un25 rfl (h.ev rfl) (h.blk (hs.old hb8 id)) rfl) rfl ?_
          refine rg_yes rfl rfl (fun ac ww h => c_cvUI un25 un3 (h.ev rfl)) rfl ?_
          refine rg_yes rfl rfl (fun ac ww h => c_move (h.ev rfl)) rfl ?_
          refine rg_strip rfl rfl ?_
          refine rg_call fu21 (fun ac ww h => (.cons (h.ev rfl) (.cons (h.ev rfl) (.cons (h.ev rfl) (.cons (h.ev rfl) (.cons (h.ev rfl) (.cons (h.ev rfl) .nil))))))) (fun ww hf => ref08_Element (pr n Sn Hn (sdAt (sdR sd0 n) d) d ep) hko hlv sq.toNat rn hrn16 _) rfl ?_
          refine rg_nil fun ac ww L' hf hfe hs => ?_
          simp only [List.drop_succ_cons, List.drop_zero]
          obtain rfl : L' = [] := hfe
          replace hs := hs.toL (List.nil_append _)
          refine s_yes hs rfl rfl ?_
          refine s_q hs (c_tt (c_eqlAB un36 ty5 eg36 (hs.ev rfl) (hs.ev rfl) (elB_length _ _ _) (el_length _ _ _)) ((by rw [elB, if_pos hok]; simp))) rfl fun ac hs => ?_
          refine s_q hs (c_pick (hs.ev rfl) (hs.ev rfl) (hs.ev rfl)) rfl fun ac hs => ?_
          refine s_q hs (c_assign (hs.ev rfl)) rfl fun ac hs => ?_
          refine s_end ?_
          replace hs := hs.sub (F' := [(12, _)]) ⟨rfl, trivial⟩
          refine then_n ?_
          refine wp_ret ?_
          refine s_ret hs rfl (.tmp (hs.tmp rfl) .nil) rfl ⟨_, rfl, (hfrQ.trans0 hs.fr), ?_⟩
          rfl
end Go.Proofs.YtklajbdbnnceiaaGreat
end
