/- Own texts of this seat,laid together for one claim (with what its proof uses alone). -/
import Derived.Test.YtklajbdbnnceiaaGreatPasKe
set_option linter.unusedSimpArgs false
set_option linter.unusedVariables false
set_option maxRecDepth 100000
set_option maxHeartbeats 4000000
section
/- The law of what is learned and passed on. -/
namespace Go.Proofs.YtklajbdbnnceiaaGreat
open Go Go.Fw
open Sha
section
variable {W S H d mt nid:Int} {ep sq:UInt32} {e ps:List UInt8} {np:Nat} {pv:Value} {w:World}
theorem proof_PassB (hno:clRight W S H d mt nid ep sq=false) (hel:e.length=16) (hpl:ps.length=np * 16) (hnp:np≤1000000) (hqp:Rd w pv np (ps.map B)):Ctr Tryz.prog 37 [.agg #[I W,I S,I H],knV d ep sq mt e pv,I nid] w (fun _=>False) fun v _=>v=.tuple #[.agg #[I 0,U 0,U 0,I 0,I 0],credV (List.replicate 16 (0:UInt8)) (.slice none 0 0) (.slice none 0 0),I 1] :=
  (proof_Pass W S H d mt nid ep sq e ps np pv hel hpl hnp w hqp).mono fun v w' _ ⟨L,h,_⟩=>h.elim (fun h=>h.2.1) fun h=>absurd (hno.symm.trans h.1) (by decide)
theorem proof_PassE (hyes:clRight W S H d mt nid ep sq=true) (hel:e.length=16) (hpl:ps.length=np * 16) (hnp:np≤1000000) (hqp:Rd w pv np (ps.map B)):Ctr Tryz.prog 37 [.agg #[I W,I S,I H],knV d ep sq mt e pv,I nid] w (fun _=>False) (outE (tupG [.agg #[I d,U ep,U sq,I mt,I nid]] [I 0] (crE 36 (shL d ep sq mt e W nid) (shN mt W nid) (shW d ep sq mt e W nid) np ps)) w) :=
  (proof_Pass W S H d mt nid ep sq e ps np pv hel hpl hnp w hqp).mono fun v w' _ ⟨L,h,hh⟩=>h.elim (fun h=>absurd (hyes.symm.trans h.1) (by decide)) fun ⟨_,wv,pv2,h1,h2⟩=>⟨L,⟨_,h1,wv,pv2,rfl,h2⟩,hh⟩
end
end Go.Proofs.YtklajbdbnnceiaaGreat
end

section
/- Judging,with a second spring beside the oracle's. -/
namespace Go.Proofs.YtklajbdbnnceiaaGreat
open Go Go.Fw
open Sha
def OrY (w:World) (o:Orc) (d:Int) (ep:UInt32) (sz:Nat):Prop:=∃ s,OrAt w o s∧∀ p,s=some p→p.d=d∧p.ep=ep∧sz≤p.g∧sz≤p.cg
theorem OrY.fr0 {w w':World} {o:Orc} {d:Int} {ep:UInt32} {sz:Nat} (h:OrY w o d ep sz) (hf:Fr0 w w'):OrY w' o d ep sz:=by
  obtain ⟨s,h1,h2⟩:=h
  exact ⟨s,h1.fr0 hf,h2⟩
theorem OrNext.y {w w':World} {o:Orc} {s:Option Spr} {d:Int} {ep:UInt32} {p:Spr} {sz:Nat} (h:OrNext w w' o s d ep p) (h2:∀ p,s=some p→p.d=d∧p.ep=ep∧sz≤p.g∧sz≤p.cg) (hw:sz≤w.heap.size):OrY w' o d ep sz :=
  ⟨some p,h.at_,fun p2 e=>by
    cases e
    exact ⟨h.d,h.ep,h.was.elim (fun e=>(h2 p e).2.2) fun e=>⟨Nat.le_trans hw e.2.1,Nat.le_trans hw e.2.2⟩⟩⟩
theorem own_atY {w:World} {o:Orc} {s:Option Spr} {d:Int} {ep:UInt32} {sz:Nat} (hor:OrAt w o s) (h2:∀ p,s=some p→p.d=d∧p.ep=ep∧sz≤p.g∧sz≤p.cg) (hw:sz≤w.heap.size) (mt sn:Int) (sq:UInt32) (lf ws ps:List UInt8) (nw np:Nat) (wv pv:Value) (hlf:lf.length=16) (hwl:ws.length=nw * 16) (hpl:ps.length=np * 16)
    (hqw:Rd w wv nw (ws.map B)) (hqp:Rd w pv np (ps.map B)) (hfw:∀ w9,Fr (OrM o s) w w9→Rd w9 wv nw (ws.map B)) (hfp:∀ w9,Fr (OrM o s) w w9→Rd w9 pv np (ps.map B)) :
    Ctr Tryz.prog 57 [.pointer (some ⟨o.g,0,none⟩),.agg #[I d,U ep,U sq,I mt,I sn],credV lf wv pv] w (OrM o s) fun v w'=>v=.bool (ownV o d mt sn ep sq lf ws ps)∧OrY w' o d ep sz:=by
  refine Calls.mono (tr_Own o s d mt sn ep sq lf ws ps nw np wv pv hlf hwl hpl w hor (fun p e=>⟨(h2 p e).1,(h2 p e).2.1⟩) hqw hqp hfw hfp) ?_
  rintro e w' ⟨v,he,hf,hp⟩
  refine ⟨v,he,hf,?_⟩
  rcases hp with ⟨h1,rfl,h3⟩ | ⟨h1,p,rfl,hn⟩
  · refine ⟨by rw [ownV,h1]; rfl,?_⟩
    rcases h3 with ⟨_,h3⟩ | ⟨_,p,h3⟩
    · exact ⟨s,h3,h2⟩
    · exact h3.y h2 hw
  · refine ⟨?_,hn.y h2 hw⟩
    rw [ownV,h1,Bool.true_and,← clV_pr p.g p.cg,← spr_eq hn.is,clV,hn.d,hn.ep]
theorem tr_JudgeY (o:Orc) (s:Option Spr) (d mt sn:Int) (ep sq:UInt32) (sz:Nat) (lf ws ps:List UInt8) (nw np:Nat) (wv pv:Value) (g mb nb:Nat) (v:Value) (l:List Cl) (wh:Int→Bool) (h2:∀ p,s=some p→p.d=d∧p.ep=ep∧sz≤p.g∧sz≤p.cg) (hlf:lf.length=16) (hwl:ws.length=nw * 16) (hpl:ps.length=np * 16) (hd:-9223372036854775808≤d∧d≤9223372036854775807) (w:World) (hsz:sz≤w.heap.size) (hor:OrAt w o s) (hqw:Rd w wv nw (ws.map B)) (hqp:Rd w pv np (ps.map B)) (hfw:∀ w9,Fr (OrM o s) w w9→Rd w9 wv nw (ws.map B)) (hfp:∀ w9,Fr (OrM o s) w w9→Rd w9 pv np (ps.map B)) (hled:∀ w9,Fr (OrM o s) w w9→LedR w9 g mb nb v l wh):Ctr Tryz.prog 55 [.pointer (some ⟨o.g,0,none⟩),.pointer (some ⟨g,0,none⟩),.agg #[I d,U ep,U sq,I mt,I sn],credV lf wv pv] w (OrM o s) (fun v w'=>v=I (judV (ownV o d mt sn ep sq lf ws ps) (mayP wh l (⟨d,ep,sq,mt,sn⟩:Cl)))∧OrY w' o d ep sz):=by
  refine fn_start (N:=19) Tryz.func55 rfl rfl rfl fun ac hk=>?_
  have hs:=St.start hk w
  refine wp_seq (wp_reg ?_)
  refine s_box hs rfl rfl rfl fun ac ww g6 hs=>?_
  refine s_box hs rfl rfl rfl fun ac ww g7 hs=>?_
  refine zA hs fun ac hs=>?_
  refine s_end ?_
  replace hs:=hs.sub (F':=[(0,_),(1,_),(6,_),(7,_),(8,_)]) ⟨rfl,rfl,rfl,rfl,rfl,trivial⟩
  refine then_n (wp_seq (wp_block (wp_seq (wp_reg ?_))))
  refine zM hs fun ac hs=>?_
  refine s_q hs (c_loadW ty61 ag61 (hs.ev rfl) (hs.seg (i:=1) rfl) (by rfl)) rfl fun ac hs=>?_
  refine s_q hs (c_loadW ty56 ag56 (hs.ev rfl) (hs.seg (i:=0) rfl) (by simp [hlf])) rfl fun ac hs=>?_
  have hfr1:=hs.fr
  have hb6p:=hs.seg (i:=1) rfl
  have hor1:=hor.fr0 hs.fr
  refine s_callR hs fu57 (.cons (hs.ev rfl) (.cons (hs.ev rfl) (.cons (hs.ev rfl) .nil))) (own_atY hor1 h2 (Nat.le_trans hsz hs.fr.size) mt sn sq lf ws ps nw np _ _ hlf hwl hpl (hqw.fr0 hs.fr) (hqp.fr0 hs.fr) (fun w9 hf9=>hfw w9 ((Fr.mono hs.fr (fun _ _=>False.elim):Fr (OrM o s) _ _).trans hf9 fun _ _ h=>h)) (fun w9 hf9=>hfp w9 ((Fr.mono hs.fr (fun _ _=>False.elim):Fr (OrM o s) _ _).trans hf9 fun _ _ h=>h))) rfl fun ac ww v13 hf hp hs=>?_
  obtain ⟨rfl,hz⟩:=hp
  have hb6:=keepKB hor1 hf _ _ hb6p rfl
  have hfrA:=(Fr.mono hfr1 (fun _ _=>False.elim):Fr (OrM o s) _ _).trans hf fun _ _ h=>h
  have hlr:=hled _ hfrA
  cases hov:ownV o d mt sn ep sq lf ws ps
  · refine s_q hs (c_tt (c_not (hs.ev rfl)) ((by rw [hov]; rfl))) rfl fun ac hs=>?_
    refine zA hs fun ac hs=>?_
    refine s_end ?_
    replace hs:=hs.sub (F':=[(1,_),(6,_),(8,_),(9,_)]) ⟨rfl,rfl,rfl,rfl,trivial⟩
    refine then_n ?_
    refine wp_cond_true (hs.ev rfl) ?_
    refine wp_seq (wp_reg ?_)
    refine zA hs fun ac hs=>?_
    refine s_end ?_
    replace hs:=hs.sub (F':=[(1,_),(6,_),(8,_)]) ⟨rfl,rfl,rfl,trivial⟩
    refine then_n (wp_ret (blk_r (then_r ?_)))
    refine s_ret hs rfl (.tmp (hs.tmp rfl) .nil) rfl ⟨_,rfl,(hfrA.trans0 hs.fr),?_⟩
    exact ⟨rfl,hz.fr0 hs.fr⟩
  · refine s_q hs (c_ff (c_not (hs.ev rfl)) ((by rw [hov]; rfl))) rfl fun ac hs=>?_
    refine zA hs fun ac hs=>?_
    refine s_end ?_
    replace hs:=hs.sub (F':=[(1,_),(6,_),(8,_),(9,_)]) ⟨rfl,rfl,rfl,rfl,trivial⟩
    refine then_n ?_
    refine wp_cond_false (hs.ev rfl) ?_
    refine wp_seq (wp_reg ?_)
    refine zM hs fun ac hs=>?_
    refine s_q hs (c_loadW ty61 ag61 (hs.ev rfl) (hs.old hb6 id) (by rfl)) rfl fun ac hs=>?_
    refine s_call hs fu94 (.cons (hs.ev rfl) (.cons (hs.ev rfl) .nil)) (tr_May g mb nb v l wh (⟨d,ep,sq,mt,sn⟩:Cl) hd _ (hlr.fr0 hs.fr)) rfl fun ac ww v18 hf hp hs=>?_
    obtain rfl:=hp
    replace hs:=hs [] (.nil _ _)
    refine zA hs fun ac hs=>?_
    refine s_end ?_
    replace hs:=hs.sub (F':=[(8,_),(15,_)]) ⟨rfl,rfl,trivial⟩
    refine then_n ?_
    refine s_cond hs rfl (fun hc=>?_) (fun hc=>?_)
    · skip
      have hmy:mayP wh l (⟨d,ep,sq,mt,sn⟩:Cl)=true:=hc
      refine wp_seq (wp_reg ?_)
      refine zA hs fun ac hs=>?_
      refine s_end ?_
      replace hs:=hs.sub (F':=[(8,_)]) ⟨rfl,trivial⟩
      refine then_n (wp_ret (blk_r (then_r ?_)))
      refine s_ret hs rfl (.tmp (hs.tmp rfl) .nil) rfl ⟨_,rfl,(hfrA.trans0 hs.fr),?_⟩
      exact ⟨by rw [hmy]; rfl,hz.fr0 hs.fr⟩
    · skip
      have hmy:mayP wh l (⟨d,ep,sq,mt,sn⟩:Cl)=false:=hc
      refine wp_skip (blk_n (then_n (wp_seq (wp_reg ?_))))
      refine zA hs fun ac hs=>?_
      refine s_end ?_
      replace hs:=hs.sub (F':=[(8,_)]) ⟨rfl,trivial⟩
      refine then_n (wp_ret ?_)
      refine s_ret hs rfl (.tmp (hs.tmp rfl) .nil) rfl ⟨_,rfl,(hfrA.trans0 hs.fr),?_⟩
      exact ⟨by rw [hmy]; rfl,hz.fr0 hs.fr⟩
def SpMB (w:World) (p:Spr) (Bd:Nat→Prop):Prop:=∃ K u,SpAt w p 0 K (some u)∧SpFr w p K (some u) Bd
theorem SpMB.made {w:World} {p:Spr} {Bd:Nat→Prop} (h:SpMB w p Bd):SpMade w p:=by
  obtain ⟨K,u,h,_⟩:=h
  exact ⟨K,u,h⟩
theorem SpMade.b {w:World} {p:Spr} (h:SpMade w p):SpMB w p (w.heap.size≤·):=by
  obtain ⟨K,u,h⟩:=h
  exact ⟨K,u,h,h.free⟩
theorem SpFr.kinds {w:World} {p:Spr} {lk:Int} {K:Nat→Option Value} {t:Option Value} {Bd:Nat→Prop} (h:SpFr w p K t Bd) (hs:SpAt w p lk K t):SpFr w p K t fun k=>Bd k∨∀ cs T fr,w.heap[k]?=some (Obj.cells cs T fr)→otherK T=true:=by
  refine ⟨fun q hq v hv k hk hb=>hb.elim (h.1 q hq v hv k hk) fun hn=>?_,fun v hv=>?_⟩
  · obtain ⟨b,cap,cur,rfl,h2,_⟩:=hs.col q hq v hv
    simp only [Value.ownBlock,Option.some.injEq] at hk
    subst hk
    have h9:=hn _ _ _ h2
    cases h9
  · obtain ⟨g,v',ps,h1,h2,h3,h4,h5⟩:=h.2 v hv
    refine ⟨g,v',ps,h1,h2,h3,h4,fun e he k hk hb=>hb.elim (h5 e he k hk) fun hn=>?_⟩
    obtain ⟨cs,T,fr,h6,h7⟩:=grove_kind h3 e he k hk
    rw [hn _ _ _ h6] at h7
    cases h7
theorem SpMB.frM {w w':World} {p:Spr} {Bd M:Nat→Prop} (h:SpMB w p Bd) (hf:Fr M w w') (hM:∀ k,M k→Bd k∨∀ cs T fr,w.heap[k]?=some (Obj.cells cs T fr)→otherK T=true) (hg:¬ M p.g) (hc:¬ M p.cg):SpMB w' p Bd:=by
  obtain ⟨K,u,h,hb⟩:=h
  obtain ⟨h1,h2⟩:=(hb.kinds h).keep h hf (fun k hk=>.inr (.inr (hM k hk))) (hf.block _ (heap_lt h.hg) hg) (hf.block _ (heap_lt h.hc) hc)
  exact ⟨K,u,h1,h2.mono fun k hk=>.inl hk⟩
theorem SpMB.fr0 {w w':World} {p:Spr} {Bd:Nat→Prop} (h:SpMB w p Bd) (hf:Fr0 w w'):SpMB w' p Bd:=h.frM hf (fun _ hm=>hm.elim) id id
def sepK (T:TypeId):Bool:=Nat.beq 195 T || Nat.beq 61 T || Nat.beq 56 T
theorem sep_other {T:TypeId} (h:sepK T=true):otherK T=true∧(Nat.beq 191 T || Nat.beq 129 T)=false:=by
  simp only [sepK,Bool.or_eq_true] at h
  rcases h with (h | h) | h <;> (obtain rfl:=Nat.eq_of_beq_eq_true h; exact ⟨rfl,rfl⟩)
theorem OrY.frM {w w':World} {o:Orc} {d:Int} {ep:UInt32} {sz:Nat} {M:Nat→Prop} (h:OrY w o d ep sz) (hf:Fr M w w') (hm:¬ M o.mb) (hM:∀ k,M k→∀ cs T fr,w.heap[k]?=some (Obj.cells cs T fr)→sepK T=true):OrY w' o d ep sz:=by
  obtain ⟨s,h,h2⟩:=h
  refine ⟨s,?_,h2⟩
  have keep:∀ {k:Nat} {cs:Array Value} {T:TypeId} {fr:Nat × Nat},w.heap[k]?=some (.cells cs T fr)→(Nat.beq 191 T || Nat.beq 129 T)=true→w'.heap[k]?=some (.cells cs T fr):=fun {k cs T fr} hk hx=>by
    refine (hf.block k (heap_lt hk) fun hm=>?_).trans hk
    rw [(sep_other (hM k hm _ _ _ hk)).2] at hx
    cases hx
  obtain ⟨es,cl,hb⟩:=h.mp.blk
  obtain ⟨r1,b,cap,cur,r2,r3,r4⟩:=h.rd
  refine ⟨h.ok,keep h.hg rfl,⟨r1,b,cap,cur,r2,keep r3 rfl,r4⟩,h.mp.loc (hf.block _ (heap_lt hb) hm),fun q hq=>⟨(h.sp q hq).1,(h.sp q hq).2.1,?_⟩⟩
  obtain ⟨K,t,h3⟩:=(h.sp q hq).2.2
  exact ⟨K,t,h3.otherG hf fun k hk cs T fr hb=>(sep_other (hM k hk cs T fr hb)).1⟩
theorem mapV_no {P:Program} {kk:TypeId} {b n:Nat} {f:Lit→Option Value} {w:World} (h:MapV P kk b n f w):∀ cs T fr,w.heap[b]? ≠ some (Obj.cells cs T fr):=fun cs T fr hb=>by
  obtain ⟨es,cl,h2⟩:=h.blk
  rw [hb] at h2
  cases h2
theorem LedR.orc {w w9:World} {g mb nb:Nat} {v:Value} {l:List Cl} {wh:Int→Bool} {o:Orc} {s:Option Spr} (hr:LedR w g mb nb v l wh) (hor:OrAt w o s) (hne:mb ≠ o.mb) (hv:∀ k,v.ownBlock=some k→¬ OrM o s k) (hf:Fr (OrM o s) w w9):LedR w9 g mb nb v l wh:=by
  obtain ⟨es,cl,hb⟩:=hr.mp.blk
  refine ⟨keepKB hor hf _ _ hr.hg rfl,hr.rd.fr hf hv,hr.mp.loc (hf.block _ (heap_lt hb) ?_)⟩
  rintro (e | ⟨q,e,hm⟩)
  · exact hne e
  · obtain ⟨cs,T,fr,h1,_⟩:=spBlk (hor.sp q e).2.2 hm
    exact mapV_no hr.mp _ _ _ h1
theorem LedR.frM {w w9:World} {g mb nb:Nat} {v:Value} {l:List Cl} {wh:Int→Bool} {M:Nat→Prop} (hr:LedR w g mb nb v l wh) (hf:Fr M w w9) (hg:¬ M g) (hm:¬ M mb) (hv:∀ k,v.ownBlock=some k→¬ M k):LedR w9 g mb nb v l wh:=by
  obtain ⟨es,cl,hb⟩:=hr.mp.blk
  exact ⟨(hf.block _ (heap_lt hr.hg) hg).trans hr.hg,hr.rd.fr hf hv,hr.mp.loc (hf.block _ (heap_lt hb) hm)⟩
def sf (o:Orc) (sz:Nat) (w:World) (k:Nat):Prop:=k ≠ o.mb∧(k < sz∨kpB w k)
theorem sf_not {w:World} {o:Orc} {s:Option Spr} {d:Int} {ep:UInt32} {sz k:Nat} (hor:OrAt w o s) (h2:∀ p,s=some p→p.d=d∧p.ep=ep∧sz≤p.g∧sz≤p.cg) (h:sf o sz w k):¬ OrM o s k:=fun hm=>by
  rcases h.2 with h3 | h3
  · rcases hm with e | ⟨p,e,rfl | rfl⟩
    · exact h.1 e
    · have:=(h2 p e).2.2.1; omega
    · have:=(h2 p e).2.2.2; omega
  · exact orM_kp hor hm h3
theorem sf_fr0 {w w':World} {o:Orc} {sz k:Nat} (h:sf o sz w k) (hf:Fr0 w w'):sf o sz w' k:=⟨h.1,h.2.imp id fun ⟨x,hx,h1⟩=>⟨x,(hf.block k (Array.getElem?_eq_some_iff.1 hx).1 id).trans hx,h1⟩⟩
theorem sf_orc {w w':World} {o:Orc} {s:Option Spr} {sz k:Nat} (hor:OrAt w o s) (h:sf o sz w k) (hf:Fr (OrM o s) w w'):sf o sz w' k:=⟨h.1,h.2.imp id fun ⟨x,hx,h1⟩=>⟨x,keepKB hor hf _ _ hx h1,h1⟩⟩
theorem Rd.frE {M:Nat→Prop} {w w':World} {v:Value} {n:Nat} {l:List UInt8} (h:Rd w v n (l.map B)) (hf:Fr M w w') (hm:l ≠ []→∀ k,v.ownBlock=some k→¬ M k):Rd w' v n (l.map B):=by
  by_cases e:l=[]
  · subst e
    obtain ⟨ad,cap,hv,h1,h2,h0,_⟩:=h
    exact ⟨ad,cap,hv,h1,h2,h0,.inl rfl⟩
  · exact h.fr hf (hm e)
theorem may_none (c:Cl):mayP (fun _=>false) [] c=false:=by
  unfold mayP near
  simp
theorem may_one {c:Cl} {x:Cl} (h0:0≤c.mt) (h:x=c∨(x.d=c.d∧x.ep=c.ep∧x.sq=c.sq∧c.mt < x.mt)):mayP (fun _=>false) [c] x=true:=by
  unfold mayP near
  rcases h with rfl | ⟨h1,h2,h3,h4⟩
  · simp
  · have e:nearS x.d x.ep x.sq (-1) c=c.mt:=by
      rw [nearS,if_pos ⟨h1.symm,h2.symm,h3.symm,.inl (by decide)⟩]
    simp only [List.foldl_cons,List.foldl_nil,e]
    rw [decide_eq_true h0,decide_eq_true h4]
    simp
section
variable {N:Nat} {F:List (Nat × Value)} {w0 w:World} {a:Act}
theorem own2W {g h:Nat} {xs ys:List Value} {T U:TypeId} (hk:Know N F a) (hf:Fr0 w0 w) (hg:w.heap[g]?=some (.cells xs.toArray T (0,0))) (hh:w.heap[h]?=some (.cells ys.toArray U (0,0))) (hne:g ≠ h) (h1:w0.heap.size≤g) (h2:w0.heap.size≤h):St N F [.seg g xs T,.seg h ys U] (fun _=>False) w0 a w:=by
  have hH:=has2 hne hg hh
  refine ⟨hk,hH,fun e he k hk=>.inl ?_,hf⟩
  simp only [List.mem_cons,List.not_mem_nil,or_false] at he
  rcases he with rfl | rfl
  · have hk:k=g:=hk
    rw [hk]; exact h1
  · have hk:k=h:=hk
    rw [hk]; exact h2
theorem ownE {e:Ent} (hk:Know N F a) (he:e.holds w) (hl:∀ k,e.keys k→k < w.heap.size):St N F [e] e.keys w a w :=
  ⟨hk,⟨fun x hx=>by rw [List.mem_singleton.1 hx]; exact he,List.pairwise_singleton _ _,fun x hx=>by rw [List.mem_singleton.1 hx]; exact hl,fun _ _ _ _=>Nat.zero_le _⟩,fun x hx k hk=>.inr (List.mem_singleton.1 hx ▸ hk),Fr.refl _ _⟩
theorem Has.frM {B:Nat} {L:List Ent} {M:Nat→Prop} {w w':World} (h:Has B w L) (hf:Fr M w w') (hM:∀ e∈L,∀ k,e.keys k→¬ M k):Has B w' L:=h.same hf.size fun e he k hk=>hf.block k (h.lt e he k hk) (hM e he k hk)
end
end Go.Proofs.YtklajbdbnnceiaaGreat
end

section
/- What is shown is passed on: the plain part. -/
namespace Go.Proofs.YtklajbdbnnceiaaGreat
open Go Go.Fw
open Sha
def MB (o:Orc) (gl mb:Nat) (wb:World):Nat→Prop:=fun k=>k=o.mb∨k=gl∨k=mb∨wb.heap.size≤k
structure TS (wb:World) (o:Orc) (p:Spr) (sz gl mb g17 g18:Nat):Prop where
  omb:o.mb < wb.heap.size
  hgl:gl < wb.heap.size
  hmb:mb < wb.heap.size
  ne1:mb ≠ o.mb
  ne2:gl ≠ o.mb
  pg0:wb.heap.size≤p.g
  pc0:wb.heap.size≤p.cg
  pg:p.g < g17
  pc:p.cg < g17
  g1:g17 < g18
  g2:g18 < sz
structure TL (wb:World) (o:Orc) (p:Spr) (sz gl mb nb g17 g18:Nat) (gv:Value) (l:List Cl) (sq:UInt32) (k:Nat) (sn:Int) (wv pv:Value) (w:World):Prop where
  fb:Fr (MB o gl mb wb) wb w
  or:OrY w o p.d p.ep sz
  sp:SpMB w p (sz≤·)
  ldr:LedR w gl mb nb gv l (fun _=>false)
  row:∀ k,gv.ownBlock=some k→sf o sz w k∧k ≠ g17∧k ≠ g18
  hw:Rd w wv (shN (k:Int) p.W sn) ((hWs p k sn sq).map B)
  hp:Rd w pv p.H ((hPs p sq).map B)
  ow:hWs p k sn sq ≠ []→∀ k,wv.ownBlock=some k→sf o sz w k∧k ≠ g17∧k ≠ g18∧wb.heap.size≤k
  op:hPs p sq ≠ []→∀ k,pv.ownBlock=some k→sf o sz w k∧k ≠ g17∧k ≠ g18∧wb.heap.size≤k
  hsz:sz≤w.heap.size
section
variable {wb:World} {o:Orc} {p:Spr} {sz gl mb nb g17 g18:Nat} {gv:Value} {l:List Cl} {sq:UInt32} {k:Nat} {sn:Int} {wv pv:Value} {w w':World}
theorem TL.fr0 (t:TL wb o p sz gl mb nb g17 g18 gv l sq k sn wv pv w) (hf:Fr0 w w'):TL wb o p sz gl mb nb g17 g18 gv l sq k sn wv pv w' :=
  ⟨t.fb.trans0 hf,t.or.fr0 hf,t.sp.fr0 hf,t.ldr.fr0 hf,fun k hk=>⟨sf_fr0 (t.row k hk).1 hf,(t.row k hk).2⟩,t.hw.fr0 hf,t.hp.fr0 hf,fun e k hk=>⟨sf_fr0 (t.ow e k hk).1 hf,(t.ow e k hk).2⟩,fun e k hk=>⟨sf_fr0 (t.op e k hk).1 hf,(t.op e k hk).2⟩,Nat.le_trans t.hsz hf.size⟩
theorem TL.judge (ts:TS wb o p sz gl mb g17 g18) (t:TL wb o p sz gl mb nb g17 g18 gv l sq k sn wv pv w) {s:Option Spr} {d:Int} {ep:UInt32} (hor:OrAt w o s) (h2:∀ q,s=some q→q.d=d∧q.ep=ep∧sz≤q.g∧sz≤q.cg) (hf:Fr (OrM o s) w w') (hy:OrY w' o p.d p.ep sz) :
    TL wb o p sz gl mb nb g17 g18 gv l sq k sn wv pv w'∧∀ j x,(j=g17∨j=g18)→w.heap[j]?=some x→w'.heap[j]?=some x:=by
  have n1:=ts.omb; have n2:=ts.pg0; have n3:=ts.pc0; have n4:=ts.pg; have n5:=ts.pc; have n6:=ts.g1; have n7:=ts.g2
  refine ⟨⟨t.fb.trans hf fun i hi hm=>?_,hy,t.sp.frM hf (fun i hm=>?_) (sf_not hor h2 ⟨by omega,.inl (by omega)⟩) (sf_not hor h2 ⟨by omega,.inl (by omega)⟩),t.ldr.orc hor ts.ne1 (fun i hi=>sf_not hor h2 (t.row i hi).1) hf,fun i hi=>⟨sf_orc hor (t.row i hi).1 hf,(t.row i hi).2⟩,Rd.frE t.hw hf fun e i hi=>sf_not hor h2 (t.ow e i hi).1,Rd.frE t.hp hf fun e i hi=>sf_not hor h2 (t.op e i hi).1,fun e i hi=>⟨sf_orc hor (t.ow e i hi).1 hf,(t.ow e i hi).2⟩,fun e i hi=>⟨sf_orc hor (t.op e i hi).1 hf,(t.op e i hi).2⟩,Nat.le_trans t.hsz hf.size⟩,fun j x hj hx=>?_⟩
  · rcases hm with e | ⟨q,e,rfl | rfl⟩
    · exact .inl e
    · have:=(h2 q e).2.2.1; exact .inr (.inr (.inr (by omega)))
    · have:=(h2 q e).2.2.2; exact .inr (.inr (.inr (by omega)))
  · rcases hm with e | ⟨q,e,rfl | rfl⟩
    · exact .inr fun cs T fr hb=>absurd hb (hor.mapBlk _ e _ _ _)
    · exact .inl (h2 q e).2.2.1
    · exact .inl (h2 q e).2.2.2
  · refine (hf.block j (Array.getElem?_eq_some_iff.1 hx).1 (sf_not hor h2 ⟨?_,.inl ?_⟩)).trans hx
    · rcases hj with rfl | rfl <;> omega
    · rcases hj with rfl | rfl <;> omega
theorem sf_frM {M:Nat→Prop} {j:Nat} (h:sf o sz w j) (hf:Fr M w w') (hn:¬ M j):sf o sz w' j:=⟨h.1,h.2.imp id fun ⟨x,hx,h1⟩=>⟨x,(hf.block j (Array.getElem?_eq_some_iff.1 hx).1 hn).trans hx,h1⟩⟩
theorem TL.next (ts:TS wb o p sz gl mb g17 g18) (t:TL wb o p sz gl mb nb g17 g18 gv l sq k sn wv pv w) {M:Nat→Prop} (hf:Fr M w w') (hM:∀ j,M j→j=g18∨j=g17) {c1 c2:Array Value} {f1 f2:Nat × Nat} (hb17:w.heap[g17]?=some (.cells c1 61 f1)) (hb18:w.heap[g18]?=some (.cells c2 56 f2))
    {k2:Nat} {sn2:Int} {wv2 pv2:Value} (hw:Rd w wv2 (shN (k2:Int) p.W sn2) ((hWs p k2 sn2 sq).map B)) (hp:Rd w pv2 p.H ((hPs p sq).map B)) (ow:∀ k,wv2.ownBlock=some k→kpB w k∧sz≤k) (op:∀ k,pv2.ownBlock=some k→kpB w k∧sz≤k) :
    TL wb o p sz gl mb nb g17 g18 gv l sq k2 sn2 wv2 pv2 w':=by
  have n1:=ts.omb; have n2:=ts.pg0; have n3:=ts.pc0; have n4:=ts.pg; have n5:=ts.pc; have n6:=ts.g1; have n7:=ts.g2; have n8:=ts.hgl; have n9:=ts.hmb
  have kd:∀ j,M j→∀ cs T fr,w.heap[j]?=some (Obj.cells cs T fr)→sepK T=true:=fun j hm cs T fr hb=>by
    rcases hM j hm with rfl | rfl
    · rw [hb18] at hb; cases hb; rfl
    · rw [hb17] at hb; cases hb; rfl
  have no:∀ j,j ≠ g17→j ≠ g18→¬ M j:=fun j h1 h2 hm=>(hM j hm).elim h2 h1
  have row2:∀ {v:Value},(∀ k,v.ownBlock=some k→kpB w k∧sz≤k)→∀ k,v.ownBlock=some k→sf o sz w' k∧k ≠ g17∧k ≠ g18∧wb.heap.size≤k:=fun h j hj=>by
    obtain ⟨h1,h2⟩:=h j hj
    exact ⟨sf_frM ⟨by omega,.inr h1⟩ hf (no j (by omega) (by omega)),by omega,by omega,by omega⟩
  exact ⟨t.fb.trans hf fun i hi hm=>.inr (.inr (.inr (by rcases hM i hm with rfl | rfl <;> omega))),t.or.frM hf (no _ (by omega) (by omega)) kd,t.sp.frM hf (fun j hm=>.inr fun cs T fr hb=>(sep_other (kd j hm cs T fr hb)).1) (no _ (by omega) (by omega)) (no _ (by omega) (by omega)),
    t.ldr.frM hf (no _ (by omega) (by omega)) (no _ (by omega) (by omega)) (fun j hj=>no j (t.row j hj).2.1 (t.row j hj).2.2),fun j hj=>⟨sf_frM (t.row j hj).1 hf (no j (t.row j hj).2.1 (t.row j hj).2.2),(t.row j hj).2⟩,
    hw.fr hf (fun j hj=>no j (by have:=(ow j hj).2; omega) (by have:=(ow j hj).2; omega)),hp.fr hf (fun j hj=>no j (by have:=(op j hj).2; omega) (by have:=(op j hj).2; omega)),fun _=>row2 ow,fun _=>row2 op,Nat.le_trans t.hsz hf.size⟩
theorem led_keys0 {wh:Int→Bool} {j:Nat} (h:(Ent.grp (led gl mb nb (.slice none 0 0) [] wh)).keys j):j=gl∨j=mb:=by
  obtain ⟨e,he,hk⟩:=h
  simp only [led,List.mem_cons,List.not_mem_nil,or_false] at he
  rcases he with rfl | rfl | rfl
  · exact .inl hk
  · cases hk
  · exact .inr hk
theorem TL.show (ts:TS wb o p sz gl mb g17 g18) (t:TL wb o p sz gl mb nb g17 g18 (.slice none 0 0) [] sq k sn wv pv w) {gv':Value} {l':List Cl} (hf:Fr (Ent.grp (led gl mb nb (.slice none 0 0) [] (fun _=>false))).keys w w') (h0:Has 0 w (led gl mb nb (.slice none 0 0) [] (fun _=>false))) (h1:Has 0 w' (led gl mb nb gv' l' (fun _=>false)))
    (hkey:∀ k,(Ent.grp (led gl mb nb gv' l' (fun _=>false))).keys k→(Ent.grp (led gl mb nb (.slice none 0 0) [] (fun _=>false))).keys k∨w.heap.size≤k):TL wb o p sz gl mb nb g17 g18 gv' l' sq k sn wv pv w':=by
  have n1:=ts.omb; have n2:=ts.pg0; have n3:=ts.pc0; have n4:=ts.pg; have n5:=ts.pc; have n6:=ts.g1; have n7:=ts.g2; have n8:=ts.hgl; have n9:=ts.hmb; have n10:=ts.ne1; have n11:=ts.ne2; have n12:=t.hsz
  have hr:=led_get h0
  have kd:∀ j,(Ent.grp (led gl mb nb (.slice none 0 0) [] (fun _=>false))).keys j→∀ cs T fr,w.heap[j]?=some (Obj.cells cs T fr)→sepK T=true:=fun j hm cs T fr hb=>by
    rcases led_keys0 hm with rfl | rfl
    · rw [hr.hg] at hb; cases hb; rfl
    · exact absurd hb (mapV_no hr.mp _ _ _)
  have no:∀ j,j ≠ gl→j ≠ mb→¬ (Ent.grp (led gl mb nb (.slice none 0 0) [] (fun _=>false))).keys j:=fun j h1 h2 hm=>(led_keys0 hm).elim h1 h2
  have hrow:∀ j,gv'.ownBlock=some j→kpB w' j∧w.heap.size≤j:=fun j hj=>by
    refine ⟨row_kp (T:=61) (sz:=5) (h1.holds _ (List.mem_of_getElem? (i:=1) rfl)) rfl j hj,?_⟩
    have hk1:(Ent.grp (led gl mb nb gv' l' (fun _=>false))).keys j:=⟨.row gv' l'.length (clsC l') 61 5,by simp [led],hj⟩
    refine (hkey j hk1).resolve_left fun hm=>?_
    have hp:=List.pairwise_cons.1 h1.apart
    rcases led_keys0 hm with e | e
    · exact hp.1 _ (List.mem_cons_self ..) j e hj
    · exact (List.pairwise_cons.1 hp.2).1 _ (List.mem_cons_self ..) j hj e
  exact ⟨t.fb.trans hf fun i hi hm=>.inr ((led_keys0 hm).imp id .inl),t.or.frM hf (no _ (by omega) (by omega)) kd,t.sp.frM hf (fun j hm=>.inr fun cs T fr hb=>(sep_other (kd j hm cs T fr hb)).1) (no _ (by omega) (by omega)) (no _ (by omega) (by omega)),led_get h1,
    fun j hj=>by obtain ⟨h3,h4⟩:=hrow j hj; exact ⟨⟨by have:=t.fb.size; omega,.inr h3⟩,by omega,by omega⟩,
    Rd.frE t.hw hf (fun e j hj=>by have:=(t.ow e j hj).2.2.2; exact no j (by omega) (by omega)),Rd.frE t.hp hf (fun e j hj=>by have:=(t.op e j hj).2.2.2; exact no j (by omega) (by omega)),fun e j hj=>by have h5:=t.ow e j hj; exact ⟨sf_frM h5.1 hf (no j (by have:=h5.2.2.2; omega) (by have:=h5.2.2.2; omega)),h5.2⟩,fun e j hj=>by have h5:=t.op e j hj; exact ⟨sf_frM h5.1 hf (no j (by have:=h5.2.2.2; omega) (by have:=h5.2.2.2; omega)),h5.2⟩,Nat.le_trans t.hsz hf.size⟩
theorem TL.old (t:TL wb o p sz gl mb nb g17 g18 gv l sq k sn wv pv w) {b:Nat} {cs:Array Value} {T:TypeId} {fr:Nat × Nat} (hb:wb.heap[b]?=some (.cells cs T fr)) (h1:b ≠ o.mb) (h2:b ≠ gl) (h3:b ≠ mb):w.heap[b]?=some (.cells cs T fr) :=
  (t.fb.block b (heap_lt hb) fun hm=>by
    have:=heap_lt hb
    rcases hm with e | e | e | e
    · exact h1 e
    · exact h2 e
    · exact h3 e
    · omega).trans hb
end
end Go.Proofs.YtklajbdbnnceiaaGreat
end

section
/- What is shown is passed on. -/
namespace Go.Proofs.YtklajbdbnnceiaaGreat
open Go Go.Fw
open Sha
theorem OrAt.spr {w w':World} {o:Orc} {p:Spr} (h:OrAt w o none) (hsp:SpSome w p) (hf:Fr (SpM p) w w'):OrAt w' o none:=h.frX hf (fun k hk=>by
  obtain ⟨cs,T,fr,h1,h2⟩:=spBlk hsp hk
  refine ⟨cs,T,fr,h1,?_⟩
  simp only [Bool.or_eq_true] at h2
  rcases h2 with h2 | h2 <;> (obtain rfl:=Nat.eq_of_beq_eq_true h2; rfl)) (fun _ h=>by cases h)
theorem Rd.lt' {w:World} {v:Value} {n:Nat} {l:List UInt8} (h:Rd w v n (l.map B)) (hl:l ≠ []):∀ k,v.ownBlock=some k→k < w.heap.size:=fun k hk=>by
  obtain ⟨ad,cap,rfl,_,_,_,h3⟩:=h
  rcases h3 with h3 | ⟨b,o,T,fr,all,rfl,hb,_⟩
  · exact absurd (List.map_eq_nil_iff.1 h3) hl
  · simp only [Value.ownBlock,Option.some.injEq] at hk
    subst hk
    exact (Array.getElem?_eq_some_iff.1 hb).1
section
variable {wb:World} {o:Orc} {p:Spr} {sz gl mb nb g17 g18:Nat} {gv:Value} {l:List Cl} {sq:UInt32} {k:Nat} {sn:Int} {wv pv:Value} {w w':World}
theorem TL.fw (t:TL wb o p sz gl mb nb g17 g18 gv l sq k sn wv pv w) {s:Option Spr} {d:Int} {ep:UInt32} (hor:OrAt w o s) (h2:∀ q,s=some q→q.d=d∧q.ep=ep∧sz≤q.g∧sz≤q.cg):(∀ w9,Fr (OrM o s) w w9→Rd w9 wv (shN (k:Int) p.W sn) ((hWs p k sn sq).map B))∧(∀ w9,Fr (OrM o s) w w9→Rd w9 pv p.H ((hPs p sq).map B))∧∀ w9,Fr (OrM o s) w w9→mb ≠ o.mb→LedR w9 gl mb nb gv l (fun _=>false) :=
  ⟨fun _ hf=>Rd.frE t.hw hf fun e i hi=>sf_not hor h2 (t.ow e i hi).1,fun _ hf=>Rd.frE t.hp hf fun e i hi=>sf_not hor h2 (t.op e i hi).1,fun _ hf hne=>t.ldr.orc hor hne (fun i hi=>sf_not hor h2 (t.row i hi).1) hf⟩
end
theorem own_yes {o:Orc} {W:Int} {Sn Hn m:Nat} {sd:List UInt8} {d:Int} {ep sq:UInt32} {sn:Int} {pg pcg:Nat} (hp:o.pr d ep=pr W Sn Hn sd d ep) (h1:o.W=W) (h2:o.S=Sn) (h3:o.H=Hn) (hcr:clRight W Sn Hn d m sn ep sq=true) :
    ownV o d (m:Int) sn ep sq (hLf ⟨pg,pcg,W,Sn,Hn,sd,d,ep⟩ m sn sq) (hWs ⟨pg,pcg,W,Sn,Hn,sd,d,ep⟩ m sn sq) (hPs ⟨pg,pcg,W,Sn,Hn,sd,d,ep⟩ sq)=true:=by
  unfold ownV
  rw [hp,h1,h2,h3,hcr,Bool.true_and,clV]
  simp only [Int.toNat_natCast,Bool.and_eq_true]
  exact ⟨⟨decide_eq_true rfl,decide_eq_true rfl⟩,decide_eq_true rfl⟩
theorem own_no {o:Orc} {W:Int} {Sn Hn m:Nat} {sd:List UInt8} {d:Int} {ep sq:UInt32} {sn:Int} {pg pcg:Nat} {lf ws ps:List UInt8} (hp:o.pr d ep=pr W Sn Hn sd d ep) (h:¬ (lf=hLf ⟨pg,pcg,W,Sn,Hn,sd,d,ep⟩ m sn sq∧ws=hWs ⟨pg,pcg,W,Sn,Hn,sd,d,ep⟩ m sn sq∧ps=hPs ⟨pg,pcg,W,Sn,Hn,sd,d,ep⟩ sq)) :
    ownV o d (m:Int) sn ep sq lf ws ps=false:=by
  rw [← Bool.not_eq_true]
  intro h9
  unfold ownV at h9
  rw [hp,clV] at h9
  simp only [Int.toNat_natCast,Bool.and_eq_true,decide_eq_true_eq] at h9
  exact h ⟨h9.2.1.1.symm,h9.2.1.2.symm,h9.2.2.symm⟩
theorem law_TruthPasses (W S H d mt sn:Int) (ep sq:UInt32) (sd0 lf ws ps:List UInt8) (nw np:Nat) (wv pv:Value) (ids:List Int) (idv:Value) (hsd:sd0.length=32) (hlf:lf.length=16) (hwl:ws.length=nw * 16) (hpl:ps.length=np * 16) (w:World) (hqi:Rd w idv ids.length (ids.map I)) (hqw:Rd w wv nw (ws.map B)) (hqp:Rd w pv np (ps.map B)):Ctr Tryz.prog 10 [.agg #[I W,I S,I H],.agg (sd0.map B).toArray,.agg #[I d,U ep,U sq,I mt,I sn],idv,credV lf wv pv] w (fun _=>False) (fun v _=>v=.bool true):=by
  have hnil:=hqi.le
  have hnlw:=hqw.le
  have hnlp:=hqp.le
  obtain ⟨iad,icp,rfl,hicp,hicm⟩:=Rd.sl hqi
  obtain ⟨wad,wcap,rfl,hwc,hwm⟩:=Rd.sl hqw
  obtain ⟨pad,pcap,rfl,hpc0,hpm0⟩:=Rd.sl hqp
  refine fn_start (N:=184) Tryz.func10 rfl rfl rfl fun ac hk=>?_
  have hs:=St.start hk w
  refine wp_seq (wp_reg ?_)
  refine s_box hs rfl rfl rfl fun ac ww g5 hs=>?_
  refine s_box hs rfl rfl rfl fun ac ww g6 hs=>?_
  refine s_box hs rfl rfl rfl fun ac ww g7 hs=>?_
  refine s_box hs rfl rfl rfl fun ac ww g9 hs=>?_
  refine zA hs fun ac hs=>?_
  refine s_end ?_
  replace hs:=hs.sub (F':=[(3,_),(5,_),(6,_),(7,_),(9,_),(10,_)]) ⟨rfl,rfl,rfl,rfl,rfl,rfl,trivial⟩
  refine then_n (wp_seq (wp_seq (wp_reg ?_)))
  refine s_q hs (c_loadW ty23 ag23 (hs.ev rfl) (hs.seg (i:=3) rfl) (by rfl)) rfl fun ac hs=>?_
  refine s_call hs fu11 (.cons (hs.ev rfl) .nil) (law08_Light W S H _) rfl fun ac ww v30 hf hp hs=>?_
  obtain rfl:=hp
  replace hs:=hs [] (.nil _ _)
  refine s_q hs (c_not (hs.ev rfl)) rfl fun ac hs=>?_
  refine zM hs fun ac hs=>?_
  refine s_g hs rfl rfl (fun hg=>c_loadW ty23 ag23 (hs.ev rfl) (hs.seg (i:=3) rfl) (by rfl)) rfl fun ac hs=>?_
  refine s_g hs rfl rfl (fun hg=>c_loadW ty54 ag54 (hs.ev rfl) (hs.seg (i:=1) rfl) (by rfl)) rfl fun ac hs=>?_
  refine s_gcall hs rfl rfl fu28 (fun hg=>(.cons (gev (hs.ev rfl) hg) (.cons (gev (hs.ev rfl) hg) .nil))) (fun hg=>ref09_Right W S H d mt sn ep sq _) rfl fun ac ww hf hs=>?_
  refine s_g hs rfl rfl (fun hg=>c_not (gev (hs.ev rfl) hg)) rfl fun ac hs=>?_
  refine s_q hs (c_or (hs.ev rfl) (hs.ev rfl)) rfl fun ac hs=>?_
  refine zM hs fun ac hs=>?_
  refine s_g hs rfl rfl (fun hg=>c_loadW ty66 ag66 (hs.ev rfl) (hs.seg (i:=0) rfl) (by simp [hlf])) rfl fun ac hs=>?_
  refine s_gcall hs rfl rfl fu32 (fun hg=>(.cons (gev (hs.ev rfl) hg) .nil)) (fun hg=>law09_Light lf ws ps nw np _ _ hlf _ (hqw.fr0 hs.fr) (hqp.fr0 hs.fr)) rfl fun ac ww hf hs=>?_
  refine s_g hs rfl rfl (fun hg=>c_not (gev (hs.ev rfl) hg)) rfl fun ac hs=>?_
  refine s_q hs (c_or (hs.ev rfl) (hs.ev rfl)) rfl fun ac hs=>?_
  refine s_end ?_
  replace hs:=hs.sub (F':=[(3,_),(5,_),(6,_),(7,_),(9,_),(10,_),(42,_)]) ⟨rfl,rfl,rfl,rfl,rfl,rfl,rfl,trivial⟩
  refine then_n ?_
  refine s_cond hs rfl (fun hc=>?_) (fun hc=>?_)
  · skip
    refine wp_seq (wp_reg ?_)
    refine s_call hs fu48 .nil (tr_awake _) rfl fun ac ww v43 hf hp hs=>?_
    obtain rfl:=hp
    replace hs:=hs [] (.nil _ _)
    refine zA hs fun ac hs=>?_
    refine s_end ?_
    replace hs:=hs.sub (F':=[(3,_),(5,_),(6,_),(7,_),(9,_),(10,_)]) ⟨rfl,rfl,rfl,rfl,rfl,rfl,trivial⟩
    refine then_n (wp_ret (then_r ?_))
    refine s_ret hs rfl (.tmp (hs.tmp rfl) .nil) rfl ⟨_,rfl,hs.fr,?_⟩
    rfl
  · skip
    have hc2:spLight W S H=true∧clRight W S H d mt sn ep sq=true∧nw≤20∧np≤20:=by
      simp at hc
      exact ⟨hc.1.1,hc.1.2,hc.2⟩
    obtain ⟨hlight,hcr,hnw20,hnp20⟩:=hc2
    obtain ⟨hR,hd0,hdW,hsn0,hsnW,hep,hsq,hmt0,hmtS⟩:=clRight_iff.1 hcr
    have hright:spRight W S H=true:=hR
    obtain ⟨hlv,hS1,hS16,hH0,hH6⟩:=spRight_iff.1 hright
    obtain ⟨n,rfl⟩:=int_of (show 0≤W by have:=levels_cases W; omega)
    obtain ⟨Sn,rfl⟩:=int_of (show 0≤S by omega)
    obtain ⟨Hn,rfl⟩:=int_of hH0
    obtain ⟨m,rfl⟩:=int_of hmt0
    have hn8:n≤8:=by have:=levels_cases (n:Int); omega
    have hn0:0 < n:=by have:=levels_cases (n:Int); omega
    have hdn:d.toNat < n:=by omega
    have hfit:spFits (n:Int) Sn Hn d ep=true:=spFits_iff.2 ⟨hR,hd0,hdW,hep⟩
    have hyN:(spRight (n:Int) Sn Hn && decide ((n:Int)=(n:Int)))=true:=by rw [hright]; simp
    have hsl:(sdAt (sdR sd0 n) d).length=32:=by
      have h2:=Nat.mul_le_mul_right 32 (show d.toNat + 1≤n from hdn)
      have h3:=sdR_length hsd n
      rw [Nat.succ_mul] at h2
      rw [sdAt,List.length_take,List.length_drop]
      omega
    have hdZ:d=((d.toNat:Nat):Int):=by omega
    have hcl0:shOk (⟨d,ep,sq,(m:Int),sn⟩:Cl)=true:=by simp [shOk]; omega
    refine wp_skip (then_n (wp_seq (wp_reg ?_)))
    refine s_q hs (c_loadW ty23 ag23 (hs.ev rfl) (hs.seg (i:=3) rfl) (by rfl)) rfl fun ac hs=>?_
    refine s_q hs (c_loadW ty24 rfl (hs.ev rfl) (hs.seg (i:=2) rfl) (by rw [List.length_map,hsd])) rfl fun ac hs=>?_
    refine s_call hs fu49 (.cons (hs.ev rfl) (.cons (hs.ev rfl) .nil)) (tr_made n Sn Hn sd0 hsd (by omega) _) rfl fun ac ww v46 hf hp hs=>?_
    obtain ⟨L9,rfl,hh⟩:=hp
    replace hs:=hs _ hh
    refine zA hs fun ac hs=>?_
    refine s_end ?_
    replace hs:=hs.sub (F':=[(3,_),(5,_),(7,_),(9,_),(10,_),(11,_)]) ⟨rfl,rfl,rfl,rfl,rfl,rfl,trivial⟩
    refine then_n (wp_seq (wp_reg ?_))
    refine s_q hs (c_loadW ty23 ag23 (hs.ev rfl) (hs.seg (i:=4) rfl) (by rfl)) rfl fun ac hs=>?_
    refine s_call hs fu15 (.cons (hs.ev rfl) .nil) (law08_To n Sn Hn _) rfl fun ac ww v49 hf hp hs=>?_
    obtain rfl:=hp
    replace hs:=hs [] (.nil _ _)
    refine zM hs fun ac hs=>?_
    refine s_call hs fu51 (.cons (hs.ev rfl) .nil) (tr_digests n (sdR sd0 n) _ (sdR_length hsd n) (by omega) _ (Rd.of_row (hs.get (i:=0) rfl))) rfl fun ac ww v51 hf hp hs=>?_
    obtain ⟨L9,rfl,hh⟩:=hp
    replace hs:=hs _ hh
    have hszN:=hs.fr.size
    refine s_call hs fu50 (.cons (hs.ev rfl) (.cons (hs.ev rfl) .nil)) (tr_New n Sn Hn n (sdR sd0 n) _ (sdR_length hsd n) (by omega) _ (Rd.of_row (hs.get (i:=0) rfl))) rfl fun ac ww v52 hf hp hs=>?_
    obtain ⟨o,hoW,hoS,hoH,hosd,hon,hor,hmb1,rfl⟩:=(hp.elim (fun h=>absurd (hyN.symm.trans h.1) (by decide)) fun h=>h.2)
    have hmb:w.heap.size≤o.mb:=Nat.le_trans hszN hmb1
    replace hs:=hs [] (.nil _ _)
    refine zM hs fun ac hs=>?_
    refine s_q hs (c_extract (hs.ev rfl) rfl) rfl fun ac hs=>?_
    refine s_q hs (c_extract (hs.ev rfl) rfl) rfl fun ac hs=>?_
    refine zA hs fun ac hs=>?_
    refine zA hs fun ac hs=>?_
    refine s_end ?_
    have hb5:=hs.seg (i:=5) rfl
    have hb7:=hs.seg (i:=3) rfl
    have hb9:=hs.seg (i:=2) rfl
    have hR13:RdT ww _ n 32 ((sdR sd0 n).map B) 24:=RdT.row (hs.get (i:=1) rfl) hn0
    obtain ⟨rb,rcap,hv31⟩:=hR13.is
    subst hv31
    have hfr0:=hs.fr
    have hpr:o.pr d ep=(pr n Sn Hn (sdAt (sdR sd0 n) d) d ep):=by
      show pr o.W o.S.toNat o.H.toNat (sdAt o.sd d) d ep=_
      rw [hoW,hoS,hoH,hosd]
      rfl
    have hmblt:o.mb < ww.heap.size:=by
      obtain ⟨es,cl,h8⟩:=hor.mp.blk
      exact heap_lt h8
    replace hs:=St.start hs.know ww
    replace hs:=hs.sub (F':=[(3,_),(5,_),(7,_),(9,_),(10,_),(11,_),(12,_)]) ⟨rfl,rfl,rfl,rfl,rfl,rfl,rfl,trivial⟩
    refine then_n (wp_seq (wp_reg ?_))
    have hszO:=hs.fr.size
    refine s_call hs fu52 .nil (tr_Open _) rfl fun ac ww v55 hf hp hs=>?_
    obtain ⟨gl,mb,rfl,hh⟩:=hp
    have hmne:mb ≠ o.mb:=by
      have h8:=hh.ge _ (List.mem_of_getElem? (i:=2) rfl) mb rfl
      omega
    have hglw:w.heap.size≤gl∧w.heap.size≤mb:=by
      have h8:=hh.ge _ (List.mem_of_getElem? (i:=2) rfl) mb rfl
      have h9:=hh.ge _ (List.mem_of_getElem? (i:=0) rfl) gl rfl
      have h7:=hfr0.size
      omega
    replace hs:=hs _ (Has.grp' hh)
    refine zA hs fun ac hs=>?_
    refine s_end ?_
    have hhl:Has 0 ww (led gl mb 0 (.slice none 0 0) [] (fun _=>false)):=hs.get (i:=0) rfl
    have hfr5:=hs.fr
    replace hb5:=hs.old hb5 id
    replace hb7:=hs.old hb7 id
    replace hb9:=hs.old hb9 id
    replace hR13:=hR13.fr0 hfr5
    replace hor:=hor.fr0 hfr5
    replace hfr0:=hfr0.trans0 hfr5
    obtain ⟨rcur,hrb,hpc⟩:=hR13.piece hdn
    have hombL:o.mb < ww.heap.size:=Nat.lt_of_lt_of_le hmblt hfr5.size
    have hglL:gl < ww.heap.size:=heap_lt (led_get hhl).hg
    have hmbL:mb < ww.heap.size:=by
      obtain ⟨es,cl,h8⟩:=(led_get hhl).mp.blk
      exact heap_lt h8
    have hgne:gl ≠ o.mb:=fun e=>hor.mapBlk _ e _ _ _ (led_get hhl).hg
    have nk:∀ {b:Nat} {cs:Array Value} {T:TypeId} {fr:Nat × Nat},ww.heap[b]?=some (.cells cs T fr)→Nat.beq T 195=false→b ≠ o.mb∧b ≠ gl∧b ≠ mb:=fun hb hT=>⟨fun e=>hor.mapBlk _ e _ _ _ hb,ne_kind hb (led_get hhl).hg hT,fun e=>mapV_no (led_get hhl).mp _ _ _ (e ▸ hb)⟩
    have n5:=nk hb5 rfl
    have n7:=nk hb7 rfl
    have n9:=nk hb9 rfl
    have nr:=nk hrb rfl
    obtain ⟨wb,hwb⟩:∃ z,z=ww:=⟨_,rfl⟩
    have hbb5:=hb5
    have hbb7:=hb7
    have hbb9:=hb9
    have hbbr:=hrb
    have hfrw:=hfr0
    rw [← hwb] at hbb5 hbb7 hbb9 hbbr hfrw hombL hglL hmbL
    replace hs:=St.start hs.know ww
    replace hs:=hs.sub (F':=[(3,_),(5,_),(7,_),(9,_),(10,_),(11,_),(12,_),(14,_)]) ⟨rfl,rfl,rfl,rfl,rfl,rfl,rfl,rfl,trivial⟩
    refine then_n (wp_seq ?_)
    refine wp_region_rgL pmix 17 (by kernel_rfl) rfl hs ?_
    simp only [List.take_succ_cons,List.take_zero]
    refine rg_q (fun ac ww h=>c_loadW ty23 ag23 (h.ev rfl) (h.blk (hs.old hb5 id)) (by rfl)) rfl ?_
    refine rg_call fu15 (fun ac ww h=>(.cons (h.ev rfl) .nil)) (fun ww hf=>law08_To n Sn Hn ww) rfl ?_
    refine rg_q (fun ac ww h=>c_move (h.ev rfl)) rfl ?_
    refine rg_q (fun ac ww h=>c_fld fl54_0 (h.ev rfl)) rfl ?_
    refine rg_q (fun ac ww h=>c_loadS un3 rfl (h.ev rfl) (h.blk (hs.old hb7 id)) rfl) rfl ?_
    refine rg_q (fun ac ww h=>c_idxS (j:=d.toNat) un100 ty24 (h.ev rfl) (h.ev rfl) (by omega) hdn) rfl ?_
    refine rg_q (fun ac ww h=>c_loadA ty24 rfl (h.ev rfl) (h.blk (hs.old hrb id)) hpc (show (List.map B (sdAt (sdR sd0 n) d)).length=32 by rw [List.length_map,hsl])) rfl ?_
    refine rg_q (fun ac ww h=>c_fld fl54_0 (h.ev rfl)) rfl ?_
    refine rg_q (fun ac ww h=>c_loadS un3 rfl (h.ev rfl) (h.blk (hs.old hb7 id)) rfl) rfl ?_
    refine rg_q (fun ac ww h=>c_fld fl54_1 (h.ev rfl)) rfl ?_
    refine rg_q (fun ac ww h=>c_fld fl52_0 (h.ev rfl)) rfl ?_
    refine rg_q (fun ac ww h=>c_loadS un25 rfl (h.ev rfl) (h.blk (hs.old hb7 id)) rfl) rfl ?_
    refine rg_callE (tupG [] [I 0] (sprE wb.heap.size (n:Int) Sn Hn (sdAt (sdR sd0 n) d) d ep)) sprE.st fu14 (fun ac ww h=>?_) rfl ?_
    · exact ⟨_,.cons (h.ev rfl) (.cons (h.ev rfl) (.cons (h.ev rfl) (.cons (h.ev rfl) (.nil)))),spring_NewE hsl hfit ww wb.heap.size (by have h9:=h.fr.size; rw [← hwb] at h9; exact h9)⟩
    refine rg_moveG rfl rfl rfl ?_
    refine rg_extGe rfl rfl rfl rfl ?_
    refine rg_extGc rfl rfl rfl (fun _=>rfl) ?_
    refine rg_assignE (fun _=>True) rfl rfl (fun _ _ _ _=>trivial) rfl ?_
    refine rg_nil fun ac ww L' hf hfe hs hlk=>?_
    simp only [List.drop_succ_cons,List.drop_zero]
    obtain ⟨v15,L15,M15,h15,e15,⟨v70,L70,M70,h70,e70,⟨v56,L56,M56,h56,e56,⟨v69,L69,M69,h69,e69,rfl,rfl⟩,rfl⟩,rfl⟩,rfl⟩:=hfe
    replace hs:=hs.add h15
    replace hs:=hs.add h70
    replace hs:=hs.add h56
    replace hs:=hs.add h69
    obtain ⟨tv69,rfl,e69⟩:=e69
    obtain ⟨-,rfl⟩:=e56
    obtain rfl:=lk_move (j:=13) hlk (by decide) rfl (by kernel_rfl) h56 h69
    obtain ⟨-,rfl⟩:=e70
    obtain rfl:=lk_ext (j:=14) hlk (by decide) rfl (by kernel_rfl) h70 h56 rfl
    obtain ⟨-,rfl⟩:=e15
    obtain rfl:=lk_assign (j:=16) hlk (by decide) rfl (by kernel_rfl) h15 h70
    obtain ⟨rfl,p,hsi,hsp,hg1,hc1,rfl⟩:=e69
    have ho:=hsi.ok
    obtain ⟨pg,pcg,pW,pS,pH,pse,pd,pep⟩:=p
    obtain ⟨_,hpW,hpS,hpH,hse,hde,hee⟩:=hsi
    replace hpW:(n:Int)=pW:=hpW.symm
    replace hpS:Sn=pS:=by have h9:(pS:Int)=Sn:=hpS; omega
    replace hpH:Hn=pH:=by have h9:(pH:Int)=Hn:=hpH; omega
    replace hse:sdAt (sdR sd0 n) d=pse:=hse.symm
    replace hde:d=pd:=hde.symm
    replace hee:ep=pep:=hee.symm
    subst hpW hpS hpH hse hde hee
    replace hg1:wb.heap.size≤pg:=hg1
    replace hc1:wb.heap.size≤pcg:=hc1
    refine zA hs fun ac hs=>?_
    refine s_end ?_
    have hfr6:=hs.fr
    replace hb7:=hs.old hb7 id
    replace hor:=hor.fr0 hfr6
    replace hhl:=Has.fr0 hhl hfr6
    have hfrb:Fr0 wb ww:=by rw [hwb]; exact hfr6
    have hpgL:pg < ww.heap.size:=heap_lt hsp.hg
    have hpcL:pcg < ww.heap.size:=heap_lt hsp.hc
    replace hs:=St.start hs.know ww
    replace hs:=hs.sub (F':=[(3,_),(5,_),(7,_),(9,_),(10,_),(11,_),(12,_),(14,_),(15,_)]) ⟨rfl,rfl,rfl,rfl,rfl,rfl,rfl,rfl,rfl,trivial⟩
    refine then_n (wp_seq (wp_reg ?_))
    refine s_q hs (c_loadW ty54 ag54 (hs.ev rfl) (hs.old hb7 id) (by rfl)) rfl fun ac hs=>?_
    refine s_call hs fu27 (.cons (hs.ev rfl) .nil) (law09_To d (m:Int) sn ep sq _) rfl fun ac ww v73 hf hp hs=>?_
    obtain rfl:=hp
    replace hs:=hs [] (.nil _ _)
    refine s_alloc hs ty61 rfl fun ac ww g17 hs=>?_
    refine s_storeW (i:=0) hs ty61 rfl rfl rfl (by rfl) (by rfl) rfl fun ww hs=>?_
    refine s_end ?_
    replace hs:=hs.sub (F':=[(3,_),(5,_),(7,_),(9,_),(10,_),(11,_),(12,_),(14,_),(15,_),(17,_)]) ⟨rfl,rfl,rfl,rfl,rfl,rfl,rfl,rfl,rfl,rfl,trivial⟩
    refine then_n (wp_seq (wp_reg ?_))
    refine zM hs fun ac hs=>?_
    refine s_q hs (c_loadW ty61 ag61 (hs.ev rfl) (hs.seg (i:=0) rfl) (by rfl)) rfl fun ac hs=>?_
    have hfr7:=hs.fr
    have hb17p:=hs.seg (i:=0) rfl
    have hg17p:=(hs.own _ (List.mem_of_getElem? (i:=0) rfl) g17 rfl).resolve_right id
    have hspP:=hsp.fr0 hfr7
    have horP:=hor.fr0 hfr7
    have hhlP:=Has.fr0 hhl hfr7
    have hfrbP:=hfrb.trans0 hfr7
    refine s_callR hs fu26 (.cons (hs.ev rfl) (.cons (hs.ev rfl) .nil)) (proof_Issue (⟨pg,pcg,(n:Int),Sn,Hn,sdAt (sdR sd0 n) d,d,ep⟩:Spr) ho _ none d (m:Int) sn ep sq _ hspP) rfl fun ac ww v77 hf hp hs=>?_
    simp only [Int.toNat_natCast] at hp
    obtain ⟨hsm,wv1,pv1,rfl,hwv,hpv,how,hop⟩:=(hp.elim (fun h=>absurd (hcr.symm.trans h.1) (by decide)) fun h=>h.2)
    have hb17:=keepS hspP hf hb17p
    have hfrI:Fr (MB o gl mb wb) wb _:=(Fr.mono hfrbP (fun _ _=>False.elim):Fr (MB o gl mb wb) wb _).trans hf fun i hi hm=>.inr (.inr (.inr (hm.elim (fun e=>e ▸ hg1) fun e=>e ▸ hc1)))
    have horI:=horP.spr ⟨_,_,hspP⟩ hf
    have hhlI:=Has.frM hhlP hf fun e he i hi hm=>by
      have h8:=led_keys0 ⟨e,he,hi⟩
      have h9:i=pg∨i=pcg:=hm
      omega
    have hszf:=hf.size
    have hszb:=hfrbP.size
    have hlt17:=heap_lt hb17p
    have hwo:=hwv.one
    have hpo:=hpv.one
    refine zM hs fun ac hs=>?_
    refine s_q hs (c_extract (hs.ev rfl) rfl) rfl fun ac hs=>?_
    refine s_q hs (c_extract (hs.ev rfl) rfl) rfl fun ac hs=>?_
    refine s_alloc hs ty56 rfl fun ac ww g18 hs=>?_
    refine s_storeW (i:=0) hs ty56 rfl rfl rfl (by simp [shL_length]) (by simp [hwo,hpo]; exact fun x _=>rfl) rfl fun ww hs=>?_
    refine zA hs fun ac hs=>?_
    refine s_end ?_
    have hfs:=hs.fr
    have hb18:=hs.seg (i:=0) rfl
    have h18s:=(hs.own _ (List.mem_of_getElem? (i:=0) rfl) g18 rfl).resolve_right id
    replace hb17:=hs.old hb17 id
    obtain ⟨sz,hsz⟩:∃ z,z=ww.heap.size:=⟨_,rfl⟩
    have hlt18:=heap_lt hb18
    have hy0:OrY ww o d ep sz:=⟨none,horI.fr0 hfs,fun _ h=>by cases h⟩
    have ts:TS wb o (⟨pg,pcg,(n:Int),Sn,Hn,sdAt (sdR sd0 n) d,d,ep⟩:Spr) sz gl mb g17 g18:=⟨hombL,hglL,hmbL,hmne,hgne,hg1,hc1,(show pg < g17 by omega),(show pcg < g17 by omega),by omega,by omega⟩
    have t0:TL wb o (⟨pg,pcg,(n:Int),Sn,Hn,sdAt (sdR sd0 n) d,d,ep⟩:Spr) sz gl mb 0 g17 g18 (.slice none 0 0) [] sq m sn wv1 pv1 ww:=⟨hfrI.trans0 hfs,hy0,hsz ▸ (SpMade.fr0 hsm hfs).b,led_get (Has.fr0 hhlI hfs),(fun _ h=>by cases h),hwv.fr0 hfs,hpv.fr0 hfs,(fun e k hk=>by
      have h1:=(how k hk).1
      have h2:=Rd.lt' hwv e k hk
      exact ⟨⟨by omega,.inl (by omega)⟩,by omega,by omega,by omega⟩),(fun e k hk=>by
      have h1:=(hop k hk).1
      have h2:=Rd.lt' hpv e k hk
      exact ⟨⟨by omega,.inl (by omega)⟩,by omega,by omega,by omega⟩),Nat.le_of_eq hsz⟩
    have hhl8:=Has.fr0 hhlI hfs
    have FRW:∀ {w9:World},Fr (MB o gl mb wb) wb w9→Fr0 w w9:=fun hf9=>hfrw.over hf9 fun i hm=>by
      have h8:=hfrw.size
      rcases hm with e | e | e | e <;> omega
    have hpl1:(hPs (⟨pg,pcg,(n:Int),Sn,Hn,sdAt (sdR sd0 n) d,d,ep⟩:Spr) sq).length=Hn * 16:=hPs_length (p:=(⟨pg,pcg,(n:Int),Sn,Hn,sdAt (sdR sd0 n) d,d,ep⟩:Spr)) (m:=m) (sn:=sn) hcr
    have hdb:-9223372036854775808≤d∧d≤9223372036854775807:=⟨by omega,by omega⟩
    have hb17w:w.heap.size≤g17:=by have h8:=hfrw.size; omega
    have hb18w:w.heap.size≤g18:=by have h8:=hfrw.size; omega
    replace hs:=St.start hs.know ww
    replace hs:=hs.sub (F':=[(3,_),(5,_),(7,_),(9,_),(10,_),(11,_),(12,_),(14,_),(15,_),(17,_),(18,_),(19,_)]) ⟨rfl,rfl,rfl,rfl,rfl,rfl,rfl,rfl,rfl,rfl,rfl,rfl,trivial⟩
    refine then_n (wp_seq (wp_seq (wp_reg ?_)))
    refine s_call hs fu48 .nil (tr_awake _) rfl fun ac ww v80 hf hp hs=>?_
    obtain rfl:=hp
    replace hs:=hs [] (.nil _ _)
    refine s_q hs (c_not (hs.ev rfl)) rfl fun ac hs=>?_
    refine zM hs fun ac hs=>?_
    refine s_yes hs rfl rfl ?_
    refine zM hs fun ac hs=>?_
    refine s_yes hs rfl rfl ?_
    refine s_q hs (c_neqI (hs.ev rfl) (hs.ev rfl)) rfl fun ac hs=>?_
    refine s_q hs (c_pick (hs.ev rfl) (hs.ev rfl) (hs.ev rfl)) rfl fun ac hs=>?_
    refine zM hs fun ac hs=>?_
    refine s_yes hs rfl rfl ?_
    refine zM hs fun ac hs=>?_
    refine s_yes hs rfl rfl ?_
    refine zM hs fun ac hs=>?_
    refine s_yes hs rfl rfl ?_
    refine s_q hs (c_loadW ty61 ag61 (hs.ev rfl) (hs.old hb17 id) (by rfl)) rfl fun ac hs=>?_
    refine s_yes hs rfl rfl ?_
    refine s_q hs (c_loadW ty56 ag56 (hs.ev rfl) (hs.old hb18 id) (by simp [shL_length])) rfl fun ac hs=>?_
    have hfr9:=hs.fr
    have tP:=t0.fr0 hfr9
    have hb17P:=(hfr9.block g17 (heap_lt hb17) id).trans hb17
    have hb18P:=(hfr9.block g18 (heap_lt hb18) id).trans hb18
    obtain ⟨s9,hor9,h29⟩:=tP.or
    obtain ⟨fw1,fw2,fw3⟩:=tP.fw hor9 h29
    have hhlP9:=Has.fr0 hhl8 hfr9
    refine s_yes hs rfl rfl ?_
    refine s_callR hs fu55 (.cons (hs.ev rfl) (.cons (hs.ev rfl) (.cons (hs.ev rfl) (.cons (hs.ev rfl) .nil)))) (tr_JudgeY o s9 d (m:Int) sn ep sq sz (hLf (⟨pg,pcg,(n:Int),Sn,Hn,sdAt (sdR sd0 n) d,d,ep⟩:Spr) m sn sq) (hWs (⟨pg,pcg,(n:Int),Sn,Hn,sdAt (sdR sd0 n) d,d,ep⟩:Spr) m sn sq) (hPs (⟨pg,pcg,(n:Int),Sn,Hn,sdAt (sdR sd0 n) d,d,ep⟩:Spr) sq) (shN (m:Int) n sn) Hn wv1 pv1 gl mb 0 (.slice none 0 0) [] (fun _=>false) h29 (shL_length _ _ _ _ _ _ _) (shW_length _ _ _ _ _ _ _) hpl1 hdb _ tP.hsz hor9 tP.hw tP.hp fw1 fw2 (fun w9 hf9=>fw3 w9 hf9 hmne)) rfl fun ac ww v91 hf hp hs=>?_
    obtain ⟨hv9,hy9⟩:=hp
    rw [own_yes (pg:=pg) (pcg:=pcg) hpr hoW hoS hoH hcr,may_none] at hv9
    replace hv9:v91=I 1:=hv9
    obtain rfl:=hv9
    obtain ⟨tJ,hkeep⟩:=tP.judge ts hor9 h29 hf hy9
    have hb17J:=hkeep g17 _ (.inl rfl) hb17P
    have hb18J:=hkeep g18 _ (.inr rfl) hb18P
    have hhlJ:=Has.frM hhlP9 hf fun e he i hi hm=>by
      have h8:=led_keys0 ⟨e,he,hi⟩
      refine sf_not (k:=i) (sz:=sz) hor9 h29 ⟨?_,.inl ?_⟩ hm
      · rcases h8 with e9 | e9 <;> rw [e9] <;> assumption
      · omega
    refine s_yes hs rfl rfl ?_
    refine s_q hs (c_neqI (hs.ev rfl) (hs.ev rfl)) rfl fun ac hs=>?_
    refine s_q hs (c_pick (hs.ev rfl) (hs.ev rfl) (hs.ev rfl)) rfl fun ac hs=>?_
    refine zM hs fun ac hs=>?_
    refine s_yes hs rfl rfl ?_
    refine zM hs fun ac hs=>?_
    refine s_yes hs rfl rfl ?_
    refine s_q hs (c_loadW ty61 ag61 (hs.ev rfl) (hs.old hb17J id) (by rfl)) rfl fun ac hs=>?_
    have hfr10:=hs.fr
    have hhl10:=Has.fr0 hhlJ hfr10
    replace hs:=ownE (e:=Ent.grp (led gl mb 0 (.slice none 0 0) [] (fun _=>false))) hs.know hhl10 (grp_lt hhl10)
    refine s_yes hs rfl rfl ?_
    refine s_callM (i:=0) hs fu53 (.cons (hs.ev rfl) (.cons (hs.ev rfl) .nil)) rfl (tr_Show gl mb 0 (.slice none 0 0) [] (fun _=>false) (⟨d,ep,sq,(m:Int),sn⟩:Cl) (by decide) _ (hs.get (i:=0) rfl)) rfl fun ac ww v97 hf hp hs=>?_
    obtain ⟨rfl,gv,h1,h2⟩:=hp
    rw [show addC [] (⟨d,ep,sq,(m:Int),sn⟩:Cl)=[(⟨d,ep,sq,(m:Int),sn⟩:Cl)] from if_pos hcl0] at h1 h2
    have t2:=(tJ.fr0 hfr10).show ts hf hhl10 h1 h2
    have nl:∀ j,wb.heap.size≤j→¬ (Ent.grp (led gl mb 0 (.slice none 0 0) [] (fun _=>false))).keys j:=fun j hj hm=>by
      have h8:=led_keys0 hm
      omega
    have hb17S:=(hf.block g17 (Nat.lt_of_lt_of_le (heap_lt hb17J) hfr10.size) (nl _ (by omega))).trans ((hfr10.block g17 (heap_lt hb17J) id).trans hb17J)
    have hb18S:=(hf.block g18 (Nat.lt_of_lt_of_le (heap_lt hb18J) hfr10.size) (nl _ (by omega))).trans ((hfr10.block g18 (heap_lt hb18J) id).trans hb18J)
    replace hs:=hs (Ent.grp (led gl mb 0 gv [(⟨d,ep,sq,(m:Int),sn⟩:Cl)] (fun _=>false))) h1 (fun k hk=>⟨h2 k hk,grp_lt h1 k hk⟩)
    refine s_yes hs rfl rfl ?_
    refine s_q hs (c_ff (c_neqI (hs.ev rfl) (hs.ev rfl)) ((by rw [hcl0]; decide))) rfl fun ac hs=>?_
    refine s_q hs (c_pick (hs.ev rfl) (hs.ev rfl) (hs.ev rfl)) rfl fun ac hs=>?_
    refine s_end ?_
    replace hs:=own2W hs.know (FRW t2.fb) hb18S hb17S (by omega) hb18w hb17w
    replace hs:=hs.sub (F':=[(3,_),(5,_),(7,_),(9,_),(10,_),(11,_),(12,_),(14,_),(15,_),(17,_),(18,_),(99,_)]) ⟨rfl,rfl,rfl,rfl,rfl,rfl,rfl,rfl,rfl,rfl,rfl,rfl,trivial⟩
    refine then_n ?_
    refine wp_cond_false (hs.ev rfl) ?_
    refine wp_skip (then_n (wp_seq (wp_seq (wp_reg ?_))))
    refine zM hs fun ac hs=>?_
    refine s_q hs (c_lenS un126 (hs.ev rfl)) rfl fun ac hs=>?_
    refine zM hs fun ac hs=>?_
    refine s_end ?_
    replace hs:=hs.sub (F':=[(5,_),(7,_),(9,_),(10,_),(11,_),(12,_),(14,_),(15,_),(17,_),(18,_),(100,_),(101,_),(102,_)]) ⟨rfl,rfl,rfl,rfl,rfl,rfl,rfl,rfl,rfl,rfl,rfl,rfl,rfl,trivial⟩
    refine then_n (wp_block ?_)
    refine s_loopW hs (X:=Nat × Int × Value × Value) (fun x=>[(102,I x.1)]) [(5,_),(7,_),(9,_),(11,_),(12,_),(14,_),(15,_),(17,_),(18,_),(100,_),(101,_)] (fun x=>[.seg g18 ((hLf (⟨pg,pcg,(n:Int),Sn,Hn,sdAt (sdR sd0 n) d,d,ep⟩:Spr) (m + x.1) x.2.1 sq).map Go.Fw.B++[x.2.2.1,x.2.2.2]) 56,.seg g17 [I d,U ep,U sq,I ((m + x.1:Nat):Int),I x.2.1] 61]) (fun j x wc=>j=ids.length - x.1∧x.1≤ids.length∧m + x.1 < Sn∧(0≤x.2.1∧x.2.1 < (n:Int))∧(x.1=0→x.2.1=sn)∧TL wb o (⟨pg,pcg,(n:Int),Sn,Hn,sdAt (sdR sd0 n) d,d,ep⟩:Spr) sz gl mb 0 g17 g18 gv [(⟨d,ep,sq,(m:Int),sn⟩:Cl)] sq (m + x.1) x.2.1 x.2.2.1 x.2.2.2 wc) (_) ((0,sn,wv1,pv1)) (⟨rfl,Nat.zero_le _,(show m + 0 < Sn by omega),⟨hsn0,hsnW⟩,fun _=>rfl,t2⟩) ⟨rfl,rfl,rfl,rfl,rfl,rfl,rfl,rfl,rfl,rfl,rfl,rfl,trivial⟩ rfl ?_
    rintro n ⟨i,sn1,wv,pv⟩ ac ww hok hs
    simp only [List.cons_append,List.nil_append] at hs
    obtain ⟨rfl,hiL,hkS,⟨hs0,hsW⟩,hsnn,tc⟩:=hok
    simp only at hiL hkS hs0 hsW hsnn tc hs
    obtain ⟨k,hkm⟩:∃ k,m + i=k:=⟨_,rfl⟩
    rw [hkm] at hkS tc hs
    have hb18c:=hs.seg (i:=0) rfl
    have hb17c:=hs.seg (i:=1) rfl
    have hcrk:clRight (n:Int) Sn Hn d (k:Int) sn1 ep sq=true:=far_right (s2:=sn1) (m2:=(k:Nat)) hcr hs0 hsW (by omega) (by omega)
    have hmay:(⟨d,ep,sq,(k:Int),sn1⟩:Cl)=(⟨d,ep,sq,(m:Int),sn⟩:Cl)∨(d=d∧ep=ep∧sq=sq∧(m:Int) < (k:Int)):=by
      by_cases e:i=0
      · left
        have h8:k=m:=by omega
        rw [h8,hsnn e]
      · exact .inr ⟨rfl,rfl,rfl,by omega⟩
    replace hs:=St.start hs.know ww
    refine wp_seq (wp_reg ?_)
    refine s_q hs (c_lssI (hs.ev rfl) (hs.ev rfl)) rfl fun ac hs=>?_
    refine s_end (then_n (wp_seq ?_))
    refine s_cond hs rfl (fun hc=>?_) (fun hc=>?_)
    · try simp only [z1,z2,z3,z4,z5,z6,z7] at hc
      have hin:i < ids.length:=by omega
      obtain ⟨ib,io,icap,iT,ifr,iall,hie,_,_,hib,hit⟩:=Rd.at_ hqi (by intro e; have:=congrArg List.length e; simp at this; rw [this] at hin; simp at hin)
      injection hie with hie1 _ _
      rw [hie1] at hs
      have hibc:=((FRW tc.fb).block ib (heap_lt hib) id).trans hib
      obtain ⟨hz2,s3,hse3,hsl3⟩:=modq (ids.getD i 0) n hn0 (by omega)
      obtain ⟨s2,hs2e⟩:∃ z:Int,(s3:Int)=z:=⟨_,rfl⟩
      have h20:0≤s2:=by omega
      have h2W:s2 < (n:Int):=by omega
      refine wp_skip (then_n (wp_seq (wp_block (wp_seq (wp_reg ?_)))))
      refine s_q hs (c_idxS (j:=i) un126 ty3 (hs.ev rfl) (hs.ev rfl) (by omega) (by omega)) rfl fun ac hs=>?_
      refine s_q hs (c_loadS un3 rfl (hs.ev rfl) (hs.old hibc id) (seg_get 0 hit hin)) rfl fun ac hs=>?_
      refine zA hs fun ac hs=>?_
      refine s_end ?_
      rw [← hie1] at hs
      refine then_n (wp_seq (wp_seq (wp_reg ?_)))
      refine zM hs fun ac hs=>?_
      refine zM hs fun ac hs=>?_
      refine s_q hs (c_loadW ty61 ag61 (hs.ev rfl) (hs.old hb17c id) (by rfl)) rfl fun ac hs=>?_
      refine s_q hs (c_loadW ty56 ag56 (hs.ev rfl) (hs.old hb18c id) (by simp [shL_length])) rfl fun ac hs=>?_
      have hfr9:=hs.fr
      have tP:=tc.fr0 hfr9
      have hb17P:=(hfr9.block g17 (heap_lt hb17c) id).trans hb17c
      have hb18P:=(hfr9.block g18 (heap_lt hb18c) id).trans hb18c
      obtain ⟨s9,hor9,h29⟩:=tP.or
      obtain ⟨fw1,fw2,fw3⟩:=tP.fw hor9 h29
      refine s_callR hs fu55 (.cons (hs.ev rfl) (.cons (hs.ev rfl) (.cons (hs.ev rfl) (.cons (hs.ev rfl) .nil)))) (tr_JudgeY o s9 d (k:Int) sn1 ep sq sz (hLf (⟨pg,pcg,(n:Int),Sn,Hn,sdAt (sdR sd0 n) d,d,ep⟩:Spr) k sn1 sq) (hWs (⟨pg,pcg,(n:Int),Sn,Hn,sdAt (sdR sd0 n) d,d,ep⟩:Spr) k sn1 sq) (hPs (⟨pg,pcg,(n:Int),Sn,Hn,sdAt (sdR sd0 n) d,d,ep⟩:Spr) sq) (shN (k:Int) n sn1) Hn wv pv gl mb 0 gv [(⟨d,ep,sq,(m:Int),sn⟩:Cl)] (fun _=>false) h29 (shL_length _ _ _ _ _ _ _) (shW_length _ _ _ _ _ _ _) hpl1 hdb _ tP.hsz hor9 tP.hw tP.hp fw1 fw2 (fun w9 hf9=>fw3 w9 hf9 hmne)) rfl fun ac ww v110 hf hp hs=>?_
      obtain ⟨hv9,hy9⟩:=hp
      rw [own_yes (pg:=pg) (pcg:=pcg) hpr hoW hoS hoH hcrk,may_one hmt0 hmay] at hv9
      replace hv9:v110=I 0:=hv9
      obtain rfl:=hv9
      obtain ⟨tJ,hkeep⟩:=tP.judge ts hor9 h29 hf hy9
      have hb17J:=hkeep g17 _ (.inl rfl) hb17P
      have hb18J:=hkeep g18 _ (.inr rfl) hb18P
      have hb5J:=tJ.old hbb5 n5.1 n5.2.1 n5.2.2
      have hwoc:=tJ.hw.one
      have hpoc:=tJ.hp.one
      have hsJ:=own2W hs.know (FRW tJ.fb) hb18J hb17J (by omega) hb18w hb17w
      refine s_q hs (c_neqI (hs.ev rfl) (hs.ev rfl)) rfl fun ac hs=>?_
      refine s_end (then_n ?_)
      refine wp_cond_false (hs.ev rfl) ?_
      refine wp_skip (then_n (wp_seq ?_))
      refine wp_region_rgX (J:=[9]) pmix 11 (by kernel_rfl) (by kernel_rfl) rfl rfl hs ?_
      simp only [List.take_succ_cons,List.take_zero]
      refine rg_q (fun ac ww h=>c_loadW ty23 ag23 (h.ev rfl) (h.blk (hs.old hb5J id)) (by rfl)) rfl ?_
      refine rg_call fu15 (fun ac ww h=>(.cons (h.ev rfl) .nil)) (fun ww hf=>law08_To n Sn Hn ww) rfl ?_
      refine rg_q (fun ac ww h=>c_move (h.ev rfl)) rfl ?_
      refine rg_call fu19 (fun ac ww h=>(.cons (h.ev rfl) .nil)) (fun ww hf=>spring_RootMade (⟨pg,pcg,(n:Int),Sn,Hn,sdAt (sdR sd0 n) d,d,ep⟩:Spr) ho ww (tJ.sp.made.fr0 (hs.fr.trans0 hf))) rfl ?_
      refine rg_q (fun ac ww h=>c_loadW ty61 ag61 (h.ev rfl) (h.blk (hs.old hb17J id)) (by rfl)) rfl ?_
      refine rg_q (fun ac ww h=>c_loadW ty56 ag56 (h.ev rfl) (h.blk (hs.old hb18J id)) (by simp [shL_length])) rfl ?_
      refine rg_call fu40 (fun ac ww h=>(.cons (h.ev rfl) (.cons (h.ev rfl) (.cons (h.ev rfl) (.cons (h.ev rfl) .nil))))) (fun ww hf=>(by have h9:=proof_Check (n:Int) Sn Hn d (k:Nat) sn1 ep sq (hRt (⟨pg,pcg,(n:Int),Sn,Hn,sdAt (sdR sd0 n) d,d,ep⟩:Spr)) (hLf (⟨pg,pcg,(n:Int),Sn,Hn,sdAt (sdR sd0 n) d,d,ep⟩:Spr) k sn1 sq) (hWs (⟨pg,pcg,(n:Int),Sn,Hn,sdAt (sdR sd0 n) d,d,ep⟩:Spr) k sn1 sq) (hPs (⟨pg,pcg,(n:Int),Sn,Hn,sdAt (sdR sd0 n) d,d,ep⟩:Spr) sq) (shN (k:Int) n sn1) Hn wv pv hRt_length (shL_length _ _ _ _ _ _ _) (shW_length _ _ _ _ _ _ _) hpl1 ww (tJ.hw.fr0 (hs.fr.trans0 hf)) (tJ.hp.fr0 (hs.fr.trans0 hf)); have h8:=check_honest (p:=(⟨pg,pcg,(n:Int),Sn,Hn,sdAt (sdR sd0 n) d,d,ep⟩:Spr)) (m:=k) (sn:=sn1) (sq:=sq) ho hcrk; rw [show ckR (n:Int) Sn Hn d (k:Nat) sn1 ep sq (hRt (⟨pg,pcg,(n:Int),Sn,Hn,sdAt (sdR sd0 n) d,d,ep⟩:Spr)) (hLf (⟨pg,pcg,(n:Int),Sn,Hn,sdAt (sdR sd0 n) d,d,ep⟩:Spr) k sn1 sq) (hWs (⟨pg,pcg,(n:Int),Sn,Hn,sdAt (sdR sd0 n) d,d,ep⟩:Spr) k sn1 sq) (shN (k:Int) n sn1) (hPs (⟨pg,pcg,(n:Int),Sn,Hn,sdAt (sdR sd0 n) d,d,ep⟩:Spr) sq) Hn=(el (⟨pg,pcg,(n:Int),Sn,Hn,sdAt (sdR sd0 n) d,d,ep⟩:Spr) sq.toNat (k + 1),0) from h8] at h9; exact h9)) rfl ?_
      refine rg_q (fun ac ww h=>c_move (h.ev rfl)) rfl ?_
      refine rg_q (fun ac ww h=>c_extract (h.ev rfl) rfl) rfl ?_
      refine rg_q (fun ac ww h=>c_extract (h.ev rfl) rfl) rfl ?_
      refine rg_alloc ty36 rfl ?_
      refine rg_nil fun ac ww L' hf hfe hs hlk=>?_
      simp only [List.drop_succ_cons,List.drop_zero]
      obtain ⟨v22,L22,M22,h22,e22,rfl,rfl⟩:=hfe
      replace hs:=hs.add h22
      obtain ⟨g22,rfl,rfl⟩:=e22
      refine sk_storeW (i:=0) hs ty36 rfl rfl rfl (by rw [List.length_map,el_length]) (all_map_B _) rfl (fun ww hs=>late_turn rfl rfl (late_nil)) fun ww hs=>?_
      refine zA hs fun ac hs=>?_
      refine s_end (then_n (wp_seq (wp_seq (wp_reg ?_))))
      cases hR2:clRight (n:Int) Sn Hn d ((k:Int) + 1) s2 ep sq
      · refine zM hs fun ac hs=>?_
        refine s_q hs (c_neqI (hs.ev rfl) (hs.ev rfl)) rfl fun ac hs=>?_
        refine s_end (then_n ?_)
        refine wp_cond_false (hs.ev rfl) ?_
        refine wp_skip (then_n (wp_seq ?_))
        refine wp_region_rgXK (J:=[16,17]) pmix 20 1 (by kernel_rfl) (by kernel_rfl) rfl hs ?_
        simp only [List.take_succ_cons,List.take_zero]
        refine rg_q (fun ac ww h=>c_loadW ty23 ag23 (h.ev rfl) (h.blk (hs.old hb5J id)) (by rfl)) rfl ?_
        refine rg_call fu15 (fun ac ww h=>(.cons (h.ev rfl) .nil)) (fun ww hf=>law08_To n Sn Hn ww) rfl ?_
        refine rg_q (fun ac ww h=>c_loadW ty61 ag61 (h.ev rfl) (h.blk (hs.old hb17J id)) (by rfl)) rfl ?_
        refine rg_q (fun ac ww h=>c_loadW ty36 rfl (h.ev rfl) (h.blk (hs.seg (i:=0) rfl)) (by rw [List.length_map,el_length])) rfl ?_
        refine rg_q (fun ac ww h=>c_loadW ty56 ag56 (h.ev rfl) (h.blk (hs.old hb18J id)) (by simp [shL_length])) rfl ?_
        refine rg_callE (knE d ep sq ((k:Int) + 1) (el (⟨pg,pcg,(n:Int),Sn,Hn,sdAt (sdR sd0 n) d,d,ep⟩:Spr) sq.toNat (k + 1)) (hPs (⟨pg,pcg,(n:Int),Sn,Hn,sdAt (sdR sd0 n) d,d,ep⟩:Spr) sq) Hn) (fun _ _ _ _ _ h=>h) fu33 (fun ac ww h=>?_) rfl ?_
        · exact ⟨_,.cons (h.ev rfl) (.cons (h.ev rfl) (.cons (h.ev rfl) (.nil))),proof_Learn d (k:Int) sn1 ep sq (el (⟨pg,pcg,(n:Int),Sn,Hn,sdAt (sdR sd0 n) d,d,ep⟩:Spr) sq.toNat (k + 1)) (hLf (⟨pg,pcg,(n:Int),Sn,Hn,sdAt (sdR sd0 n) d,d,ep⟩:Spr) k sn1 sq) (hPs (⟨pg,pcg,(n:Int),Sn,Hn,sdAt (sdR sd0 n) d,d,ep⟩:Spr) sq) Hn wv pv (el_length _ _ _) (shL_length _ _ _ _ _ _ _) hpl1 (by omega) (by omega) _ hwoc (tJ.hp.fr0 (hs.fr.trans0 h.fr))⟩
        refine rg_q (fun ac ww h=>c_move (h.ev rfl)) rfl ?_
        refine rg_q (fun ac ww h=>c_cvIV un3 un127 (h.ev rfl)) rfl ?_
        refine rg_q (fun ac ww h=>c_fld fl23_0 (h.ev rfl)) rfl ?_
        refine rg_q (fun ac ww h=>c_loadS un3 rfl (h.ev rfl) (h.blk (hs.old hb5J id)) rfl) rfl ?_
        refine rg_q (fun ac ww h=>c_cvIV un3 un127 (h.ev rfl)) rfl ?_
        refine rg_q (fun ac ww h=>c_remV (h.ev rfl) (h.ev rfl) hz2) rfl ?_
        refine rg_q (fun ac ww h=>c_to (c_cvVI un127 un3 (h.ev rfl) (by omega)) (((congrArg (fun z:Nat=>I z) hse3).trans (congrArg (fun z:Int=>I z) hs2e)))) rfl ?_
        refine rg_callV (c:=.tuple #[.agg #[I 0,U 0,U 0,I 0,I 0],credV (List.replicate 16 (0:UInt8)) (.slice none 0 0) (.slice none 0 0),I 1]) fu37 (fun ac ww h=>?_) rfl ?_
        · obtain ⟨u130,L130,he130,⟨kv,rfl,rfl⟩,hh130⟩:=h.ent (n:=130) rfl rfl
          exact ⟨_,.cons (h.ev rfl) (.cons he130 (.cons (h.ev rfl) .nil)),proof_PassB hR2 (el_length _ _ _) hpl1 (by omega) (Rd.of_row (hh130.holds _ (List.mem_of_getElem? (i:=0) rfl)))⟩
        refine rg_q (fun ac ww h=>c_move (h.ev rfl)) rfl ?_
        refine rg_q (fun ac ww h=>c_extract (h.ev rfl) rfl) rfl ?_
        refine rg_q (fun ac ww h=>c_extract (h.ev rfl) rfl) rfl ?_
        refine rg_q (fun ac ww h=>c_extract (h.ev rfl) rfl) rfl ?_
        refine rg_alloc ty61 rfl ?_
        refine rg_alloc ty56 rfl ?_
        refine rg_nil fun ac ww L' hf hfe hs hlk=>?_
        simp only [List.drop_succ_cons,List.drop_zero]
        obtain ⟨v25,L25,M25,h25,e25,⟨v24,L24,M24,h24,e24,⟨v130,L130,M130,h130,e130,rfl,rfl⟩,rfl⟩,rfl⟩:=hfe
        replace hs:=hs.add h25
        replace hs:=hs.add h24
        replace hs:=hs.add h130
        obtain ⟨g25,rfl,rfl⟩:=e25
        obtain ⟨g24,rfl,rfl⟩:=e24
        obtain ⟨kv,rfl,rfl⟩:=e130
        refine sf_storeW (i:=1) hs ty61 rfl rfl rfl (by rfl) (by rfl) (by simp) (fun ww hs=>late_turn rfl rfl (late_turn rfl rfl (late_nil))) fun ww hs=>?_
        refine sf_storeW (i:=0) hs ty56 rfl rfl rfl (by rfl) (by rfl) (by simp) (fun ww hs=>late_turn rfl rfl (late_turn rfl rfl (late_nil))) fun ww hs=>?_
        refine zA hs fun ac hs=>?_
        refine s_end (then_n (wp_seq (wp_seq (wp_reg ?_))))
        refine zM hs fun ac hs=>?_
        refine s_q hs (c_neqI (hs.ev rfl) (hs.ev rfl)) rfl fun ac hs=>?_
        refine s_end (then_n ?_)
        have tE:=tJ.fr0 hs.fr
        obtain ⟨s9,hor9,h29⟩:=tE.or
        have hb5E:=tE.old hbb5 n5.1 n5.2.1 n5.2.2
        have hb7E:=tE.old hbb7 n7.1 n7.2.1 n7.2.2
        have hb9E:=tE.old hbb9 n9.1 n9.2.1 n9.2.2
        have hrbE:=tE.old hbbr nr.1 nr.2.1 nr.2.2
        have hfrE:=FRW tE.fb
        have hspE:=tE.sp.made
        have hldE:=fun w9 hf9=>(tE.fw hor9 h29).2.2 w9 hf9 hmne
        replace hs:=St.start hs.know ww
        refine wp_cond_true (hs.ev rfl) ?_
        refine wp_exit (then_e (blk_miss rfl (then_e (then_e (blk_hit (then_n (wp_seq (wp_seq ?_))))))))
        refine wp_region_rgX (J:=[11]) pmix 13 (by kernel_rfl) (by kernel_rfl) rfl rfl hs ?_
        simp only [List.take_succ_cons,List.take_zero]
        refine rg_q (fun ac ww h=>c_loadW ty23 ag23 (h.ev rfl) (h.blk (hs.old hb5E id)) (by rfl)) rfl ?_
        refine rg_call fu15 (fun ac ww h=>(.cons (h.ev rfl) .nil)) (fun ww hf=>law08_To n Sn Hn ww) rfl ?_
        refine rg_q (fun ac ww h=>c_move (h.ev rfl)) rfl ?_
        refine rg_call fu19 (fun ac ww h=>(.cons (h.ev rfl) .nil)) (fun ww hf=>spring_RootMade (⟨pg,pcg,(n:Int),Sn,Hn,sdAt (sdR sd0 n) d,d,ep⟩:Spr) ho ww (hspE.fr0 (hs.fr.trans0 hf))) rfl ?_
        refine rg_q (fun ac ww h=>c_loadW ty54 ag54 (h.ev rfl) (h.blk (hs.old hb7E id)) (by rfl)) rfl ?_
        refine rg_call fu27 (fun ac ww h=>(.cons (h.ev rfl) .nil)) (fun ww hf=>law09_To d (m:Int) sn ep sq ww) rfl ?_
        refine rg_q (fun ac ww h=>c_loadW ty66 ag66 (h.ev rfl) (h.blk (hs.old hb9E id)) (by simp [hlf])) rfl ?_
        refine rg_callE (crE 36 lf nw ws np ps) (fun _ _ _ _ _ h=>h) fu34 (fun ac ww h=>?_) rfl ?_
        · exact ⟨_,.cons (h.ev rfl) (.nil),law09_ToCred lf ws ps nw np _ _ hlf hwl hpl (by omega) (by omega) _ (hqw.fr0 (hfrE.trans0 (hs.fr.trans0 h.fr))) (hqp.fr0 (hfrE.trans0 (hs.fr.trans0 h.fr)))⟩
        refine rg_callV (c:=.tuple #[.agg ((ckR (n:Int) Sn Hn d (m:Int) sn ep sq (hRt (⟨pg,pcg,(n:Int),Sn,Hn,sdAt (sdR sd0 n) d,d,ep⟩:Spr)) lf ws nw ps np).1.map Go.Fw.B).toArray,I (ckR (n:Int) Sn Hn d (m:Int) sn ep sq (hRt (⟨pg,pcg,(n:Int),Sn,Hn,sdAt (sdR sd0 n) d,d,ep⟩:Spr)) lf ws nw ps np).2]) fu40 (fun ac ww h=>?_) rfl ?_
        · obtain ⟨u49,L49,he49,hee,hh49⟩:=h.ent (n:=155) rfl rfl
          obtain ⟨wv1,pv1,rfl,rfl⟩:=hee
          have h9:=proof_Check (n:Int) Sn Hn d (m:Int) sn ep sq (hRt (⟨pg,pcg,(n:Int),Sn,Hn,sdAt (sdR sd0 n) d,d,ep⟩:Spr)) lf ws ps nw np wv1 pv1 hRt_length hlf hwl hpl ww (Rd.of_row (hh49.holds _ (List.mem_of_getElem? (i:=1) rfl))) (Rd.of_row (hh49.holds _ (List.mem_of_getElem? (i:=0) rfl)))
          exact ⟨_,.cons (h.ev rfl) (.cons (h.ev rfl) (.cons (h.ev rfl) (.cons he49 .nil))),h9⟩
        refine rg_q (fun ac ww h=>c_move (h.ev rfl)) rfl ?_
        refine rg_q (fun ac ww h=>c_extract (h.ev rfl) rfl) rfl ?_
        refine rg_q (fun ac ww h=>c_extract (h.ev rfl) rfl) rfl ?_
        refine rg_alloc ty36 rfl ?_
        refine rg_nil fun ac ww L' hf hfe hs hlk=>?_
        simp only [List.drop_succ_cons,List.drop_zero]
        obtain ⟨v27,L27,M27,h27,e27,⟨v155,L155,M155,h155,e155,rfl,rfl⟩,rfl⟩:=hfe
        replace hs:=hs.add h27
        replace hs:=hs.add h155
        obtain ⟨g27,rfl,rfl⟩:=e27
        obtain ⟨wv9,pv9,rfl,rfl⟩:=e155
        refine sk_storeW (i:=0) hs ty36 rfl rfl rfl (by rw [List.length_map,ckR_length hlf]) (all_map_B _) rfl (fun ww hs=>late_turn rfl rfl (late_nil)) fun ww hs=>?_
        refine zA hs fun ac hs=>?_
        refine s_end ?_
        have hfrF:=hfrE.trans0 hs.fr
        replace hs:=hs.sub (F':=[(5,_),(7,_),(9,_),(11,_),(12,_),(14,_),(28,_)]) ⟨rfl,rfl,rfl,rfl,rfl,rfl,rfl,trivial⟩
        refine then_n (wp_seq (wp_reg ?_))
        by_cases hqq:lf=hLf (⟨pg,pcg,(n:Int),Sn,Hn,sdAt (sdR sd0 n) d,d,ep⟩:Spr) m sn sq∧ws=hWs (⟨pg,pcg,(n:Int),Sn,Hn,sdAt (sdR sd0 n) d,d,ep⟩:Spr) m sn sq∧ps=hPs (⟨pg,pcg,(n:Int),Sn,Hn,sdAt (sdR sd0 n) d,d,ep⟩:Spr) sq
        · refine zM hs fun ac hs=>?_
          refine s_q hs (c_neqI (hs.ev rfl) (hs.ev rfl)) rfl fun ac hs=>?_
          refine s_end ?_
          replace hs:=hs.sub (F':=[(5,_),(7,_),(9,_),(11,_),(12,_),(14,_),(160,_)]) ⟨rfl,rfl,rfl,rfl,rfl,rfl,rfl,trivial⟩
          refine then_n ?_
          refine s_cond hs rfl (fun hc=>?_) (fun hc=>?_)
          · skip
            refine wp_seq (wp_reg ?_)
            refine zA hs fun ac hs=>?_
            refine s_end ?_
            replace hs:=hs.sub (F':=[(5,_),(7,_),(9,_),(10,_),(11,_),(12,_),(14,_)]) ⟨rfl,rfl,rfl,rfl,rfl,rfl,rfl,trivial⟩
            refine then_n (wp_ret (then_r ?_))
            refine s_ret hs rfl (.tmp (hs.tmp rfl) .nil) rfl ⟨_,rfl,(hfrE.trans0 hs.fr),?_⟩
            rfl
          · skip
            have hJv:judV (ownV o d (m:Int) sn ep sq lf ws ps) (mayP (fun _=>false) [(⟨d,ep,sq,(m:Int),sn⟩:Cl)] (⟨d,ep,sq,(m:Int),sn⟩:Cl))=0:=by
              rw [hqq.1,hqq.2.1,hqq.2.2,own_yes (pg:=pg) (pcg:=pcg) hpr hoW hoS hoH hcr,may_one hmt0 (.inl rfl)]
              rfl
            have hb5F:=hs.old hb5E id
            have hb7F:=hs.old hb7E id
            have hb9F:=hs.old hb9E id
            have hrbF:=hs.old hrbE id
            have horF:=hor9.fr0 hs.fr
            have hspF:=hspE.fr0 hs.fr
            have hfwF:=fun w9 (hf9:Fr (OrM o s9) ww w9)=>hfrE.over (Fr.mono hs.fr (fun _ _=>False.elim) |>.trans hf9 fun _ _ h=>h) fun i hm=>(show w.heap.size≤i from by
              have h8:=hfrw.size
              rcases hm with e | ⟨q9,e,rfl | rfl⟩
              · omega
              · have:=(h29 q9 e).2.2.1; omega
              · have:=(h29 q9 e).2.2.2; omega)
            have hldF:=fun w9 hf9=>hldE w9 ((Fr.mono hs.fr (fun _ _=>False.elim):Fr (OrM o s9) _ _).trans hf9 fun _ _ h=>h)
            have hszF:=Nat.le_trans tE.hsz hs.fr.size
            replace hs:=St.start hs.know ww
            refine wp_skip (then_n (wp_seq ?_))
            have hK:=FwO.frKO (M:=OrM o s9) (kp:=kpO) (R:=fun _ _=>True) (B1:=ww.heap.size) (fun k hm=>by
              rcases hm with e | ⟨q9,e,hm⟩
              · obtain ⟨es,cl,h8⟩:=horF.mp.blk
                rw [e]
                exact heap_lt h8
              · obtain ⟨cs,T,fr,h1,_⟩:=spBlk (horF.sp q9 e).2.2 hm
                exact heap_lt h1) (fun _ _=>trivial) (fun _=>trivial)
            have hqwF:=fun w9 hf9=>hqw.fr0 (hfwF w9 hf9)
            have hqpF:=fun w9 hf9=>hqp.fr0 (hfwF w9 hf9)
            refine FwO.wp_region_rgO (cc:=167) pmix hK 23 (by kernel_rfl) rfl hs.know ?_
            simp only [List.take_succ_cons,List.take_zero]
            refine FwO.rg_q hK (fun ac ww h=>c_move (h.ev rfl)) rfl ?_
            refine FwO.rg_q hK (fun ac ww h=>c_move (h.ev rfl)) rfl ?_
            refine FwO.rg_q hK (fun ac ww h=>c_loadW ty54 ag54 (h.ev rfl) (h.blk hb7F) (by rfl)) rfl ?_
            refine FwO.rg_call hK fu27 (fun ac ww h=>(.cons (h.ev rfl) .nil)) (fun ww hf=>law09_To d (m:Int) sn ep sq ww) rfl ?_
            refine FwO.rg_q hK (fun ac ww h=>c_loadW ty66 ag66 (h.ev rfl) (h.blk hb9F) (by simp [hlf])) rfl ?_
            refine FwO.rg_callE hK (crE 36 lf nw ws np ps) (fun _ _ _ _ _ h=>h) fu34 (fun ac ww h=>?_) rfl ?_
            · exact ⟨_,.cons (h.ev rfl) (.nil),law09_ToCred lf ws ps nw np _ _ hlf hwl hpl (by omega) (by omega) _ (hqwF _ h.fr.1) (hqpF _ h.fr.1)⟩
            refine FwO.rg_callOneE hK fu55 (c:=I 0) (fun ac w8 h hf0=>?_) rfl ?_
            · obtain ⟨v80,L80,he80,⟨wv8,pv8,rfl,rfl⟩,hh80⟩:=h.ent (n:=166) rfl rfl
              have horW:=horF.fr0 hf0
              have h7:=row_kp (T:=36) (hh80.holds _ (List.mem_of_getElem? (i:=1) rfl)) rfl
              have h6:=row_kp (T:=36) (hh80.holds _ (List.mem_of_getElem? (i:=0) rfl)) rfl
              have q7:=Rd.of_row (hh80.holds _ (List.mem_of_getElem? (i:=1) rfl))
              have q6:=Rd.of_row (hh80.holds _ (List.mem_of_getElem? (i:=0) rfl))
              refine ⟨_,.cons (h.ev rfl) (.cons (h.ev rfl) (.cons (h.ev rfl) (.cons he80 .nil))),Calls.mono (tr_JudgeY o s9 d (m:Int) sn ep sq sz lf ws ps nw np wv8 pv8 gl mb 0 gv [(⟨d,ep,sq,(m:Int),sn⟩:Cl)] (fun _=>false) h29 hlf hwl hpl hdb w8 (Nat.le_trans hszF hf0.size) horW q7 q6 (fun w9 hf9=>q7.fr hf9 fun j hj hm=>orM_kp horW hm (h7 j hj)) (fun w9 hf9=>q6.fr hf9 fun j hj hm=>orM_kp horW hm (h6 j hj)) fun w9 hf9=>hldF w9 ((Fr.mono hf0 (fun _ _=>False.elim):Fr (OrM o s9) _ _).trans hf9 fun _ _ h=>h)) ?_⟩
              rintro e9 w9 ⟨v9,he9,hf9,hv9,hz9⟩
              exact ⟨by rw [he9,hv9,hJv],hf9,keepKB horW hf9,trivial⟩
            clear hJv
            refine FwO.rg_q hK (fun ac ww h=>c_neqI (h.ev rfl) (h.ev rfl)) rfl ?_
            refine FwO.rg_q hK (fun ac ww h=>c_move (h.ev rfl)) rfl ?_
            refine FwO.rg_no hK rfl rfl rfl rfl ?_
            refine FwO.rg_no hK rfl rfl rfl rfl ?_
            refine FwO.rg_no hK rfl rfl rfl rfl ?_
            refine FwO.rg_no hK rfl rfl rfl rfl ?_
            refine FwO.rg_no hK rfl rfl rfl rfl ?_
            refine FwO.rg_no hK rfl rfl rfl rfl ?_
            refine FwO.rg_no hK rfl rfl rfl rfl ?_
            refine FwO.rg_no hK rfl rfl rfl rfl ?_
            refine FwO.rg_no hK rfl rfl rfl rfl ?_
            refine FwO.rg_no hK rfl rfl rfl rfl ?_
            refine FwO.rg_no hK rfl rfl rfl rfl ?_
            refine FwO.rg_no hK rfl rfl rfl rfl ?_
            refine FwO.rg_no hK rfl rfl rfl rfl ?_
            refine FwO.rg_q hK (fun ac ww h=>c_pick (h.ev rfl) (h.ev rfl) (h.ev rfl)) rfl ?_
            refine FwO.rg_nil fun ac ww L' hfk hfe hkn hhas hlk=>?_
            simp only [List.drop_succ_cons,List.drop_zero]
            have hfrZ:=hfwF _ hfk.1
            replace hs:=St.start hkn ww
            refine zA hs fun ac hs=>?_
            refine s_end ?_
            replace hs:=hs.sub (F':=[(10,_)]) ⟨rfl,trivial⟩
            refine then_n (wp_ret ?_)
            refine s_ret hs rfl (.tmp (hs.tmp rfl) .nil) rfl ⟨_,rfl,(hfrZ.trans0 hs.fr),?_⟩
            rfl
        · refine zM hs fun ac hs=>?_
          refine s_q hs (c_neqI (hs.ev rfl) (hs.ev rfl)) rfl fun ac hs=>?_
          refine s_end ?_
          replace hs:=hs.sub (F':=[(5,_),(7,_),(9,_),(11,_),(12,_),(14,_),(160,_)]) ⟨rfl,rfl,rfl,rfl,rfl,rfl,rfl,trivial⟩
          refine then_n ?_
          refine s_cond hs rfl (fun hc=>?_) (fun hc=>?_)
          · skip
            refine wp_seq (wp_reg ?_)
            refine zA hs fun ac hs=>?_
            refine s_end ?_
            replace hs:=hs.sub (F':=[(5,_),(7,_),(9,_),(10,_),(11,_),(12,_),(14,_)]) ⟨rfl,rfl,rfl,rfl,rfl,rfl,rfl,trivial⟩
            refine then_n (wp_ret (then_r ?_))
            refine s_ret hs rfl (.tmp (hs.tmp rfl) .nil) rfl ⟨_,rfl,(hfrE.trans0 hs.fr),?_⟩
            rfl
          · skip
            have hJv:judV (ownV o d (m:Int) sn ep sq lf ws ps) (mayP (fun _=>false) [(⟨d,ep,sq,(m:Int),sn⟩:Cl)] (⟨d,ep,sq,(m:Int),sn⟩:Cl))=2:=by
              rw [own_no (pg:=pg) (pcg:=pcg) hpr hqq]
              rfl
            have hb5F:=hs.old hb5E id
            have hb7F:=hs.old hb7E id
            have hb9F:=hs.old hb9E id
            have hrbF:=hs.old hrbE id
            have horF:=hor9.fr0 hs.fr
            have hspF:=hspE.fr0 hs.fr
            have hfwF:=fun w9 (hf9:Fr (OrM o s9) ww w9)=>hfrE.over (Fr.mono hs.fr (fun _ _=>False.elim) |>.trans hf9 fun _ _ h=>h) fun i hm=>(show w.heap.size≤i from by
              have h8:=hfrw.size
              rcases hm with e | ⟨q9,e,rfl | rfl⟩
              · omega
              · have:=(h29 q9 e).2.2.1; omega
              · have:=(h29 q9 e).2.2.2; omega)
            have hldF:=fun w9 hf9=>hldE w9 ((Fr.mono hs.fr (fun _ _=>False.elim):Fr (OrM o s9) _ _).trans hf9 fun _ _ h=>h)
            have hszF:=Nat.le_trans tE.hsz hs.fr.size
            replace hs:=St.start hs.know ww
            have hck0:(ckR (n:Int) Sn Hn d (m:Int) sn ep sq (hRt (⟨pg,pcg,(n:Int),Sn,Hn,sdAt (sdR sd0 n) d,d,ep⟩:Spr)) lf ws nw ps np).2=0:=by simpa using hc
            have hlv3:=(lvOf_spec (p:=(⟨pg,pcg,(n:Int),Sn,Hn,sdAt (sdR sd0 n) d,d,ep⟩:Spr)) hlv).2
            have hclash:clash (txs (⟨pg,pcg,(n:Int),Sn,Hn,sdAt (sdR sd0 n) d,d,ep⟩:Spr) m sq) (cks (⟨pg,pcg,(n:Int),Sn,Hn,sdAt (sdR sd0 n) d,d,ep⟩:Spr) m sn sq lf ws nw ps np)=true:=by
              rw [← Bool.not_eq_false]
              intro h9
              exact hqq (sound_shown (p:=(⟨pg,pcg,(n:Int),Sn,Hn,sdAt (sdR sd0 n) d,d,ep⟩:Spr)) ho hcr hlf hwl hpl hck0 h9)
            clear hck0 hc
            refine wp_skip (then_n (wp_seq ?_))
            have hK:=FwO.frKO (M:=OrM o s9) (kp:=kpO) (R:=fun _ _=>True) (B1:=ww.heap.size) (fun k hm=>by
              rcases hm with e | ⟨q9,e,hm⟩
              · obtain ⟨es,cl,h8⟩:=horF.mp.blk
                rw [e]
                exact heap_lt h8
              · obtain ⟨cs,T,fr,h1,_⟩:=spBlk (horF.sp q9 e).2.2 hm
                exact heap_lt h1) (fun _ _=>trivial) (fun _=>trivial)
            have hqwF:=fun w9 hf9=>hqw.fr0 (hfwF w9 hf9)
            have hqpF:=fun w9 hf9=>hqp.fr0 (hfwF w9 hf9)
            refine FwO.wp_region_rgO (cc:=167) pmix hK 23 (by kernel_rfl) rfl hs.know ?_
            simp only [List.take_succ_cons,List.take_zero]
            refine FwO.rg_q hK (fun ac ww h=>c_move (h.ev rfl)) rfl ?_
            refine FwO.rg_q hK (fun ac ww h=>c_move (h.ev rfl)) rfl ?_
            refine FwO.rg_q hK (fun ac ww h=>c_loadW ty54 ag54 (h.ev rfl) (h.blk hb7F) (by rfl)) rfl ?_
            refine FwO.rg_call hK fu27 (fun ac ww h=>(.cons (h.ev rfl) .nil)) (fun ww hf=>law09_To d (m:Int) sn ep sq ww) rfl ?_
            refine FwO.rg_q hK (fun ac ww h=>c_loadW ty66 ag66 (h.ev rfl) (h.blk hb9F) (by simp [hlf])) rfl ?_
            refine FwO.rg_callE hK (crE 36 lf nw ws np ps) (fun _ _ _ _ _ h=>h) fu34 (fun ac ww h=>?_) rfl ?_
            · exact ⟨_,.cons (h.ev rfl) (.nil),law09_ToCred lf ws ps nw np _ _ hlf hwl hpl (by omega) (by omega) _ (hqwF _ h.fr.1) (hqpF _ h.fr.1)⟩
            refine FwO.rg_callOneE hK fu55 (c:=I 2) (fun ac w8 h hf0=>?_) rfl ?_
            · obtain ⟨v80,L80,he80,⟨wv8,pv8,rfl,rfl⟩,hh80⟩:=h.ent (n:=166) rfl rfl
              have horW:=horF.fr0 hf0
              have h7:=row_kp (T:=36) (hh80.holds _ (List.mem_of_getElem? (i:=1) rfl)) rfl
              have h6:=row_kp (T:=36) (hh80.holds _ (List.mem_of_getElem? (i:=0) rfl)) rfl
              have q7:=Rd.of_row (hh80.holds _ (List.mem_of_getElem? (i:=1) rfl))
              have q6:=Rd.of_row (hh80.holds _ (List.mem_of_getElem? (i:=0) rfl))
              refine ⟨_,.cons (h.ev rfl) (.cons (h.ev rfl) (.cons (h.ev rfl) (.cons he80 .nil))),Calls.mono (tr_JudgeY o s9 d (m:Int) sn ep sq sz lf ws ps nw np wv8 pv8 gl mb 0 gv [(⟨d,ep,sq,(m:Int),sn⟩:Cl)] (fun _=>false) h29 hlf hwl hpl hdb w8 (Nat.le_trans hszF hf0.size) horW q7 q6 (fun w9 hf9=>q7.fr hf9 fun j hj hm=>orM_kp horW hm (h7 j hj)) (fun w9 hf9=>q6.fr hf9 fun j hj hm=>orM_kp horW hm (h6 j hj)) fun w9 hf9=>hldF w9 ((Fr.mono hf0 (fun _ _=>False.elim):Fr (OrM o s9) _ _).trans hf9 fun _ _ h=>h)) ?_⟩
              rintro e9 w9 ⟨v9,he9,hf9,hv9,hz9⟩
              exact ⟨by rw [he9,hv9,hJv],hf9,keepKB horW hf9,trivial⟩
            clear hJv
            refine FwO.rg_q hK (fun ac ww h=>c_neqI (h.ev rfl) (h.ev rfl)) rfl ?_
            refine FwO.rg_q hK (fun ac ww h=>c_move (h.ev rfl)) rfl ?_
            refine FwO.rg_yes hK rfl rfl (fun ac ww h=>c_loadW ty23 ag23 (h.ev rfl) (h.blk hb5F) (by rfl)) rfl ?_
            refine FwO.rg_yes hK rfl rfl (fun ac ww h=>c_move (h.ev rfl)) rfl ?_
            refine FwO.rg_yes hK rfl rfl (fun ac ww h=>c_fld fl54_0 (h.ev rfl)) rfl ?_
            refine FwO.rg_yes hK rfl rfl (fun ac ww h=>c_loadS un3 rfl (h.ev rfl) (h.blk hb7F) (show _=some (I d) from rfl)) rfl ?_
            refine FwO.rg_yes hK rfl rfl (fun ac ww h=>c_idxS (j:=d.toNat) un100 ty24 (h.ev rfl) (h.ev rfl) hdZ hdn) rfl ?_
            refine FwO.rg_yes hK rfl rfl (fun ac ww h=>c_loadA ty24 rfl (h.ev rfl) (h.blk hrbF) hpc (show (List.map Go.Fw.B (sdAt (sdR sd0 n) d)).length=32 by rw [List.length_map,hsl])) rfl ?_
            refine FwO.rg_yes hK rfl rfl (fun ac ww h=>c_loadW ty54 ag54 (h.ev rfl) (h.blk hb7F) (by rfl)) rfl ?_
            refine FwO.rg_strip rfl rfl ?_
            refine FwO.rg_callE hK (textsE 177 5 (txs (⟨pg,pcg,(n:Int),Sn,Hn,sdAt (sdR sd0 n) d,d,ep⟩:Spr) m sq)) (fun _ _ _ _ _ h=>h) fu42 (fun ac ww h=>?_) rfl ?_
            · exact ⟨_,.cons (h.ev rfl) (.cons (h.ev rfl) (.cons (h.ev rfl) (.nil))),ref09_Texts (⟨pg,pcg,(n:Int),Sn,Hn,sdAt (sdR sd0 n) d,d,ep⟩:Spr) ho m sn sq hcr _⟩
            refine FwO.rg_yes hK rfl rfl (fun ac ww h=>c_loadW ty23 ag23 (h.ev rfl) (h.blk hb5F) (by rfl)) rfl ?_
            refine FwO.rg_yes hK rfl rfl (fun ac ww h=>c_loadW ty54 ag54 (h.ev rfl) (h.blk hb7F) (by rfl)) rfl ?_
            refine FwO.rg_yes hK rfl rfl (fun ac ww h=>c_loadW ty66 ag66 (h.ev rfl) (h.blk hb9F) (by simp [hlf])) rfl ?_
            refine FwO.rg_strip rfl rfl ?_
            refine FwO.rg_callE hK (textsE 177 5 (cks (⟨pg,pcg,(n:Int),Sn,Hn,sdAt (sdR sd0 n) d,d,ep⟩:Spr) m sn sq lf ws nw ps np)) (fun _ _ _ _ _ h=>h) fu43 (fun ac ww h=>?_) rfl ?_
            · exact ⟨_,.cons (h.ev rfl) (.cons (h.ev rfl) (.cons (h.ev rfl) (.nil))),ref09_Checked (⟨pg,pcg,(n:Int),Sn,Hn,sdAt (sdR sd0 n) d,d,ep⟩:Spr) ho m sn sq lf ws ps nw np _ _ hcr hlf hwl hpl (by omega) (by omega) _ (hqwF _ h.fr.1) (hqpF _ h.fr.1)⟩
            refine FwO.rg_strip rfl rfl ?_
            refine FwO.rg_callV hK (c:=.bool true) fu41 (fun ac ww h=>?_) rfl ?_
            · obtain ⟨u177,L177,he177,⟨ps1,hps1,rfl⟩,hh177⟩:=h.ent (n:=177) rfl rfl
              obtain ⟨u181,L181,he181,⟨ps2,hps2,rfl⟩,hh181⟩:=h.ent (n:=181) rfl rfl
              have h9:=ref06_Clash ps1 ps2 _ _ (good_of hps1 (by have:=txs_le (p:=(⟨pg,pcg,(n:Int),Sn,Hn,sdAt (sdR sd0 n) d,d,ep⟩:Spr)) ho hlv3 m sq; omega) (txs_good (⟨pg,pcg,(n:Int),Sn,Hn,sdAt (sdR sd0 n) d,d,ep⟩:Spr) m sq)) (good_of hps2 (by have:=cks_le (p:=(⟨pg,pcg,(n:Int),Sn,Hn,sdAt (sdR sd0 n) d,d,ep⟩:Spr)) (m:=m) (sn:=sn) (sq:=sq) (lf:=lf) (ws:=ws) (ps:=ps) (nw:=nw) (np:=np) ho hlv3; omega) (cks_good hlf hwl)) _ (RdP.texts (hh177.holds _ (List.mem_of_getElem? (i:=0) rfl))) (RdP.texts (hh181.holds _ (List.mem_of_getElem? (i:=0) rfl)))
              rw [hps1,hps2,hclash] at h9
              exact ⟨_,.cons he177 (.cons he181 .nil),h9⟩
            refine FwO.rg_q hK (fun ac ww h=>c_pick (h.ev rfl) (h.ev rfl) (h.ev rfl)) rfl ?_
            refine FwO.rg_nil fun ac ww L' hfk hfe hkn hhas hlk=>?_
            simp only [List.drop_succ_cons,List.drop_zero]
            have hfrZ:=hfwF _ hfk.1
            replace hs:=St.start hkn ww
            refine zA hs fun ac hs=>?_
            refine s_end ?_
            replace hs:=hs.sub (F':=[(10,_)]) ⟨rfl,trivial⟩
            refine then_n (wp_ret ?_)
            refine s_ret hs rfl (.tmp (hs.tmp rfl) .nil) rfl ⟨_,rfl,(hfrZ.trans0 hs.fr),?_⟩
            rfl
      · refine zM hs fun ac hs=>?_
        refine s_q hs (c_neqI (hs.ev rfl) (hs.ev rfl)) rfl fun ac hs=>?_
        refine s_end (then_n ?_)
        refine wp_cond_false (hs.ev rfl) ?_
        refine wp_skip (then_n (wp_seq ?_))
        refine wp_region_rgXK (J:=[16,17]) pmix 20 1 (by kernel_rfl) (by kernel_rfl) rfl hs ?_
        simp only [List.take_succ_cons,List.take_zero]
        refine rg_q (fun ac ww h=>c_loadW ty23 ag23 (h.ev rfl) (h.blk (hs.old hb5J id)) (by rfl)) rfl ?_
        refine rg_call fu15 (fun ac ww h=>(.cons (h.ev rfl) .nil)) (fun ww hf=>law08_To n Sn Hn ww) rfl ?_
        refine rg_q (fun ac ww h=>c_loadW ty61 ag61 (h.ev rfl) (h.blk (hs.old hb17J id)) (by rfl)) rfl ?_
        refine rg_q (fun ac ww h=>c_loadW ty36 rfl (h.ev rfl) (h.blk (hs.seg (i:=0) rfl)) (by rw [List.length_map,el_length])) rfl ?_
        refine rg_q (fun ac ww h=>c_loadW ty56 ag56 (h.ev rfl) (h.blk (hs.old hb18J id)) (by simp [shL_length])) rfl ?_
        refine rg_callE (knE d ep sq ((k:Int) + 1) (el (⟨pg,pcg,(n:Int),Sn,Hn,sdAt (sdR sd0 n) d,d,ep⟩:Spr) sq.toNat (k + 1)) (hPs (⟨pg,pcg,(n:Int),Sn,Hn,sdAt (sdR sd0 n) d,d,ep⟩:Spr) sq) Hn) (fun _ _ _ _ _ h=>h) fu33 (fun ac ww h=>?_) rfl ?_
        · exact ⟨_,.cons (h.ev rfl) (.cons (h.ev rfl) (.cons (h.ev rfl) (.nil))),proof_Learn d (k:Int) sn1 ep sq (el (⟨pg,pcg,(n:Int),Sn,Hn,sdAt (sdR sd0 n) d,d,ep⟩:Spr) sq.toNat (k + 1)) (hLf (⟨pg,pcg,(n:Int),Sn,Hn,sdAt (sdR sd0 n) d,d,ep⟩:Spr) k sn1 sq) (hPs (⟨pg,pcg,(n:Int),Sn,Hn,sdAt (sdR sd0 n) d,d,ep⟩:Spr) sq) Hn wv pv (el_length _ _ _) (shL_length _ _ _ _ _ _ _) hpl1 (by omega) (by omega) _ hwoc (tJ.hp.fr0 (hs.fr.trans0 h.fr))⟩
        refine rg_q (fun ac ww h=>c_move (h.ev rfl)) rfl ?_
        refine rg_q (fun ac ww h=>c_cvIV un3 un127 (h.ev rfl)) rfl ?_
        refine rg_q (fun ac ww h=>c_fld fl23_0 (h.ev rfl)) rfl ?_
        refine rg_q (fun ac ww h=>c_loadS un3 rfl (h.ev rfl) (h.blk (hs.old hb5J id)) rfl) rfl ?_
        refine rg_q (fun ac ww h=>c_cvIV un3 un127 (h.ev rfl)) rfl ?_
        refine rg_q (fun ac ww h=>c_remV (h.ev rfl) (h.ev rfl) hz2) rfl ?_
        refine rg_q (fun ac ww h=>c_to (c_cvVI un127 un3 (h.ev rfl) (by omega)) (((congrArg (fun z:Nat=>I z) hse3).trans (congrArg (fun z:Int=>I z) hs2e)))) rfl ?_
        refine rg_callE (tupG [.agg #[I d,U ep,U sq,I ((k:Int) + 1),I s2]] [I 0] (crE 36 (shL d ep sq ((k:Int) + 1) (el (⟨pg,pcg,(n:Int),Sn,Hn,sdAt (sdR sd0 n) d,d,ep⟩:Spr) sq.toNat (k + 1)) (n:Int) s2) (shN ((k:Int) + 1) (n:Int) s2) (shW d ep sq ((k:Int) + 1) (el (⟨pg,pcg,(n:Int),Sn,Hn,sdAt (sdR sd0 n) d,d,ep⟩:Spr) sq.toNat (k + 1)) (n:Int) s2) Hn (hPs (⟨pg,pcg,(n:Int),Sn,Hn,sdAt (sdR sd0 n) d,d,ep⟩:Spr) sq))) (fun _ _ _ _ _ h=>h) fu37 (fun ac ww h=>?_) rfl ?_
        · obtain ⟨u130,L130,he130,⟨kv,rfl,rfl⟩,hh130⟩:=h.ent (n:=130) rfl rfl
          exact ⟨_,.cons (h.ev rfl) (.cons he130 (.cons (h.ev rfl) .nil)),proof_PassE hR2 (el_length _ _ _) hpl1 (by omega) (Rd.of_row (hh130.holds _ (List.mem_of_getElem? (i:=0) rfl)))⟩
        refine rg_moveG rfl rfl rfl ?_
        refine rg_extGc rfl rfl rfl (fun _=>rfl) ?_
        refine rg_extGe rfl rfl rfl rfl ?_
        refine rg_extGc rfl rfl rfl (fun _=>rfl) ?_
        refine rg_alloc ty61 rfl ?_
        refine rg_alloc ty56 rfl ?_
        refine rg_nil fun ac ww L' hf hfe hs hlk=>?_
        simp only [List.drop_succ_cons,List.drop_zero]
        obtain ⟨v25,L25,M25,h25,e25,⟨v24,L24,M24,h24,e24,⟨v140,L140,M140,h140,e140,⟨v124,L124,M124,h124,e124,⟨v138,L138,M138,h138,e138,⟨v130,L130,M130,h130,e130,rfl,rfl⟩,rfl⟩,rfl⟩,rfl⟩,rfl⟩,rfl⟩:=hfe
        replace hs:=hs.add h25
        replace hs:=hs.add h24
        replace hs:=hs.add h140
        replace hs:=hs.add h124
        replace hs:=hs.add h138
        replace hs:=hs.add h130
        obtain ⟨g25,rfl,rfl⟩:=e25
        obtain ⟨g24,rfl,rfl⟩:=e24
        obtain ⟨tv138,rfl,e138⟩:=e138
        obtain ⟨-,rfl⟩:=e124
        obtain rfl:=lk_move (j:=14) hlk (by decide) rfl (by kernel_rfl) h124 h138
        obtain ⟨-,rfl⟩:=e140
        obtain rfl:=lk_ext (j:=16) hlk (by decide) rfl (by kernel_rfl) h140 h124 rfl
        obtain ⟨kv,rfl,rfl⟩:=e130
        obtain ⟨wv3,pv3,rfl,rfl⟩:=e138
        have hwo3:=(Rd.of_row (hs.get (i:=3) rfl)).one
        have hpo3:=(Rd.of_row (hs.get (i:=2) rfl)).one
        have hsl3:(shL d ep sq ((k:Int) + 1) (el (⟨pg,pcg,(n:Int),Sn,Hn,sdAt (sdR sd0 n) d,d,ep⟩:Spr) sq.toNat (k + 1)) (n:Int) s2).length=16:=shL_length _ _ _ _ _ _ _
        refine sf_storeW (i:=1) hs ty61 rfl rfl rfl (by rfl) (by rfl) (by simp) (fun ww hs=>late_turn rfl rfl (late_turn rfl rfl (late_nil))) fun ww hs=>?_
        refine sf_storeW (i:=0) hs ty56 rfl rfl rfl (cred_length hsl3 _ _) (by simp [hwo3,hpo3]; exact fun x _=>rfl) rfl (fun ww hs=>late_turn rfl rfl (late_turn rfl rfl (late_nil))) fun ww hs=>?_
        refine zA hs fun ac hs=>?_
        refine s_end (then_n (wp_seq (wp_seq (wp_reg ?_))))
        refine zM hs fun ac hs=>?_
        refine s_q hs (c_neqI (hs.ev rfl) (hs.ev rfl)) rfl fun ac hs=>?_
        refine s_end ?_
        have hb25:=hs.seg (i:=0) rfl
        have hb24:=hs.seg (i:=1) rfl
        have hpP:Rd ww pv3 Hn ((hPs (⟨pg,pcg,(n:Int),Sn,Hn,sdAt (sdR sd0 n) d,d,ep⟩:Spr) sq).map Go.Fw.B):=Rd.of_row (hs.get (i:=2) rfl)
        have hwP:Rd ww wv3 (shN ((k + 1:Nat):Int) (n:Int) s2) ((hWs (⟨pg,pcg,(n:Int),Sn,Hn,sdAt (sdR sd0 n) d,d,ep⟩:Spr) (k + 1) s2 sq).map Go.Fw.B):=Rd.of_row (hs.get (i:=3) rfl)
        have hpK:∀ j,pv3.ownBlock=some j→kpB ww j∧sz≤j:=fun j hj=>⟨row_kp (T:=36) (hs.get (i:=2) rfl) rfl j hj,Nat.le_trans tJ.hsz ((hs.own _ (List.mem_of_getElem? (i:=2) rfl) j hj).resolve_right id)⟩
        have hwK:∀ j,wv3.ownBlock=some j→kpB ww j∧sz≤j:=fun j hj=>⟨row_kp (T:=36) (hs.get (i:=3) rfl) rfl j hj,Nat.le_trans tJ.hsz ((hs.own _ (List.mem_of_getElem? (i:=3) rfl) j hj).resolve_right id)⟩
        have h24g:sz≤g24:=Nat.le_trans tJ.hsz ((hs.own _ (List.mem_of_getElem? (i:=1) rfl) g24 rfl).resolve_right id)
        have h25g:sz≤g25:=Nat.le_trans tJ.hsz ((hs.own _ (List.mem_of_getElem? (i:=0) rfl) g25 rfl).resolve_right id)
        have tP2:=tJ.fr0 hs.fr
        have hk1:k + 1 < Sn:=by
          obtain ⟨_,_,_,_,_,_,_,_,h9⟩:=clRight_iff.1 hR2
          omega
        have hsF:=(St.frameBack hsJ hs).pick (L':=[_,_]) (.cons _ (.cons _ (.cons _ (.cons _ (.cons _ (.cons _ (.refl _)))))))
        have hb18P2:=hsF.seg (i:=0) rfl
        have hb17P2:=hsF.seg (i:=1) rfl
        replace hs:=hsF.rebase
        refine then_n ?_
        refine wp_cond_false (hs.ev rfl) ?_
        refine wp_skip (then_n ?_)
        refine wp_region_rgXK (J:=[1]) pmix 2 1 (by kernel_rfl) (by kernel_rfl) rfl hs ?_
        simp only [List.take_succ_cons,List.take_zero]
        refine rg_q (fun ac ww h=>c_loadW ty61 ag61 (h.ev rfl) (h.blk (hs.old hb24 (fun hm=>by rcases two_keys hm with e | e <;> omega))) (by rfl)) rfl ?_
        refine rg_q (fun ac ww h=>c_loadW ty56 ag56 (h.ev rfl) (h.blk (hs.old hb25 (fun hm=>by rcases two_keys hm with e | e <;> omega))) (cred_length hsl3 _ _)) rfl ?_
        refine rg_nil fun ac ww L' hf hfe hs hlk=>?_
        simp only [List.drop_succ_cons,List.drop_zero]
        obtain rfl:L'=[]:=hfe
        replace hs:=hs.toL (List.nil_append _)
        refine sf_store (i:=1) hs ty61 rfl rfl rfl rfl (by rfl) (by rfl) (by simp) rfl (fun ww hs=>late_read rfl rfl (hs.know.at_ 145 _ rfl) (c_loadW ty56 ag56 (hs.ev rfl) (hs.old hb25 (fun hm=>by rcases two_keys hm with e | e <;> omega)) (cred_length hsl3 _ _)) (late_nil)) fun ww hs=>?_
        refine sf_store (i:=0) hs ty56 rfl rfl rfl rfl (cred_length hsl3 _ _) (by show ((List.map Go.Fw.B _)++[wv3,pv3]).all (·.oneCell')=true; simp [hwo3,hpo3]; exact fun x _=>rfl) (by simp [shL_length]) (by rw [List.take_zero,List.nil_append,List.drop_eq_nil_of_le (by simp [shL_length]),List.append_nil]) (fun ww hs=>late_read rfl rfl (hs.know.at_ 145 _ rfl) (c_loadW ty56 ag56 (hs.ev rfl) (hs.old hb25 (fun hm=>by rcases two_keys hm with e | e <;> omega)) (cred_length hsl3 _ _)) (late_nil)) fun ww hs=>?_
        refine s_end (blk_n (then_n (wp_reg ?_)))
        refine s_q hs (c_addI (hs.ev rfl) (hs.ev rfl) (by omega) (by omega)) rfl fun ac hs=>?_
        refine zM hs fun ac hs=>?_
        refine s_end (then_n ?_)
        have t9:=tP2.next ts hs.fr (fun j hm=>two_keys hm) hb17P2 hb18P2 (k2:=k + 1) (sn2:=s2) hwP hpP hwK hpK
        replace hs:=hs.unrebase hsF.fr hsF.own
        subst hkm
        exact ⟨ids.length - (i + 1),by (try simp only); omega,(i + 1,s2,_,_),⟨rfl,by (try simp only); omega,by (try simp only); omega,⟨h20,h2W⟩,fun h=>absurd h (Nat.succ_ne_zero i),t9⟩,St.next hs ⟨rfl,rfl,rfl,rfl,rfl,rfl,rfl,rfl,rfl,rfl,rfl,rfl,trivial⟩ rfl⟩
    · try simp only [z1,z2,z3,z4,z5,z6,z7] at hc
      have tE:=tc
      obtain ⟨s9,hor9,h29⟩:=tE.or
      have hb5E:=tE.old hbb5 n5.1 n5.2.1 n5.2.2
      have hb7E:=tE.old hbb7 n7.1 n7.2.1 n7.2.2
      have hb9E:=tE.old hbb9 n9.1 n9.2.1 n9.2.2
      have hrbE:=tE.old hbbr nr.1 nr.2.1 nr.2.2
      have hfrE:=FRW tE.fb
      have hspE:=tE.sp.made
      have hldE:=fun w9 hf9=>(tE.fw hor9 h29).2.2 w9 hf9 hmne
      replace hs:=St.start hs.know ww
      refine wp_exit (then_e (then_e (blk_hit (then_n (wp_seq (wp_seq ?_))))))
      refine wp_region_rgX (J:=[11]) pmix 13 (by kernel_rfl) (by kernel_rfl) rfl rfl hs ?_
      simp only [List.take_succ_cons,List.take_zero]
      refine rg_q (fun ac ww h=>c_loadW ty23 ag23 (h.ev rfl) (h.blk (hs.old hb5E id)) (by rfl)) rfl ?_
      refine rg_call fu15 (fun ac ww h=>(.cons (h.ev rfl) .nil)) (fun ww hf=>law08_To n Sn Hn ww) rfl ?_
      refine rg_q (fun ac ww h=>c_move (h.ev rfl)) rfl ?_
      refine rg_call fu19 (fun ac ww h=>(.cons (h.ev rfl) .nil)) (fun ww hf=>spring_RootMade (⟨pg,pcg,(n:Int),Sn,Hn,sdAt (sdR sd0 n) d,d,ep⟩:Spr) ho ww (hspE.fr0 (hs.fr.trans0 hf))) rfl ?_
      refine rg_q (fun ac ww h=>c_loadW ty54 ag54 (h.ev rfl) (h.blk (hs.old hb7E id)) (by rfl)) rfl ?_
      refine rg_call fu27 (fun ac ww h=>(.cons (h.ev rfl) .nil)) (fun ww hf=>law09_To d (m:Int) sn ep sq ww) rfl ?_
      refine rg_q (fun ac ww h=>c_loadW ty66 ag66 (h.ev rfl) (h.blk (hs.old hb9E id)) (by simp [hlf])) rfl ?_
      refine rg_callE (crE 36 lf nw ws np ps) (fun _ _ _ _ _ h=>h) fu34 (fun ac ww h=>?_) rfl ?_
      · exact ⟨_,.cons (h.ev rfl) (.nil),law09_ToCred lf ws ps nw np _ _ hlf hwl hpl (by omega) (by omega) _ (hqw.fr0 (hfrE.trans0 (hs.fr.trans0 h.fr))) (hqp.fr0 (hfrE.trans0 (hs.fr.trans0 h.fr)))⟩
      refine rg_callV (c:=.tuple #[.agg ((ckR (n:Int) Sn Hn d (m:Int) sn ep sq (hRt (⟨pg,pcg,(n:Int),Sn,Hn,sdAt (sdR sd0 n) d,d,ep⟩:Spr)) lf ws nw ps np).1.map Go.Fw.B).toArray,I (ckR (n:Int) Sn Hn d (m:Int) sn ep sq (hRt (⟨pg,pcg,(n:Int),Sn,Hn,sdAt (sdR sd0 n) d,d,ep⟩:Spr)) lf ws nw ps np).2]) fu40 (fun ac ww h=>?_) rfl ?_
      · obtain ⟨u49,L49,he49,hee,hh49⟩:=h.ent (n:=155) rfl rfl
        obtain ⟨wv1,pv1,rfl,rfl⟩:=hee
        have h9:=proof_Check (n:Int) Sn Hn d (m:Int) sn ep sq (hRt (⟨pg,pcg,(n:Int),Sn,Hn,sdAt (sdR sd0 n) d,d,ep⟩:Spr)) lf ws ps nw np wv1 pv1 hRt_length hlf hwl hpl ww (Rd.of_row (hh49.holds _ (List.mem_of_getElem? (i:=1) rfl))) (Rd.of_row (hh49.holds _ (List.mem_of_getElem? (i:=0) rfl)))
        exact ⟨_,.cons (h.ev rfl) (.cons (h.ev rfl) (.cons (h.ev rfl) (.cons he49 .nil))),h9⟩
      refine rg_q (fun ac ww h=>c_move (h.ev rfl)) rfl ?_
      refine rg_q (fun ac ww h=>c_extract (h.ev rfl) rfl) rfl ?_
      refine rg_q (fun ac ww h=>c_extract (h.ev rfl) rfl) rfl ?_
      refine rg_alloc ty36 rfl ?_
      refine rg_nil fun ac ww L' hf hfe hs hlk=>?_
      simp only [List.drop_succ_cons,List.drop_zero]
      obtain ⟨v27,L27,M27,h27,e27,⟨v155,L155,M155,h155,e155,rfl,rfl⟩,rfl⟩:=hfe
      replace hs:=hs.add h27
      replace hs:=hs.add h155
      obtain ⟨g27,rfl,rfl⟩:=e27
      obtain ⟨wv9,pv9,rfl,rfl⟩:=e155
      refine sk_storeW (i:=0) hs ty36 rfl rfl rfl (by rw [List.length_map,ckR_length hlf]) (all_map_B _) rfl (fun ww hs=>late_turn rfl rfl (late_nil)) fun ww hs=>?_
      refine zA hs fun ac hs=>?_
      refine s_end ?_
      have hfrF:=hfrE.trans0 hs.fr
      replace hs:=hs.sub (F':=[(5,_),(7,_),(9,_),(11,_),(12,_),(14,_),(28,_)]) ⟨rfl,rfl,rfl,rfl,rfl,rfl,rfl,trivial⟩
      refine then_n (wp_seq (wp_reg ?_))
      by_cases hqq:lf=hLf (⟨pg,pcg,(n:Int),Sn,Hn,sdAt (sdR sd0 n) d,d,ep⟩:Spr) m sn sq∧ws=hWs (⟨pg,pcg,(n:Int),Sn,Hn,sdAt (sdR sd0 n) d,d,ep⟩:Spr) m sn sq∧ps=hPs (⟨pg,pcg,(n:Int),Sn,Hn,sdAt (sdR sd0 n) d,d,ep⟩:Spr) sq
      · refine zM hs fun ac hs=>?_
        refine s_q hs (c_neqI (hs.ev rfl) (hs.ev rfl)) rfl fun ac hs=>?_
        refine s_end ?_
        replace hs:=hs.sub (F':=[(5,_),(7,_),(9,_),(11,_),(12,_),(14,_),(160,_)]) ⟨rfl,rfl,rfl,rfl,rfl,rfl,rfl,trivial⟩
        refine then_n ?_
        refine s_cond hs rfl (fun hc=>?_) (fun hc=>?_)
        · skip
          refine wp_seq (wp_reg ?_)
          refine zA hs fun ac hs=>?_
          refine s_end ?_
          replace hs:=hs.sub (F':=[(5,_),(7,_),(9,_),(10,_),(11,_),(12,_),(14,_)]) ⟨rfl,rfl,rfl,rfl,rfl,rfl,rfl,trivial⟩
          refine then_n (wp_ret (then_r ?_))
          refine s_ret hs rfl (.tmp (hs.tmp rfl) .nil) rfl ⟨_,rfl,(hfrE.trans0 hs.fr),?_⟩
          rfl
        · skip
          have hJv:judV (ownV o d (m:Int) sn ep sq lf ws ps) (mayP (fun _=>false) [(⟨d,ep,sq,(m:Int),sn⟩:Cl)] (⟨d,ep,sq,(m:Int),sn⟩:Cl))=0:=by
            rw [hqq.1,hqq.2.1,hqq.2.2,own_yes (pg:=pg) (pcg:=pcg) hpr hoW hoS hoH hcr,may_one hmt0 (.inl rfl)]
            rfl
          have hb5F:=hs.old hb5E id
          have hb7F:=hs.old hb7E id
          have hb9F:=hs.old hb9E id
          have hrbF:=hs.old hrbE id
          have horF:=hor9.fr0 hs.fr
          have hspF:=hspE.fr0 hs.fr
          have hfwF:=fun w9 (hf9:Fr (OrM o s9) ww w9)=>hfrE.over (Fr.mono hs.fr (fun _ _=>False.elim) |>.trans hf9 fun _ _ h=>h) fun i hm=>(show w.heap.size≤i from by
            have h8:=hfrw.size
            rcases hm with e | ⟨q9,e,rfl | rfl⟩
            · omega
            · have:=(h29 q9 e).2.2.1; omega
            · have:=(h29 q9 e).2.2.2; omega)
          have hldF:=fun w9 hf9=>hldE w9 ((Fr.mono hs.fr (fun _ _=>False.elim):Fr (OrM o s9) _ _).trans hf9 fun _ _ h=>h)
          have hszF:=Nat.le_trans tE.hsz hs.fr.size
          replace hs:=St.start hs.know ww
          refine wp_skip (then_n (wp_seq ?_))
          have hK:=FwO.frKO (M:=OrM o s9) (kp:=kpO) (R:=fun _ _=>True) (B1:=ww.heap.size) (fun k hm=>by
            rcases hm with e | ⟨q9,e,hm⟩
            · obtain ⟨es,cl,h8⟩:=horF.mp.blk
              rw [e]
              exact heap_lt h8
            · obtain ⟨cs,T,fr,h1,_⟩:=spBlk (horF.sp q9 e).2.2 hm
              exact heap_lt h1) (fun _ _=>trivial) (fun _=>trivial)
          have hqwF:=fun w9 hf9=>hqw.fr0 (hfwF w9 hf9)
          have hqpF:=fun w9 hf9=>hqp.fr0 (hfwF w9 hf9)
          refine FwO.wp_region_rgO (cc:=167) pmix hK 23 (by kernel_rfl) rfl hs.know ?_
          simp only [List.take_succ_cons,List.take_zero]
          refine FwO.rg_q hK (fun ac ww h=>c_move (h.ev rfl)) rfl ?_
          refine FwO.rg_q hK (fun ac ww h=>c_move (h.ev rfl)) rfl ?_
          refine FwO.rg_q hK (fun ac ww h=>c_loadW ty54 ag54 (h.ev rfl) (h.blk hb7F) (by rfl)) rfl ?_
          refine FwO.rg_call hK fu27 (fun ac ww h=>(.cons (h.ev rfl) .nil)) (fun ww hf=>law09_To d (m:Int) sn ep sq ww) rfl ?_
          refine FwO.rg_q hK (fun ac ww h=>c_loadW ty66 ag66 (h.ev rfl) (h.blk hb9F) (by simp [hlf])) rfl ?_
          refine FwO.rg_callE hK (crE 36 lf nw ws np ps) (fun _ _ _ _ _ h=>h) fu34 (fun ac ww h=>?_) rfl ?_
          · exact ⟨_,.cons (h.ev rfl) (.nil),law09_ToCred lf ws ps nw np _ _ hlf hwl hpl (by omega) (by omega) _ (hqwF _ h.fr.1) (hqpF _ h.fr.1)⟩
          refine FwO.rg_callOneE hK fu55 (c:=I 0) (fun ac w8 h hf0=>?_) rfl ?_
          · obtain ⟨v80,L80,he80,⟨wv8,pv8,rfl,rfl⟩,hh80⟩:=h.ent (n:=166) rfl rfl
            have horW:=horF.fr0 hf0
            have h7:=row_kp (T:=36) (hh80.holds _ (List.mem_of_getElem? (i:=1) rfl)) rfl
            have h6:=row_kp (T:=36) (hh80.holds _ (List.mem_of_getElem? (i:=0) rfl)) rfl
            have q7:=Rd.of_row (hh80.holds _ (List.mem_of_getElem? (i:=1) rfl))
            have q6:=Rd.of_row (hh80.holds _ (List.mem_of_getElem? (i:=0) rfl))
            refine ⟨_,.cons (h.ev rfl) (.cons (h.ev rfl) (.cons (h.ev rfl) (.cons he80 .nil))),Calls.mono (tr_JudgeY o s9 d (m:Int) sn ep sq sz lf ws ps nw np wv8 pv8 gl mb 0 gv [(⟨d,ep,sq,(m:Int),sn⟩:Cl)] (fun _=>false) h29 hlf hwl hpl hdb w8 (Nat.le_trans hszF hf0.size) horW q7 q6 (fun w9 hf9=>q7.fr hf9 fun j hj hm=>orM_kp horW hm (h7 j hj)) (fun w9 hf9=>q6.fr hf9 fun j hj hm=>orM_kp horW hm (h6 j hj)) fun w9 hf9=>hldF w9 ((Fr.mono hf0 (fun _ _=>False.elim):Fr (OrM o s9) _ _).trans hf9 fun _ _ h=>h)) ?_⟩
            rintro e9 w9 ⟨v9,he9,hf9,hv9,hz9⟩
            exact ⟨by rw [he9,hv9,hJv],hf9,keepKB horW hf9,trivial⟩
          clear hJv
          refine FwO.rg_q hK (fun ac ww h=>c_neqI (h.ev rfl) (h.ev rfl)) rfl ?_
          refine FwO.rg_q hK (fun ac ww h=>c_move (h.ev rfl)) rfl ?_
          refine FwO.rg_no hK rfl rfl rfl rfl ?_
          refine FwO.rg_no hK rfl rfl rfl rfl ?_
          refine FwO.rg_no hK rfl rfl rfl rfl ?_
          refine FwO.rg_no hK rfl rfl rfl rfl ?_
          refine FwO.rg_no hK rfl rfl rfl rfl ?_
          refine FwO.rg_no hK rfl rfl rfl rfl ?_
          refine FwO.rg_no hK rfl rfl rfl rfl ?_
          refine FwO.rg_no hK rfl rfl rfl rfl ?_
          refine FwO.rg_no hK rfl rfl rfl rfl ?_
          refine FwO.rg_no hK rfl rfl rfl rfl ?_
          refine FwO.rg_no hK rfl rfl rfl rfl ?_
          refine FwO.rg_no hK rfl rfl rfl rfl ?_
          refine FwO.rg_no hK rfl rfl rfl rfl ?_
          refine FwO.rg_q hK (fun ac ww h=>c_pick (h.ev rfl) (h.ev rfl) (h.ev rfl)) rfl ?_
          refine FwO.rg_nil fun ac ww L' hfk hfe hkn hhas hlk=>?_
          simp only [List.drop_succ_cons,List.drop_zero]
          have hfrZ:=hfwF _ hfk.1
          replace hs:=St.start hkn ww
          refine zA hs fun ac hs=>?_
          refine s_end ?_
          replace hs:=hs.sub (F':=[(10,_)]) ⟨rfl,trivial⟩
          refine then_n (wp_ret ?_)
          refine s_ret hs rfl (.tmp (hs.tmp rfl) .nil) rfl ⟨_,rfl,(hfrZ.trans0 hs.fr),?_⟩
          rfl
      · refine zM hs fun ac hs=>?_
        refine s_q hs (c_neqI (hs.ev rfl) (hs.ev rfl)) rfl fun ac hs=>?_
        refine s_end ?_
        replace hs:=hs.sub (F':=[(5,_),(7,_),(9,_),(11,_),(12,_),(14,_),(160,_)]) ⟨rfl,rfl,rfl,rfl,rfl,rfl,rfl,trivial⟩
        refine then_n ?_
        refine s_cond hs rfl (fun hc=>?_) (fun hc=>?_)
        · skip
          refine wp_seq (wp_reg ?_)
          refine zA hs fun ac hs=>?_
          refine s_end ?_
          replace hs:=hs.sub (F':=[(5,_),(7,_),(9,_),(10,_),(11,_),(12,_),(14,_)]) ⟨rfl,rfl,rfl,rfl,rfl,rfl,rfl,trivial⟩
          refine then_n (wp_ret (then_r ?_))
          refine s_ret hs rfl (.tmp (hs.tmp rfl) .nil) rfl ⟨_,rfl,(hfrE.trans0 hs.fr),?_⟩
          rfl
        · skip
          have hJv:judV (ownV o d (m:Int) sn ep sq lf ws ps) (mayP (fun _=>false) [(⟨d,ep,sq,(m:Int),sn⟩:Cl)] (⟨d,ep,sq,(m:Int),sn⟩:Cl))=2:=by
            rw [own_no (pg:=pg) (pcg:=pcg) hpr hqq]
            rfl
          have hb5F:=hs.old hb5E id
          have hb7F:=hs.old hb7E id
          have hb9F:=hs.old hb9E id
          have hrbF:=hs.old hrbE id
          have horF:=hor9.fr0 hs.fr
          have hspF:=hspE.fr0 hs.fr
          have hfwF:=fun w9 (hf9:Fr (OrM o s9) ww w9)=>hfrE.over (Fr.mono hs.fr (fun _ _=>False.elim) |>.trans hf9 fun _ _ h=>h) fun i hm=>(show w.heap.size≤i from by
            have h8:=hfrw.size
            rcases hm with e | ⟨q9,e,rfl | rfl⟩
            · omega
            · have:=(h29 q9 e).2.2.1; omega
            · have:=(h29 q9 e).2.2.2; omega)
          have hldF:=fun w9 hf9=>hldE w9 ((Fr.mono hs.fr (fun _ _=>False.elim):Fr (OrM o s9) _ _).trans hf9 fun _ _ h=>h)
          have hszF:=Nat.le_trans tE.hsz hs.fr.size
          replace hs:=St.start hs.know ww
          have hck0:(ckR (n:Int) Sn Hn d (m:Int) sn ep sq (hRt (⟨pg,pcg,(n:Int),Sn,Hn,sdAt (sdR sd0 n) d,d,ep⟩:Spr)) lf ws nw ps np).2=0:=by simpa using hc
          have hlv3:=(lvOf_spec (p:=(⟨pg,pcg,(n:Int),Sn,Hn,sdAt (sdR sd0 n) d,d,ep⟩:Spr)) hlv).2
          have hclash:clash (txs (⟨pg,pcg,(n:Int),Sn,Hn,sdAt (sdR sd0 n) d,d,ep⟩:Spr) m sq) (cks (⟨pg,pcg,(n:Int),Sn,Hn,sdAt (sdR sd0 n) d,d,ep⟩:Spr) m sn sq lf ws nw ps np)=true:=by
            rw [← Bool.not_eq_false]
            intro h9
            exact hqq (sound_shown (p:=(⟨pg,pcg,(n:Int),Sn,Hn,sdAt (sdR sd0 n) d,d,ep⟩:Spr)) ho hcr hlf hwl hpl hck0 h9)
          clear hck0 hc
          refine wp_skip (then_n (wp_seq ?_))
          have hK:=FwO.frKO (M:=OrM o s9) (kp:=kpO) (R:=fun _ _=>True) (B1:=ww.heap.size) (fun k hm=>by
            rcases hm with e | ⟨q9,e,hm⟩
            · obtain ⟨es,cl,h8⟩:=horF.mp.blk
              rw [e]
              exact heap_lt h8
            · obtain ⟨cs,T,fr,h1,_⟩:=spBlk (horF.sp q9 e).2.2 hm
              exact heap_lt h1) (fun _ _=>trivial) (fun _=>trivial)
          have hqwF:=fun w9 hf9=>hqw.fr0 (hfwF w9 hf9)
          have hqpF:=fun w9 hf9=>hqp.fr0 (hfwF w9 hf9)
          refine FwO.wp_region_rgO (cc:=167) pmix hK 23 (by kernel_rfl) rfl hs.know ?_
          simp only [List.take_succ_cons,List.take_zero]
          refine FwO.rg_q hK (fun ac ww h=>c_move (h.ev rfl)) rfl ?_
          refine FwO.rg_q hK (fun ac ww h=>c_move (h.ev rfl)) rfl ?_
          refine FwO.rg_q hK (fun ac ww h=>c_loadW ty54 ag54 (h.ev rfl) (h.blk hb7F) (by rfl)) rfl ?_
          refine FwO.rg_call hK fu27 (fun ac ww h=>(.cons (h.ev rfl) .nil)) (fun ww hf=>law09_To d (m:Int) sn ep sq ww) rfl ?_
          refine FwO.rg_q hK (fun ac ww h=>c_loadW ty66 ag66 (h.ev rfl) (h.blk hb9F) (by simp [hlf])) rfl ?_
          refine FwO.rg_callE hK (crE 36 lf nw ws np ps) (fun _ _ _ _ _ h=>h) fu34 (fun ac ww h=>?_) rfl ?_
          · exact ⟨_,.cons (h.ev rfl) (.nil),law09_ToCred lf ws ps nw np _ _ hlf hwl hpl (by omega) (by omega) _ (hqwF _ h.fr.1) (hqpF _ h.fr.1)⟩
          refine FwO.rg_callOneE hK fu55 (c:=I 2) (fun ac w8 h hf0=>?_) rfl ?_
          · obtain ⟨v80,L80,he80,⟨wv8,pv8,rfl,rfl⟩,hh80⟩:=h.ent (n:=166) rfl rfl
            have horW:=horF.fr0 hf0
            have h7:=row_kp (T:=36) (hh80.holds _ (List.mem_of_getElem? (i:=1) rfl)) rfl
            have h6:=row_kp (T:=36) (hh80.holds _ (List.mem_of_getElem? (i:=0) rfl)) rfl
            have q7:=Rd.of_row (hh80.holds _ (List.mem_of_getElem? (i:=1) rfl))
            have q6:=Rd.of_row (hh80.holds _ (List.mem_of_getElem? (i:=0) rfl))
            refine ⟨_,.cons (h.ev rfl) (.cons (h.ev rfl) (.cons (h.ev rfl) (.cons he80 .nil))),Calls.mono (tr_JudgeY o s9 d (m:Int) sn ep sq sz lf ws ps nw np wv8 pv8 gl mb 0 gv [(⟨d,ep,sq,(m:Int),sn⟩:Cl)] (fun _=>false) h29 hlf hwl hpl hdb w8 (Nat.le_trans hszF hf0.size) horW q7 q6 (fun w9 hf9=>q7.fr hf9 fun j hj hm=>orM_kp horW hm (h7 j hj)) (fun w9 hf9=>q6.fr hf9 fun j hj hm=>orM_kp horW hm (h6 j hj)) fun w9 hf9=>hldF w9 ((Fr.mono hf0 (fun _ _=>False.elim):Fr (OrM o s9) _ _).trans hf9 fun _ _ h=>h)) ?_⟩
            rintro e9 w9 ⟨v9,he9,hf9,hv9,hz9⟩
            exact ⟨by rw [he9,hv9,hJv],hf9,keepKB horW hf9,trivial⟩
          clear hJv
          refine FwO.rg_q hK (fun ac ww h=>c_neqI (h.ev rfl) (h.ev rfl)) rfl ?_
          refine FwO.rg_q hK (fun ac ww h=>c_move (h.ev rfl)) rfl ?_
          refine FwO.rg_yes hK rfl rfl (fun ac ww h=>c_loadW ty23 ag23 (h.ev rfl) (h.blk hb5F) (by rfl)) rfl ?_
          refine FwO.rg_yes hK rfl rfl (fun ac ww h=>c_move (h.ev rfl)) rfl ?_
          refine FwO.rg_yes hK rfl rfl (fun ac ww h=>c_fld fl54_0 (h.ev rfl)) rfl ?_
          refine FwO.rg_yes hK rfl rfl (fun ac ww h=>c_loadS un3 rfl (h.ev rfl) (h.blk hb7F) (show _=some (I d) from rfl)) rfl ?_
          refine FwO.rg_yes hK rfl rfl (fun ac ww h=>c_idxS (j:=d.toNat) un100 ty24 (h.ev rfl) (h.ev rfl) hdZ hdn) rfl ?_
          refine FwO.rg_yes hK rfl rfl (fun ac ww h=>c_loadA ty24 rfl (h.ev rfl) (h.blk hrbF) hpc (show (List.map Go.Fw.B (sdAt (sdR sd0 n) d)).length=32 by rw [List.length_map,hsl])) rfl ?_
          refine FwO.rg_yes hK rfl rfl (fun ac ww h=>c_loadW ty54 ag54 (h.ev rfl) (h.blk hb7F) (by rfl)) rfl ?_
          refine FwO.rg_strip rfl rfl ?_
          refine FwO.rg_callE hK (textsE 177 5 (txs (⟨pg,pcg,(n:Int),Sn,Hn,sdAt (sdR sd0 n) d,d,ep⟩:Spr) m sq)) (fun _ _ _ _ _ h=>h) fu42 (fun ac ww h=>?_) rfl ?_
          · exact ⟨_,.cons (h.ev rfl) (.cons (h.ev rfl) (.cons (h.ev rfl) (.nil))),ref09_Texts (⟨pg,pcg,(n:Int),Sn,Hn,sdAt (sdR sd0 n) d,d,ep⟩:Spr) ho m sn sq hcr _⟩
          refine FwO.rg_yes hK rfl rfl (fun ac ww h=>c_loadW ty23 ag23 (h.ev rfl) (h.blk hb5F) (by rfl)) rfl ?_
          refine FwO.rg_yes hK rfl rfl (fun ac ww h=>c_loadW ty54 ag54 (h.ev rfl) (h.blk hb7F) (by rfl)) rfl ?_
          refine FwO.rg_yes hK rfl rfl (fun ac ww h=>c_loadW ty66 ag66 (h.ev rfl) (h.blk hb9F) (by simp [hlf])) rfl ?_
          refine FwO.rg_strip rfl rfl ?_
          refine FwO.rg_callE hK (textsE 177 5 (cks (⟨pg,pcg,(n:Int),Sn,Hn,sdAt (sdR sd0 n) d,d,ep⟩:Spr) m sn sq lf ws nw ps np)) (fun _ _ _ _ _ h=>h) fu43 (fun ac ww h=>?_) rfl ?_
          · exact ⟨_,.cons (h.ev rfl) (.cons (h.ev rfl) (.cons (h.ev rfl) (.nil))),ref09_Checked (⟨pg,pcg,(n:Int),Sn,Hn,sdAt (sdR sd0 n) d,d,ep⟩:Spr) ho m sn sq lf ws ps nw np _ _ hcr hlf hwl hpl (by omega) (by omega) _ (hqwF _ h.fr.1) (hqpF _ h.fr.1)⟩
          refine FwO.rg_strip rfl rfl ?_
          refine FwO.rg_callV hK (c:=.bool true) fu41 (fun ac ww h=>?_) rfl ?_
          · obtain ⟨u177,L177,he177,⟨ps1,hps1,rfl⟩,hh177⟩:=h.ent (n:=177) rfl rfl
            obtain ⟨u181,L181,he181,⟨ps2,hps2,rfl⟩,hh181⟩:=h.ent (n:=181) rfl rfl
            have h9:=ref06_Clash ps1 ps2 _ _ (good_of hps1 (by have:=txs_le (p:=(⟨pg,pcg,(n:Int),Sn,Hn,sdAt (sdR sd0 n) d,d,ep⟩:Spr)) ho hlv3 m sq; omega) (txs_good (⟨pg,pcg,(n:Int),Sn,Hn,sdAt (sdR sd0 n) d,d,ep⟩:Spr) m sq)) (good_of hps2 (by have:=cks_le (p:=(⟨pg,pcg,(n:Int),Sn,Hn,sdAt (sdR sd0 n) d,d,ep⟩:Spr)) (m:=m) (sn:=sn) (sq:=sq) (lf:=lf) (ws:=ws) (ps:=ps) (nw:=nw) (np:=np) ho hlv3; omega) (cks_good hlf hwl)) _ (RdP.texts (hh177.holds _ (List.mem_of_getElem? (i:=0) rfl))) (RdP.texts (hh181.holds _ (List.mem_of_getElem? (i:=0) rfl)))
            rw [hps1,hps2,hclash] at h9
            exact ⟨_,.cons he177 (.cons he181 .nil),h9⟩
          refine FwO.rg_q hK (fun ac ww h=>c_pick (h.ev rfl) (h.ev rfl) (h.ev rfl)) rfl ?_
          refine FwO.rg_nil fun ac ww L' hfk hfe hkn hhas hlk=>?_
          simp only [List.drop_succ_cons,List.drop_zero]
          have hfrZ:=hfwF _ hfk.1
          replace hs:=St.start hkn ww
          refine zA hs fun ac hs=>?_
          refine s_end ?_
          replace hs:=hs.sub (F':=[(10,_)]) ⟨rfl,trivial⟩
          refine then_n (wp_ret ?_)
          refine s_ret hs rfl (.tmp (hs.tmp rfl) .nil) rfl ⟨_,rfl,(hfrZ.trans0 hs.fr),?_⟩
          rfl
end Go.Proofs.YtklajbdbnnceiaaGreat
end
