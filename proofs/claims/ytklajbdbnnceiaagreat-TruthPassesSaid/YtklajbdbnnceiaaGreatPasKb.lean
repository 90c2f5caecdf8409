/- Own texts of this seat,laid together for one claim (with what its proof uses alone). -/
import Derived.Test.YtklajbdbnnceiaaGreatPasKa
set_option linter.unusedSimpArgs false
set_option linter.unusedVariables false
set_option maxRecDepth 100000
set_option maxHeartbeats 4000000
set_option maxHeartbeats 1600000
section
/- Things joined; slices of slices of bytes that grow,with all that they own. -/
namespace Go.Fw
open Go
def Ent.none:Ent:=.pr (fun _=>False) (fun _=>True) fun _ _ _ _=>trivial
theorem apart_at {L:List Ent} (h:L.Pairwise Ent.apart) {i j:Nat} {a b:Ent} (hi:L[i]?=some a) (hj:L[j]?=some b) (hij:i ≠ j):a.apart b:=by
  rcases Nat.lt_or_gt_of_ne hij with h1 | h1
  · exact pairwise_at h hi hj h1
  · exact Ent.apart_symm (pairwise_at h hj hi h1)
theorem set2_at {L:List Ent} {i j p:Nat} {e x:Ent} (hi:i < L.length) (hj:j < L.length) (h:((L.set i e).set j .none)[p]?=some x):x=.none∨(p=i∧x=e)∨(p ≠ i∧p ≠ j∧L[p]?=some x):=by
  by_cases h1:p=j
  · subst h1; left
    rw [List.getElem?_set_self (by simpa using hj)] at h
    exact (Option.some.inj h).symm
  · rw [List.getElem?_set_ne (Ne.symm h1)] at h
    by_cases h2:p=i
    · subst h2; right; left
      rw [List.getElem?_set_self hi] at h
      exact ⟨rfl,(Option.some.inj h).symm⟩
    · rw [List.getElem?_set_ne (Ne.symm h2)] at h
      exact .inr (.inr ⟨h2,h1,h⟩)
theorem Has.join {B:Nat} {w:World} {L:List Ent} {i j:Nat} {a b e:Ent} (h:Has B w L) (hi:L[i]?=some a) (hj:L[j]?=some b) (hij:i ≠ j) (he:e.holds w) (hk:∀ k,e.keys k→a.keys k∨b.keys k):Has B w ((L.set i e).set j .none):=by
  have li:=(List.getElem?_eq_some_iff.1 hi).1
  have lj:=(List.getElem?_eq_some_iff.1 hj).1
  have mem:∀ x∈(L.set i e).set j .none,∃ p,((L.set i e).set j .none)[p]?=some x:=fun x hx=>by
    obtain ⟨p,hp,rfl⟩:=List.getElem_of_mem hx
    exact ⟨p,List.getElem?_eq_getElem hp⟩
  have key:∀ (p q:Nat) (x y:Ent),((L.set i e).set j .none)[p]?=some x→((L.set i e).set j .none)[q]?=some y→p ≠ q→Ent.apart x y:=by
    intro p q x y hp hq hpq
    rcases set2_at li lj hp with rfl | ⟨h1,rfl⟩ | ⟨h1,h2,h3⟩
    · exact fun k hk _=>hk
    · rcases set2_at li lj hq with rfl | ⟨h4,_⟩ | ⟨h4,h5,h6⟩
      · exact fun k _ hk=>hk
      · exact absurd (h1.trans h4.symm) hpq
      · exact fun k hxk hyk=>(hk k hxk).elim (fun r=>apart_at h.apart hi h6 (Ne.symm h4) k r hyk) (fun r=>apart_at h.apart hj h6 (Ne.symm h5) k r hyk)
    · rcases set2_at li lj hq with rfl | ⟨h4,rfl⟩ | ⟨h4,h5,h6⟩
      · exact fun k _ hk=>hk
      · exact fun k hxk hyk=>(hk k hyk).elim (fun r=>apart_at h.apart hi h3 (Ne.symm h1) k r hxk) (fun r=>apart_at h.apart hj h3 (Ne.symm h2) k r hxk)
      · exact apart_at h.apart h3 h6 hpq
  refine ⟨fun x hx=>?_,?_,fun x hx k hxk=>?_,fun x hx k hxk=>?_⟩
  · obtain ⟨p,hp⟩:=mem x hx
    rcases set2_at li lj hp with rfl | ⟨_,rfl⟩ | ⟨_,_,h1⟩
    · trivial
    · exact he
    · exact h.holds x (List.mem_of_getElem? h1)
  · exact List.pairwise_iff_getElem.2 fun p q hp hq hpq=>key p q _ _ (List.getElem?_eq_getElem hp) (List.getElem?_eq_getElem hq) (by omega)
  · obtain ⟨p,hp⟩:=mem x hx
    rcases set2_at li lj hp with rfl | ⟨_,rfl⟩ | ⟨_,_,h1⟩
    · exact hxk.elim
    · exact (hk k hxk).elim (h.lt a (List.mem_of_getElem? hi) k) (h.lt b (List.mem_of_getElem? hj) k)
    · exact h.lt x (List.mem_of_getElem? h1) k hxk
  · obtain ⟨p,hp⟩:=mem x hx
    rcases set2_at li lj hp with rfl | ⟨_,rfl⟩ | ⟨_,_,h1⟩
    · exact hxk.elim
    · exact (hk k hxk).elim (h.ge a (List.mem_of_getElem? hi) k) (h.ge b (List.mem_of_getElem? hj) k)
    · exact h.ge x (List.mem_of_getElem? h1) k hxk
theorem Has.cons {B:Nat} {w:World} {L:List Ent} {e:Ent} (h:Has B w L) (he:e.holds w) (hlt:∀ k,e.keys k→k < w.heap.size) (hge:∀ k,e.keys k→B≤k) (hap:∀ x∈L,e.apart x):Has B w (e::L) :=
  ⟨fun x hx=>(List.mem_cons.1 hx).elim (fun r=>r ▸ he) (h.holds x),List.pairwise_cons.2 ⟨hap,h.apart⟩,fun x hx=>(List.mem_cons.1 hx).elim (fun r=>r ▸ hlt) (h.lt x),fun x hx=>(List.mem_cons.1 hx).elim (fun r=>r ▸ hge) (h.ge x)⟩
def Ent.part (T:TypeId) (q:Value × List UInt8):Ent:=.row q.1 q.2.length (q.2.map B) T 1
def Ent.partS (T:TypeId) (sz:Nat) (q:Value × Nat × List UInt8):Ent:=.row q.1 q.2.1 (q.2.2.map B) T sz
def textsL {α:Type} (E:TypeId) (pt:Value × α→Ent) (v:Value) (ps:List (Value × α)):List Ent:=.row v ps.length (ps.map (·.1)) E 1::ps.map pt
def Ent.texts {α:Type} (E:TypeId) (pt:Value × α→Ent) (v:Value) (ps:List (Value × α)):Ent:=.grp (textsL E pt v ps)
theorem RdP.texts {E T:TypeId} {v:Value} {ps:List (Value × List UInt8)} {w:World} (h:(Ent.texts E (Ent.part T) v ps).holds w):RdP w v ps:=by
  have h:Has 0 w (textsL E (Ent.part T) v ps):=h
  have h0:w.ownsRow 0 E 1 v ps.length (ps.map (fun q=>q.1)):=h.holds (.row v ps.length (ps.map (fun q:Value × List UInt8=>q.1)) E 1) (by simp [textsL])
  refine ⟨Rd.of_row h0,fun q hq=>RdB.row (T:=T) (h.holds (Ent.part T q) (by simp only [textsL,List.mem_cons,List.mem_map]; exact .inr ⟨q,hq,rfl⟩))⟩
theorem Has.parts {α:Type} {B:Nat} {E:TypeId} {pt:Value × α→Ent} {v:Value} {ps:List (Value × α)} {w:World} (h:Has B w (textsL E pt v ps)):Has B w (ps.map pt):=h.pick (List.sublist_cons_self _ _)
section
variable {P:Program} {ops:Array Oper} {Q:Exit→Act→World→Prop} {rest:List Oper} {N:Nat} {F F':List (Nat × Value)} {L L':List Ent} {M:Nat→Prop} {w0 w:World} {a:Act}
variable {d:Tmp} {op:Op} {ty:TypeId} {pos:String} {aft:Array Edge} {x y z:Operand} {t u:TypeId}
theorem St.join {i j:Nat} {b c e:Ent} (hs:St N F L M w0 a w) (hi:L[i]?=some b) (hj:L[j]?=some c) (hij:i ≠ j) (he:e.holds w) (hk:∀ k,e.keys k→b.keys k∨c.keys k):St N F ((L.set i e).set j .none) M w0 a w:=by
  refine ⟨hs.know,hs.has.join hi hj hij he hk,fun x hx k hxk=>?_,hs.fr⟩
  obtain ⟨p,hp,rfl⟩:=List.getElem_of_mem hx
  rcases set2_at (List.getElem?_eq_some_iff.1 hi).1 (List.getElem?_eq_some_iff.1 hj).1 (List.getElem?_eq_getElem hp) with h | ⟨_,h⟩ | ⟨_,_,h⟩
  · rw [h] at hxk; exact hxk.elim
  · rw [h] at hxk
    exact (hk k hxk).elim (hs.own b (List.mem_of_getElem? hi) k) (hs.own c (List.mem_of_getElem? hj) k)
  · exact hs.own _ (List.mem_of_getElem? h) k hxk
theorem St.grpn {A:List Ent} (hs:St N F (A++L) M w0 a w):St N F (.grp A::L) M w0 a w:=by
  obtain ⟨h1,h2⟩:=hs.has.cons_app
  refine ⟨hs.know,h2.cons h1 (grp_lt h1) (fun _ _=>Nat.zero_le _) fun x hx k ⟨e,he,hk⟩ hxk=>(List.pairwise_append.1 hs.has.apart).2.2 e he x hx k hk hxk,fun x hx k hxk=>?_,hs.fr⟩
  rcases List.mem_cons.1 hx with rfl | hx
  · obtain ⟨e,he,hk⟩:=hxk
    exact hs.own e (List.mem_append.2 (.inl he)) k hk
  · exact hs.own x (List.mem_append.2 (.inr hx)) k hxk
theorem St.texts0 {α:Type} (hs:St N F L M w0 a w) (E:TypeId) (pt:Value × α→Ent):St N F (.texts E pt (.slice none 0 0) []::L) M w0 a w:=St.grpn (A:=textsL E pt (.slice none 0 0) []) (hs.nilrow E 1)
theorem s_appG {α:Type} {pt:Value × α→Ent} {i j bytes:Nat} {s0 x0:Operand} {E:TypeId} {ed:TypeDesc} {zs:List Value} {ps qs:List (Value × α)} {v u:Value} {b:Ent} (hs:St N F L M w0 a w) (hu:P.underlying t=some (.slice E)) (hE:Ty P E ed 1 bytes zs)
    (hv:ev F s0=some v) (hx:ev F x0=some u) (hi:L[i]?=some (.texts E pt v ps)) (hj:L[j]?=some b) (hij:Nat.beq i j=false) (hb:Has 0 w (qs.map pt)) (hbk:∀ q∈qs,∀ k,(pt q).keys k→b.keys k)
    (hr:Rd w u qs.length (qs.map (·.1))) (h1:(qs.map (·.1)).all (·.oneCell')=true) (hml:ps.length + qs.length≤maxLen) (hby:(ps.length + qs.length) * bytes≤140737488355328) (hd:Nat.blt d N=true)
    (k:∀ a w' v',St N ((d,v')::F) ((L.set i (.texts E pt v' (ps++qs))).set j .none) M w0 a w'→wpList P ops Q rest a w') :
    wpList P ops Q (⟨some d,.call { callee:=.builtin .append,args:=#[s0,x0],argTypes:=#[t,t] },ty,pos,aft,none⟩::rest) a w:=by
  have hij:i ≠ j:=fun e=>by simp [e] at hij
  have hA:Has 0 w (textsL E pt v ps):=hs.get hi
  have hown:w.ownsRow 0 E 1 v ps.length (ps.map (·.1)):=hA.holds (.row v ps.length (ps.map (fun q:Value × α=>q.1)) E 1) (by simp [textsL])
  obtain ⟨v',w',hrun,ho,hg,_,hblk⟩:=run_append2 (P:=P) (w:=w) (ty:=ty) hu hE (by decide) hown hr (by simp) h1 hml hby
  have hrun':(execOp a.eval ⟨some d,.call { callee:=.builtin .append,args:=#[s0,x0],argTypes:=#[t,t] },ty,pos,aft,none⟩).run P w=.ok (.value v') w':=by
    simp [execOp,resolve,invoke,builtin,hs.ev hv,hs.ev hx,hrun]
  have hap:(Ent.texts E pt v ps).apart b:=apart_at hs.has.apart hi hj hij
  have hfr:=Fr.grown hg
  have hrow:∀ k,v.ownBlock=some k→(Ent.texts E pt v ps).keys k:=fun k hk=>⟨.row v ps.length (ps.map (fun q:Value × α=>q.1)) E 1,by simp [textsL],hk⟩
  have hpk:∀ q∈ps,∀ k,(pt q).keys k→(Ent.texts E pt v ps).keys k:=fun q hq k hk=>⟨pt q,by simp only [textsL,List.mem_cons,List.mem_map]; exact .inr ⟨q,hq,rfl⟩,hk⟩
  have hne:∀ e∈ps.map pt++qs.map pt,∀ k,e.keys k→¬ v.ownBlock=some k:=by
    intro e he k hk hvk
    rcases List.mem_append.1 he with he | he
    · exact (List.pairwise_cons.1 hA.apart).1 e he k hvk hk
    · obtain ⟨q,hq,rfl⟩:=List.mem_map.1 he
      exact hap k (hrow k hvk) (hbk q hq k hk)
  have hmid:Has 0 w (ps.map pt++qs.map pt):=by
    have h2:=hA.parts
    refine ⟨fun e he=>?_,List.pairwise_append.2 ⟨h2.apart,hb.apart,fun x hx y hy k hxk hyk=>?_⟩,fun e he k hk=>?_,fun _ _ _ _=>Nat.zero_le _⟩
    · exact (List.mem_append.1 he).elim (h2.holds e) (hb.holds e)
    · obtain ⟨p,hp,rfl⟩:=List.mem_map.1 hx
      obtain ⟨q,hq,rfl⟩:=List.mem_map.1 hy
      exact hap k (hpk p hp k hxk) (hbk q hq k hyk)
    · exact (List.mem_append.1 he).elim (fun r=>h2.lt e r k hk) (fun r=>hb.lt e r k hk)
  have hmid':Has 0 w' (ps.map pt++qs.map pt):=hmid.same hfr.size fun e he k hk=>hfr.block k (hmid.lt e he k hk) fun hm=>hne e he k hk hm
  have hnew:Has 0 w' (textsL E pt v' (ps++qs)):=by
    have ho2:w'.ownsRow 0 E 1 v' (ps++qs).length ((ps++qs).map (·.1)):=by rw [List.length_append,List.map_append]; exact ho
    have:=hmid'.cons (e:=.row v' (ps++qs).length ((ps++qs).map (fun q:Value × α=>q.1)) E 1) ho2 (fun k hk=>ownBlock_row ho2 k hk) (fun _ _=>Nat.zero_le _) fun e he k hk hek=>by
      rcases hblk k hk with h3 | h3
      · exact hne e he k hek h3
      · have:=hmid.lt e he k hek; omega
    rw [← List.map_append] at this
    exact this
  refine wpList_plain rfl fun K hK=>upon_value hrun' (hK _ _ (k _ _ v' (St.put ?_ (lt_of_blt hd) v')))
  have hL:Has 0 w [Ent.texts E pt v ps,b]:=((Has.nil 0 w).cons (hs.get hj) (hs.has.lt b (List.mem_of_getElem? hj)) (fun _ _=>Nat.zero_le _) (by simp)).cons (hs.get hi) (hs.has.lt _ (List.mem_of_getElem? hi)) (fun _ _=>Nat.zero_le _) (by intro x hx; simp at hx; subst hx; exact hap)
  have hs1:=hs.join (e:=.grp [Ent.texts E pt v ps,b]) hi hj hij hL (fun k ⟨e,he,hk⟩=>by
    rcases List.mem_cons.1 he with rfl | he
    · exact .inl hk
    · rcases List.mem_cons.1 he with rfl | he
      · exact .inr hk
      · cases he)
  have li:=(List.getElem?_eq_some_iff.1 hi).1
  have hi1:((L.set i (.grp [Ent.texts E pt v ps,b])).set j .none)[i]?=some (.grp [Ent.texts E pt v ps,b]):=by
    rw [List.getElem?_set_ne (Ne.symm hij),List.getElem?_set_self li]
  have hs2:=hs1.mod (w':=w') (e':=.texts E pt v' (ps++qs)) hi1 (hfr.mono fun k _ hk=>⟨_,List.mem_cons_self,hrow k hk⟩) hnew fun k hk=>by
    refine ⟨?_,grp_lt hnew k hk⟩
    obtain ⟨e,he,hek⟩:=hk
    simp only [textsL,List.mem_cons,List.mem_map] at he
    rcases he with rfl | ⟨q,hq,rfl⟩
    · exact (hblk k hek).imp (fun r=>⟨_,List.mem_cons_self,hrow k r⟩) id
    · rcases List.mem_append.1 hq with hq | hq
      · exact .inl ⟨_,List.mem_cons_self,hpk q hq k hek⟩
      · exact .inl ⟨b,by simp,hbk q hq k hek⟩
  refine hs2.toL ?_
  rw [List.set_comm _ _ hij,List.set_set,List.set_comm _ _ hij.symm]
theorem s_appT {i j g:Nat} {s0 x0:Operand} {E T T':TypeId} {ed:TypeDesc} {zs:List Value} {ps:List (Value × List UInt8)} {v tv:Value} {l:List UInt8} (hs:St N F L M w0 a w) (hu:P.underlying t=some (.slice E)) (hE:Ty P E ed 1 24 zs)
    (hv:ev F s0=some v) (hx:ev F x0=some (.slice (some ⟨g,0,none⟩) 1 1)) (hi:L[i]?=some (.texts E (Ent.part T) v ps)) (hj:L[j]?=some (.row tv l.length (l.map B) T 1)) (hij:Nat.beq i j=false)
    (hg:w.heap[g]?=some (.cells #[tv] T' (0,0))) (h1:tv.oneCell'=true) (hml:ps.length≤1000000) (hd:Nat.blt d N=true)
    (k:∀ a w' v',St N ((d,v')::F) ((L.set i (.texts E (Ent.part T) v' (ps++[(tv,l)]))).set j .none) M w0 a w'→wpList P ops Q rest a w') :
    wpList P ops Q (⟨some d,.call { callee:=.builtin .append,args:=#[s0,x0],argTypes:=#[t,t] },ty,pos,aft,none⟩::rest) a w :=
  s_appG (qs:=[(tv,l)]) (b:=.row tv l.length (l.map B) T 1) hs hu hE hv hx hi hj hij
    (by
      have:=hs.has.lt _ (List.mem_of_getElem? hj)
      exact (Has.nil 0 w).cons (hs.get hj) this (fun _ _=>Nat.zero_le _) (by simp))
    (fun q hq k hk=>by simp only [List.mem_singleton] at hq; subst hq; exact hk)
    (Rd.of_seg (all:=[tv]) hg (Nat.le_refl _) (by decide) rfl) (by simpa using h1) (by simp only [List.length_cons,List.length_nil,maxLen]; omega) (by simp only [List.length_cons,List.length_nil]; omega) hd k
theorem s_appTT {i j:Nat} {s0 x0:Operand} {E T:TypeId} {ed:TypeDesc} {zs:List Value} {ps qs:List (Value × List UInt8)} {v u:Value} (hs:St N F L M w0 a w) (hu:P.underlying t=some (.slice E)) (hE:Ty P E ed 1 24 zs)
    (hv:ev F s0=some v) (hx:ev F x0=some u) (hi:L[i]?=some (.texts E (Ent.part T) v ps)) (hj:L[j]?=some (.texts E (Ent.part T) u qs)) (hij:Nat.beq i j=false) (h1:(qs.map (·.1)).all (·.oneCell')=true) (hml:ps.length + qs.length≤1000000) (hd:Nat.blt d N=true)
    (k:∀ a w' v',St N ((d,v')::F) ((L.set i (.texts E (Ent.part T) v' (ps++qs))).set j .none) M w0 a w'→wpList P ops Q rest a w') :
    wpList P ops Q (⟨some d,.call { callee:=.builtin .append,args:=#[s0,x0],argTypes:=#[t,t] },ty,pos,aft,none⟩::rest) a w :=
  s_appG (qs:=qs) (b:=.texts E (Ent.part T) u qs) hs hu hE hv hx hi hj hij (Has.parts (E:=E) (pt:=Ent.part T) (v:=u) (hs.get hj))
    (fun q hq k hk=>⟨Ent.part T q,by simp only [textsL,List.mem_cons,List.mem_map]; exact .inr ⟨q,hq,rfl⟩,hk⟩)
    (RdP.texts (hs.get hj)).1 h1 (by simp only [maxLen]; omega) (by omega) hd k
theorem Rd.one {w:World} {v:Value} {n:Nat} {cs:List Value} (h:Rd w v n cs):v.oneCell'=true:=by
  obtain ⟨ad,cap,rfl,_⟩:=h
  rfl
theorem RdP.ones {w:World} {v:Value} {ps:List (Value × List UInt8)} (h:RdP w v ps):(ps.map (·.1)).all (·.oneCell')=true:=by
  rw [List.all_eq_true]
  intro x hx
  obtain ⟨q,hq,rfl⟩:=List.mem_map.1 hx
  exact (h.2 q hq).one
end
def textsE (E T:TypeId) (ls:List (List UInt8)):Value→List Ent→World→Prop:=fun v L _=>∃ ps:List (Value × List UInt8),ps.map (·.2)=ls∧L=[.texts E (Ent.part T) v ps]
end Go.Fw
end

section
/- Slices made with room. -/
namespace Go.Fw
open Go
section
variable {P:Program} {ops:Array Oper} {Q:Exit→Act→World→Prop} {rest:List Oper} {N:Nat} {F F':List (Nat × Value)} {L L':List Ent} {M:Nat→Prop} {w0 w:World} {a:Act}
variable {d:Tmp} {op:Op} {ty:TypeId} {pos:String} {aft:Array Edge} {x y z:Operand} {t u:TypeId}
theorem s_makeC {E:TypeId} {ed:TypeDesc} {sz bytes m:Nat} {zs:List Value} {k1 k2:IntKind} {i1 i2:Int} (hs:St N F L M w0 a w) (hu:P.underlying t=some (.slice E)) (hE:Ty P E ed sz bytes zs) (h1:ev F x=some (.int k1 i1)) (h2:ev F y=some (.int k2 i2))
    (hi1:i1=0) (hi2:i2=(m:Int)) (hby:bytes * m≤281474976710656) (h63:m≤maxLen) (hd:Nat.blt d N=true)
    (k:∀ a w gb,St N ((d,.slice (some ⟨gb,0,none⟩) 0 m)::F) (.row (.slice (some ⟨gb,0,none⟩) 0 m) 0 [] E sz::L) M w0 a w→wpList P ops Q rest a w) :
    wpList P ops Q (⟨some d,.makeSlice t x y,ty,pos,aft,none⟩::rest) a w:=by
  subst hi1; subst hi2
  obtain ⟨inf,hi1,hi2,hi3,zv,hi4,hi5⟩:=hE.info
  have h63':(m:Int)≤9223372036854775807:=by simp only [maxLen] at h63; omega
  have hb':(inf.bytes:Int) * (m:Int)≤281474976710656:=by
    have h:((bytes * m:Nat):Int)≤281474976710656:=by omega
    rwa [Int.natCast_mul,← hi3] at h
  have hr:=run_make (P:=P) w t E inf zv hu hi1 hi4 k1 k2 0 m (Int.le_refl _) (by omega) hb' h63'
  simp only [Int.toNat_natCast,Int.toNat_zero] at hr
  refine s_new hs (L':=[.row (.slice (some ⟨w.heap.size,0,none⟩) 0 m) 0 [] E sz]) (w':=w.alloc (.cells (madeCells zv.cells (m * inf.size)) E)) ?_ hd (.alloc _ _) ?_ fun a hs=>k a _ _ hs
  · simp [execOp,hs.ev h1,hs.ev h2,hr]
  · refine ⟨?_,List.pairwise_singleton _ _,?_,?_⟩
    · intro e he; simp at he; subst he
      exact ⟨by simp,.inr ⟨_,m,_,rfl,Nat.zero_le _,heap_alloc_new w _,Nat.zero_le _,h63,by simp [madeCells,hi2],by simp⟩⟩
    · intro e he k hk; simp at he; subst he
      simp [Ent.keys,Value.ownBlock] at hk
      subst hk; simp
    · intro e he k hk; simp at he; subst he
      simp [Ent.keys,Value.ownBlock] at hk
      subst hk; simp
end
end Go.Fw
end

section
/- Two results,the first one known. -/
namespace Go.Fw
open Go
def tupE (c:Value) (E:Value→List Ent→World→Prop):Value→List Ent→World→Prop:=fun v L w=>∃ tv,v=.tuple #[c,tv]∧E tv L w
def isTup (c:Value) (v:Value):Prop:=∃ tv,v=.tuple #[c,tv]
section
variable {P:Program} {ops:Array Oper} {N B1:Nat} {w1:World} {K:List (Nat × Value)→Fes→Prop} {Fc:List (Nat × Value)} {Fe:Fes} {rest:List Oper}
variable {d:Tmp} {op:Op} {ty:TypeId} {pos:String} {aft:Array Edge} {x y z:Operand} {t u:TypeId}
theorem rg_moveT {s:Nat} {c:Value} {E:Value→List Ent→World→Prop} (hn:lookE Fe s=some (tupE c E)) (hu:(tmpsOf ⟨some d,.move (.tmp s),ty,pos,aft,none⟩).any (Nat.beq s)=true) (hCd:look Fc d=none)
    (k:RG P ops N B1 w1 K Fc ((d,fun v L _=>isTup c v∧L=[])::Fe) rest):RG P ops N B1 w1 K Fc Fe (⟨some d,.move (.tmp s),ty,pos,aft,none⟩::rest) :=
  rg_moveE (isTup c) hn hu (fun v L w ⟨tv,h,_⟩=>⟨tv,h⟩) hCd k
theorem rg_ext0 {s:Nat} {c:Value} (hn:lookE Fe s=some (fun v L _=>isTup c v∧L=[])) (hu:(tmpsOf ⟨some d,.extract (.tmp s) 0,ty,pos,aft,none⟩).any (Nat.beq s)=true) (hE:lookE Fe d=none)
    (k:RG P ops N B1 w1 K ((d,c)::Fc) Fe rest):RG P ops N B1 w1 K Fc Fe (⟨some d,.extract (.tmp s) 0,ty,pos,aft,none⟩::rest) :=
  rg_extC hn hu (fun v L w ⟨⟨tv,h⟩,_⟩=>⟨_,h,rfl⟩) hE k
theorem rg_ext1 {s:Nat} {c:Value} (hn:lookE Fe s=some (fun v L _=>isTup c v∧L=[])) (hu:(tmpsOf ⟨some d,.extract (.tmp s) 1,ty,pos,aft,none⟩).any (Nat.beq s)=true) (hCd:look Fc d=none)
    (k:RG P ops N B1 w1 K Fc ((d,fun v L _=>True∧L=[])::Fe) rest):RG P ops N B1 w1 K Fc Fe (⟨some d,.extract (.tmp s) 1,ty,pos,aft,none⟩::rest) :=
  rg_extE (fun _=>True) hn hu (fun v L w ⟨⟨tv,h⟩,_⟩=>⟨_,tv,h,rfl,trivial⟩) hCd k
end
section
variable {P:Program} {ops:Array Oper} {Q:Exit→Act→World→Prop} {rest:List Oper} {N:Nat} {F F':List (Nat × Value)} {L L':List Ent} {M:Nat→Prop} {w0 w:World} {a:Act}
variable {d:Tmp} {op:Op} {ty:TypeId} {pos:String} {aft:Array Edge} {x y z:Operand} {t u:TypeId}
theorem sk_store {i:Nat} {l:List Oper} {J:List Nat} {T':TypeId} {td:TypeDesc} {sz bytes:Nat} {zz:List Value} {gb o:Nat} {cs cs' c:List Value} {v:Value} (hs:St N F L M w0 a w) (hT:Ty P t td sz bytes zz)
    (hx:ev F x=some (.pointer (some ⟨gb,o,none⟩))) (hy:ev F y=some v) (hi:L[i]?=some (.seg gb cs T')) (hv:v.cells.toList=c) (hl:c.length=sz) (h1:c.all (·.oneCell')=true) (hfit:o + sz≤cs.length)
    (hcs:cs.take o++c++cs.drop (o + sz)=cs') (hlate:∀ w,St N F (L.set i (.seg gb cs' T')) M w0 a w→lateOk P l a w J) (k:∀ w,St N F (L.set i (.seg gb cs' T')) M w0 a w→wpList P ops Q rest a w) :
    First P ops Q l J ⟨none,.store t x y,ty,pos,aft,none⟩ rest a w:=by
  have hr:=c_store (P:=P) (w:=w) (d:=none) (ty:=ty) (pos:=pos) (aft:=aft) (g:=none) hT (hs.ev hx) (hs.ev hy) hv hl h1 (hs.seg hi) hfit
  rw [hcs] at hr
  have hs2:St N F (L.set i (.seg gb cs' T')) M w0 a { w with heap:=(w.setRow gb cs'.toArray).heap }:=hs.mod hi (.setRow w gb _) (setRow_heap w gb _ _ _ _ (hs.seg hi)) (fun j hj=>⟨.inl hj,by
    have h2:gb < w.heap.size:=hs.has.lt _ (List.mem_of_getElem? hi) gb rfl
    cases hj
    simpa using h2⟩)
  exact ⟨_,_,undef,hr,.inl ⟨rfl,rfl⟩,hlate _ hs2,k _ hs2⟩
theorem sk_storeW {i:Nat} {l:List Oper} {J:List Nat} {T':TypeId} {td:TypeDesc} {sz bytes:Nat} {zz:List Value} {gb:Nat} {cs c:List Value} (hs:St N F L M w0 a w) (hT:Ty P t td sz bytes zz)
    (hx:ev F x=some (.pointer (some ⟨gb,0,none⟩))) (hy:ev F y=some (.agg c.toArray)) (hi:L[i]?=some (.seg gb cs T')) (hl:c.length=sz) (h1:c.all (·.oneCell')=true) (hcs:cs.length=sz)
    (hlate:∀ w,St N F (L.set i (.seg gb c T')) M w0 a w→lateOk P l a w J) (k:∀ w,St N F (L.set i (.seg gb c T')) M w0 a w→wpList P ops Q rest a w) :
    First P ops Q l J ⟨none,.store t x y,ty,pos,aft,none⟩ rest a w :=
  sk_store hs hT hx hy hi (by simp [Value.cells]) hl h1 (by omega) (by simp [hcs]) hlate k
end
end Go.Fw
end

section
/- Several results,all but one of them known. -/
namespace Go.Fw
open Go
def tupG (pr po:List Value) (E:Value→List Ent→World→Prop):Value→List Ent→World→Prop:=fun v L w=>∃ tv,v=.tuple (pr++tv::po).toArray∧E tv L w
def isTupG (pr po:List Value) (v:Value):Prop:=∃ tv,v=.tuple (pr++tv::po).toArray
section
variable {P:Program} {ops:Array Oper} {N B1:Nat} {w1:World} {K:List (Nat × Value)→Fes→Prop} {Fc:List (Nat × Value)} {Fe:Fes} {rest:List Oper}
variable {d:Tmp} {op:Op} {ty:TypeId} {pos:String} {aft:Array Edge} {x y z:Operand} {t u:TypeId}
theorem rg_moveG {s:Nat} {pr po:List Value} {E:Value→List Ent→World→Prop} (hn:lookE Fe s=some (tupG pr po E)) (hu:(tmpsOf ⟨some d,.move (.tmp s),ty,pos,aft,none⟩).any (Nat.beq s)=true) (hCd:look Fc d=none)
    (k:RG P ops N B1 w1 K Fc ((d,fun v L _=>isTupG pr po v∧L=[])::Fe) rest):RG P ops N B1 w1 K Fc Fe (⟨some d,.move (.tmp s),ty,pos,aft,none⟩::rest) :=
  rg_moveE (isTupG pr po) hn hu (fun v L w ⟨tv,h,_⟩=>⟨tv,h⟩) hCd k
theorem rg_extGc {s j:Nat} {pr po:List Value} {c:Value} (hn:lookE Fe s=some (fun v L _=>isTupG pr po v∧L=[])) (hu:(tmpsOf ⟨some d,.extract (.tmp s) j,ty,pos,aft,none⟩).any (Nat.beq s)=true) (hE:lookE Fe d=none) (hc:∀ tv:Value,(pr++tv::po)[j]?=some c)
    (k:RG P ops N B1 w1 K ((d,c)::Fc) Fe rest):RG P ops N B1 w1 K Fc Fe (⟨some d,.extract (.tmp s) j,ty,pos,aft,none⟩::rest) :=
  rg_extC hn hu (fun v L w ⟨⟨tv,h⟩,_⟩=>⟨_,h,by simpa using hc tv⟩) hE k
theorem rg_extGe {s j:Nat} {pr po:List Value} (hn:lookE Fe s=some (fun v L _=>isTupG pr po v∧L=[])) (hu:(tmpsOf ⟨some d,.extract (.tmp s) j,ty,pos,aft,none⟩).any (Nat.beq s)=true) (hCd:look Fc d=none) (hj:pr.length=j)
    (k:RG P ops N B1 w1 K Fc ((d,fun v L _=>True∧L=[])::Fe) rest):RG P ops N B1 w1 K Fc Fe (⟨some d,.extract (.tmp s) j,ty,pos,aft,none⟩::rest) :=
  rg_extE (fun _=>True) hn hu (fun v L w ⟨⟨tv,h⟩,_⟩=>⟨_,tv,h,by subst hj; simp,trivial⟩) hCd k
end
end Go.Fw
end

section
/- A region's text in another order; appends that are the first operation of a tail. -/
namespace Go.Fw
open Go
def reOp (σ:List Nat):Oper→Oper
  | ⟨d,op,ty,pos,aft,g⟩=>⟨d,op,ty,pos,aft.map fun e=>{ e with on:=σ.idxOf e.on },g.map fun p=>(σ.idxOf p.1,p.2)⟩
def permOps (σ : List Nat) (l : List Oper) : List Oper := σ.map fun i => reOp σ (l.getD i ⟨none, .move (.tmp 0), 0, "", #[], none⟩)
def permB (σ:List Nat) (n:Nat):Bool:=Nat.beq σ.length n && σ.all (Nat.blt · n) && (List.range n).all fun i=>Nat.beq (σ.idxOf (σ.getD i 0)) i && Nat.blt (σ.idxOf i) n
theorem re_wp {P:Program} {σ:List Nat} {o:Oper} {a:Act} {w:World} {K:Act→World→Prop} {Q:Exit→Act→World→Prop}:(reOp σ o).wp P a w K Q=o.wp P a w K Q:=by cases o; rfl
theorem re_asks {P:Program} {σ:List Nat} {o:Oper} {a:Act} {w:World}:(reOp σ o).asks P a w=o.asks P a w:=by cases o; rfl
theorem re_dst {σ:List Nat} {o:Oper}:(reOp σ o).dst=o.dst:=by cases o; rfl
section
variable {P:Program} {Q:Exit→Act→World→Prop} {l:List Oper} {σ:List Nat}
structure PermOk (σ:List Nat) (n:Nat):Prop where
  len:σ.length=n
  lt:∀ i,i < n→σ.getD i 0 < n
  idx:∀ i,i < n→σ.idxOf (σ.getD i 0)=i
  inv:∀ k,k < n→σ.idxOf k < n∧σ.getD (σ.idxOf k) 0=k
theorem permB_spec {n:Nat} (h:permB σ n=true):PermOk σ n:=by
  unfold permB at h
  simp only [Bool.and_eq_true] at h
  obtain ⟨⟨h1,h2⟩,h3⟩:=h
  have hl:σ.length=n:=Nat.eq_of_beq_eq_true h1
  have hlt:∀ i,i < n→σ.getD i 0 < n:=fun i hi=>by
    have hm:σ.getD i 0∈σ:=by
      rw [List.getD,List.getElem?_eq_getElem (by omega)]
      exact List.getElem_mem _
    simpa [Nat.blt_eq] using List.all_eq_true.1 h2 _ hm
  have h4:∀ i,i < n→σ.idxOf (σ.getD i 0)=i∧σ.idxOf i < n:=fun i hi=>by
    have:=List.all_eq_true.1 h3 i (List.mem_range.2 hi)
    rw [Bool.and_eq_true] at this
    exact ⟨Nat.eq_of_beq_eq_true this.1,by simpa [Nat.blt_eq] using this.2⟩
  have hidx:∀ i,i < n→σ.idxOf (σ.getD i 0)=i:=fun i hi=>(h4 i hi).1
  refine ⟨hl,hlt,hidx,fun k hk=>?_⟩
  have h5:σ.idxOf k < σ.length:=by have:=(h4 k hk).2; omega
  refine ⟨by omega,?_⟩
  rw [List.getD,List.getElem?_eq_getElem h5]
  simp
theorem perm_get (hp:PermOk σ l.length) {i:Nat} (hi:i < l.length):(permOps σ l)[i]?=(l[σ.getD i 0]?).map (reOp σ):=by
  have h1:=hp.lt i hi
  have h2:i < σ.length:=by rw [hp.len]; exact hi
  simp only [permOps,List.getElem?_map,List.getElem?_eq_getElem h2,Option.map_some]
  have e:σ.getD i 0=σ[i]:=by rw [List.getD,List.getElem?_eq_getElem h2]; rfl
  rw [e] at h1 ⊢
  rw [List.getD,List.getElem?_eq_getElem h1]
  rfl
theorem perm_yield (hp:PermOk σ l.length) (tm:Array Value) (j:Nat):yielded (permOps σ l).toArray tm (σ.idxOf j)=yielded l.toArray tm j:=by
  have h:((permOps σ l)[σ.idxOf j]?).bind (·.dst)=(l[j]?).bind (·.dst):=by
    by_cases hj:j < l.length
    · obtain ⟨h1,h2⟩:=hp.inv j hj
      rw [perm_get hp h1,h2]
      cases l[j]? with
      | none=>rfl
      | some o=>simp [re_dst]
    · have h1:¬ σ.idxOf j < l.length:=fun h=>by
        have:=hp.lt _ h
        rw [← hp.len] at h
        have h2:=List.idxOf_lt_length_iff.1 h
        have h3:σ.getD (σ.idxOf j) 0=j:=by rw [List.getD,List.getElem?_eq_getElem h]; simp
        rw [h3] at this
        exact hj this
      have hlen:(permOps σ l).length=l.length:=by simp [permOps,hp.len]
      rw [List.getElem?_eq_none (show (permOps σ l).length≤σ.idxOf j by omega),List.getElem?_eq_none (show l.length≤j by omega)]
  unfold yielded
  simp only [List.getElem?_toArray,h]
theorem perm_any (hp:PermOk σ l.length):∀ (m:Nat) (listed listed':Array Bool) (a:Act) (w:World),listed.size=l.length→listed'.size=l.length→(∀ i,i < l.length→listed'.getD i false=listed.getD (σ.getD i 0) false) →
    wpAny P .any (permOps σ l).toArray Q m listed' a w→wpAny P .any l.toArray Q m listed a w:=by
  have hlen:(permOps σ l).length=l.length:=by simp [permOps,hp.len]
  have edge:∀ (listed listed':Array Bool),listed.size=l.length→listed'.size=l.length→(∀ i,i < l.length→listed'.getD i false=listed.getD (σ.getD i 0) false)→∀ k,listed'.getD (σ.idxOf k) false=listed.getD k false:=fun listed listed' h1 h2 h k=>by
    by_cases hk:k < l.length
    · obtain ⟨h3,h4⟩:=hp.inv k hk
      rw [h _ h3,h4]
    · have h5:¬ σ.idxOf k < l.length:=fun h=>by
        have:=hp.lt _ h
        rw [← hp.len] at h
        have h3:σ.getD (σ.idxOf k) 0=k:=by rw [List.getD,List.getElem?_eq_getElem h]; simp
        rw [h3] at this
        exact hk this
      simp [show ¬ k < listed.size by omega,show ¬ σ.idxOf k < listed'.size by omega]
  have ready:∀ (listed listed':Array Bool),listed.size=l.length→listed'.size=l.length→(∀ i,i < l.length→listed'.getD i false=listed.getD (σ.getD i 0) false)→∀ i,i < l.length→(i∈Region.ready .any (permOps σ l).toArray listed' ↔ σ.getD i 0∈Region.ready .any l.toArray listed):=fun listed listed' h1 h2 h i hi=>by
    have hlt:=hp.lt i hi
    rw [mem_ready,mem_ready,getD_both_iff (by omega),getD_both_iff (by omega),h i hi]
    refine and_congr Iff.rfl ?_
    simp only [List.getElem?_toArray,perm_get hp hi]
    rw [List.getElem?_eq_getElem hlt]
    simp only [Option.map_some,Option.some.injEq,exists_eq_left']
    generalize l[σ.getD i 0]=o
    obtain ⟨d,op,ty,pos,aft,g⟩:=o
    simp only [reOp]
    constructor
    · intro hh e he hb
      have:=hh { e with on:=σ.idxOf e.on } (Array.mem_map.2 ⟨e,he,rfl⟩) hb
      rwa [edge listed listed' h1 h2 h] at this
    · intro hh e he hb
      obtain ⟨e',he',rfl⟩:=Array.mem_map.1 he
      rw [edge listed listed' h1 h2 h]
      exact hh e' he' hb
  intro m
  induction m with
  | zero =>
    intro listed listed' a w h1 h2 h hw
    refine ⟨?_,hw.2⟩
    apply List.eq_nil_iff_forall_not_mem.2
    intro k hk
    have hkl:k < l.length:=by obtain ⟨_,o,ho,_⟩:=mem_ready.1 hk; simpa using (Array.getElem?_eq_some_iff.1 ho).1
    obtain ⟨h3,h4⟩:=hp.inv k hkl
    have:=(ready listed listed' h1 h2 h _ h3).2 (by rw [h4]; exact hk)
    rw [hw.1] at this
    cases this
  | succ m ih =>
    intro listed listed' a w h1 h2 h hw
    obtain ⟨hw1,hw2⟩:=hw
    refine ⟨fun h0=>hw1 ?_,fun k hk=>?_⟩
    · apply List.eq_nil_iff_forall_not_mem.2
      intro i hi
      have hil:i < l.length:=by obtain ⟨_,o,ho,_⟩:=mem_ready.1 hi; have:=(Array.getElem?_eq_some_iff.1 ho).1; simp [hlen] at this; exact this
      have:=(ready listed listed' h1 h2 h i hil).1 hi
      rw [h0] at this
      cases this
    · have hkl:k < l.length:=by obtain ⟨_,o,ho,_⟩:=mem_ready.1 hk; simpa using (Array.getElem?_eq_some_iff.1 ho).1
      obtain ⟨h3,h4⟩:=hp.inv k hkl
      have hw3:=hw2 (σ.idxOf k) ((ready listed listed' h1 h2 h _ h3).2 (by rw [h4]; exact hk))
      have hnext:∀ a w,wpAny P .any (permOps σ l).toArray Q m (listed'.setIfInBounds (σ.idxOf k) true) a w→wpAny P .any l.toArray Q m (listed.setIfInBounds k true) a w:=fun a w=>ih _ _ a w (by simpa using h1) (by simpa using h2) fun i hi=>by
        by_cases e:σ.idxOf k=i
        · subst e
          rw [h4]
          simp [show k < listed.size by omega,show σ.idxOf k < listed'.size by omega]
        · have e2:k ≠ σ.getD i 0:=fun e2=>e (by rw [e2]; exact hp.idx i hi)
          rw [getD_set_ne false e,getD_set_ne false e2]
          exact h i hi
      unfold wpOp at hw3 ⊢
      simp only [List.getElem?_toArray,perm_get hp h3,h4] at hw3 ⊢
      rw [List.getElem?_eq_getElem hkl] at hw3 ⊢
      simp only [Option.map_some] at hw3 ⊢
      have hwant:Region.wanted (reOp σ l[k]) (yielded (permOps σ l).toArray a.tmps)=Region.wanted l[k] (yielded l.toArray a.tmps):=by
        generalize l[k]=o
        obtain ⟨d,op,ty,pos,aft,g⟩:=o
        cases g with
        | none=>rfl
        | some g=>simp only [Region.wanted,reOp,Option.map_some,perm_yield hp]
      rw [hwant] at hw3
      split
      · rename_i hy
        rw [if_pos hy] at hw3
        rcases hw3 with hw3 | hw3
        · rw [re_wp] at hw3
          exact .inl (Oper.wp_mono hnext hw3)
        · rw [re_asks] at hw3
          exact .inr hw3
      · rename_i hy
        rw [if_neg hy] at hw3
        rw [re_dst] at hw3
        exact hnext _ _ hw3
theorem wp_region_perm {id:Nat} {a:Act} {w:World} (hm:P.follows .mixedOrders=true) (σ:List Nat) (hσ:permB σ l.length=true) (h:RegAny P Q (permOps σ l) a w):(Code.region id l.toArray true).wp P Q a w:=by
  have hp:=permB_spec hσ
  have hlen:(permOps σ l).length=l.length:=by simp [permOps,hp.len]
  refine wp_region_any hm ?_
  unfold RegAny at h
  have e1:(permOps σ l).toArray.size=l.toArray.size:=by simp [hlen]
  rw [e1] at h
  refine perm_any hp _ _ _ a _ (by simp) (by simp) (fun i hi=>?_) h
  have:=hp.lt i hi
  have hr:∀ k,(Array.replicate l.toArray.size false).getD k false=false:=fun k=>by
    rw [Array.getD_eq_getD_getElem?,Array.getElem?_replicate]
    split <;> rfl
  rw [hr,hr]
end
section
variable {P:Program} {ops:Array Oper} {Q:Exit→Act→World→Prop} {rest:List Oper} {N:Nat} {F F':List (Nat × Value)} {L L':List Ent} {M:Nat→Prop} {w0 w:World} {a:Act}
variable {d:Tmp} {op:Op} {ty:TypeId} {pos:String} {aft:Array Edge} {x y z:Operand} {t u:TypeId}
theorem sk_append {i:Nat} {l:List Oper} {J:List Nat} {s0 x0:Operand} {E ty:TypeId} {ed:TypeDesc} {sz bytes n m:Nat} {zs xs news:List Value} {v u:Value} (hs:St N F L M w0 a w) (hu:P.underlying t=some (.slice E)) (hE:Ty P E ed sz bytes zs) (hsz:0 < sz)
    (hv:ev F s0=some v) (hx:ev F x0=some u) (hi:L[i]?=some (.row v n xs E sz)) (hr:Rd w u m news) (hl:news.length=m * sz) (h1:news.all (·.oneCell')=true)
    (h63:n + m≤maxLen) (hby:(n + m) * bytes≤140737488355328) (hd:Nat.blt d N=true)
    (hlate:∀ a w' v',Fr (Ent.keys (.row v n xs E sz)) w w'→(v'=.slice none 0 0 ↔ v=.slice none 0 0∧m=0)→St N ((d,v')::F) (L.set i (.row v' (n + m) (xs++news) E sz)) M w0 a w'→lateOk P l a w' J)
    (k:∀ a w' v',Fr (Ent.keys (.row v n xs E sz)) w w'→(v'=.slice none 0 0 ↔ v=.slice none 0 0∧m=0)→St N ((d,v')::F) (L.set i (.row v' (n + m) (xs++news) E sz)) M w0 a w'→wpList P ops Q rest a w') :
    First P ops Q l J ⟨some d,.call { callee:=.builtin .append,args:=#[s0,x0],argTypes:=#[t,t] },ty,pos,aft,none⟩ rest a w:=by
  have hown:w.ownsRow 0 E sz v n xs:=hs.get hi
  obtain ⟨v',w',hrun,ho',hg,hnil,hblk⟩:=run_append2 (P:=P) (w:=w) (ty:=ty) hu hE hsz hown hr hl h1 h63 hby
  have hrun':(execOp a.eval ⟨some d,.call { callee:=.builtin .append,args:=#[s0,x0],argTypes:=#[t,t] },ty,pos,aft,none⟩).run P w=.ok (.value v') w':=by
    simp [execOp,resolve,invoke,builtin,hs.ev hv,hs.ev hx,hrun]
  have hs2:=(hs.mod (e':=.row v' (n + m) (xs++news) E sz) hi (Fr.grown hg) ho' fun k hk=>⟨hblk k hk,ownBlock_row ho' k hk⟩).put (lt_of_blt hd) v'
  exact ⟨_,_,v',hrun',.inr rfl,hlate _ _ _ (.grown hg) hnil hs2,k _ _ _ (.grown hg) hnil hs2⟩
theorem sk_appB {i:Nat} {ls:List Oper} {J:List Nat} {s0 x0:Operand} {E:TypeId} {ed:TypeDesc} {zs:List Value} {l p:List UInt8} {v u:Value} (hs:St N F L M w0 a w) (hu:P.underlying t=some (.slice E)) (hE:Ty P E ed 1 1 zs)
    (hv:ev F s0=some v) (hx:ev F x0=some u) (hi:L[i]?=some (.row v l.length (l.map B) E 1)) (hr:RdB w u p) (hle:l.length + p.length≤140737488355328) (hd:Nat.blt d N=true)
    (hlate:∀ a w' v',Fr (Ent.keys (.row v l.length (l.map B) E 1)) w w'→(v'=.slice none 0 0 ↔ v=.slice none 0 0∧p.length=0)→St N ((d,v')::F) (L.set i (.row v' (l++p).length ((l++p).map B) E 1)) M w0 a w'→lateOk P ls a w' J)
    (k:∀ a w' v',Fr (Ent.keys (.row v l.length (l.map B) E 1)) w w'→(v'=.slice none 0 0 ↔ v=.slice none 0 0∧p.length=0)→St N ((d,v')::F) (L.set i (.row v' (l++p).length ((l++p).map B) E 1)) M w0 a w'→wpList P ops Q rest a w') :
    First P ops Q ls J ⟨some d,.call { callee:=.builtin .append,args:=#[s0,x0],argTypes:=#[t,t] },ty,pos,aft,none⟩ rest a w:=by
  have e:∀ v',Ent.row v' (l.length + p.length) (l.map B++p.map B) E 1=.row v' (l++p).length ((l++p).map B) E 1:=fun v'=>by rw [List.length_append,List.map_append]
  exact sk_append hs hu hE (by decide) hv hx hi hr (by simp) (all_map_B p) (by unfold maxLen; omega) (by omega) hd (fun a w' v' hf hn hs=>hlate a w' v' hf hn (e v' ▸ hs)) (fun a w' v' hf hn hs=>k a w' v' hf hn (e v' ▸ hs))
end
end Go.Fw
end

section
/- Regions that draw their order and hold a call that turns what was there: as Fw6 to Fw9,with a frame of their own (Fk) in the place of 'nothing that was there has turned'. -/
namespace Go.FwK
open Go Go.Fw
structure FrK (Fk:World→World→Prop) (B1:Nat):Prop where
  trans:∀ {a b c:World},Fk a b→Fk b c→Fk a c
  of0:∀ {a b:World},Fr0 a b→Fk a b
  size:∀ {a b:World},Fk a b→a.heap.size≤b.heap.size
  has:∀ {a b:World} {L:List Ent},Has B1 a L→Fk a b→Has B1 b L
theorem Has.newK {B:Nat} {w w':World} {L L':List Ent} (h':Has B w' L) (h:Has B w L) (hB:B≤w.heap.size) (hn:Has w.heap.size w' L'):Has B w' (L'++L):=by
  refine ⟨fun e he=>?_,?_,fun e he k hk=>?_,fun e he k hk=>?_⟩
  · rcases List.mem_append.1 he with he | he
    · exact hn.holds e he
    · exact h'.holds e he
  · refine List.pairwise_append.2 ⟨hn.apart,h'.apart,fun a ha b hb k hka hkb=>?_⟩
    have h1:=hn.ge a ha k hka
    have h2:=h.lt b hb k hkb
    omega
  · rcases List.mem_append.1 he with he | he
    · exact hn.lt e he k hk
    · exact h'.lt e he k hk
  · rcases List.mem_append.1 he with he | he
    · exact Nat.le_trans hB (hn.ge e he k hk)
    · exact h'.ge e he k hk
inductive DV (Fk:World→World→Prop) where
  | c (v:Value)
  | e (E:Value→List Ent→World→Prop) (st:∀ v L w w',Fk w w'→E v L w→E v L w')
def DV.ok {Fk:World→World→Prop}:DV Fk→Value→List Ent→World→Prop
  | .c u,v,L,_=>v=u∧L=[]
  | .e E _,v,L,w=>E v L w
theorem DV.ok_stable {Fk:World→World→Prop} {D:DV Fk} {v:Value} {L:List Ent} {w w':World} (hf:Fk w w') (h:D.ok v L w):D.ok v L w':=by
  cases D with
  | c u=>exact h
  | e E st=>exact st v L w w' hf h
def Links (l:List Oper) (n:Nat) (a:Act):Prop:=∀ j o d s,j < n→l[j]?=some o→o.dst=some d→opnd o=some s→safeB l.toArray n j s=true→∃ v,a.tmps[d]?=some v∧LinkV o (a.tmps.getD s undef) v
structure RC (Fk:World→World→Prop) (N:Nat) (Fc:List (Nat × Value)) (Fe:Fes) (o:Oper) (B1:Nat) (w1:World) (a:Act) (w:World):Prop where
  know:Know N Fc a
  fr:Fk w1 w
  ents:∀ n E,lookE Fe n=some E→(tmpsOf o).any (Nat.beq n)=true→∃ v L',a.tmps[n]?=some v∧E v L' w∧Has B1 w L'
def Meets {Fk:World→World→Prop} (D:DV Fk) (w:World) (v:Value) (w':World):Prop:=∃ L',D.ok v L' w'∧Fk w w'∧Has w.heap.size w' L'
def Ob {Fk:World→World→Prop} (P:Program) (ops:Array Oper) (N:Nat) (B1:Nat) (w1:World) (Fc:List (Nat × Value)) (Fe:Fes) (o:Oper) (D:DV Fk):Prop :=
  ((wantedAs ops Fc o=some true∧∀ a w,RC Fk N Fc Fe o B1 w1 a w→Yl P (Meets D w) ((execOp a.eval o).run P w))∨(wantedAs ops Fc o=some false∧D=.c undef)) ∧
  (needQ o=true→∃ v,∀ a w,RC Fk N Fc Fe o B1 w1 a w→(execOp a.eval o).run P w=.ok (.value v) w)
def addC {Fk:World→World→Prop} (Fc:List (Nat × Value)) (d:Nat):DV Fk→List (Nat × Value)
  | .c v=>(d,v)::Fc
  | .e _ _=>Fc
def addE {Fk:World→World→Prop} (Fe:Fes) (d:Nat):DV Fk→Fes
  | .c _=>Fe
  | .e E _=>(d,E)::Fe
def fresh {Fk:World→World→Prop} (Fc:List (Nat × Value)) (Fe:Fes) (d:Nat):DV Fk→Prop
  | .c _=>lookE Fe d=none
  | .e _ _=>Fw.look Fc d=none
def RG (Fk:World→World→Prop) (P:Program) (ops:Array Oper) (N B1:Nat) (w1:World) (K:List (Nat × Value)→Fes→Prop):List (Nat × Value)→Fes→List Oper→Prop
  | Fc,Fe,[]=>K Fc Fe
  | Fc,Fe,o::rest=>∃ (d:Nat) (D:DV Fk),o.dst=some d∧Ob P ops N B1 w1 Fc Fe o D∧fresh Fc Fe d D∧RG Fk P ops N B1 w1 K (addC Fc d D) (addE Fe d D) rest
/-! the facts ahead of operation i -/
def factsC {Fk:World→World→Prop} (ops:List Oper) (Ds:List (DV Fk)) (Fc0:List (Nat × Value)):Nat→List (Nat × Value)
  | 0=>Fc0
  | i + 1=>match ops[i]?,Ds[i]? with
    | some o,some D=>(match o.dst with | some d=>addC (factsC ops Ds Fc0 i) d D | none=>factsC ops Ds Fc0 i)
    | _,_=>factsC ops Ds Fc0 i
def factsE {Fk:World→World→Prop} (ops:List Oper) (Ds:List (DV Fk)):Nat→Fes
  | 0=>[]
  | i + 1=>match ops[i]?,Ds[i]? with
    | some o,some D=>(match o.dst with | some d=>addE (factsE ops Ds i) d D | none=>factsE ops Ds i)
    | _,_=>factsE ops Ds i
theorem RG.parts {Fk:World→World→Prop} {P:Program} {opsA:Array Oper} {N B1:Nat} {w1:World} {K:List (Nat × Value)→Fes→Prop} (Fc0:List (Nat × Value)):∀ (rest pre:List Oper) (Ds:List (DV Fk)),pre.length=Ds.length →
    RG Fk P opsA N B1 w1 K (factsC (pre++rest) Ds Fc0 pre.length) (factsE (pre++rest) Ds pre.length) rest →
    ∃ Ds':List (DV Fk),(Ds++Ds').length=(pre++rest).length∧K (factsC (pre++rest) (Ds++Ds') Fc0 (pre++rest).length) (factsE (pre++rest) (Ds++Ds') (pre++rest).length) ∧
      ∀ i o,pre.length≤i→(pre++rest)[i]?=some o→∃ (d:Nat) (D:DV Fk),o.dst=some d∧(Ds++Ds')[i]?=some D∧Ob P opsA N B1 w1 (factsC (pre++rest) (Ds++Ds') Fc0 i) (factsE (pre++rest) (Ds++Ds') i) o D ∧
        fresh (factsC (pre++rest) (Ds++Ds') Fc0 i) (factsE (pre++rest) (Ds++Ds') i) d D
  | [],pre,Ds,hl,h=>by
    refine ⟨[],by simp [hl],?_,fun i o hi ho=>?_⟩
    · simpa [RG] using h
    · simp at ho
      have:=(List.getElem?_eq_some_iff.1 ho).1
      omega
  | o::rest,pre,Ds,hl,h=>by
    obtain ⟨d,D,hd,hob,hfr,hk⟩:=h
    have ext:∀ (X Y:List (DV Fk)) (i:Nat),i≤X.length→factsC (pre++o::rest) (X++Y) Fc0 i=factsC (pre++o::rest) X Fc0 i∧factsE (pre++o::rest) (X++Y) i=factsE (pre++o::rest) X i:=by
      intro X Y i
      induction i with
      | zero=>intro _; exact ⟨rfl,rfl⟩
      | succ i ih =>
        intro hi
        have h1:=ih (by omega)
        have h2:(X++Y)[i]?=X[i]?:=List.getElem?_append_left (by omega)
        simp only [factsC,factsE,h2,h1.1,h1.2]
        exact ⟨trivial,trivial⟩
    have hget:(pre++o::rest)[pre.length]?=some o:=by simp
    have e1:=ext Ds [D] pre.length (by omega)
    have hDget:(Ds++[D])[pre.length]?=some D:=by rw [hl]; simp
    have hc:factsC (pre++o::rest) (Ds++[D]) Fc0 (pre.length + 1)=addC (factsC (pre++o::rest) Ds Fc0 pre.length) d D:=by
      simp only [factsC,hget,hDget,hd,e1.1]
    have he:factsE (pre++o::rest) (Ds++[D]) (pre.length + 1)=addE (factsE (pre++o::rest) Ds pre.length) d D:=by
      simp only [factsE,hget,hDget,hd,e1.2]
    have heq:pre++o::rest=(pre++[o])++rest:=by simp
    have hk':RG Fk P opsA N B1 w1 K (factsC ((pre++[o])++rest) (Ds++[D]) Fc0 (pre++[o]).length) (factsE ((pre++[o])++rest) (Ds++[D]) (pre++[o]).length) rest:=by
      rw [← heq,show (pre++[o]).length=pre.length + 1 by simp,hc,he]
      exact hk
    obtain ⟨Ds',hl',hK',hall⟩:=RG.parts Fc0 rest (pre++[o]) (Ds++[D]) (by simp [hl]) hk'
    rw [← heq] at hl' hK' hall
    rw [List.append_assoc] at hl' hK' hall
    refine ⟨[D]++Ds',hl',hK',fun i o' hi ho'=>?_⟩
    by_cases hip:i=pre.length
    · subst hip
      rw [hget] at ho'
      obtain rfl:=Option.some.inj ho'
      have e2:=ext Ds ([D]++Ds') pre.length (by omega)
      refine ⟨d,D,hd,?_,?_,?_⟩
      · rw [List.getElem?_append_right (by omega)]
        simp [hl]
      · rw [e2.1,e2.2]; exact hob
      · rw [e2.1,e2.2]; exact hfr
    · exact hall i o' (by simp; omega) ho'
section
variable {P:Program} {l:List Oper} {n N B1:Nat} {w1:World} {Fc0:List (Nat × Value)} {Fk:World→World→Prop} {Ds:List (DV Fk)} {Q:Exit→Act→World→Prop} {late:List Nat}
theorem factsC_src {lh:List Oper} {ds:Nat→Nat} (hds:∀ i o,lh[i]?=some o→o.dst=some (ds i)) (hl:Ds.length=lh.length) (hfr:∀ i o D,lh[i]?=some o→Ds[i]?=some D→fresh (factsC lh Ds Fc0 i) (factsE lh Ds i) (ds i) D) :
    ∀ i,i≤lh.length→∀ s v,Fw.look (factsC lh Ds Fc0 i) s=some v→(∃ j,j < i∧ds j=s∧Ds[j]?=some (.c v))∨(Fw.look Fc0 s=some v∧∀ j,j < i→ds j ≠ s):=by
  intro i
  induction i with
  | zero=>intro _ s v h; exact .inr ⟨h,fun j hj=>by omega⟩
  | succ i ih =>
    intro hi s v h
    have hlt:i < lh.length:=by omega
    have ho:lh[i]?=some lh[i]:=List.getElem?_eq_getElem hlt
    have hD:Ds[i]?=some (Ds[i]'(by omega)):=List.getElem?_eq_getElem (by omega)
    have hd:=hds i _ ho
    have hf:=hfr i _ _ ho hD
    simp only [factsC,ho,hD,hd] at h
    generalize hDD:Ds[i]'(by omega)=D at *
    cases D with
    | c u =>
      simp only [addC,Fw.look] at h
      by_cases e:ds i=s
      · subst e
        simp at h
        subst h
        exact .inl ⟨i,by omega,rfl,hD⟩
      · rw [Nat.beq_eq_false_of e] at h
        rcases ih (by omega) s v h with ⟨j,hj,h1,h2⟩ | ⟨h1,h2⟩
        · exact .inl ⟨j,by omega,h1,h2⟩
        · exact .inr ⟨h1,fun j hj=>by
            by_cases hji:j=i
            · subst hji; exact e
            · exact h2 j (by omega)⟩
    | e E st =>
      simp only [addC] at h
      simp only [fresh] at hf
      have e:ds i ≠ s:=fun e=>by subst e; rw [hf] at h; cases h
      rcases ih (by omega) s v h with ⟨j,hj,h1,h2⟩ | ⟨h1,h2⟩
      · exact .inl ⟨j,by omega,h1,h2⟩
      · exact .inr ⟨h1,fun j hj=>by
          by_cases hji:j=i
          · subst hji; exact e
          · exact h2 j (by omega)⟩
theorem factsE_src {lh:List Oper} {ds:Nat→Nat} (hds:∀ i o,lh[i]?=some o→o.dst=some (ds i)) (hl:Ds.length=lh.length) :
    ∀ i,i≤lh.length→∀ s E,lookE (factsE lh Ds i) s=some E→∃ j,j < i∧ds j=s∧∃ st,Ds[j]?=some (.e E st):=by
  intro i
  induction i with
  | zero=>intro _ s v h; simp [factsE,lookE] at h
  | succ i ih =>
    intro hi s v h
    have hlt:i < lh.length:=by omega
    have ho:lh[i]?=some lh[i]:=List.getElem?_eq_getElem hlt
    have hD:Ds[i]?=some (Ds[i]'(by omega)):=List.getElem?_eq_getElem (by omega)
    have hd:=hds i _ ho
    simp only [factsE,ho,hD,hd] at h
    generalize hDD:Ds[i]'(by omega)=D at *
    cases D with
    | c u =>
      simp only [addE] at h
      obtain ⟨j,hj,h1,h2⟩:=ih (by omega) s v h
      exact ⟨j,by omega,h1,h2⟩
    | e E st =>
      simp only [addE,lookE] at h
      by_cases e:ds i=s
      · subst e
        simp at h
        subst h
        exact ⟨i,by omega,rfl,st,hD⟩
      · rw [Nat.beq_eq_false_of e] at h
        obtain ⟨j,hj,h1,h2⟩:=ih (by omega) s v h
        exact ⟨j,by omega,h1,h2⟩
/-! the head: any order -/
structure Inv {Fk:World→World→Prop} (l:List Oper) (n N B1:Nat) (w1:World) (Fc0:List (Nat × Value)) (Ds:List (DV Fk)) (vals:Nat→Value) (ents:Nat→List Ent) (listed:Array Bool) (a:Act) (w:World):Prop where
  size:listed.size=l.length
  know:a.tmps.size=N∧a.defers=[]
  done:∀ j d D,j < n→listed.getD j false=true→dstAt l.toArray j=some d→Ds[j]?=some D→a.tmps[d]?=some (vals j)∧D.ok (vals j) (ents j) w
  base:∀ s v,Fw.look Fc0 s=some v→(∀ j,j < n→listed.getD j false=true→dstAt l.toArray j ≠ some s)→a.tmps[s]?=some v
  has:Has B1 w ((List.range n).flatMap fun j=>if listed.getD j false=true then ents j else [])
  fr:Fk w1 w
  tail:∀ t,n≤t→listed.getD t false=false
  closed:∀ j o,l[j]?=some o→listed.getD j false=true→∀ e∈o.after,Region.binds .any e=true→listed.getD e.on false=true
  links:∀ j o s,j < n→l[j]?=some o→listed.getD j false=true→opnd o=some s→safeB l.toArray n j s=true→LinkV o (a.tmps.getD s undef) (vals j)
theorem Inv.step0 (hF:FrK Fk B1) {vals:Nat→Value} {ents:Nat→List Ent} {listed:Array Bool} {a:Act} {w:World} {i:Nat} {o:Oper} (hok:RgOk l.toArray n late) (hl:Ds.length=n)
    (hparts:∀ i o,i < n→l[i]?=some o→∃ (d:Nat) (D:DV Fk),o.dst=some d∧Ds[i]?=some D∧Ob P l.toArray N B1 w1 (factsC (l.take n) Ds Fc0 i) (factsE (l.take n) Ds i) o D∧fresh (factsC (l.take n) Ds Fc0 i) (factsE (l.take n) Ds i) d D)
    (hN:∀ i o d,i < n→l[i]?=some o→o.dst=some d→d < N) (hB:B1≤w1.heap.size)
    (inv:Inv l n N B1 w1 Fc0 Ds vals ents listed a w) (hi:i < n) (hr:i∈Region.ready .any l.toArray listed)
    (hol:l[i]?=some o) :
    (Region.wanted o (yielded l.toArray a.tmps)=true∧Yl P (fun v w'=>∃ L',Inv l n N B1 w1 Fc0 Ds (fun j=>if j=i then v else vals j) (fun j=>if j=i then L' else ents j) (listed.setIfInBounds i true) (a.put o.dst v) w') ((execOp a.eval o).run P w)∧(needQ o=true→∃ v,(execOp a.eval o).run P w=.ok (.value v) w)) ∨
    (Region.wanted o (yielded l.toArray a.tmps)=false∧Inv l n N B1 w1 Fc0 Ds (fun j=>if j=i then undef else vals j) (fun j=>if j=i then [] else ents j) (listed.setIfInBounds i true) (a.put o.dst undef) w):=by
  obtain ⟨hun,o',ho,hall⟩:=mem_ready.1 hr
  have hil:i < l.length:=by have:=hok.le; simp at this; omega
  have hol':l[i]?=some o':=by simpa using ho
  rw [hol] at hol'
  obtain rfl:=Option.some.inj hol'
  have hunf:listed.getD i false=false:=by rw [← getD_both_iff (by rw [inv.size]; exact hil)]; exact hun
  obtain ⟨d,D,hd,hD,hob,hfr⟩:=hparts i o hi hol
  have hdi:dstAt l.toArray i=some d:=by simp [dstAt,hol,hd]
  -- the slots, as the text has them
  have hds:∃ ds:Nat→Nat,∀ j,j < n→dstAt l.toArray j=some (ds j):=by
    refine ⟨fun j=>(dstAt l.toArray j).getD 0,fun j hj=>?_⟩
    have hjl:j < l.length:=by have:=hok.le; simp at this; omega
    obtain ⟨d',hd'⟩:=hok.dst j l[j] (by simp [hjl]) hj
    simp [dstAt,hjl,hd']
  obtain ⟨ds,hds⟩:=hds
  have htake:(l.take n).length=n:=by have:=hok.le; simp at this; simp [this]
  have hds':∀ j o,(l.take n)[j]?=some o→o.dst=some (ds j):=by
    intro j o' hj
    have hjn:j < n:=by have:=(List.getElem?_eq_some_iff.1 hj).1; omega
    rw [List.getElem?_take_of_lt hjn] at hj
    have:=hds j hjn
    simpa [dstAt,hj] using this
  have hfr':∀ j o D,(l.take n)[j]?=some o→Ds[j]?=some D→fresh (factsC (l.take n) Ds Fc0 j) (factsE (l.take n) Ds j) (ds j) D:=by
    intro j o' D' hj hDj
    have hjn:j < n:=by have:=(List.getElem?_eq_some_iff.1 hj).1; omega
    have hj':=hj
    rw [List.getElem?_take_of_lt hjn] at hj'
    obtain ⟨d2,D2,h1,h2,_,h4⟩:=hparts j o' hjn hj'
    rw [hDj] at h2
    obtain rfl:=Option.some.inj h2
    have:=hds' j o' hj
    rw [h1] at this
    obtain rfl:=Option.some.inj this
    exact h4
  have listed_of:∀ j s,j < n→j ≠ i→s∈looks l.toArray o→dstAt l.toArray j=some s→(j < i∧listed.getD j false=true)∨(i < j∧listed.getD j false=false):=by
    intro j s hj hne hs hdj
    rcases hok.use i o s j ho hi hs hj hne hdj with ⟨h1,h2⟩ | ⟨h1,oj,h2,h3⟩
    · obtain ⟨e,he,hb,hon⟩:=waits_spec h2
      exact .inl ⟨h1,hon ▸ hall e he hb⟩
    · refine .inr ⟨h1,?_⟩
      obtain ⟨e,he,hb,hon⟩:=waits_spec h3
      cases hj2:listed.getD j false with
      | false=>rfl
      | true =>
        have:=inv.closed j oj (by simpa using h2) hj2 e he hb
        rw [hon,hunf] at this
        cases this
  have valueC:∀ s v,s∈looks l.toArray o→Fw.look (factsC (l.take n) Ds Fc0 i) s=some v→a.tmps[s]?=some v:=by
    intro s v hs hv
    rcases factsC_src (Fc0:=Fc0) hds' (by rw [hl,htake]) hfr' i (by omega) s v hv with ⟨j,hj,h1,h2⟩ | ⟨h1,h2⟩
    · have hjn:j < n:=by omega
      rcases listed_of j s hjn (by omega) hs (by rw [hds j hjn,h1]) with ⟨_,h3⟩ | ⟨h3,_⟩
      · obtain ⟨h4,h5⟩:=inv.done j s _ hjn h3 (by rw [hds j hjn,h1]) h2
        rw [h4,h5.1]
      · omega
    · refine inv.base s v h1 fun j hjn hj2 hdj=>?_
      by_cases hji:j=i
      · subst hji; rw [hunf] at hj2; cases hj2
      · rcases listed_of j s hjn hji hs hdj with ⟨h3,_⟩ | ⟨_,h3⟩
        · rw [hds j hjn] at hdj
          exact h2 j h3 (Option.some.inj hdj)
        · rw [h3] at hj2; cases hj2
  have hwant:∀ b,wantedAs l.toArray (factsC (l.take n) Ds Fc0 i) o=some b→Region.wanted o (yielded l.toArray a.tmps)=b:=by
    intro b hb
    unfold wantedAs at hb
    unfold Region.wanted
    cases hg:o.guard with
    | none=>rw [hg] at hb; simpa using hb
    | some gw =>
      obtain ⟨j,wt⟩:=gw
      rw [hg] at hb
      dsimp only at hb ⊢
      cases hs:(l.toArray[j]?).bind (·.dst) with
      | none=>rw [hs] at hb; simp at hb
      | some s =>
        rw [hs] at hb
        simp only [Option.bind_some] at hb
        cases hv:Fw.look (factsC (l.take n) Ds Fc0 i) s with
        | none=>rw [hv] at hb; simp at hb
        | some v =>
          rw [hv] at hb
          have h5:=valueC s _ (List.mem_append_right _ (by rw [hg]; dsimp only; rw [hs]; simp)) hv
          unfold yielded
          rw [hs]
          simp only [Option.bind_some,h5]
          cases v with
          | bool c =>
            simp at hb
            rw [← hb]
            cases c <;> cases wt <;> rfl
          | _ =>
            simp at hb
            subst hb
            rfl
  have next:∀ v L' w',D.ok v L' w'→Fk w w'→Has w.heap.size w' L'→(∀ s,opnd o=some s→LinkV o (a.tmps.getD s undef) v)→Inv l n N B1 w1 Fc0 Ds (fun j=>if j=i then v else vals j) (fun j=>if j=i then L' else ents j) (listed.setIfInBounds i true) (a.put (some d) v) w':=by
    intro v L' w' hv hf hn hlk
    have hdN:=hN i o d hi hol hd
    refine ⟨by simpa using inv.size,⟨by simpa [Act.put] using inv.know.1,inv.know.2⟩,fun j dj Dj hj hlj hdj hDj=>?_,fun s u hu hne=>?_,?_,hF.trans inv.fr hf,fun t ht=>?_,fun j oj hj hlj e he hb=>?_,fun j oj s hj hlj hlst hos hsf=>?_⟩
    · by_cases hji:j=i
      · subst hji
        rw [hdi] at hdj
        obtain rfl:=Option.some.inj hdj
        rw [hD] at hDj
        obtain rfl:=Option.some.inj hDj
        refine ⟨?_,by simpa using hv⟩
        simp [Act.put,inv.know.1,hdN]
      · rw [getD_set_ne false (Ne.symm hji)] at hlj
        obtain ⟨h1,h2⟩:=inv.done j dj Dj hj hlj hdj hDj
        have hne:d ≠ dj:=fun e=>hji (hok.uniq j i d hj hi (by rw [hdj,e]) hdi)
        refine ⟨?_,by simpa [hji] using DV.ok_stable hf h2⟩
        simp only [Act.put,if_neg hji]
        rw [Array.getElem?_setIfInBounds,if_neg hne]
        exact h1
    · have hsd:d ≠ s:=fun e=>hne i hi (by simp [show i < listed.size by rw [inv.size]; exact hil]) (by rw [hdi,e])
      simp only [Act.put]
      rw [Array.getElem?_setIfInBounds,if_neg hsd]
      refine inv.base s u hu fun j hj hlj=>?_
      by_cases hji:j=i
      · subst hji; rw [hunf] at hlj; cases hlj
      · exact hne j hj (by rw [getD_set_ne false (Ne.symm hji)]; exact hlj)
    · have hp:=flatMap_set_perm (fun j=>if listed.getD j false=true then ents j else []) (fun j=>if (listed.setIfInBounds i true).getD j false=true then (if j=i then L' else ents j) else []) i L'
        (by simp only [hunf]; simp) (by simp [show i < listed.size by rw [inv.size]; exact hil]) (fun j hji=>by simp only [getD_set_ne false (Ne.symm hji),if_neg hji]) (List.range n) List.nodup_range (List.mem_range.2 hi)
      exact (Has.newK (hF.has inv.has hf) inv.has (Nat.le_trans hB (hF.size inv.fr)) hn).perm hp
    · rw [getD_set_ne false (by omega)]
      exact inv.tail t ht
    · by_cases hji:j=i
      · subst hji
        rw [hol] at hj
        obtain rfl:=Option.some.inj hj
        have hlt:=hok.back j o ho e he hb
        rw [getD_set_ne false (by omega)]
        exact hall e he hb
      · rw [getD_set_ne false (Ne.symm hji)] at hlj
        have h9:=inv.closed j oj hj hlj e he hb
        by_cases hei:i=e.on
        · rw [← hei,hunf] at h9; cases h9
        · rw [getD_set_ne false hei]; exact h9
    · have hsi:d=s→i < j:=fun e=>by
        have h1:=List.all_eq_true.1 hsf i (List.mem_range.2 hi)
        rw [hdi,e] at h1
        simpa [Nat.blt_eq] using h1
      by_cases hji:j=i
      · subst hji
        rw [hol] at hlj
        obtain rfl:=Option.some.inj hlj
        have hne:d ≠ s:=fun e=>absurd (hsi e) (by omega)
        rw [getD_put hne]
        simpa using hlk s hos
      · rw [getD_set_ne false (Ne.symm hji)] at hlst
        have hne:d ≠ s:=fun e=>by
          have hlt:=hsi e
          rcases hok.use j oj s i (by simpa using hlj) hj (opnd_looks hos) hi (Ne.symm hji) (by rw [hdi,e]) with ⟨_,h2⟩ | ⟨h2,_⟩
          · obtain ⟨e2,he2,hb2,hon⟩:=waits_spec h2
            have:=inv.closed j oj hlj hlst e2 he2 hb2
            rw [hon,hunf] at this
            cases this
          · omega
        rw [getD_put hne]
        simp only [if_neg hji]
        exact inv.links j oj s hj hlj hlst hos hsf
  obtain ⟨hob,hqt⟩:=hob
  rcases hob with ⟨hw,hy⟩ | ⟨hw,rfl⟩
  · refine .inl ⟨hwant true hw,?_⟩
    -- a frame that has the text's facts, and that the operation cannot tell from this one
    obtain ⟨a',hsz,hdf,ha1,ha2⟩:∃ a':Act,a'.tmps.size=N∧a'.defers=[]∧(∀ s v,Fw.look (factsC (l.take n) Ds Fc0 i) s=some v→a'.tmps[s]?=some v)∧(∀ s,s∈tmpsOf o→a'.tmps[s]?=a.tmps[s]?):=by
      have hlk:∀ s v,Fw.look (factsC (l.take n) Ds Fc0 i) s=some v→s < N:=by
        intro s v hv
        rcases factsC_src (Fc0:=Fc0) hds' (by rw [hl,htake]) hfr' i (by omega) s v hv with ⟨j,hj,h1,h2⟩ | ⟨h1,h2⟩
        · have hjl:j < l.length:=by omega
          exact hN j l[j] s (by omega) (by simp [hjl]) (by have:=hds j (by omega); rw [h1] at this; simpa [dstAt,hjl] using this)
        · by_cases hex:∃ j,j < n∧dstAt l.toArray j=some s
          · obtain ⟨j,hj,hdj⟩:=hex
            have hjl:j < l.length:=by have:=hok.le; simp at this; omega
            exact hN j l[j] s hj (by simp [hjl]) (by simpa [dstAt,hjl] using hdj)
          · have:=inv.base s v h1 (fun j hj _ hdj=>hex ⟨j,hj,hdj⟩)
            have:=(Array.getElem?_eq_some_iff.1 this).1
            rw [inv.know.1] at this
            exact this
      refine ⟨⟨Array.ofFn (n:=N) fun s=>if (tmpsOf o).any (Nat.beq s.1)=true then a.tmps.getD s.1 undef else (Fw.look (factsC (l.take n) Ds Fc0 i) s.1).getD (a.tmps.getD s.1 undef),[]⟩,by simp,rfl,fun s v hv=>?_,fun s hs=>?_⟩
      · have hsN:=hlk s v hv
        simp only [Array.getElem?_ofFn,hsN,dif_pos]
        by_cases hu:(tmpsOf o).any (Nat.beq s)=true
        · rw [if_pos hu]
          have hmem:s∈tmpsOf o:=by
            obtain ⟨x,hx,hb⟩:=List.any_eq_true.1 hu
            rw [Nat.eq_of_beq_eq_true hb]; exact hx
          have:=valueC s v (List.mem_append_left _ hmem) hv
          simp [this]
        · rw [if_neg hu,hv]; rfl
      · have hu:(tmpsOf o).any (Nat.beq s)=true:=List.any_eq_true.2 ⟨s,hs,by simp⟩
        by_cases hsN:s < N
        · simp only [Array.getElem?_ofFn,hsN,dif_pos]
          rw [if_pos hu]
          have:s < a.tmps.size:=by rw [inv.know.1]; exact hsN
          simp [this]
        · simp only [Array.getElem?_ofFn,hsN]
          rw [Array.getElem?_eq_none (by rw [inv.know.1]; omega)]
          simp
    have hev:execOp a.eval o=execOp a'.eval o:=by
      refine execOp_congr o (not_select (hok.sel i o ho)) fun x hx=>?_
      cases x with
      | tmp s =>
        have:=ha2 s (mem_tmpsOf hx)
        simp only [Act.eval,Array.getD_eq_getD_getElem?,this]
      | _=>rfl
    have hrc:RC Fk N (factsC (l.take n) Ds Fc0 i) (factsE (l.take n) Ds i) o B1 w1 a' w:=by
      refine ⟨⟨hsz,hdf,ha1⟩,inv.fr,fun s E hE hu=>?_⟩
      have hmem:s∈tmpsOf o:=by
        obtain ⟨x,hx,hb⟩:=List.any_eq_true.1 hu
        rw [Nat.eq_of_beq_eq_true hb]; exact hx
      obtain ⟨j,hj,h1,_,h2⟩:=factsE_src hds' (by rw [hl,htake]) i (by omega) s E hE
      have hjn:j < n:=by omega
      rcases listed_of j s hjn (by omega) (List.mem_append_left _ hmem) (by rw [hds j hjn,h1]) with ⟨_,h3⟩ | ⟨h3,_⟩
      · obtain ⟨h4,h5⟩:=inv.done j s _ hjn h3 (by rw [hds j hjn,h1]) h2
        have hsub:=sublist_flatMap (fun j=>if listed.getD j false=true then ents j else []) j (List.range n) (List.mem_range.2 hjn)
        simp only [h3,if_true] at hsub
        exact ⟨vals j,ents j,by rw [ha2 s hmem]; exact h4,h5,inv.has.pick hsub⟩
      · omega
    have hyl:=hy a' w hrc
    rw [← hev] at hyl
    have hyl2:Yl P (fun v w'=>Meets D w v w'∧∀ s,opnd o=some s→LinkV o (a.tmps.getD s undef) v) ((execOp a.eval o).run P w):=by
      cases ho2:opnd o with
      | none=>exact hyl.mono fun v w' h=>⟨h,fun s hs=>by cases hs⟩
      | some s=>exact (yl_link ho2 hyl).mono fun v w' h=>⟨h.1,fun s' hs'=>by cases hs'; exact h.2⟩
    exact ⟨hyl2.mono fun v w' ⟨⟨L',h1,h2,h3⟩,h4⟩=>⟨L',by rw [hd]; exact next v L' w' h1 h2 h3 h4⟩,fun hq=>by
      obtain ⟨v,hv⟩:=hqt hq
      exact ⟨v,by rw [hev]; exact hv a' w hrc⟩⟩
  · refine .inr ⟨hwant false hw,?_⟩
    rw [hd]
    exact next undef [] w ⟨rfl,rfl⟩ (hF.of0 (.refl _ _)) (.nil _ _) fun s hs=>by
      unfold wantedAs at hw
      rw [opnd_guard hs] at hw
      cases hw
theorem Inv.step (hF:FrK Fk B1) {vals:Nat→Value} {ents:Nat→List Ent} {listed:Array Bool} {a:Act} {w:World} {i:Nat} {K:Act→World→Prop} (hok:RgOk l.toArray n late) (hl:Ds.length=n)
    (hparts:∀ i o,i < n→l[i]?=some o→∃ (d:Nat) (D:DV Fk),o.dst=some d∧Ds[i]?=some D∧Ob P l.toArray N B1 w1 (factsC (l.take n) Ds Fc0 i) (factsE (l.take n) Ds i) o D∧fresh (factsC (l.take n) Ds Fc0 i) (factsE (l.take n) Ds i) d D)
    (hN:∀ i o d,i < n→l[i]?=some o→o.dst=some d→d < N) (hB:B1≤w1.heap.size)
    (inv:Inv l n N B1 w1 Fc0 Ds vals ents listed a w) (hi:i < n) (hr:i∈Region.ready .any l.toArray listed)
    (k:∀ v L' a' w',Inv l n N B1 w1 Fc0 Ds (fun j=>if j=i then v else vals j) (fun j=>if j=i then L' else ents j) (listed.setIfInBounds i true) a' w'→K a' w'):wpOp P l.toArray Q i K a w:=by
  obtain ⟨hun,o,ho,hall⟩:=mem_ready.1 hr
  have hol:l[i]?=some o:=by simpa using ho
  unfold wpOp
  rw [ho]
  dsimp only
  rcases inv.step0 hF hok hl hparts hN hB hi hr hol with ⟨hw,hy,_⟩ | ⟨hw,h⟩
  · rw [if_pos hw]
    left
    exact wp_of_yl hy fun v w' ⟨L',h⟩=>k v L' _ _ h
  · rw [hw]
    simp only [Bool.false_eq_true,if_false]
    exact k undef [] _ _ h
end
section
variable {P:Program} {l:List Oper} {n N B1:Nat} {w1:World} {Fc0:List (Nat × Value)} {Fk:World→World→Prop} {Ds:List (DV Fk)} {Q:Exit→Act→World→Prop} {late:List Nat}
theorem wpAny_head (hF:FrK Fk B1) (hok:RgOk l.toArray n []) (hl:Ds.length=n)
    (hparts:∀ i o,i < n→l[i]?=some o→∃ (d:Nat) (D:DV Fk),o.dst=some d∧Ds[i]?=some D∧Ob P l.toArray N B1 w1 (factsC (l.take n) Ds Fc0 i) (factsE (l.take n) Ds i) o D∧fresh (factsC (l.take n) Ds Fc0 i) (factsE (l.take n) Ds i) d D)
    (hN:∀ i o d,i < n→l[i]?=some o→o.dst=some d→d < N) (hB:B1≤w1.heap.size)
    (fin:∀ vals ents listed a w,Inv l n N B1 w1 Fc0 Ds vals ents listed a w→(∀ j,j < n→listed.getD j false=true)→wpList P l.toArray Q (l.drop n) a w) :
    ∀ (m:Nat) (U:List Nat) (vals:Nat→Value) (ents:Nat→List Ent) (listed:Array Bool) (a:Act) (w:World),U.length=m→U.Nodup→(∀ j,j∈U ↔ j < l.length∧listed.getD j false=false) →
      Inv l n N B1 w1 Fc0 Ds vals ents listed a w→wpAny P .any l.toArray Q m listed a w:=by
  intro m
  induction m with
  | zero =>
    intro U vals ents listed a w hU hnd hmem inv
    have hU0:U=[]:=List.eq_nil_of_length_eq_zero hU
    subst hU0
    have hall:∀ j,j < l.length→listed.getD j false=true:=fun j hj=>by
      cases hx:listed.getD j false with
      | true=>rfl
      | false=>have:=(hmem j).2 ⟨hj,hx⟩; simp at this
    have hn:n=l.length:=by
      have h1:=hok.le
      simp at h1
      by_cases e:n < l.length
      · have:=inv.tail n (Nat.le_refl _); rw [hall n e] at this; cases this
      · omega
    have h:=fin vals ents listed a w inv (fun j hj=>hall j (by omega))
    refine wpAny_tail hok 0 l.length listed a w (by omega) (by omega) inv.size (fun j hj=>?_) (by rw [← hn]; exact h)
    rw [getD_both_iff (by rw [inv.size]; exact hj),hall j hj]
    simp [hj]
  | succ m ih =>
    intro U vals ents listed a w hU hnd hmem inv
    by_cases hall:∀ j,j < n→listed.getD j false=true
    · have h:=fin vals ents listed a w inv hall
      have hle:=hok.le
      simp at hle
      have hcount:m + 1=l.length - n:=by
        rw [← hU]
        have:U.Perm ((List.range (l.length - n)).map (· + n)):=by
          refine (List.perm_ext_iff_of_nodup hnd ?_).2 fun j=>?_
          · exact List.Pairwise.map (R:=(· ≠ ·)) (S:=(· ≠ ·)) (· + n) (fun x y h=>by simp; exact h) List.nodup_range
          · rw [hmem]
            simp only [List.mem_map,List.mem_range]
            constructor
            · rintro ⟨h1,h2⟩
              refine ⟨j - n,?_,?_⟩
              · by_cases e:j < n
                · rw [hall j e] at h2; cases h2
                · omega
              · by_cases e:j < n
                · rw [hall j e] at h2; cases h2
                · omega
            · rintro ⟨x,h1,rfl⟩
              exact ⟨by omega,inv.tail _ (by omega)⟩
        rw [this.length_eq]; simp
      refine wpAny_tail hok (m + 1) n listed a w (by omega) (Nat.le_refl _) inv.size (fun j hj=>?_) h
      rw [getD_both_iff (by rw [inv.size]; exact hj)]
      by_cases e:j < n
      · rw [hall j e]; simp [e]
      · rw [inv.tail j (by omega)]; simp [e]
    · obtain ⟨j0,hj0,hl0⟩:∃ j,j < n∧listed.getD j false=false:=by
        apply Classical.byContradiction
        intro hn
        apply hall
        intro j hj
        cases hx:listed.getD j false with
        | true=>rfl
        | false=>exact absurd ⟨j,hj,hx⟩ hn
      have hle:=hok.le
      simp at hle
      refine ⟨fun h0=>?_,fun i hi=>?_⟩
      · obtain ⟨i,hi⟩:=exists_ready hok inv.size j0 (by omega) hl0
        rw [h0] at hi; cases hi
      · have hin:i < n:=by
          apply Classical.byContradiction
          intro hge
          obtain ⟨_,o,ho,hall2⟩:=mem_ready.1 hi
          have key:=anc_closed (ops:=l.toArray) (S:=fun j=>listed.getD j false=true) (fun i' o' hi' hs' e he hb=>inv.closed i' o' (by simpa using hi') hs' e he hb) 24 o j0 (fun e he hb=>hall2 e he hb) ((hok.tail i o ho (by omega) j0 (by omega)).resolve_left fun h=>by cases h)
          rw [hl0] at key
          cases key
        have hil:i < l.length:=by omega
        have hiU:i∈U:=(hmem i).2 ⟨hil,by
          have h1:=(mem_ready.1 hi).1
          rw [getD_both_iff (by rw [inv.size]; exact hil)] at h1
          exact h1⟩
        refine inv.step hF hok hl hparts hN hB hin hi fun v L' a' w' inv'=>?_
        refine ih (U.erase i) _ _ _ _ _ ?_ (hnd.erase i) (fun j=>?_) inv'
        · rw [List.length_erase_of_mem hiU,hU]; simp
        · rw [hnd.mem_erase_iff,hmem]
          by_cases e:j=i
          · subst e
            simp [show j < listed.size by rw [inv.size]; exact hil]
          · rw [getD_set_ne false (Ne.symm e)]
            simp [e]
theorem RG.mono {Fk:World→World→Prop} {P:Program} {ops:Array Oper} {K K':List (Nat × Value)→Fes→Prop} (hm:∀ Fc Fe,K Fc Fe→K' Fc Fe):∀ (rest:List Oper) (Fc:List (Nat × Value)) (Fe:Fes),RG Fk P ops N B1 w1 K Fc Fe rest→RG Fk P ops N B1 w1 K' Fc Fe rest
  | [],Fc,Fe,h=>hm Fc Fe h
  | o::rest,Fc,Fe,⟨d,D,h1,h2,h3,h4⟩=>⟨d,D,h1,h2,h3,RG.mono hm rest _ _ h4⟩
theorem any_rgK {F:List (Nat × Value)} {w:World} {a:Act} (hF:FrK Fk w.heap.size) (n:Nat) (hB:rgB l.toArray n=true) (hd:dstB (l.take n) N=true) (hs:Know N F a)
    (h:RG Fk P l.toArray N w.heap.size w (fun Fc Fe=>∀ a' w' L',Fk w w'→FeOk Fe a' w' L'→Know N Fc a'→Has w.heap.size w' L'→Links l n a'→wpList P l.toArray Q (l.drop n) a' w') F [] (l.take n)) :
    RegAny P Q l a w:=by
  have hok:RgOk l.toArray n []:=rgB_spec hB
  have hle:=hok.le
  simp at hle
  have htl:(l.take n).length=n:=by simp [hle]
  obtain ⟨Ds,hlen,hK,hparts⟩:=RG.parts F (l.take n) [] [] rfl h
  simp only [List.nil_append,htl] at hlen hK hparts
  have hget:∀ i o,i < n→l[i]?=some o→(l.take n)[i]?=some o:=fun i o hi ho=>by rw [List.getElem?_take_of_lt hi]; exact ho
  have hparts':∀ i o,i < n→l[i]?=some o→∃ (d:Nat) (D:DV Fk),o.dst=some d∧Ds[i]?=some D∧Ob P l.toArray N w.heap.size w (factsC (l.take n) Ds F i) (factsE (l.take n) Ds i) o D∧fresh (factsC (l.take n) Ds F i) (factsE (l.take n) Ds i) d D :=
    fun i o hi ho=>hparts i o (by simp) (hget i o hi ho)
  have hN:∀ i o d,i < n→l[i]?=some o→o.dst=some d→d < N:=fun i o d hi ho hod=>by
    have:=List.all_eq_true.1 hd o (List.mem_of_getElem? (hget i o hi ho))
    rw [hod] at this
    exact lt_of_blt this
  unfold RegAny
  have hdr:Fk w { w with drawn:=w.drawn + 1 }:=hF.of0 (Fr.drew w)
  have hU:((List.range l.length).length=l.toArray.size):=by simp
  refine wpAny_head hF (w1:=w) (B1:=w.heap.size) (Ds:=Ds) (Fc0:=F) hok (by omega) hparts' hN (Nat.le_refl _) ?_ _ (List.range l.length) (fun _=>undef) (fun _=>[]) _ _ _ hU List.nodup_range ?_ ?_
  · intro vals ents listed a' w' inv hall
    have hds:∃ ds:Nat→Nat,∀ j o,(l.take n)[j]?=some o→o.dst=some (ds j):=by
      refine ⟨fun j=>(dstAt l.toArray j).getD 0,fun j o hj=>?_⟩
      have hjn:j < n:=by have:=(List.getElem?_eq_some_iff.1 hj).1; omega
      rw [List.getElem?_take_of_lt hjn] at hj
      obtain ⟨d',hd'⟩:=hok.dst j o (by simpa using hj) hjn
      simp [dstAt,hj,hd']
    obtain ⟨ds,hds⟩:=hds
    have hdsA:∀ j,j < n→dstAt l.toArray j=some (ds j):=fun j hj=>by
      have hjl:j < l.length:=by omega
      have:=hds j l[j] (by rw [List.getElem?_take_of_lt hj]; simp [hjl])
      simp [dstAt,hjl,this]
    have hfr':∀ j o D,(l.take n)[j]?=some o→Ds[j]?=some D→fresh (factsC (l.take n) Ds F j) (factsE (l.take n) Ds j) (ds j) D:=by
      intro j o' D' hj hDj
      have hjn:j < n:=by have:=(List.getElem?_eq_some_iff.1 hj).1; omega
      have hj':=hj
      rw [List.getElem?_take_of_lt hjn] at hj'
      obtain ⟨d2,D2,h1,h2,_,h4⟩:=hparts' j o' hjn hj'
      rw [hDj] at h2
      obtain rfl:=Option.some.inj h2
      have:=hds j o' hj
      rw [h1] at this
      obtain rfl:=Option.some.inj this
      exact h4
    have hknow:Know N (factsC (l.take n) Ds F n) a':=by
      refine ⟨inv.know.1,inv.know.2,fun s v hv=>?_⟩
      rcases factsC_src (Fc0:=F) hds (by omega) hfr' n (by omega) s v hv with ⟨j,hj,h1,h2⟩ | ⟨h1,h2⟩
      · obtain ⟨h4,h5⟩:=inv.done j s _ hj (hall j hj) (by rw [hdsA j hj,h1]) h2
        rw [h4,h5.1]
      · exact inv.base s v h1 fun j hj _ hdj=>by
          rw [hdsA j hj] at hdj
          exact h2 j hj (Option.some.inj hdj)
    have hfe:∀ i,i≤n→∃ L'',FeOk (factsE (l.take n) Ds i) a' w' L''∧L''.Perm ((List.range i).flatMap ents):=by
      intro i
      induction i with
      | zero=>intro _; exact ⟨[],rfl,by simp⟩
      | succ i ih =>
        intro hi
        obtain ⟨L'',h1,h2⟩:=ih (by omega)
        have hil:i < (l.take n).length:=by omega
        have ho:(l.take n)[i]?=some (l.take n)[i]:=List.getElem?_eq_getElem hil
        have hD:Ds[i]?=some (Ds[i]'(by omega)):=List.getElem?_eq_getElem (by omega)
        have hdi:=hds i _ ho
        obtain ⟨h4,h5⟩:=inv.done i (ds i) _ (by omega) (hall i (by omega)) (hdsA i (by omega)) hD
        simp only [factsE,ho,hD,hdi,List.range_succ,List.flatMap_append]
        generalize Ds[i]'(by omega)=D at *
        cases D with
        | c u=>exact ⟨L'',h1,by simp [h5.2]; exact h2⟩
        | e E st =>
          refine ⟨ents i++L'',⟨vals i,ents i,L'',h4,h5,h1,rfl⟩,?_⟩
          simp only [List.flatMap_cons,List.flatMap_nil,List.append_nil]
          exact (List.Perm.append_left _ h2).trans List.perm_append_comm
    obtain ⟨L'',hf1,hf2⟩:=hfe n (Nat.le_refl _)
    have hhas:Has w.heap.size w' L'':=by
      have:(List.range n).flatMap (fun j=>if listed.getD j false=true then ents j else [])=(List.range n).flatMap ents:=flatMap_same _ _ _ fun j hj=>by rw [if_pos (hall j (List.mem_range.1 hj))]
      have hh:=inv.has
      rw [this] at hh
      exact hh.perm hf2
    refine hK a' w' L'' inv.fr hf1 hknow hhas fun j oj dj s hj hoj hdj hos hsf=>?_
    obtain ⟨d2,D2,h1,h2,_,_⟩:=hparts' j oj hj hoj
    rw [hdj] at h1
    obtain rfl:=Option.some.inj h1
    exact ⟨vals j,(inv.done j dj D2 hj (hall j hj) (by simp [dstAt,hoj,hdj]) h2).1,inv.links j oj s hj hoj (hall j hj) hos hsf⟩
  · intro j
    simp
    intro hj
    simp [Array.getElem?_replicate,hj]
  · refine ⟨by simp,⟨hs.size,hs.defers⟩,fun j d D hj hl'=>?_,fun s v hv _=>hs.at_ s v hv,?_,hdr,fun t _=>?_,fun j o _ hl'=>?_,fun j o s _ _ hl'=>?_⟩
    · simp [Array.getElem?_replicate] at hl'
      split at hl' <;> simp at hl'
    · have:∀ r:List Nat,r.flatMap (fun j=>if (Array.replicate l.toArray.size false).getD j false=true then ([]:List Ent) else [])=[]:=fun r=>by induction r with | nil=>rfl | cons x t ih=>simp
      rw [this]
      exact .nil _ _
    · simp [Array.getElem?_replicate]
      split <;> simp
    · simp [Array.getElem?_replicate] at hl'
      split at hl' <;> simp at hl'
    · simp [Array.getElem?_replicate] at hl'
      split at hl' <;> simp at hl'
end
end Go.FwK
end

section
/- The steps of such regions. -/
namespace Go.FwK
open Go Go.Fw
section
variable {P:Program} {l:List Oper} {n N:Nat} {Q:Exit→Act→World→Prop} {Fk:World→World→Prop}
theorem wp_region_rgK {id:Nat} {F:List (Nat × Value)} {w:World} {a:Act} (hm:P.follows .mixedOrders=true) (hF:FrK Fk w.heap.size) (n:Nat) (hB:rgB l.toArray n=true) (hd:dstB (l.take n) N=true) (hs:Know N F a)
    (h:RG Fk P l.toArray N w.heap.size w (fun Fc Fe=>∀ a' w' L',Fk w w'→FeOk Fe a' w' L'→Know N Fc a'→Has w.heap.size w' L'→Links l n a'→wpList P l.toArray Q (l.drop n) a' w') F [] (l.take n)) :
    (Code.region id l.toArray true).wp P Q a w:=wp_region_any hm (any_rgK hF n hB hd hs h)
end
section
variable {P:Program} {ops:Array Oper} {N B1:Nat} {w1:World} {Fk:World→World→Prop} {K:List (Nat × Value)→Fes→Prop} {Fc:List (Nat × Value)} {Fe:Fes} {rest:List Oper}
variable {d:Tmp} {op:Op} {ty:TypeId} {pos:String} {aft:Array Edge} {x y z:Operand} {t u:TypeId}
theorem RC.ev {o:Oper} {a:Act} {w:World} {x:Operand} {v:Value} (h:RC Fk N Fc Fe o B1 w1 a w) (hx:ev Fc x=some v):a.eval x=v:=h.know.eval hx
theorem RC.ent {o:Oper} {a:Act} {w:World} {n:Nat} {E:Value→List Ent→World→Prop} (h:RC Fk N Fc Fe o B1 w1 a w) (hn:lookE Fe n=some E) (hu:(tmpsOf o).any (Nat.beq n)=true) :
    ∃ v L',a.eval (.tmp n)=v∧E v L' w∧Has B1 w L':=by
  obtain ⟨v,L',h1,h2⟩:=h.ents n E hn hu
  exact ⟨v,L',by simp [Act.eval,h1],h2⟩
theorem rg_nil (h:K Fc Fe):RG Fk P ops N B1 w1 K Fc Fe []:=h
theorem rg_q (hK:FrK Fk B1) {v:Value} (h:∀ a w,RC Fk N Fc Fe ⟨some d,op,ty,pos,aft,none⟩ B1 w1 a w→(execOp a.eval ⟨some d,op,ty,pos,aft,none⟩).run P w=.ok (.value v) w) (hE:lookE Fe d=none)
    (k:RG Fk P ops N B1 w1 K ((d,v)::Fc) Fe rest):RG Fk P ops N B1 w1 K Fc Fe (⟨some d,op,ty,pos,aft,none⟩::rest) :=
  ⟨d,.c v,rfl,⟨.inl ⟨rfl,fun a w hc=>by rw [h a w hc]; exact ⟨[],⟨rfl,rfl⟩,hK.of0 (.refl _ _),.nil _ _⟩⟩,fun _=>⟨v,h⟩⟩,hE,k⟩
theorem rg_yes (hK:FrK Fk B1) {v:Value} {j s:Nat} {b:Bool} (hj:(ops[j]?).bind (·.dst)=some s) (hb:Fw.look Fc s=some (.bool b))
    (h:∀ a w,RC Fk N Fc Fe ⟨some d,op,ty,pos,aft,some (j,b)⟩ B1 w1 a w→(execOp a.eval ⟨some d,op,ty,pos,aft,some (j,b)⟩).run P w=.ok (.value v) w) (hE:lookE Fe d=none)
    (k:RG Fk P ops N B1 w1 K ((d,v)::Fc) Fe rest):RG Fk P ops N B1 w1 K Fc Fe (⟨some d,op,ty,pos,aft,some (j,b)⟩::rest) :=
  ⟨d,.c v,rfl,⟨.inl ⟨by simp [wantedAs,hj,hb],fun a w hc=>by rw [h a w hc]; exact ⟨[],⟨rfl,rfl⟩,hK.of0 (.refl _ _),.nil _ _⟩⟩,fun h=>by cases h⟩,hE,k⟩
theorem rg_no (hK:FrK Fk B1) {j s:Nat} {b c:Bool} (hj:(ops[j]?).bind (·.dst)=some s) (hb:Fw.look Fc s=some (.bool c)) (hne:c=!b) (hE:lookE Fe d=none)
    (k:RG Fk P ops N B1 w1 K ((d,undef)::Fc) Fe rest):RG Fk P ops N B1 w1 K Fc Fe (⟨some d,op,ty,pos,aft,some (j,b)⟩::rest) :=
  ⟨d,.c undef,rfl,⟨.inr ⟨by subst hne; cases b <;> simp [wantedAs,hj,hb],rfl⟩,fun h=>by cases h⟩,hE,k⟩
theorem rg_e (hK:FrK Fk B1) (E:Value→List Ent→World→Prop) (st:∀ v L w w',Fk w w'→E v L w→E v L w')
    (h:∀ a w,RC Fk N Fc Fe ⟨some d,op,ty,pos,aft,none⟩ B1 w1 a w→Yl P (fun v w'=>∃ L',E v L' w'∧Fk w w'∧Has w.heap.size w' L') ((execOp a.eval ⟨some d,op,ty,pos,aft,none⟩).run P w)) (hC:Fw.look Fc d=none)
    (k:RG Fk P ops N B1 w1 K Fc ((d,E)::Fe) rest) (hq:needQ ⟨some d,op,ty,pos,aft,none⟩=false:=by rfl):RG Fk P ops N B1 w1 K Fc Fe (⟨some d,op,ty,pos,aft,none⟩::rest) :=
  ⟨d,.e E st,rfl,⟨.inl ⟨rfl,h⟩,fun h=>by rw [hq] at h; cases h⟩,hC,k⟩
theorem rg_alloc (hK:FrK Fk B1) {td:TypeDesc} {sz bytes:Nat} {zs:List Value} (hT:Ty P t td sz bytes zs) (hC:Fw.look Fc d=none)
    (k:RG Fk P ops N B1 w1 K Fc ((d,fun v L _=>∃ g,v=.pointer (some ⟨g,0,none⟩)∧L=[.seg g zs t])::Fe) rest):RG Fk P ops N B1 w1 K Fc Fe (⟨some d,.alloc t,ty,pos,aft,none⟩::rest) :=
  rg_e hK _ (fun _ _ _ _ _ h=>h) (fun a w hc=>by rw [c_alloc hT]; exact ⟨_,⟨_,rfl,rfl⟩,hK.of0 (.alloc _ _),has_alloc⟩) hC k
theorem rg_bslice (hK:FrK Fk B1) {E:TypeId} {ed:TypeDesc} {s bytes n:Nat} {z zs:List Value} {ps:Array (Nat × Operand)} {vs:List Value} (hu:P.underlying t=some (.slice E)) (hE:Ty P E ed s bytes z)
    (hps:∀ a w,RC Fk N Fc Fe ⟨some d,.buildSlice t n ps,ty,pos,aft,none⟩ B1 w1 a w→Evp a 0 ps.toList vs) (hn:vs.length=n) (hv:∀ v∈vs,v.cells.size=s) (hsmall:n * s≤16777216) (hz:flatCells vs=zs) (hC:Fw.look Fc d=none)
    (k:RG Fk P ops N B1 w1 K Fc ((d,fun v L _=>∃ g,v=.slice (some ⟨g,0,none⟩) n n∧L=[.seg g zs E])::Fe) rest):RG Fk P ops N B1 w1 K Fc Fe (⟨some d,.buildSlice t n ps,ty,pos,aft,none⟩::rest) :=
  rg_e hK _ (fun _ _ _ _ _ h=>h) (fun a w hc=>by rw [c_bslice hu hE (hps a w hc) hn hv hsmall,hz]; exact ⟨_,⟨_,rfl,rfl⟩,hK.of0 (.alloc _ _),has_alloc⟩) hC k
theorem rg_moveE (hK:FrK Fk B1) {s:Nat} {E0:Value→List Ent→World→Prop} (C:Value→Prop) (hn:lookE Fe s=some E0) (hu:(tmpsOf ⟨some d,.move (.tmp s),ty,pos,aft,none⟩).any (Nat.beq s)=true) (hC:∀ v L w,E0 v L w→C v) (hCd:Fw.look Fc d=none)
    (k:RG Fk P ops N B1 w1 K Fc ((d,fun v L _=>C v∧L=[])::Fe) rest):RG Fk P ops N B1 w1 K Fc Fe (⟨some d,.move (.tmp s),ty,pos,aft,none⟩::rest) :=
  rg_e hK (fun v L _=>C v∧L=[]) (fun _ _ _ _ _ h=>h) (fun a w hc=>by
    obtain ⟨v,L',h1,h2,_⟩:=hc.ent hn hu
    rw [c_move h1]
    exact ⟨[],⟨hC _ _ _ h2,rfl⟩,hK.of0 (.refl _ _),.nil _ _⟩) hCd k
theorem rg_extC (hK:FrK Fk B1) {s i:Nat} {E0:Value→List Ent→World→Prop} {c:Value} (hn:lookE Fe s=some E0) (hu:(tmpsOf ⟨some d,.extract (.tmp s) i,ty,pos,aft,none⟩).any (Nat.beq s)=true) (hc:∀ v L w,E0 v L w→∃ vs,v=.tuple vs∧vs[i]?=some c) (hE:lookE Fe d=none)
    (k:RG Fk P ops N B1 w1 K ((d,c)::Fc) Fe rest):RG Fk P ops N B1 w1 K Fc Fe (⟨some d,.extract (.tmp s) i,ty,pos,aft,none⟩::rest) :=
  rg_q hK (fun a w h=>by
    obtain ⟨v,L',h1,h2,_⟩:=h.ent hn hu
    obtain ⟨vs,rfl,h3⟩:=hc _ _ _ h2
    exact c_extract h1 h3) hE k
theorem rg_extE (hK:FrK Fk B1) {s i:Nat} {E0:Value→List Ent→World→Prop} (C:Value→Prop) (hn:lookE Fe s=some E0) (hu:(tmpsOf ⟨some d,.extract (.tmp s) i,ty,pos,aft,none⟩).any (Nat.beq s)=true) (hc:∀ v L w,E0 v L w→∃ vs u,v=.tuple vs∧vs[i]?=some u∧C u) (hCd:Fw.look Fc d=none)
    (k:RG Fk P ops N B1 w1 K Fc ((d,fun v L _=>C v∧L=[])::Fe) rest):RG Fk P ops N B1 w1 K Fc Fe (⟨some d,.extract (.tmp s) i,ty,pos,aft,none⟩::rest) :=
  rg_e hK (fun v L _=>C v∧L=[]) (fun _ _ _ _ _ h=>h) (fun a w h=>by
    obtain ⟨v,L',h1,h2,_⟩:=h.ent hn hu
    obtain ⟨vs,u,rfl,h3,h4⟩:=hc _ _ _ h2
    rw [c_extract h1 h3]
    exact ⟨[],⟨h4,rfl⟩,hK.of0 (.refl _ _),.nil _ _⟩) hCd k
theorem rg_call (hK:FrK Fk B1) {f:FuncId} {args:Array Operand} {vs:List Value} {tys:Array TypeId} {c:Value} (hF:Fun P f)
    (hargs:∀ a w,RC Fk N Fc Fe ⟨some d,.call { callee:=.value (.func f),args:=args,argTypes:=tys },ty,pos,aft,none⟩ B1 w1 a w→Evs a args.toList vs)
    (hc:∀ w,Fk w1 w→Ctr P f vs w (fun _=>False) fun v _=>v=c) (hE:lookE Fe d=none)
    (k:RG Fk P ops N B1 w1 K ((d,c)::Fc) Fe rest):RG Fk P ops N B1 w1 K Fc Fe (⟨some d,.call { callee:=.value (.func f),args:=args,argTypes:=tys },ty,pos,aft,none⟩::rest) :=
  ⟨d,.c c,rfl,⟨.inl ⟨rfl,fun a w h=>by
    rw [run_call hF (hargs a w h)]
    exact Calls.mono (hc w h.fr) fun e w' ⟨v,he,hf,hv⟩=>⟨v,he,[],⟨hv,rfl⟩,hK.of0 hf,.nil _ _⟩⟩,fun h=>by cases h⟩,hE,k⟩
theorem rg_callE (hK:FrK Fk B1) {f:FuncId} {args:Array Operand} {tys:Array TypeId} (E:Value→List Ent→World→Prop) (st:∀ v L w w',Fk w w'→E v L w→E v L w') (hF:Fun P f)
    (hc:∀ a w,RC Fk N Fc Fe ⟨some d,.call { callee:=.value (.func f),args:=args,argTypes:=tys },ty,pos,aft,none⟩ B1 w1 a w →
      ∃ vs,Evs a args.toList vs∧Ctr P f vs w (fun _=>False) fun v w'=>∃ L',E v L' w'∧Has w.heap.size w' L') (hC:Fw.look Fc d=none)
    (k:RG Fk P ops N B1 w1 K Fc ((d,E)::Fe) rest):RG Fk P ops N B1 w1 K Fc Fe (⟨some d,.call { callee:=.value (.func f),args:=args,argTypes:=tys },ty,pos,aft,none⟩::rest) :=
  rg_e hK E st (fun a w h=>by
    obtain ⟨vs,h1,h2⟩:=hc a w h
    rw [run_call hF h1]
    exact Calls.mono h2 fun e w' ⟨v,he,hf,L',hv,hl⟩=>⟨v,he,L',hv,hK.of0 hf,hl⟩) hC k
end
section
variable {P:Program} {ops:Array Oper} {N B1:Nat} {w1:World} {Fk:World→World→Prop} {K:List (Nat × Value)→Fes→Prop} {Fc:List (Nat × Value)} {Fe:Fes} {rest:List Oper}
variable {d:Tmp} {op:Op} {ty:TypeId} {pos:String} {aft:Array Edge} {x y z:Operand} {t u:TypeId}
theorem rg_callK (hK:FrK Fk B1) {f:FuncId} {args:Array Operand} {tys:Array TypeId} (E:Value→World→Prop) (st:∀ v w w',Fk w w'→E v w→E v w') (hf:Fun P f)
    (hc:∀ a w,RC Fk N Fc Fe ⟨some d,.call { callee:=.value (.func f),args:=args,argTypes:=tys },ty,pos,aft,none⟩ B1 w1 a w →
      ∃ vs,Evs a args.toList vs∧Calls P f vs.toArray w fun e w'=>∃ v,e=.returned v∧Fk w w'∧E v w') (hC:Fw.look Fc d=none)
    (k:RG Fk P ops N B1 w1 K Fc ((d,fun v L w=>E v w∧L=[])::Fe) rest):RG Fk P ops N B1 w1 K Fc Fe (⟨some d,.call { callee:=.value (.func f),args:=args,argTypes:=tys },ty,pos,aft,none⟩::rest) :=
  rg_e hK (fun v L w=>E v w∧L=[]) (fun v L w w' h e=>⟨st v w w' h e.1,e.2⟩) (fun a w h=>by
    obtain ⟨vs,h1,h2⟩:=hc a w h
    rw [run_call hf h1]
    exact Calls.mono h2 fun e w' ⟨v,he,hf,hE⟩=>⟨v,he,[],⟨hE,rfl⟩,hf,.nil _ _⟩) hC k
theorem rg_strip {j s:Nat} {b:Bool} (hj:(ops[j]?).bind (·.dst)=some s) (hb:Fw.look Fc s=some (.bool b)) (k:RG Fk P ops N B1 w1 K Fc Fe (⟨some d,op,ty,pos,aft,none⟩::rest)) :
    RG Fk P ops N B1 w1 K Fc Fe (⟨some d,op,ty,pos,aft,some (j,b)⟩::rest):=by
  obtain ⟨d',D,h1,h2,h3,h4⟩:=k
  refine ⟨d',D,h1,?_,h3,h4⟩
  refine ⟨?_,fun h=>by cases h⟩
  rcases h2.1 with ⟨_,h⟩ | ⟨h,_⟩
  · exact .inl ⟨by simp [wantedAs,hj,hb],fun a w hc=>h a w ⟨hc.know,hc.fr,hc.ents⟩⟩
  · simp [wantedAs] at h
theorem frK {M:Nat→Prop} {R:World→World→Prop} {B1:Nat} (hM:∀ k,M k→k < B1) (hR:∀ {a b c},R a b→R b c→R a c) (h0:∀ {a b},Fr0 a b→R a b):FrK (fun a b=>Fr M a b∧R a b) B1 :=
  ⟨fun h k=>⟨h.1.trans k.1 fun _ _=>id,hR h.2 k.2⟩,fun h=>⟨h.mono fun _ _=>False.elim,h0 h⟩,fun h=>h.1.size,fun hL h =>
    hL.same h.1.size fun e he k hk=>h.1.block k (hL.lt e he k hk) fun hm=>by
      have:=hM k hm
      have:=hL.ge e he k hk
      omega⟩
end
end Go.FwK
end

section
/- Cells turned one by one; things handed in to be turned; functions that close over variables. -/
namespace Go.Fw
open Go
theorem setCell_heap {w:World} {b o:Nat} {cs:List Value} {T:TypeId} {fr:Nat × Nat} (v:Value) (h:w.heap[b]?=some (.cells cs.toArray T fr)):(w.setCell ⟨b,o,none⟩ v).heap[b]?=some (.cells (cs.set o v).toArray T fr):=by
  simp only [World.setCell,Array.getElem?_modify,if_true,h,Option.map_some,Option.isSome_none,Bool.false_eq_true,if_false]
  simp
theorem setCell_heap' {w:World} {b o:Nat} {cs:List Value} {T:TypeId} {fr:Nat × Nat} (v:Value) (h:w.heap[b]?=some (.cells cs.toArray T fr)) (k:Nat) (hk:k ≠ b):(w.setCell ⟨b,o,none⟩ v).heap[k]?=w.heap[k]?:=by
  simp only [World.setCell,Array.getElem?_modify]
  rw [if_neg (fun e=>hk e.symm)]
theorem Fr.setCell (w:World) (b o:Nat) (v:Value):Fr (·=b) w (w.setCell ⟨b,o,none⟩ v) :=
  ⟨rfl,rfl,rfl,by simp [World.setCell],fun k _ hk=>by
    simp only [World.setCell,Array.getElem?_modify]
    rw [if_neg (fun e=>hk e.symm)]⟩
theorem cell_list {w:World} {b o:Nat} {cs:List Value} {T:TypeId} {fr:Nat × Nat} {v:Value} (h:w.heap[b]?=some (.cells cs.toArray T fr)) (hv:cs[o]?=some v):w.cell? ⟨b,o,none⟩=some v:=by
  rw [cell_of h]
  simpa using hv
theorem thawed {w:World} {b o:Nat} {cs:Array Value} {T:TypeId} (h:w.heap[b]?=some (.cells cs T (0,0))):w.frozen? ⟨b,o,none⟩=false:=by
  simp [World.frozen?,h]
section
variable {P:Program} {ops:Array Oper} {Q:Exit→Act→World→Prop} {rest:List Oper} {N:Nat} {F F':List (Nat × Value)} {L L':List Ent} {M:Nat→Prop} {w0 w:World} {a:Act}
variable {d:Tmp} {op:Op} {ty:TypeId} {pos:String} {aft:Array Edge} {x y z:Operand} {t u:TypeId}
theorem St.start2 {b c:Nat} {xs ys:List Value} {T U:TypeId} (hk:Know N F a) (hne:b ≠ c) (hb:w.heap[b]?=some (.cells xs.toArray T (0,0))) (hc:w.heap[c]?=some (.cells ys.toArray U (0,0))) :
    St N F [.seg b xs T,.seg c ys U] (fun k=>k=b∨k=c) w a w:=by
  refine ⟨hk,⟨fun e he=>?_,?_,fun e he k hke=>?_,fun _ _ _ _=>Nat.zero_le _⟩,fun e he k hke=>.inr ?_,Fr.refl _ _⟩
  · simp only [List.mem_cons,List.not_mem_nil,or_false] at he
    rcases he with rfl | rfl
    · exact hb
    · exact hc
  · refine List.pairwise_cons.2 ⟨fun e he k h1 h2=>?_,List.pairwise_singleton _ _⟩
    simp only [List.mem_singleton] at he
    subst he
    have h1:k=b:=h1
    have h2:k=c:=h2
    exact hne (h1.symm.trans h2)
  · simp only [List.mem_cons,List.not_mem_nil,or_false] at he
    rcases he with rfl | rfl
    · obtain rfl:k=b:=hke
      exact heap_lt hb
    · obtain rfl:k=c:=hke
      exact heap_lt hc
  · simp only [List.mem_cons,List.not_mem_nil,or_false] at he
    rcases he with rfl | rfl
    · exact .inl hke
    · exact .inr hke
theorem c_makeFunc {g:Option (Nat × Bool)} {d:Option Tmp} {fn:Fn} {first cap:Array Operand} {fs cs:List Value} (h1:Evs a first.toList fs) (h2:Evs a cap.toList cs) :
    (execOp a.eval ⟨d,.makeFunc fn first cap,ty,pos,aft,g⟩).run P w=.ok (.value (.func fn fs.toArray cs.toArray)) w:=by
  have e1:first.map a.eval=fs.toArray:=by apply Array.ext'; rw [Array.toList_map,h1.map]
  have e2:cap.map a.eval=cs.toArray:=by apply Array.ext'; rw [Array.toList_map,h2.map]
  simp [execOp,e1,e2]
  rfl
theorem Ctr.of {f:FuncId} {vs:List Value} {M:Nat→Prop} {Post:Value→World→Prop} {R:Ending→World→Prop} (h:Calls P f vs.toArray w R) (hp:∀ e w',R e w'→∃ v,e=.returned v∧Fr M w w'∧Post v w'):Ctr P f vs w M Post:=Calls.mono h hp
theorem s_callL {f:FuncId} {args:Array Operand} {vs:List Value} {tys:Array TypeId} {Post:Value→World→Prop} {M':Nat→Prop} (hs:St N F L M w0 a w) (hF:Fun P f) (hargs:Evs a args.toList vs)
    (hc:Ctr P f vs w M' Post) (hM:∀ k,k < w.heap.size→M' k→M k∨w0.heap.size≤k) (hd:Nat.blt d N=true)
    (k:∀ a w' v,Fr M' w w'→Post v w'→(∀ L',Has 0 w' L'→(∀ e∈L',∀ k,e.keys k→w0.heap.size≤k∨M k)→St N ((d,v)::F) L' M w0 a w')→wpList P ops Q rest a w') :
    wpList P ops Q (⟨some d,.call { callee:=.value (.func f),args:=args,argTypes:=tys },ty,pos,aft,none⟩::rest) a w:=by
  refine wpList_plain rfl fun K hK=>?_
  unfold Oper.wp
  rw [run_call hF hargs]
  refine Calls.mono hc fun e' w' ⟨v,he,hf,hp⟩=>?_
  subst he
  have hfr:Fr M w0 w':=hs.fr.trans hf fun j hj hs'=>(hM j (Nat.lt_of_lt_of_le hj hs.fr.size) hs').resolve_right (by omega)
  exact hK _ _ (k _ _ v hf hp fun L' h1 h2=>(St.mk hs.know h1 h2 hfr:St N F L' M w0 a w').put (lt_of_blt hd) v)
end
section
variable {P:Program} {ops:Array Oper} {Q:Exit→Act→World→Prop} {rest:List Oper} {N:Nat} {F F':List (Nat × Value)} {L L':List Ent} {M:Nat→Prop} {w0 w:World} {a:Act}
variable {d:Tmp} {op:Op} {pos:String} {aft:Array Edge} {x y z:Operand} {t u:TypeId}
theorem s_appendK {i:Nat} {s0 x0:Operand} {E ty:TypeId} {ed:TypeDesc} {sz bytes n m:Nat} {zs xs news:List Value} {v u:Value} (hs:St N F L M w0 a w) (hu:P.underlying t=some (.slice E)) (hE:Ty P E ed sz bytes zs) (hsz:0 < sz)
    (hv:ev F s0=some v) (hx:ev F x0=some u) (hi:L[i]?=some (.row v n xs E sz)) (hr:Rd w u m news) (hl:news.length=m * sz) (h1:news.all (·.oneCell')=true)
    (h63:n + m≤maxLen) (hby:(n + m) * bytes≤140737488355328) (hd:Nat.blt d N=true)
    (k:∀ a w' v',Fr (Ent.keys (.row v n xs E sz)) w w'→(∀ k,v'.ownBlock=some k→v.ownBlock=some k∨w.heap.size≤k)→St N ((d,v')::F) (L.set i (.row v' (n + m) (xs++news) E sz)) M w0 a w'→wpList P ops Q rest a w') :
    wpList P ops Q (⟨some d,.call { callee:=.builtin .append,args:=#[s0,x0],argTypes:=#[t,t] },ty,pos,aft,none⟩::rest) a w:=by
  have hown:w.ownsRow 0 E sz v n xs:=hs.get hi
  obtain ⟨v',w',hrun,ho',hg,hnil,hblk⟩:=run_append2 (P:=P) (w:=w) (ty:=ty) hu hE hsz hown hr hl h1 h63 hby
  have hrun':(execOp a.eval ⟨some d,.call { callee:=.builtin .append,args:=#[s0,x0],argTypes:=#[t,t] },ty,pos,aft,none⟩).run P w=.ok (.value v') w':=by
    simp [execOp,resolve,invoke,builtin,hs.ev hv,hs.ev hx,hrun]
  refine wpList_plain rfl fun K hK=>upon_value hrun' (hK _ _ (k _ _ v' (.grown hg) hblk ?_))
  exact (hs.mod (e':=.row v' (n + m) (xs++news) E sz) hi (Fr.grown hg) ho' fun k hk=>⟨hblk k hk,ownBlock_row ho' k hk⟩).put (lt_of_blt hd) v'
end
theorem St.rebase {N:Nat} {F:List (Nat × Value)} {L:List Ent} {M:Nat→Prop} {w0 w:World} {a:Act} (h:St N F L M w0 a w):St N F L (Ent.grp L).keys w a w:=⟨h.know,h.has,fun e he k hk=>.inr ⟨e,he,hk⟩,Fr.refl _ _⟩
theorem Fr.rebase {L:List Ent} {M:Nat→Prop} {w0 w w':World} (hf:Fr M w0 w) (ho:∀ e∈L,∀ k,e.keys k→w0.heap.size≤k∨M k) (h:Fr (Ent.grp L).keys w w'):Fr M w0 w' :=
  hf.trans h fun i hi ⟨e,he,hk⟩=>(ho e he i hk).resolve_left (by omega)
theorem s_loopW {P:Program} {Q:Exit→Act→World→Prop} {N:Nat} {F:List (Nat × Value)} {L:List Ent} {M:Nat→Prop} {w0 w:World} {a:Act} {c:Code} {X:Type}
    (hs:St N F L M w0 a w) (Fm:X→List (Nat × Value)) (Fb:List (Nat × Value)) (Lm:X→List Ent) (ok:Nat→X→World→Prop) (n:Nat) (x:X) (h0:ok n x w) (hF:Sub F (Fm x++Fb)) (hL:L=Lm x)
    (round:∀ n x a w,ok n x w→St N (Fm x++Fb) (Lm x) M w0 a w→c.wp P (Exit.then (fun a' w'=>∃ m,m < n∧∃ x',ok m x' w'∧St N (Fm x'++Fb) (Lm x') M w0 a' w') Q) a w):(Code.loop c).wp P Q a w:=by
  refine wp_loop_ix (fun n a w=>∃ x,ok n x w∧St N (Fm x++Fb) (Lm x) M w0 a w) n ⟨x,h0,(hs.sub hF).toL hL⟩ ?_
  rintro n a w ⟨x,hx,hs⟩
  exact round n x a w hx hs
theorem Has.app {B:Nat} {w:World} {L L':List Ent} (h:Has B w L) (h':Has B w L') (ha:∀ a∈L,∀ b∈L',a.apart b):Has B w (L++L'):=by
  refine ⟨fun e he=>?_,List.pairwise_append.2 ⟨h.apart,h'.apart,ha⟩,fun e he=>?_,fun e he=>?_⟩
  · exact (List.mem_append.1 he).elim (h.holds e) (h'.holds e)
  · exact (List.mem_append.1 he).elim (h.lt e) (h'.lt e)
  · exact (List.mem_append.1 he).elim (h.ge e) (h'.ge e)
end Go.Fw
end

section
/- Calls that turn what was there,met in laws; slices made in regions that draw; three whole numbers handed in. -/
namespace Go.Fw
open Go
section
variable {P:Program} {a:Act} {w:World} {d:Option Tmp} {ty:TypeId} {pos:String} {aft:Array Edge} {g:Option (Nat × Bool)} {x y z:Operand} {t u:TypeId}
theorem c_make {E:TypeId} {ed:TypeDesc} {sz bytes n:Nat} {zs:List Value} {k1 k2:IntKind} {i1 i2:Int} (hu:P.underlying t=some (.slice E)) (hE:Ty P E ed sz bytes zs) (h1:a.eval x=.int k1 i1) (h2:a.eval y=.int k2 i2)
    (hi1:i1=(n:Int)) (hi2:i2=(n:Int)) (hby:bytes * n≤281474976710656) (h63:n≤maxLen) :
    (execOp a.eval ⟨d,.makeSlice t x y,ty,pos,aft,g⟩).run P w=.ok (.value (.slice (some ⟨w.heap.size,0,none⟩) n n)) (w.alloc (.cells (List.replicate n zs).flatten.toArray E)):=by
  subst hi1; subst hi2
  obtain ⟨inf,hi1,hi2,hi3,zv,hi4,hi5⟩:=hE.info
  have h63':(n:Int)≤9223372036854775807:=by simp only [maxLen] at h63; omega
  have hb':(inf.bytes:Int) * (n:Int)≤281474976710656:=by
    have h:((bytes * n:Nat):Int)≤281474976710656:=by omega
    rwa [Int.natCast_mul,← hi3] at h
  have hr:=run_make (P:=P) w t E inf zv hu hi1 hi4 k1 k2 n n (by omega) (Int.le_refl _) hb' h63'
  simp only [Int.toNat_natCast] at hr
  have hcells:madeCells zv.cells (n * inf.size)=(List.replicate n zs).flatten.toArray:=by
    rw [hi5,hi2]
    apply Array.ext'
    apply List.ext_getElem?
    intro j
    have hzl:=hE.len
    by_cases hj:j < n * sz
    · have hpos:0 < sz:=by
        by_cases e:sz=0
        · subst e; omega
        · omega
      have e1:=flatten_rep zs hzl hpos n j hj
      have hm:j % sz < zs.length:=by rw [hzl]; exact Nat.mod_lt _ hpos
      simp only [madeCells,Array.toList_map,Array.toList_range,e1]
      rw [List.getElem?_map,List.getElem?_range hj]
      simp [hzl,List.getElem?_eq_getElem hm]
    · have e2:(List.replicate n zs).flatten.length=n * sz:=by simp [hzl]
      rw [List.getElem?_eq_none (by simp [madeCells]; omega),List.getElem?_eq_none (by simp [hzl]; omega)]
  rw [hcells] at hr
  simp [execOp,h1,h2,hr]
end
section
variable {P:Program} {ops:Array Oper} {N B1:Nat} {w1:World} {K:List (Nat × Value)→Fes→Prop} {Fc:List (Nat × Value)} {Fe:Fes} {rest:List Oper}
variable {d:Tmp} {op:Op} {ty:TypeId} {pos:String} {aft:Array Edge} {x y z:Operand} {t u:TypeId}
theorem rg_make {E:TypeId} {ed:TypeDesc} {sz bytes n:Nat} {zs zz:List Value} {k1 k2:IntKind} {i1 i2:Int} (hu:P.underlying t=some (.slice E)) (hE:Ty P E ed sz bytes zs) (h1:ev Fc x=some (.int k1 i1)) (h2:ev Fc y=some (.int k2 i2))
    (hi1:i1=(n:Int)) (hi2:i2=(n:Int)) (hby:bytes * n≤281474976710656) (h63:n≤maxLen) (hz:(List.replicate n zs).flatten=zz) (hC:look Fc d=none)
    (k:RG P ops N B1 w1 K Fc ((d,fun v L _=>∃ g,v=.slice (some ⟨g,0,none⟩) n n∧L=[.seg g zz E])::Fe) rest):RG P ops N B1 w1 K Fc Fe (⟨some d,.makeSlice t x y,ty,pos,aft,none⟩::rest) :=
  rg_e _ (fun _ _ _ _ _ h=>h) (fun a w hc=>by rw [c_make hu hE (hc.ev h1) (hc.ev h2) hi1 hi2 hby h63,hz]; exact ⟨_,⟨_,rfl,rfl⟩,.alloc _ _,has_alloc⟩) hC k
end
section
variable {P:Program} {ops:Array Oper} {Q:Exit→Act→World→Prop} {rest:List Oper} {N:Nat} {F F':List (Nat × Value)} {L L':List Ent} {M:Nat→Prop} {w0 w:World} {a:Act}
variable {d:Tmp} {op:Op} {ty:TypeId} {pos:String} {aft:Array Edge} {x y z:Operand} {t u:TypeId}
theorem s_callR {f:FuncId} {args:Array Operand} {vs:List Value} {tys:Array TypeId} {Post:Value→World→Prop} {M':Nat→Prop} (hs:St N F L M w0 a w) (hF:Fun P f) (hargs:Evs a args.toList vs)
    (hc:Ctr P f vs w M' Post) (hd:Nat.blt d N=true)
    (k:∀ a w' v,Fr M' w w'→Post v w'→St N ((d,v)::F) [] (fun _=>False) w' a w'→wpList P ops Q rest a w') :
    wpList P ops Q (⟨some d,.call { callee:=.value (.func f),args:=args,argTypes:=tys },ty,pos,aft,none⟩::rest) a w:=by
  refine wpList_plain rfl fun K hK=>?_
  unfold Oper.wp
  rw [run_call hF hargs]
  refine Calls.mono hc fun e' w' ⟨v,he,hf,hp⟩=>?_
  subst he
  exact hK _ _ (k _ _ v hf hp (St.start (hs.know.put (lt_of_blt hd) v) w'))
theorem Fr.over {M:Nat→Prop} {w0 w w':World} (h:Fr0 w0 w) (k:Fr M w w') (hM:∀ i,M i→w0.heap.size≤i):Fr0 w0 w':=h.trans k fun i hi hm=>by have:=hM i hm; omega
theorem Fr.keepT {M:Nat→Prop} {w w':World} {b:Nat} {cs:Array Value} {T:TypeId} {fr:Nat × Nat} (h:Fr M w w') (hb:w.heap[b]?=some (.cells cs T fr)) (hM:∀ i,M i→∃ cs' T' fr',w.heap[i]?=some (.cells cs' T' fr')∧Nat.beq T' T=false):w'.heap[b]?=some (.cells cs T fr):=by
  refine (h.block b (heap_lt hb) fun hm=>?_).trans hb
  obtain ⟨cs',T',fr',h1,h2⟩:=hM b hm
  rw [hb] at h1
  cases h1
  simp at h2
end
section
open Go.ChangeShapes Go.WideShapes Go.ChangeAt Go.RowKit
variable {H:Type} {enc:TypeId × Value→H} {P:Program} {w:World} {base:Nat} {spare:Nat→Bool} {held:Bool} {fuel:Nat} {t e u:TypeId} {cs:List Value} {x:DataW H × List MemPlace} {v:Value} {d:DataW H} {ps:List MemPlace} {r:Reach} {b0:Nat}
theorem opIII {f0 f1 f2:Field} (ht:P.underlying t=some (.struct #[f0,f1,f2])) (h0:P.underlying f0.type=some (.int .i64)) (h1:P.underlying f1.type=some (.int .i64)) (h2:P.underlying f2.type=some (.int .i64)) (o0:f0.offset=0) (o1:f1.offset=1) (o2:f2.offset=2)
    (c0:P.cellsOf f0.type=1) (c1:P.cellsOf f1.type=1) (c2:P.cellsOf f2.type=1) (ct:P.cellsOf t=3) (hval:Value.okWide P w r b0 t v) (hd:DataW.Trod enc P w base spare held t v d ps) :
    ∃ (n i j:Int),v=.agg #[I n,I i,I j]∧(-9223372036854775808≤n∧n≤9223372036854775807)∧(-9223372036854775808≤i∧i≤9223372036854775807)∧(-9223372036854775808≤j∧j≤9223372036854775807):=by
  obtain ⟨cs,rfl,_⟩:=okWide_struct ht hval
  obtain ⟨fu,hf⟩:=hd
  obtain ⟨y0,y1,y2,n,_,hl,hy0,hy1,hy2⟩:=Go.Deep.trod_struct3 ht hf
  simp only [Value.cells] at hl hy0 hy1 hy2
  rw [ct] at hl
  match hcs:cs.toList,hl with
  | [a,b,c],_ =>
    rw [hcs,o0,c0] at hy0
    rw [hcs,o1,c1] at hy1
    rw [hcs,o2,c2] at hy2
    obtain ⟨z,hz,_,hw⟩:=DataW.trod_int h0 hy0
    obtain ⟨z1,hz1,_,hw1⟩:=DataW.trod_int h1 hy1
    obtain ⟨z2,hz2,_,hw2⟩:=DataW.trod_int h2 hy2
    simp at hz hz1 hz2
    subst hz hz1 hz2
    refine ⟨z,z1,z2,?_,bounds_i64 hw,bounds_i64 hw1,bounds_i64 hw2⟩
    congr 1
    apply Array.ext'
    rw [hcs]
end
end Go.Fw
end

section
/- The opening of a struct of five cells: an int,a struct (uint32,uint32,int),an int. -/
namespace Go.Fw
section
open Go Go.ChangeShapes Go.WideShapes Go.ChangeAt Go.RowKit
variable {H:Type} {enc:TypeId × Value→H} {P:Program} {w:World} {base:Nat} {spare:Nat→Bool} {held:Bool} {fuel:Nat} {t e u:TypeId} {cs:List Value} {x:DataW H × List MemPlace} {v:Value} {d:DataW H} {ps:List MemPlace} {r:Reach} {b0:Nat}
theorem opIK {f0 f1 f2 g0 g1 g2:Field} (ht:P.underlying t=some (.struct #[f0,f1,f2])) (h0:P.underlying f0.type=some (.int .i64)) (h1:P.underlying f1.type=some (.struct #[g0,g1,g2])) (h2:P.underlying f2.type=some (.int .i64))
    (k0:P.underlying g0.type=some (.int .u32)) (k1:P.underlying g1.type=some (.int .u32)) (k2:P.underlying g2.type=some (.int .i64)) (o0:f0.offset=0) (o1:f1.offset=1) (o2:f2.offset=4) (p0:g0.offset=0) (p1:g1.offset=1) (p2:g2.offset=2)
    (c0:P.cellsOf f0.type=1) (c1:P.cellsOf f1.type=3) (c2:P.cellsOf f2.type=1) (ct:P.cellsOf t=5) (d0:P.cellsOf g0.type=1) (d1:P.cellsOf g1.type=1) (d2:P.cellsOf g2.type=1) (hval:Value.okWide P w r b0 t v) (hd:DataW.Trod enc P w base spare held t v d ps) :
    ∃ (n:Int) (ep sq:UInt32) (i j:Int),v=.agg #[I n,U ep,U sq,I i,I j]∧(-9223372036854775808≤n∧n≤9223372036854775807)∧(-9223372036854775808≤i∧i≤9223372036854775807)∧(-9223372036854775808≤j∧j≤9223372036854775807):=by
  obtain ⟨cs,rfl,_⟩:=okWide_struct ht hval
  obtain ⟨fu,hf⟩:=hd
  obtain ⟨y0,y1,y2,n,_,hl,hy0,hy1,hy2⟩:=Go.Deep.trod_struct3 ht hf
  obtain ⟨z0,z1,z2,m,_,hl1,hz0,hz1,hz2⟩:=Go.Deep.trod_struct3 h1 hy1
  simp only [Value.cells] at hl hy0 hy1 hy2 hz0 hz1 hz2
  rw [ct] at hl
  match hcs:cs.toList,hl with
  | [a,b,c,e,f],_ =>
    rw [hcs,o0,c0] at hy0
    rw [hcs,o2,c2] at hy2
    rw [hcs,o1,c1,p0,d0] at hz0
    rw [hcs,o1,c1,p1,d1] at hz1
    rw [hcs,o1,c1,p2,d2] at hz2
    obtain ⟨z,hz,_,hw⟩:=DataW.trod_int h0 hy0
    obtain ⟨ze,hze,_,hwe⟩:=DataW.trod_int k0 hz0
    obtain ⟨zs,hzs,_,hws⟩:=DataW.trod_int k1 hz1
    obtain ⟨zm,hzm,_,hwm⟩:=DataW.trod_int k2 hz2
    obtain ⟨zn,hzn,_,hwn⟩:=DataW.trod_int h2 hy2
    simp at hz hze hzs hzm hzn
    subst hz hze hzs hzm hzn
    obtain ⟨ep,hep⟩:=ofU hwe
    obtain ⟨sq,hsq⟩:=ofU hws
    refine ⟨z,ep,sq,zm,zn,?_,bounds_i64 hw,bounds_i64 hwm,bounds_i64 hwn⟩
    congr 1
    apply Array.ext'
    rw [hcs,← hep,← hsq]
end
end Go.Fw
end

section
/- Comparisons of arrays of arrays of bytes; literals of numbers. -/
namespace Go.Fw
open Go
section
variable {P:Program} {a:Act} {w:World} {d:Option Tmp} {ty:TypeId} {pos:String} {aft:Array Edge} {g:Option (Nat × Bool)} {x y z:Operand} {t u:TypeId}
def piece (l:List UInt8) (m i:Nat):List UInt8:=(l.drop (i * m)).take m
theorem pieces_eq {n m:Nat} (hm:0 < m) {xs ys:List UInt8} (hx:xs.length=n * m) (hy:ys.length=n * m):(∀ i,i < n→piece xs m i=piece ys m i) ↔ xs=ys:=by
  constructor
  · intro h
    apply List.ext_getElem (by omega)
    intro j h1 h2
    have hj:j / m < n:=Nat.div_lt_of_lt_mul (by rw [Nat.mul_comm]; omega)
    have e2:=congrArg (fun l:List UInt8=>l[j % m]?) (h (j / m) hj)
    simp only [piece] at e2
    have hmod:=Nat.mod_lt j hm
    rw [List.getElem?_take_of_lt hmod,List.getElem?_take_of_lt hmod,List.getElem?_drop,List.getElem?_drop,Nat.div_add_mod',List.getElem?_eq_getElem h1,List.getElem?_eq_getElem h2] at e2
    exact Option.some.inj e2
  · rintro rfl i _
    rfl
end
theorem RdV.seg {w:World} {g:Nat} {T:TypeId} {l:List UInt64} (h:w.heap[g]?=some (.cells (l.map V).toArray T (0,0))) (hn:l.length≤maxLen):RdV w (.slice (some ⟨g,0,none⟩) l.length l.length) l :=
  Rd.of_seg h (Nat.le_refl _) hn (List.take_of_length_le (by simp))
end Go.Fw
end

section
/- Guarded calls in a region that draws,whatever the guard; reading rows of many cells. -/
namespace Go.Fw
open Go
section
variable {P:Program} {ops:Array Oper} {N B1:Nat} {w1:World} {K:List (Nat × Value)→Fes→Prop} {Fc:List (Nat × Value)} {Fe:Fes} {rest:List Oper}
variable {d:Tmp} {op:Op} {ty:TypeId} {pos:String} {aft:Array Edge}
theorem rg_gcall {f:FuncId} {args:Array Operand} {vs:List Value} {tys:Array TypeId} {v:Value} {j s:Nat} {b c:Bool} (hj:(ops[j]?).bind (·.dst)=some s) (hb:look Fc s=some (.bool c)) (hF:Fun P f)
    (hargs:c=b→∀ a w,RC N Fc Fe ⟨some d,.call { callee:=.value (.func f),args:=args,argTypes:=tys },ty,pos,aft,some (j,b)⟩ B1 w1 a w→Evs a args.toList vs)
    (hc:c=b→∀ w,Fr0 w1 w→Ctr P f vs w (fun _=>False) fun u _=>u=v) (hE:lookE Fe d=none)
    (k:RG P ops N B1 w1 K ((d,if c=b then v else undef)::Fc) Fe rest):RG P ops N B1 w1 K Fc Fe (⟨some d,.call { callee:=.value (.func f),args:=args,argTypes:=tys },ty,pos,aft,some (j,b)⟩::rest):=by
  by_cases e:c=b
  · rw [if_pos e] at k
    refine ⟨d,.c v,rfl,⟨.inl ⟨by subst e; simp [wantedAs,hj,hb],fun a w h=>?_⟩,fun h=>by cases h⟩,hE,k⟩
    rw [run_call hF (hargs e a w h)]
    exact Calls.mono (hc e w h.fr) fun e w' ⟨u,he,hf,hv⟩=>⟨u,he,[],⟨hv,rfl⟩,hf,.nil _ _⟩
  · rw [if_neg e] at k
    exact rg_no hj hb (by cases c <;> cases b <;> simp_all) hE k
end
theorem rowpiece {n m i:Nat} {xs:List UInt8} {cur:Array Value} (h:cur.toList.take (n * m)=xs.map B) (hx:xs.length=n * m) (hi:i < n):(cur.toList.drop (0 + i * m)).take m=((xs.drop (i * m)).take m).map B:=by
  have hle:(i + 1) * m≤n * m:=Nat.mul_le_mul_right _ (by omega)
  rw [Nat.succ_mul] at hle
  have h2:((cur.toList.take (n * m)).drop (i * m)).take m=((xs.map B).drop (i * m)).take m:=by rw [h]
  rw [List.drop_take,List.take_take,Nat.min_eq_left (by omega)] at h2
  rw [Nat.zero_add,h2,List.map_take,List.map_drop]
end Go.Fw
end

section
/- More conversions. -/
namespace Go.Fw
open Go
section
variable {P:Program} {a:Act} {w:World} {d:Option Tmp} {ty:TypeId} {pos:String} {aft:Array Edge} {g:Option (Nat × Bool)} {x y z:Operand} {t u:TypeId}
theorem c_cvVI {ds:TypeDesc} {b:UInt64} (hs:P.underlying t=some ds) (hd:P.underlying u=some (.int .i64)) (hx:a.eval x=V b) (hb:b.toNat≤9223372036854775807):(execOp a.eval ⟨d,.convert t u x,ty,pos,aft,g⟩).run P w=.ok (.value (I b.toNat)) w:=by
  rw [c_conv hs hd hx,wrap64_in (by omega) (by omega)]
end
end Go.Fw
end

section
/- Guarded calls,whatever the guard. -/
namespace Go.Fw
open Go
section
variable {P:Program} {ops:Array Oper} {Q:Exit→Act→World→Prop} {rest:List Oper} {N:Nat} {F F':List (Nat × Value)} {L L':List Ent} {M:Nat→Prop} {w0 w:World} {a:Act}
variable {d:Tmp} {op:Op} {ty:TypeId} {pos:String} {aft:Array Edge} {x y z:Operand} {t u:TypeId}
theorem s_gcall {f:FuncId} {args:Array Operand} {vs:List Value} {tys:Array TypeId} {v:Value} {j s:Nat} {b c:Bool} (hs:St N F L M w0 a w) (hj:(ops[j]?).bind (·.dst)=some s) (hb:look F s=some (.bool c)) (hF:Fun P f)
    (hargs:c=b→Evs a args.toList vs) (hc:c=b→Ctr P f vs w (fun _=>False) fun u _=>u=v) (hd:Nat.blt d N=true)
    (k:∀ a w',Fr0 w w'→St N ((d,if c=b then v else undef)::F) L M w0 a w'→wpList P ops Q rest a w') :
    wpList P ops Q (⟨some d,.call { callee:=.value (.func f),args:=args,argTypes:=tys },ty,pos,aft,some (j,b)⟩::rest) a w:=by
  by_cases e:c=b
  · rw [if_pos e] at k
    subst e
    refine s_yes hs hj hb (s_call hs hF (hargs rfl) (hc rfl) hd fun a w' v' hf hp hs=>?_)
    subst hp
    exact k _ _ hf (hs [] (.nil _ _))
  · rw [if_neg e] at k
    exact s_no hs hj hb (by cases c <;> cases b <;> simp_all) hd fun a hs=>k a w (.refl _ _) hs
end
end Go.Fw
end

section
/- Rows of rows of many cells. -/
namespace Go.Fw
open Go
theorem owns_at {n sz:Nat} {v:Value} {xs:List Value} {T:TypeId} {w:World} (h:w.ownsRow 0 T sz v n xs) (hn:0 < n) :
    ∃ g cap cur,v=.slice (some ⟨g,0,none⟩) n cap∧w.heap[g]?=some (.cells cur T (0,0))∧n≤cap∧cap≤maxLen∧cur.toList.take (n * sz)=xs:=by
  obtain ⟨h1,h2⟩:=h
  rcases h2 with ⟨_,h3⟩ | ⟨g,cap,cur,h3,_,h4,h5,h6,h7,h8⟩
  · omega
  · exact ⟨g,cap,cur,h3,h4,h5,h6,h8⟩
theorem texts_at {α:Type} {E:TypeId} {pt:Value × α→Ent} {v:Value} {ps:List (Value × α)} {w:World} (h:(Ent.texts E pt v ps).holds w) (hn:0 < ps.length) :
    ∃ g cap cur,v=.slice (some ⟨g,0,none⟩) ps.length cap∧w.heap[g]?=some (.cells cur E (0,0))∧ps.length≤cap∧cap≤maxLen∧cur.toList.take (ps.length * 1)=ps.map (fun q=>q.1):=by
  have h:Has 0 w (textsL E pt v ps):=h
  exact owns_at (h.holds (.row v ps.length (ps.map (fun q:Value × α=>q.1)) E 1) (by simp [textsL])) hn
theorem texts_part {α:Type} {E:TypeId} {pt:Value × α→Ent} {v:Value} {ps:List (Value × α)} {w:World} (h:(Ent.texts E pt v ps).holds w) {k:Nat} (hk:k < ps.length) (d:Value × α):(pt (ps.getD k d)).holds w:=by
  have h:Has 0 w (textsL E pt v ps):=h
  refine h.holds _ ?_
  simp only [textsL,List.mem_cons,List.mem_map]
  exact .inr ⟨ps.getD k d,by simp [List.getD,hk],rfl⟩
theorem outcell {α:Type} {n k:Nat} {ps:List (Value × α)} {cur:Array Value} (d:Value × α) (h:cur.toList.take (n * 1)=ps.map (fun q=>q.1)) (hk:k < ps.length):cur.toList[0 + k * 1]?=some (ps.getD k d).1:=by
  have h2:(cur.toList.take (n * 1))[k]?=some (ps.getD k d).1:=by rw [h]; simp [List.getD,hk]
  rw [List.getElem?_take] at h2
  split at h2
  · simpa using h2
  · cases h2
section
variable {P:Program} {ops:Array Oper} {Q:Exit→Act→World→Prop} {rest:List Oper} {N:Nat} {F F':List (Nat × Value)} {L L':List Ent} {M:Nat→Prop} {w0 w:World} {a:Act}
variable {d:Tmp} {op:Op} {ty:TypeId} {pos:String} {aft:Array Edge} {x y z:Operand} {t u:TypeId}
theorem St.texts1 {α:Type} {E:TypeId} {pt:Value × α→Ent} {i j:Nat} {v tv:Value} {z:α} (hs:St N F L M w0 a w) (hi:L[i]?=some (.row v 1 [tv] E 1)) (hj:L[j]?=some (pt (tv,z))) (hij:Nat.beq i j=false) :
    St N F ((L.set i (.texts E pt v [(tv,z)])).set j .none) M w0 a w:=by
  have hij:i ≠ j:=fun e=>by simp [e] at hij
  have hap:(Ent.row v 1 [tv] E 1).apart (pt (tv,z)):=apart_at hs.has.apart hi hj hij
  refine hs.join hi hj hij ?_ fun k hk=>?_
  · show Has 0 w [.row v 1 [tv] E 1,pt (tv,z)]
    exact ((Has.nil 0 w).cons (hs.get hj) (hs.has.lt _ (List.mem_of_getElem? hj)) (fun _ _=>Nat.zero_le _) (by simp)).cons (hs.get hi) (hs.has.lt _ (List.mem_of_getElem? hi)) (fun _ _=>Nat.zero_le _) (by intro x hx; simp at hx; subst hx; exact hap)
  · obtain ⟨e,he,hek⟩:=hk
    simp only [textsL,List.map_cons,List.map_nil,List.length_cons,List.length_nil,List.mem_cons,List.not_mem_nil,or_false] at he
    rcases he with rfl | rfl
    · exact .inl hek
    · exact .inr hek
theorem s_appP {α:Type} {pt:Value × α→Ent} {i j g:Nat} {s0 x0:Operand} {E T':TypeId} {ed:TypeDesc} {zs:List Value} {ps:List (Value × α)} {v tv:Value} {z:α} (hs:St N F L M w0 a w) (hu:P.underlying t=some (.slice E)) (hE:Ty P E ed 1 24 zs)
    (hv:ev F s0=some v) (hx:ev F x0=some (.slice (some ⟨g,0,none⟩) 1 1)) (hi:L[i]?=some (.texts E pt v ps)) (hj:L[j]?=some (pt (tv,z))) (hij:Nat.beq i j=false)
    (hg:w.heap[g]?=some (.cells #[tv] T' (0,0))) (h1:tv.oneCell'=true) (hml:ps.length≤1000000) (hd:Nat.blt d N=true)
    (k:∀ a w' v',St N ((d,v')::F) ((L.set i (.texts E pt v' (ps++[(tv,z)]))).set j .none) M w0 a w'→wpList P ops Q rest a w') :
    wpList P ops Q (⟨some d,.call { callee:=.builtin .append,args:=#[s0,x0],argTypes:=#[t,t] },ty,pos,aft,none⟩::rest) a w :=
  s_appG (qs:=[(tv,z)]) (b:=pt (tv,z)) hs hu hE hv hx hi hj hij
    (by
      have:=hs.has.lt _ (List.mem_of_getElem? hj)
      exact (Has.nil 0 w).cons (hs.get hj) this (fun _ _=>Nat.zero_le _) (by simp))
    (fun q hq k hk=>by simp only [List.mem_singleton] at hq; subst hq; exact hk)
    (Rd.of_seg (all:=[tv]) hg (Nat.le_refl _) (by decide) rfl) (by simpa using h1) (by simp only [List.length_cons,List.length_nil,maxLen]; omega) (by simp only [List.length_cons,List.length_nil]; omega) hd k
end
theorem flatZ (n m:Nat):(List.replicate n ((List.replicate m (0:UInt8)).map B)).flatten=(List.replicate (n * m) (0:UInt8)).map B:=by
  simp
end Go.Fw
end

section
/- Operations whose guard was not told: they are not done. -/
namespace Go.Fw
open Go
section
variable {P:Program} {ops:Array Oper} {Q:Exit→Act→World→Prop} {rest:List Oper} {N:Nat} {F F':List (Nat × Value)} {L L':List Ent} {M:Nat→Prop} {w0 w:World} {a:Act}
variable {d:Tmp} {op:Op} {ty:TypeId} {pos:String} {aft:Array Edge} {x y z:Operand} {t u:TypeId}
theorem s_noU {j s:Nat} {b:Bool} (hs:St N F L M w0 a w) (hj:(ops[j]?).bind (·.dst)=some s) (hb:look F s=some undef) (hd:Nat.blt d N=true)
    (k:∀ a,St N ((d,undef)::F) L M w0 a w→wpList P ops Q rest a w):wpList P ops Q (⟨some d,op,ty,pos,aft,some (j,b)⟩::rest) a w:=by
  have hy:yielded ops a.tmps j=none:=by
    have:=hs.know.at_ s _ hb
    simp [yielded,hj,this,undef]
  unfold wpList
  have hw:Region.wanted ⟨some d,op,ty,pos,aft,some (j,b)⟩ (yielded ops a.tmps)=false:=by simp [Region.wanted,hy]
  rw [if_neg (by rw [hw]; simp)]
  exact k _ (hs.put (lt_of_blt hd) undef)
end
end Go.Fw
end

section
/- Openings: slices of arrays of bytes. -/
namespace Go.Fw
open Go Go.ChangeShapes Go.WideShapes Go.ChangeAt Go.RowKit
section
variable {H:Type} {enc:TypeId × Value→H} {P:Program} {w:World} {base:Nat} {spare:Nat→Bool} {held:Bool} {fuel:Nat} {t e u:TypeId} {cs:List Value} {x:DataW H × List MemPlace} {v:Value} {d:DataW H} {ps:List MemPlace} {r:Reach} {b0:Nat}
theorem add_add (a:Addr) (i j:Nat) (hs:a.spot=none):(a.add i).add j=a.add (i + j):=by
  obtain ⟨b,o,s⟩:=a
  simp only at hs
  subst hs
  rw [add_lit,add_lit,add_lit,Nat.add_assoc]
end
end Go.Fw
end

section
/- The openings of structs that hold slices of arrays of bytes: credentials,what is known. -/
namespace Go.Fw
open Go Go.ChangeShapes Go.WideShapes Go.ChangeAt Go.RowKit
section
variable {H:Type} {enc:TypeId × Value→H} {P:Program} {w:World} {base:Nat} {spare:Nat→Bool} {held:Bool} {fuel:Nat} {t e u:TypeId} {cs:List Value} {x:DataW H × List MemPlace} {v:Value} {d:DataW H} {ps:List MemPlace} {r:Reach} {b0:Nat}
theorem trodSA {m:Nat} (ht:P.underlying t=some (.slice e)) (he:P.underlying e=some (.array m u)) (hu:P.underlying u=some (.int .u8)) (hcu:P.cellsOf u=1) (hce:P.cellsOf e=m) (hm0:0 < m)
    (h:DataW.trod enc P w base spare held fuel t cs=some x):∃ (v:Value) (n:Nat) (ws:List UInt8),cs=[v]∧ws.length=n * m∧Rd w v n (ws.map B):=by
  rcases Deep.open_slice ht h with ⟨h1,h2⟩ | ⟨a,len,cap,q,n,D,Pl,h1,hb,hl,hm,hmm,h2,hx⟩
  · exact ⟨_,0,[],h1,by simp,⟨none,0,rfl,Nat.le_refl _,Nat.zero_le _,fun _=>rfl,.inl rfl⟩⟩
  · have hlm:len≤q:=by rw [hmm]; split <;> omega
    have each:∀ i,i < len→∃ l:List UInt8,l.length=m∧∀ j,j < m→w.cell? ((a.add (i * m)).add j)=(l.map B)[j]?:=fun i hi=>by
      obtain ⟨cs',h3,h4⟩:=hx i (by omega)
      rw [hce] at h3
      obtain ⟨l,hl2,rfl⟩:=trodBs he hu hcu hce h4
      refine ⟨l,hl2,fun j hj=>?_⟩
      exact (World.cells?_some h3).2.2 j hj
    obtain ⟨F,hF⟩:=Deep.choose_lt (α:=List UInt8) (p:=fun i l=>l.length=m∧∀ j,j < m→w.cell? ((a.add (i * m)).add j)=(l.map B)[j]?) each
    have hfl:∀ k,k≤len→((List.range k).flatMap F).length=k * m∧∀ i j,i < k→j < m→((List.range k).flatMap F)[i * m + j]?=(F i)[j]?:=by
      intro k
      induction k with
      | zero=>intro _; exact ⟨by simp,fun i j hi _=>by omega⟩
      | succ k ih =>
        intro hk
        obtain ⟨ih1,ih2⟩:=ih (by omega)
        have hk1:=(hF k (by omega)).1
        rw [List.range_succ,List.flatMap_append]
        simp only [List.flatMap_cons,List.flatMap_nil,List.append_nil]
        refine ⟨by rw [List.length_append,ih1,hk1,Nat.succ_mul],fun i j hi hj=>?_⟩
        by_cases e:i=k
        · subst e
          rw [List.getElem?_append_right (by omega),ih1,Nat.add_sub_cancel_left]
        · have hle:(i + 1) * m≤k * m:=Nat.mul_le_mul_right _ (by omega)
          rw [Nat.succ_mul] at hle
          rw [List.getElem?_append_left (by omega),ih2 i j (by omega) hj]
    obtain ⟨hf1,hf2⟩:=hfl len (Nat.le_refl _)
    refine ⟨_,len,(List.range len).flatMap F,h1,hf1,some a,cap,rfl,hl,hm,(fun h=>by cases h),?_⟩
    by_cases hp:len=0
    · left; subst hp; rfl
    · right
      have hsp:a.spot=none:=by
        have h5:=(hF 0 (by omega)).2 0 hm0
        have h6:=(hF 0 (by omega)).1
        rw [List.getElem?_eq_getElem (by simp; omega)] at h5
        have:=World.cell?_spot h5
        have e0:(a.add (0 * m)).add 0=a:=by rw [Nat.zero_mul]; obtain ⟨b,o,s⟩:=a; cases s <;> simp [Addr.add]
        rw [e0] at this
        exact this
      obtain ⟨b,o,T,fr,all,rfl,h5,h6⟩:=row_of (w:=w) (a:=a) (cs:=((List.range len).flatMap F).map B) (n:=len * m) (Nat.mul_pos (by omega) hm0) (by simpa using hf1) (fun i hi=>by
        have hdiv:i / m < len:=Nat.div_lt_of_lt_mul (by rw [Nat.mul_comm]; exact hi)
        have hmod:=Nat.mod_lt i hm0
        have h7:=(hF (i / m) hdiv).2 (i % m) hmod
        rw [add_add _ _ _ hsp,Nat.div_add_mod'] at h7
        rw [h7,List.getElem?_map,List.getElem?_map,← hf2 (i / m) (i % m) hdiv hmod,Nat.div_add_mod'])
      exact ⟨b,o,T,fr,all,rfl,h5,h6⟩
theorem cut18 {α:Type} (l:List α) (h:l.length=18):l=(l.drop 0).take 16++(l.drop 16).take 1++(l.drop 17).take 1:=by
  have h3:(l.drop 17).take 1=l.drop 17:=List.take_of_length_le (by simp; omega)
  have h4:(l.drop 16).take 1++l.drop 17=l.drop 16:=by
    have:=List.take_append_drop 1 (l.drop 16)
    rw [List.drop_drop] at this
    exact this
  rw [h3,List.drop_zero,List.append_assoc,h4,List.take_append_drop]
theorem opCr {f0 f1 f2:Field} (ht:P.underlying t=some (.struct #[f0,f1,f2])) (h0:P.underlying f0.type=some (.array 16 u)) (h1:P.underlying f1.type=some (.slice e)) (h2:P.underlying f2.type=some (.slice e)) (he:P.underlying e=some (.array 16 u)) (hu:P.underlying u=some (.int .u8))
    (o0:f0.offset=0) (o1:f1.offset=16) (o2:f2.offset=17) (c0:P.cellsOf f0.type=16) (c1:P.cellsOf f1.type=1) (c2:P.cellsOf f2.type=1) (hcu:P.cellsOf u=1) (hce:P.cellsOf e=16) (ct:P.cellsOf t=18)
    (hval:Value.okWide P w r b0 t v) (hd:DataW.Trod enc P w base spare held t v d ps) :
    ∃ (l ws qs:List UInt8) (nw np:Nat) (wv pv:Value),l.length=16∧v=.agg (l.map B++[wv,pv]).toArray∧ws.length=nw * 16∧qs.length=np * 16∧Rd w wv nw (ws.map B)∧Rd w pv np (qs.map B):=by
  obtain ⟨cs,rfl,_⟩:=okWide_struct ht hval
  obtain ⟨fu,hf⟩:=hd
  obtain ⟨y0,y1,y2,n,_,hl,hy0,hy1,hy2⟩:=Go.Deep.trod_struct3 ht hf
  simp only [Value.cells] at hl hy0 hy1 hy2
  rw [ct] at hl
  rw [o0,c0] at hy0
  rw [o1,c1] at hy1
  rw [o2,c2] at hy2
  obtain ⟨l,hll,he0⟩:=trodBs h0 hu hcu c0 hy0
  obtain ⟨wv,nw,ws,he1,hwl,hqw⟩:=trodSA h1 he hu hcu hce (by decide) hy1
  obtain ⟨pv,np,qs,he2,hpl,hqp⟩:=trodSA h2 he hu hcu hce (by decide) hy2
  have hcut:=cut18 cs.toList hl
  rw [he0,he1,he2] at hcut
  refine ⟨l,ws,qs,nw,np,wv,pv,hll,?_,hwl,hpl,hqw,hqp⟩
  congr 1
  apply Array.ext'
  rw [hcut]
  simp
end
end Go.Fw
end

section
/- Regions that draw,with several stores at the end,behind which plain turnings may still be late. -/
namespace Go.Fw
open Go
section
variable {P:Program} {l:List Oper} {n N B1:Nat} {w1:World} {Fc0:List (Nat × Value)} {Ds:List DV} {Q:Exit→Act→World→Prop} {late:List Nat}
def lateBK (l:List Oper) (n K:Nat) (J:List Nat):Bool :=
  ((List.range (K + 1)).all fun i=>match l[n + i]? with | some o=>(match o.guard with | none=>notSelect o | _=>false) | none=>false) &&
  ((l.drop (n + (K + 1))).all fun o=>turnB o || J.all fun j=>anc l.toArray 24 o j) &&
  (J.all fun j=>match l[j]? with
    | none=>false
    | some o=>((opnd o).isSome || needQ o) && match o.dst with
      | some d=>((tmpsOf o).all fun s=>(J.all fun j'=>!(dstAt l.toArray j' == some s) || waits o j') && ((l.drop n).all fun o'=>!(o'.dst == some s))) && ((l.drop n).all fun o'=>!(o'.dst == some d) && (!((tmpsOf o').any (Nat.beq d)) || waits o' j))
      | _=>false)
structure LateK (l:List Oper) (n K:Nat) (J:List Nat):Prop where
  op:∀ j∈J,∃ o d,l[j]?=some o∧((opnd o).isSome=true∨needQ o=true)∧o.dst=some d∧(∀ s∈tmpsOf o,(∀ j'∈J,dstAt l.toArray j'=some s→waits o j'=true)∧∀ t o',n≤t→l[t]?=some o'→o'.dst ≠ some s)∧∀ t o',n≤t→l[t]?=some o'→o'.dst ≠ some d∧(d∈tmpsOf o'→waits o' j=true)
  tl:∀ t o,n + (K + 1)≤t→l[t]?=some o→turnB o=true∨∀ j∈J,anc l.toArray 24 o j=true
  hd:∀ i,i < K + 1→∃ o,l[n + i]?=some o∧o.guard=none∧notSelect o=true
theorem lateBK_spec {l:List Oper} {n K:Nat} {J:List Nat} (h:lateBK l n K J=true):LateK l n K J:=by
  unfold lateBK at h
  simp only [Bool.and_eq_true] at h
  obtain ⟨⟨h1,h2⟩,h3⟩:=h
  refine ⟨fun j hj=>?_,fun t o ht ho=>?_,fun i hi=>?_⟩
  · have h4:=List.all_eq_true.1 h3 j hj
    cases ho:l[j]? with
    | none=>rw [ho] at h4; cases h4
    | some o =>
      rw [ho] at h4
      dsimp only at h4
      rw [Bool.and_eq_true] at h4
      obtain ⟨h4,h5⟩:=h4
      cases hd:o.dst with
      | none=>rw [hd] at h5; cases h5
      | some d =>
        rw [hd] at h5
        dsimp only at h5
        rw [Bool.and_eq_true] at h5
        refine ⟨o,d,rfl,by simpa using h4,hd,fun s hs=>?_,fun t o' ht ho'=>?_⟩
        · have h6:=List.all_eq_true.1 h5.1 s hs
          rw [Bool.and_eq_true] at h6
          exact ⟨fun j' hj' e=>by
            have h7:=List.all_eq_true.1 h6.1 j' hj'
            rw [e] at h7
            simpa using h7,fun t o' ht ho'=>by simpa using List.all_eq_true.1 h6.2 o' (mem_drop_at ht ho')⟩
        · have h6:=List.all_eq_true.1 h5.2 o' (mem_drop_at ht ho')
          simp only [Bool.and_eq_true,Bool.or_eq_true,Bool.not_eq_true',beq_eq_false_iff_ne,ne_eq] at h6
          refine ⟨h6.1,fun hm=>h6.2.resolve_left fun hn=>?_⟩
          have:(tmpsOf o').any (Nat.beq d)=true:=List.any_eq_true.2 ⟨d,hm,by simp⟩
          rw [hn] at this
          cases this
  · have h5:=List.all_eq_true.1 h2 o (mem_drop_at (n:=n + (K + 1)) (by omega) ho)
    rw [Bool.or_eq_true] at h5
    exact h5.imp id fun h j hj=>List.all_eq_true.1 h j hj
  · replace h1:=List.all_eq_true.1 h1 i (List.mem_range.2 hi)
    cases ho:l[n + i]? with
    | none=>rw [ho] at h1; cases h1
    | some o =>
      rw [ho] at h1
      dsimp only at h1
      cases hg:o.guard with
      | some g=>rw [hg] at h1; cases h1
      | none=>rw [hg] at h1; exact ⟨o,rfl,hg,h1⟩
def Firsts (P:Program) (ops:Array Oper) (Q:Exit→Act→World→Prop) (l:List Oper) (J:List Nat):Nat→List Oper→Act→World→Prop
  | 0,rest,a,w=>wpList P ops Q rest a w
  | _ + 1,[],_,_=>False
  | k + 1,on::rest,a,w=>∃ nx w2 v,(execOp a.eval on).run P w=.ok nx w2∧((nx=.skip∧v=undef)∨nx=.value v)∧lateOk P l (a.put on.dst v) w2 J∧Firsts P ops Q l J k rest (a.put on.dst v) w2
theorem wpAny_lagK {J:List Nat} {K:Nat} (hok:RgOk l.toArray n J) (hL:LateK l n K J) :
    ∀ (m:Nat) (U:List Nat) (t:Nat) (listed:Array Bool) (a b:Act) (w:World),U.length=m→U.Nodup→(∀ j,j∈U ↔ j < l.length∧listed.getD j false=false)→listed.size=l.length→n≤t →
      (∀ j,j < l.length→j ∉ J→listed.getD j false=decide (j < t))→(∀ j o,l[j]?=some o→listed.getD j false=true→∀ e∈o.after,Region.binds .any e=true→listed.getD e.on false=true) →
      Lag P l J listed a b w→((∃ r,t + (r + 1)=n + (K + 1)∧Firsts P l.toArray Q l J (r + 1) (l.drop t) b w)∨(n + (K + 1)≤t∧wpList P l.toArray Q (l.drop t) b w)) →
      wpAny P .any l.toArray Q m listed a w:=by
  intro m
  have hJ:∀ t,n≤t→t ∉ J:=fun t ht h=>by have:=hok.lateLt t h; omega
  have hnl:n≤l.length:=by have:=hok.le; simpa using this
  induction m with
  | zero =>
    intro U t listed a b w hU hnd hmem hsz hnt hls hcl hlag H
    have hU0:U=[]:=List.eq_nil_of_length_eq_zero hU
    subst hU0
    have hall:∀ j,j < l.length→listed.getD j false=true:=fun j hj=>by
      cases hx:listed.getD j false with
      | true=>rfl
      | false=>have:=(hmem j).2 ⟨hj,hx⟩; simp at this
    have htl:l.length≤t:=by
      apply Classical.byContradiction
      intro h
      have h1:=hls t (by omega) (hJ t hnt)
      rw [hall t (by omega)] at h1
      simp at h1
    have hab:a=b:=hlag.eq fun j hj=>hall j (by have:=hok.lateLt j hj; omega)
    subst hab
    refine ⟨?_,?_⟩
    · apply List.eq_nil_iff_forall_not_mem.2
      intro i hi
      obtain ⟨h1,o,ho,_⟩:=mem_ready.1 hi
      have hlt:i < l.length:=by simpa using (Array.getElem?_eq_some_iff.1 ho).1
      rw [getD_both_iff (by omega),hall i hlt] at h1
      cases h1
    · rcases H with ⟨r,h1,_⟩ | ⟨_,h⟩
      · obtain ⟨o,h2,_⟩:=hL.hd (t - n) (by omega)
        have:=(List.getElem?_eq_some_iff.1 h2).1
        omega
      · rw [List.drop_eq_nil_of_le htl] at h
        exact h
  | succ m ih =>
    intro U t listed a b w hU hnd hmem hsz hnt hls hcl hlag H
    obtain ⟨u,hu⟩:∃ u,u∈U:=List.exists_mem_of_length_pos (by omega)
    have hu2:=(hmem u).1 hu
    refine ⟨fun h0=>?_,fun i hi=>?_⟩
    · obtain ⟨i,hi⟩:=exists_ready hok hsz u hu2.1 hu2.2
      rw [h0] at hi; cases hi
    · have hi0:=hi
      obtain ⟨hi1,o,ho,hall⟩:=mem_ready.1 hi
      have hil:i < l.length:=by simpa using (Array.getElem?_eq_some_iff.1 ho).1
      rw [getD_both_iff (by omega)] at hi1
      have hol:l[i]?=some o:=by simpa using ho
      have hiU:i∈U:=(hmem i).2 ⟨hil,hi1⟩
      have hlen:(U.erase i).length=m:=by rw [List.length_erase_of_mem hiU,hU]; simp
      have hcl2:∀ j o,l[j]?=some o→(listed.setIfInBounds i true).getD j false=true→∀ e∈o.after,Region.binds .any e=true→(listed.setIfInBounds i true).getD e.on false=true:=by
        intro j oj hj hlj e he hb
        have up:∀ k,listed.getD k false=true→(listed.setIfInBounds i true).getD k false=true:=fun k hk=>by
          by_cases e:i=k
          · subst e; simp [show i < listed.size by omega]
          · rw [getD_set_ne false e]; exact hk
        by_cases hji:j=i
        · subst hji
          rw [hol] at hj
          obtain rfl:=Option.some.inj hj
          exact up _ (hall e he hb)
        · rw [getD_set_ne false (Ne.symm hji)] at hlj
          exact up _ (hcl j oj hj hlj e he hb)
      by_cases hiJ:i∈J
      · -- a late one
        obtain ⟨o',d,h1,h2,h3,h4,h5⟩:=hL.op i hiJ
        rw [hol] at h1
        obtain rfl:=Option.some.inj h1
        obtain ⟨v,hv,hr⟩:=hlag.run i hiJ hi1 o d hol h3
        rw [← eval_same (a:=a) (late_sel h2) fun s hs=>hlag.same s fun j' hj' hlj' hdj'=>by
          obtain ⟨e,he,hb,hon⟩:=waits_spec ((h4 s hs).1 j' hj' hdj')
          have:=hall e he hb
          rw [hon,hlj'] at this
          cases this] at hr
        have hda:d < a.tmps.size:=by rw [← hlag.size]; exact (Array.getElem?_eq_some_iff.1 hv).1
        have hdi:dstAt l.toArray i=some d:=by simp [dstAt,hol,h3]
        unfold wpOp
        rw [ho]
        dsimp only
        rw [if_pos (by simp [Region.wanted,late_guard h2])]
        left
        refine upon_value hr ?_
        rw [h3]
        refine ih (U.erase i) t _ _ b w hlen (hnd.erase i) (erase_mem hnd hsz hil hmem) (by simpa using hsz) hnt (fun j hj hjJ=>?_) hcl2 ⟨by simp [Act.put,hlag.size],hlag.defers,fun s' hs'=>?_,fun j hj hlj oj d' hoj hdj=>?_⟩ H
        · rw [getD_set_ne false (show i ≠ j from fun e=>hjJ (e ▸ hiJ))]
          exact hls j hj hjJ
        · by_cases e:d=s'
          · subst e
            rw [hv]
            simp [Act.put,hda]
          · simp only [Act.put]
            rw [Array.getElem?_setIfInBounds,if_neg e]
            refine hlag.same s' fun j hj hlj hdj=>?_
            by_cases hji:j=i
            · subst hji
              rw [hdi] at hdj
              exact e (Option.some.inj hdj)
            · exact hs' j hj (by rw [getD_set_ne false (Ne.symm hji)]; exact hlj) hdj
        · by_cases hji:j=i
          · subst hji
            simp [show j < listed.size by omega] at hlj
          · rw [getD_set_ne false (Ne.symm hji)] at hlj
            exact hlag.run j hj hlj oj d' hoj hdj
      · -- the tail's next
        have hit:i=t:=by
          have h1:=hls i hil hiJ
          rw [hi1] at h1
          have h2:¬ i < t:=by simpa using h1.symm
          apply Classical.byContradiction
          intro hne
          have key:=anc_closed (ops:=l.toArray) (S:=fun j=>listed.getD j false=true) (fun i' o' hi' hs' e he hb=>hcl i' o' (by simpa using hi') hs' e he hb) 24 o t (fun e he hb=>hall e he hb) ((hok.tail i o ho (by omega) t (by omega)).resolve_left (hJ t hnt))
          rw [hls t (by omega) (hJ t hnt)] at key
          simp at key
        subst hit
        have heq:∀ s,s∈tmpsOf o→b.tmps[s]?=a.tmps[s]?:=fun s hs=>hlag.same s fun j hj hlj hdj=>by
          obtain ⟨oj,dj,h1,h2,h3,h4,h5⟩:=hL.op j hj
          have:dj=s:=by simp [dstAt,h1,h3] at hdj; exact hdj
          subst this
          obtain ⟨e,he,hb,hon⟩:=waits_spec ((h5 i o hnt hol).2 hs)
          have:=hall e he hb
          rw [hon,hlj] at this
          cases this
        have hlsn:∀ j,j < l.length→j ∉ J→(listed.setIfInBounds i true).getD j false=decide (j < i + 1):=fun j hj hjJ=>by
          by_cases e:i=j
          · subst e
            simp [show i < listed.size by omega]
          · rw [getD_set_ne false e,hls j hj hjJ]
            simp
            omega
        have hsm:∀ s,(∀ j∈J,(listed.setIfInBounds i true).getD j false=false→dstAt l.toArray j ≠ some s)→b.tmps[s]?=a.tmps[s]?:=fun s hs=>hlag.same s fun j hj hlj=>hs j hj (by rw [getD_set_ne false (show i ≠ j from fun e=>hiJ (e ▸ hj))]; exact hlj)
        have lagged:∀ v w2,(∀ j∈J,listed.getD j false=false→∀ oj dj,l[j]?=some oj→oj.dst=some dj→∃ u,(b.put o.dst v).tmps[dj]?=some u∧(execOp (b.put o.dst v).eval oj).run P w2=.ok (.value u) w2)→Lag P l J (listed.setIfInBounds i true) (a.put o.dst v) (b.put o.dst v) w2:=fun v w2 hr=>by
          have hr':∀ j∈J,(listed.setIfInBounds i true).getD j false=false→∀ oj dj,l[j]?=some oj→oj.dst=some dj→∃ u,(b.put o.dst v).tmps[dj]?=some u∧(execOp (b.put o.dst v).eval oj).run P w2=.ok (.value u) w2:=fun j hj hlj=>hr j hj (by rw [getD_set_ne false (show i ≠ j from fun e=>hiJ (e ▸ hj))] at hlj; exact hlj)
          cases hd:o.dst with
          | none=>rw [hd] at hr'; exact ⟨hlag.size,hlag.defers,hsm,hr'⟩
          | some d =>
            rw [hd] at hr'
            refine ⟨by simp [Act.put,hlag.size],hlag.defers,fun s hs=>?_,hr'⟩
            simp only [Act.put]
            rw [Array.getElem?_setIfInBounds,Array.getElem?_setIfInBounds,hlag.size,hsm s hs]
        have putd:∀ v dj,o.dst ≠ some dj→(b.put o.dst v).tmps[dj]?=b.tmps[dj]?:=fun v dj h=>by
          cases hd:o.dst with
          | none=>rfl
          | some d =>
            have:d ≠ dj:=fun e=>h (by rw [hd,e])
            simp only [Act.put]
            rw [Array.getElem?_setIfInBounds,if_neg this]
        have pure1:∀ v w2 j,j∈J→listed.getD j false=false→∀ oj dj,l[j]?=some oj→oj.dst=some dj→((opnd oj).isSome=true∨w2=w)→∃ u,(b.put o.dst v).tmps[dj]?=some u∧(execOp (b.put o.dst v).eval oj).run P w2=.ok (.value u) w2:=fun v w2 j hj hlj oj dj hoj hdj hor=>by
          obtain ⟨u,k1,k2⟩:=hlag.run j hj hlj oj dj hoj hdj
          obtain ⟨o3,d3,q1,q2,q3,q4,q5⟩:=hL.op j hj
          rw [hoj] at q1
          obtain rfl:=Option.some.inj q1
          rw [hdj] at q3
          obtain rfl:=Option.some.inj q3
          refine ⟨u,by rw [putd v dj (q5 i o hnt hol).1]; exact k1,?_⟩
          rw [tm_put (late_sel q2) fun s hs e=>(q4 s hs).2 i o hnt hol e]
          rcases hor with hor | rfl
          · obtain ⟨s,hs⟩:=Option.isSome_iff_exists.1 hor
            obtain ⟨u',hu'⟩:=late_all (w:=w) (R:=fun _ _=>True) hs (by rw [k2]; trivial)
            have:=hu' w
            rw [k2] at this
            obtain rfl:=Next.value.inj (Result.ok.inj this).1
            exact hu' w2
          · exact k2
        rcases H with ⟨r,h1,hF⟩ | ⟨hlt,h⟩
        · rw [List.drop_eq_getElem_cons hil] at hF
          have hoe:l[i]=o:=by
            rw [List.getElem?_eq_getElem hil] at hol
            exact Option.some.inj hol
          rw [hoe] at hF
          obtain ⟨nx,w2,v,h2,hnx,hlo,h3⟩:=hF
          unfold wpOp
          rw [ho]
          dsimp only
          obtain ⟨on',k1,k2,k4⟩:=hL.hd (i - n) (by omega)
          rw [show n + (i - n)=i by omega,hol] at k1
          obtain rfl:=Option.some.inj k1
          rw [if_pos (by simp [Region.wanted,k2])]
          left
          rw [← eval_same (not_select k4) heq] at h2
          have hnext:wpAny P .any l.toArray Q m (listed.setIfInBounds i true) (a.put o.dst v) w2:=by
            refine ih (U.erase i) (i + 1) _ _ (b.put o.dst v) w2 hlen (hnd.erase i) (erase_mem hnd hsz hil hmem) (by simpa using hsz) (by omega) hlsn hcl2 (lagged v w2 fun j hj hlj oj dj hoj hdj=>?_) (by cases r with
              | zero=>exact .inr ⟨by omega,h3⟩
              | succ r=>exact .inl ⟨r,by omega,h3⟩)
            cases hop:opnd oj with
            | some s=>exact pure1 v w2 j hj hlj oj dj hoj hdj (.inl (by rw [hop]; rfl))
            | none =>
              obtain ⟨u,r1,r2⟩:=lateOk_at hlo j hj oj dj hoj hdj hop
              obtain ⟨o3,d3,q1,q2,q3,q4,q5⟩:=hL.op j hj
              rw [hoj] at q1
              obtain rfl:=Option.some.inj q1
              exact ⟨u,r1,r2⟩
          rcases hnx with ⟨rfl,rfl⟩ | rfl
          · exact upon_skip h2 hnext
          · exact upon_value h2 hnext
        · rcases hL.tl i o hlt hol with hturn | hbar
          · unfold wpOp
            rw [ho]
            dsimp only
            rw [List.drop_eq_getElem_cons hil] at h
            have hoe:l[i]=o:=by
              rw [List.getElem?_eq_getElem hil] at hol
              exact Option.some.inj hol
            rw [hoe] at h
            obtain ⟨hg,hop⟩:o.guard=none∧((∃ x,o.op=.move x)∨∃ x,o.op=.assign x):=by
              unfold turnB at hturn
              cases hg:o.guard with
              | some g=>rw [hg] at hturn; cases hturn
              | none =>
                rw [hg] at hturn
                refine ⟨rfl,?_⟩
                cases hop:o.op <;> rw [hop] at hturn <;> first | exact .inl ⟨_,rfl⟩ | exact .inr ⟨_,rfl⟩ | cases hturn
            rw [if_pos (by simp [Region.wanted,hg])]
            left
            have hsel:∀ cs b,o.op ≠ .select cs b:=fun cs b e=>by
              rcases hop with ⟨x,hx⟩ | ⟨x,hx⟩ <;> rw [hx] at e <;> cases e
            obtain ⟨v,hv⟩:∃ v,∀ w,(execOp b.eval o).run P w=.ok (.value v) w:=by
              obtain ⟨d,op,ty,pos,aft,g⟩:=o
              rcases hop with ⟨x,hx⟩ | ⟨x,hx⟩ <;> dsimp only at hx <;> subst hx
              · exact ⟨b.eval x,fun w=>c_move rfl⟩
              · exact ⟨b.eval x,fun w=>c_assign rfl⟩
            have hk:wpList P l.toArray Q (l.drop (i + 1)) (b.put o.dst v) w:=by
              unfold wpList at h
              rw [if_pos (by simp [Region.wanted,hg])] at h
              rcases h with h | ⟨⟨h,_⟩,_⟩
              · unfold Oper.wp at h
                rw [hv] at h
                exact h
              · exfalso
                obtain ⟨d,op,ty,pos,aft,g⟩:=o
                rcases hop with ⟨x,hx⟩ | ⟨x,hx⟩ <;> dsimp only at hx <;> subst hx <;> exact absurd (show noRoomEvent∈(#[]:Array Event) from h) (by simp)
            refine upon_value (by rw [eval_same hsel heq]; exact hv w) ?_
            exact ih (U.erase i) (i + 1) _ _ (b.put o.dst v) w hlen (hnd.erase i) (erase_mem hnd hsz hil hmem) (by simpa using hsz) (by omega) hlsn hcl2 (lagged v w fun j hj hlj oj dj hoj hdj=>pure1 v w j hj hlj oj dj hoj hdj (.inr rfl)) (.inr ⟨by omega,hk⟩)
          · -- nothing is late any more
            have hJl:∀ j∈J,listed.getD j false=true:=fun j hj=>anc_closed (ops:=l.toArray) (S:=fun j=>listed.getD j false=true) (fun i' o' hi' hs' e he hb=>hcl i' o' (by simpa using hi') hs' e he hb) 24 o j (fun e he hb=>hall e he hb) (hbar j hj)
            have hls2:∀ j,j < l.length→listed.getD j false=decide (j < i):=fun j hj=>by
              by_cases hjJ:j∈J
              · rw [hJl j hjJ]
                have:=hok.lateLt j hjJ
                simp
                omega
              · exact hls j hj hjJ
            obtain rfl:=hlag.eq hJl
            have hct:=count_tail hnd hmem hls2
            have:=wpAny_tail (Q:=Q) (P:=P) hok (m + 1) i listed a w (by omega) hnt hsz (fun j hj=>by rw [getD_both_iff (by omega)]; exact hls2 j hj) h
            exact this.2 i hi0
theorem Inv.finishK {J:List Nat} {K:Nat} (hok:RgOk l.toArray n J) (hL:LateK l n K J) (hl:Ds.length=n)
    (hparts:∀ i o,i < n→l[i]?=some o→∃ d D,o.dst=some d∧Ds[i]?=some D∧Ob P l.toArray N B1 w1 (factsC (l.take n) Ds Fc0 i) (factsE (l.take n) Ds i) o D∧fresh (factsC (l.take n) Ds Fc0 i) (factsE (l.take n) Ds i) d D)
    (hN:∀ i o d,i < n→l[i]?=some o→o.dst=some d→d < N) (hB:B1≤w1.heap.size) (w:World) :
    ∀ (r k:Nat) (vals:Nat→Value) (ents:Nat→List Ent) (listed:Array Bool) (a:Act),k + r=n→Inv P l n N B1 w1 Fc0 Ds vals ents listed a w→(∀ j,j < n→j ∉ J→listed.getD j false=true)→(∀ j,j < k→listed.getD j false=true) →
      ∃ b vals' ents' listed',Inv P l n N B1 w1 Fc0 Ds vals' ents' listed' b w∧(∀ j,j < n→listed'.getD j false=true)∧Lag P l J listed a b w:=by
  intro r
  induction r with
  | zero =>
    intro k vals ents listed a hk inv _ hlt
    exact ⟨a,vals,ents,listed,inv,fun j hj=>hlt j (by omega),rfl,rfl,fun _ _=>rfl,fun j hj hx=>by
      rw [hlt j (by have:=hok.lateLt j hj; omega)] at hx
      cases hx⟩
  | succ r ih =>
    intro k vals ents listed a hk inv hnj hlt
    by_cases hx:listed.getD k false=true
    · exact ih (k + 1) vals ents listed a (by omega) inv hnj fun j hj=>by
        by_cases e:j=k
        · subst e; exact hx
        · exact hlt j (by omega)
    · have hx:listed.getD k false=false:=by simpa using hx
      have hkJ:k∈J:=Classical.byContradiction fun h=>by rw [hnj k (by omega) h] at hx; cases hx
      obtain ⟨o,d,h1,h2,h3,h4,_⟩:=hL.op k hkJ
      have hle:=hok.le
      simp at hle
      have hrd:k∈Region.ready .any l.toArray listed:=mem_ready.2 ⟨by rw [getD_both_iff (by rw [inv.size]; omega)]; exact hx,o,by simpa using h1,fun e he hb=>hlt e.on (hok.back k o (by simpa using h1) e he hb)⟩
      rcases inv.step0 hok hl hparts hN hB (by omega) hrd h1 with ⟨_,hy,hyq⟩ | ⟨hw,_⟩
      rotate_left
      · have:Region.wanted o (yielded l.toArray a.tmps)=true:=by simp [Region.wanted,late_guard h2]
        rw [this] at hw; cases hw
      · obtain ⟨v,hv⟩:∃ v,(execOp a.eval o).run P w=.ok (.value v) w:=by
          rcases h2 with h2 | h2
          · obtain ⟨s,hs⟩:=Option.isSome_iff_exists.1 h2
            obtain ⟨v,hv⟩:=late_all hs hy
            exact ⟨v,hv w⟩
          · exact hyq h2
        rw [hv] at hy
        obtain ⟨L',inv'⟩:=hy
        rw [h3] at inv'
        have hup:∀ j,listed.getD j false=true→(listed.setIfInBounds k true).getD j false=true:=fun j hj=>by
          by_cases e:k=j
          · subst e; rw [hx] at hj; cases hj
          · rw [getD_set_ne false e]; exact hj
        have hkk:(listed.setIfInBounds k true).getD k false=true:=by simp [show k < listed.size by rw [inv.size]; omega]
        obtain ⟨b,vals',ents',listed',i1,i2,i3⟩:=ih (k + 1) _ _ _ _ (by omega) inv' (fun j hj hjJ=>hup j (hnj j hj hjJ)) (fun j hj=>by
          by_cases e:j=k
          · subst e; exact hkk
          · exact hup j (hlt j (by omega)))
        have hdk:dstAt l.toArray k=some d:=by simp [dstAt,h1,h3]
        have hdN:d < a.tmps.size:=by rw [inv.know.1]; exact hN k o d (by omega) h1 h3
        refine ⟨b,vals',ents',listed',i1,i2,by have:=i3.size; simpa [Act.put] using this,i3.defers,fun s' hs'=>?_,fun j hj hlj oj dj hoj hdj=>?_⟩
        · have hne:d ≠ s':=fun e=>hs' k hkJ hx (by rw [hdk,e])
          rw [i3.same s' fun j hj hlj=>hs' j hj (by
            by_cases e:k=j
            · subst e; exact hx
            · rw [getD_set_ne false e] at hlj; exact hlj)]
          simp only [Act.put]
          rw [Array.getElem?_setIfInBounds,if_neg hne]
        · by_cases hjk:k=j
          · subst hjk
            rw [h1] at hoj
            obtain rfl:=Option.some.inj hoj
            rw [h3] at hdj
            obtain rfl:=Option.some.inj hdj
            have hwk:∀ j',waits o j'=true→j' < k:=fun j' hw=>by
              obtain ⟨e,he,hb,hon⟩:=waits_spec hw
              have:=hok.back k o (by simpa using h1) e he hb
              omega
            refine ⟨v,?_,by
              rw [← eval_same (a:=a) (late_sel h2) fun s hs=>?_]
              · exact hv
              · rw [i3.same s fun j' hj' hlj' hdj'=>by
                  rw [hup j' (hlt j' (hwk j' ((h4 s hs).1 j' hj' hdj')))] at hlj'
                  cases hlj']
                have hne:d ≠ s:=fun e=>by have:=hwk k ((h4 s hs).1 k hkJ (by rw [hdk,e])); omega
                simp only [Act.put]
                rw [Array.getElem?_setIfInBounds,if_neg hne]⟩
            rw [i3.same d fun j' hj' hlj' hdj'=>by
              have:=hok.uniq j' k d (hok.lateLt j' hj') (by omega) hdj' hdk
              subst this
              rw [hkk] at hlj'
              cases hlj']
            simp [Act.put,hdN]
          · exact i3.run j hj (by rw [getD_set_ne false hjk]; exact hlj) oj dj hoj hdj
theorem wpAny_headJK {J:List Nat} {K:Nat} (hok:RgOk l.toArray n J) (hL:LateK l n K J) (hl:Ds.length=n)
    (hparts:∀ i o,i < n→l[i]?=some o→∃ d D,o.dst=some d∧Ds[i]?=some D∧Ob P l.toArray N B1 w1 (factsC (l.take n) Ds Fc0 i) (factsE (l.take n) Ds i) o D∧fresh (factsC (l.take n) Ds Fc0 i) (factsE (l.take n) Ds i) d D)
    (hN:∀ i o d,i < n→l[i]?=some o→o.dst=some d→d < N) (hB:B1≤w1.heap.size)
    (fin:∀ vals ents listed a w,Inv P l n N B1 w1 Fc0 Ds vals ents listed a w→(∀ j,j < n→listed.getD j false=true)→Firsts P l.toArray Q l J (K + 1) (l.drop n) a w) :
    ∀ (m:Nat) (U:List Nat) (vals:Nat→Value) (ents:Nat→List Ent) (listed:Array Bool) (a:Act) (w:World),U.length=m→U.Nodup→(∀ j,j∈U ↔ j < l.length∧listed.getD j false=false) →
      Inv P l n N B1 w1 Fc0 Ds vals ents listed a w→wpAny P .any l.toArray Q m listed a w:=by
  intro m
  have eln:n < l.length:=by
    obtain ⟨o,h1,_⟩:=hL.hd 0 (by omega)
    exact (List.getElem?_eq_some_iff.1 h1).1
  induction m with
  | zero =>
    intro U vals ents listed a w hU hnd hmem inv
    have hU0:U=[]:=List.eq_nil_of_length_eq_zero hU
    subst hU0
    have:=(hmem n).2 ⟨eln,inv.tail n (Nat.le_refl _)⟩
    cases this
  | succ m ih =>
    intro U vals ents listed a w hU hnd hmem inv
    by_cases hall:∀ j,j < n→j ∉ J→listed.getD j false=true
    · obtain ⟨b,vals',ents',listed',i1,i2,i3⟩:=Inv.finishK hok hL hl hparts hN hB w n 0 vals ents listed a (by omega) inv hall fun j hj=>by omega
      refine wpAny_lagK hok hL (m + 1) U n listed a b w hU hnd hmem inv.size (Nat.le_refl _) (fun j hj hjJ=>?_) inv.closed i3 (.inl ⟨K,rfl,fin vals' ents' listed' b w i1 i2⟩)
      by_cases e:j < n
      · rw [hall j e hjJ]; simp [e]
      · rw [inv.tail j (by omega)]; simp [e]
    · obtain ⟨j0,hj0,hj0J,hl0⟩:∃ j,j < n∧j ∉ J∧listed.getD j false=false:=by
        apply Classical.byContradiction
        intro hn
        apply hall
        intro j hj hjJ
        cases hx:listed.getD j false with
        | true=>rfl
        | false=>exact absurd ⟨j,hj,hjJ,hx⟩ hn
      refine ⟨fun h0=>?_,fun i hi=>?_⟩
      · obtain ⟨i,hi⟩:=exists_ready hok inv.size j0 (by omega) hl0
        rw [h0] at hi; cases hi
      · have hin:i < n:=by
          apply Classical.byContradiction
          intro hge
          obtain ⟨_,o,ho,hall2⟩:=mem_ready.1 hi
          have key:=anc_closed (ops:=l.toArray) (S:=fun j=>listed.getD j false=true) (fun i' o' hi' hs' e he hb=>inv.closed i' o' (by simpa using hi') hs' e he hb) 24 o j0 (fun e he hb=>hall2 e he hb) ((hok.tail i o ho (by omega) j0 (by omega)).resolve_left hj0J)
          rw [hl0] at key
          cases key
        have hil:i < l.length:=by omega
        have hiU:i∈U:=(hmem i).2 ⟨hil,by
          have h1:=(mem_ready.1 hi).1
          rw [getD_both_iff (by rw [inv.size]; exact hil)] at h1
          exact h1⟩
        refine inv.step hok hl hparts hN hB hin hi fun v L' a' w' inv'=>?_
        exact ih (U.erase i) _ _ _ _ _ (by rw [List.length_erase_of_mem hiU,hU]; simp) (hnd.erase i) (erase_mem hnd inv.size hil hmem) inv'
theorem any_rgXK {J:List Nat} {K:Nat} {F:List (Nat × Value)} {L:List Ent} {M:Nat→Prop} {w0 w:World} {a:Act} (n:Nat) (hB:rgBL l.toArray n J=true) (hJ:lateBK l n K J=true) (hd:dstB (l.take n) N=true) (hs:St N F L M w0 a w)
    (h:RG P l.toArray N w.heap.size w (fun Fc Fe=>∀ a' w' L',Fr0 w w'→FeOk Fe a' w' L'→St N Fc (L'++L) M w0 a' w'→Links P l n a'→Firsts P l.toArray Q l J (K + 1) (l.drop n) a' w') F [] (l.take n)) :
    RegAny P Q l a w:=by
  have hok:RgOk l.toArray n J:=rgB_spec hB
  have hle:=hok.le
  simp at hle
  have htl:(l.take n).length=n:=by simp [hle]
  obtain ⟨Ds,hlen,hK,hparts⟩:=RG.parts F (l.take n) [] [] rfl h
  simp only [List.nil_append,htl] at hlen hK hparts
  have hget:∀ i o,i < n→l[i]?=some o→(l.take n)[i]?=some o:=fun i o hi ho=>by rw [List.getElem?_take_of_lt hi]; exact ho
  have hparts':∀ i o,i < n→l[i]?=some o→∃ d D,o.dst=some d∧Ds[i]?=some D∧Ob P l.toArray N w.heap.size w (factsC (l.take n) Ds F i) (factsE (l.take n) Ds i) o D∧fresh (factsC (l.take n) Ds F i) (factsE (l.take n) Ds i) d D :=
    fun i o hi ho=>hparts i o (by simp) (hget i o hi ho)
  have hN:∀ i o d,i < n→l[i]?=some o→o.dst=some d→d < N:=fun i o d hi ho hod=>by
    have:=List.all_eq_true.1 hd o (List.mem_of_getElem? (hget i o hi ho))
    rw [hod] at this
    exact lt_of_blt this
  unfold RegAny
  have hdr:Fr0 w { w with drawn:=w.drawn + 1 }:=Fr.drew w
  have hU:((List.range l.length).length=l.toArray.size):=by simp
  refine wpAny_headJK (w1:=w) (B1:=w.heap.size) (Ds:=Ds) (Fc0:=F) hok (lateBK_spec hJ) (by omega) hparts' hN (Nat.le_refl _) ?_ _ (List.range l.length) (fun _=>undef) (fun _=>[]) _ _ _ hU List.nodup_range ?_ ?_
  · intro vals ents listed a' w' inv hall
    have hds:∃ ds:Nat→Nat,∀ j o,(l.take n)[j]?=some o→o.dst=some (ds j):=by
      refine ⟨fun j=>(dstAt l.toArray j).getD 0,fun j o hj=>?_⟩
      have hjn:j < n:=by have:=(List.getElem?_eq_some_iff.1 hj).1; omega
      rw [List.getElem?_take_of_lt hjn] at hj
      obtain ⟨d',hd'⟩:=hok.dst j o (by simpa using hj) hjn
      simp [dstAt,hj,hd']
    obtain ⟨ds,hds⟩:=hds
    have hdsA:∀ j,j < n→dstAt l.toArray j=some (ds j):=fun j hj=>by
      have hjl:j < l.length:=by omega
      have:=hds j l[j] (by rw [List.getElem?_take_of_lt hj]; simp [hjl])
      simp [dstAt,hjl,this]
    have hfr':∀ j o D,(l.take n)[j]?=some o→Ds[j]?=some D→fresh (factsC (l.take n) Ds F j) (factsE (l.take n) Ds j) (ds j) D:=by
      intro j o' D' hj hDj
      have hjn:j < n:=by have:=(List.getElem?_eq_some_iff.1 hj).1; omega
      have hj':=hj
      rw [List.getElem?_take_of_lt hjn] at hj'
      obtain ⟨d2,D2,h1,h2,_,h4⟩:=hparts' j o' hjn hj'
      rw [hDj] at h2
      obtain rfl:=Option.some.inj h2
      have:=hds j o' hj
      rw [h1] at this
      obtain rfl:=Option.some.inj this
      exact h4
    have hknow:Know N (factsC (l.take n) Ds F n) a':=by
      refine ⟨inv.know.1,inv.know.2,fun s v hv=>?_⟩
      rcases factsC_src (Fc0:=F) hds (by omega) hfr' n (by omega) s v hv with ⟨j,hj,h1,h2⟩ | ⟨h1,h2⟩
      · obtain ⟨h4,h5⟩:=inv.done j s _ hj (hall j hj) (by rw [hdsA j hj,h1]) h2
        rw [h4,h5.1]
      · exact inv.base s v h1 fun j hj _ hdj=>by
          rw [hdsA j hj] at hdj
          exact h2 j hj (Option.some.inj hdj)
    have hfe:∀ i,i≤n→∃ L'',FeOk (factsE (l.take n) Ds i) a' w' L''∧L''.Perm ((List.range i).flatMap ents):=by
      intro i
      induction i with
      | zero=>intro _; exact ⟨[],rfl,by simp⟩
      | succ i ih =>
        intro hi
        obtain ⟨L'',h1,h2⟩:=ih (by omega)
        have hil:i < (l.take n).length:=by omega
        have ho:(l.take n)[i]?=some (l.take n)[i]:=List.getElem?_eq_getElem hil
        have hD:Ds[i]?=some (Ds[i]'(by omega)):=List.getElem?_eq_getElem (by omega)
        have hdi:=hds i _ ho
        obtain ⟨h4,h5⟩:=inv.done i (ds i) _ (by omega) (hall i (by omega)) (hdsA i (by omega)) hD
        simp only [factsE,ho,hD,hdi,List.range_succ,List.flatMap_append]
        generalize Ds[i]'(by omega)=D at *
        cases D with
        | c u=>exact ⟨L'',h1,by simp [h5.2]; exact h2⟩
        | e E st =>
          refine ⟨ents i++L'',⟨vals i,ents i,L'',h4,h5,h1,rfl⟩,?_⟩
          simp only [List.flatMap_cons,List.flatMap_nil,List.append_nil]
          exact (List.Perm.append_left _ h2).trans List.perm_append_comm
    obtain ⟨L'',hf1,hf2⟩:=hfe n (Nat.le_refl _)
    have hhas:Has w.heap.size w' L'':=by
      have:(List.range n).flatMap (fun j=>if listed.getD j false=true then ents j else [])=(List.range n).flatMap ents:=flatMap_same _ _ _ fun j hj=>by rw [if_pos (hall j (List.mem_range.1 hj))]
      have hh:=inv.has
      rw [this] at hh
      exact hh.perm hf2
    have hst:St N (factsC (l.take n) Ds F n) (L''++L) M w0 a' w':=⟨hknow,(hs.has.new inv.fr (Nat.zero_le _) hhas),fun e he k hk=>by
      rcases List.mem_append.1 he with he | he
      · exact .inl (Nat.le_trans hs.fr.size (hhas.ge e he k hk))
      · exact hs.own e he k hk,hs.fr.trans0 inv.fr⟩
    refine hK a' w' L'' inv.fr hf1 hst ⟨fun j oj dj s hj hoj hdj hos hsf=>?_,fun j oj dj hj hoj hdj hbj hsf=>?_⟩
    · obtain ⟨d2,D2,h1,h2,_,_⟩:=hparts' j oj hj hoj
      rw [hdj] at h1
      obtain rfl:=Option.some.inj h1
      exact ⟨vals j,(inv.done j dj D2 hj (hall j hj) (by simp [dstAt,hoj,hdj]) h2).1,inv.links j oj s hj hoj (hall j hj) hos hsf⟩
    · obtain ⟨d2,D2,h1,h2,_,_⟩:=hparts' j oj hj hoj
      rw [hdj] at h1
      obtain rfl:=Option.some.inj h1
      obtain ⟨w1,w2,h3⟩:=inv.links2 j oj hj hoj (hall j hj) hbj hsf
      exact ⟨vals j,w1,w2,(inv.done j dj D2 hj (hall j hj) (by simp [dstAt,hoj,hdj]) h2).1,h3⟩
  · intro j
    simp
    intro hj
    simp [Array.getElem?_replicate,hj]
  · refine ⟨by simp,⟨hs.know.size,hs.know.defers⟩,fun j d D hj hl'=>?_,fun s v hv _=>hs.know.at_ s v hv,?_,hdr,fun t _=>?_,fun j o _ hl'=>?_,fun j o s _ _ hl'=>?_,fun j o _ _ hl'=>?_⟩
    · simp [Array.getElem?_replicate] at hl'
      split at hl' <;> simp at hl'
    · have:∀ r:List Nat,r.flatMap (fun j=>if (Array.replicate l.toArray.size false).getD j false=true then ([]:List Ent) else [])=[]:=fun r=>by induction r with | nil=>rfl | cons x t ih=>simp
      rw [this]
      exact .nil _ _
    · simp [Array.getElem?_replicate]
      split <;> simp
    · simp [Array.getElem?_replicate] at hl'
      split at hl' <;> simp at hl'
    · simp [Array.getElem?_replicate] at hl'
      split at hl' <;> simp at hl'
    · simp [Array.getElem?_replicate] at hl'
      split at hl' <;> simp at hl'
theorem wp_region_rgXK {J:List Nat} {id:Nat} {F:List (Nat × Value)} {L:List Ent} {M:Nat→Prop} {w0 w:World} {a:Act} (hm:P.follows .mixedOrders=true) (n K:Nat) (hB:rgBL l.toArray n J=true) (hJ:lateBK l n K J=true) (hd:dstB (l.take n) N=true) (hs:St N F L M w0 a w)
    (h:RG P l.toArray N w.heap.size w (fun Fc Fe=>∀ a' w' L',Fr0 w w'→FeOk Fe a' w' L'→St N Fc (L'++L) M w0 a' w'→Links P l n a'→Firsts P l.toArray Q l J (K + 1) (l.drop n) a' w') F [] (l.take n)) :
    (Code.region id l.toArray true).wp P Q a w:=wp_region_any hm (any_rgXK n hB hJ hd hs h)
end
section
variable {P:Program} {ops:Array Oper} {Q:Exit→Act→World→Prop} {rest:List Oper} {N:Nat} {F F':List (Nat × Value)} {L L':List Ent} {M:Nat→Prop} {w0 w:World} {a:Act}
variable {d:Tmp} {op:Op} {ty:TypeId} {pos:String} {aft:Array Edge} {x y z:Operand} {t u:TypeId}
theorem sf_store {kk:Nat} {i:Nat} {l:List Oper} {J:List Nat} {T':TypeId} {td:TypeDesc} {sz bytes:Nat} {zz:List Value} {gb o:Nat} {cs cs' c:List Value} {v:Value} (hs:St N F L M w0 a w) (hT:Ty P t td sz bytes zz)
    (hx:ev F x=some (.pointer (some ⟨gb,o,none⟩))) (hy:ev F y=some v) (hi:L[i]?=some (.seg gb cs T')) (hv:v.cells.toList=c) (hl:c.length=sz) (h1:c.all (·.oneCell')=true) (hfit:o + sz≤cs.length)
    (hcs:cs.take o++c++cs.drop (o + sz)=cs') (hlate:∀ w,St N F (L.set i (.seg gb cs' T')) M w0 a w→lateOk P l a w J) (k:∀ w,St N F (L.set i (.seg gb cs' T')) M w0 a w→Firsts P ops Q l J kk rest a w) :
    Firsts P ops Q l J (kk + 1) (⟨none,.store t x y,ty,pos,aft,none⟩::rest) a w:=by
  have hr:=c_store (P:=P) (w:=w) (d:=none) (ty:=ty) (pos:=pos) (aft:=aft) (g:=none) hT (hs.ev hx) (hs.ev hy) hv hl h1 (hs.seg hi) hfit
  rw [hcs] at hr
  have hs2:St N F (L.set i (.seg gb cs' T')) M w0 a { w with heap:=(w.setRow gb cs'.toArray).heap }:=hs.mod hi (.setRow w gb _) (setRow_heap w gb _ _ _ _ (hs.seg hi)) (fun j hj=>⟨.inl hj,by
    have h2:gb < w.heap.size:=hs.has.lt _ (List.mem_of_getElem? hi) gb rfl
    cases hj
    simpa using h2⟩)
  exact ⟨_,_,undef,hr,.inl ⟨rfl,rfl⟩,hlate _ hs2,k _ hs2⟩
theorem sf_storeW {kk:Nat} {i:Nat} {l:List Oper} {J:List Nat} {T':TypeId} {td:TypeDesc} {sz bytes:Nat} {zz:List Value} {gb:Nat} {cs c:List Value} (hs:St N F L M w0 a w) (hT:Ty P t td sz bytes zz)
    (hx:ev F x=some (.pointer (some ⟨gb,0,none⟩))) (hy:ev F y=some (.agg c.toArray)) (hi:L[i]?=some (.seg gb cs T')) (hl:c.length=sz) (h1:c.all (·.oneCell')=true) (hcs:cs.length=sz)
    (hlate:∀ w,St N F (L.set i (.seg gb c T')) M w0 a w→lateOk P l a w J) (k:∀ w,St N F (L.set i (.seg gb c T')) M w0 a w→Firsts P ops Q l J kk rest a w) :
    Firsts P ops Q l J (kk + 1) (⟨none,.store t x y,ty,pos,aft,none⟩::rest) a w :=
  sf_store hs hT hx hy hi (by simp [Value.cells]) hl h1 (by omega) (by simp [hcs]) hlate k
end
end Go.Fw
end

section
/- Frames put together again; a block owned once more; openings of []int. -/
namespace Go.Fw
section
open Go
variable {N:Nat} {F F0:List (Nat × Value)} {L L0:List Ent} {M:Nat→Prop} {w0 w1 w:World} {a a0:Act}
theorem St.frameBack (h0:St N F0 L0 M w0 a0 w1) (h:St N F L (fun _=>False) w1 a w):St N F (L++L0) M w0 a w:=by
  have hL:Has w1.heap.size w L:=⟨h.has.holds,h.has.apart,h.has.lt,fun e he k hk=>(h.own e he k hk).resolve_right id⟩
  exact ⟨h.know,h0.has.new h.fr (Nat.zero_le _) hL,fun e he k hk=>(List.mem_append.1 he).elim (fun h2=>.inl (Nat.le_trans h0.fr.size ((h.own e h2 k hk).resolve_right id))) fun h2=>h0.own e h2 k hk,h0.fr.trans0 h.fr⟩
theorem St.own1 {g:Nat} {cs:List Value} {T:TypeId} (h:Know N F a) (hb:w.heap[g]?=some (.cells cs.toArray T (0,0))):St N F [.seg g cs T] (fun k=>k=g) w a w :=
  ⟨h,⟨fun e he=>by simp only [List.mem_singleton] at he; subst he; exact hb,List.pairwise_singleton _ _,fun e he k hk=>by
    simp only [List.mem_singleton] at he
    subst he
    have hk:k=g:=hk
    subst hk
    exact heap_lt hb,fun _ _ _ _=>Nat.zero_le _⟩,fun e he k hk=>by
    simp only [List.mem_singleton] at he
    subst he
    exact .inr hk,Fr.refl _ _⟩
end
section
open Go Go.ChangeShapes Go.WideShapes Go.ChangeAt Go.RowKit
variable {H:Type} {enc:TypeId × Value→H} {P:Program} {w:World} {base:Nat} {spare:Nat→Bool} {held:Bool} {fuel:Nat} {t e u:TypeId} {cs:List Value} {x:DataW H × List MemPlace} {v:Value} {d:DataW H} {ps:List MemPlace} {r:Reach} {b0:Nat}
theorem opSI (ht:P.underlying t=some (.slice e)) (he:P.underlying e=some (.int .i64)) (hc:P.cellsOf e=1) (hval:Value.okWide P w r b0 t v) (hd:DataW.Trod enc P w base spare held t v d ps) :
    ∃ l:List Int,Rd w v l.length (l.map I):=by
  obtain ⟨l,h,_⟩:=opSlG (α:=Int) (f:=I) (fun n _=>⟨n,rfl⟩) ht he hc hval hd
  exact ⟨l,h⟩
end
end Go.Fw
end

section
/- Maps from numbers to rows of bytes,made by the function itself. -/
namespace Go.Fw
open Go Go.Maps
open Classical in
section
variable {P:Program} {k t e:TypeId} {w w':World} {b n c:Nat} {f:Nat→Option (List UInt8)}
theorem turned_fr (h:w.mapTurned w' b):Fr (fun k=>k=b) w w':=Fr.grown h.grown |>.mono fun k _ hk=>by simpa using hk.symm
end
end Go.Fw
end

section
/- Maps whose keys and values are of any kind,made by the function itself. -/
namespace Go.Fw
open Go Go.Maps
open Classical in
noncomputable def putL (f:Lit→Option Value) (q:Lit) (v:Value):Lit→Option Value:=fun x=>if x=q then some v else f x
theorem putL_same (f:Lit→Option Value) (q:Lit) (v:Value):putL f q v q=some v:=by simp [putL]
theorem putL_other {f:Lit→Option Value} {q x:Lit} {v:Value} (h:x ≠ q):putL f q v x=f x:=by simp [putL,h]
def RV (v:Value):Option (DataW Value × List MemPlace):=some (.held v,[])
def MapV (P:Program) (k:TypeId) (b n:Nat) (f:Lit→Option Value) (w:World):Prop :=
  ∃ D:DataW Value,w.ownsMap P k RV b n D∧∀ q:Lit,Maps.has D q=(f q).isSome∧∀ v,f q=some v→∀ z,D.atKey q z=.held v
section
variable {P:Program} {k t e:TypeId} {w w':World} {b n:Nat} {f:Lit→Option Value}
theorem MapV.blk (h:MapV P k b n f w):∃ es cl,w.heap[b]?=some (.map es cl):=by
  obtain ⟨D,⟨es,cl,hb,_⟩,_⟩:=h
  exact ⟨es,cl,hb⟩
theorem MapV.loc (hb:w'.heap[b]?=w.heap[b]?) (h:MapV P k b n f w):MapV P k b n f w':=by
  obtain ⟨D,⟨es,cl,h1,h2,h3,h4⟩,h5⟩:=h
  exact ⟨D,⟨es,cl,hb.trans h1,h2,h3,h4⟩,h5⟩
theorem MapV.made (w:World):MapV P k w.heap.size 0 (fun _=>none) (w.alloc (.map #[] 0)) :=
  ⟨_,w.ownsMap_made P k RV,fun q=>⟨rfl,fun l h=>by cases h⟩⟩
theorem MapV.lookOk (h:MapV P k b n f w) (K:Keyed P k) (ht:P.underlying t=some (.map k e)) {z:Value} (hz:(zeroValue e).run P w=.ok z w) {kv:Value} {q:Lit} (hkey:keyOf P k kv=some q) :
    (Instr.lookup t (.map (some b)) kv true).run P w=.ok (.tuple #[(f q).getD z,.bool (f q).isSome]) w:=by
  obtain ⟨D,h1,h3⟩:=h
  obtain ⟨v,ps,h4,h5⟩:=h1.look_ok K ht hz (show RV z=some (.held z,[]) from rfl) hkey
  obtain ⟨h6,h7⟩:=h3 q
  rw [h4,h6]
  simp only [RV,Option.some.injEq,Prod.mk.injEq] at h5
  cases hf:f q with
  | some l =>
    rw [h7 l hf] at h5
    cases h5.1
    rfl
  | none =>
    rw [hf] at h6
    rw [atKey_of_not_has h6] at h5
    cases h5.1
    rfl
theorem MapV.look (h:MapV P k b n f w) (K:Keyed P k) (ht:P.underlying t=some (.map k e)) {z:Value} (hz:(zeroValue e).run P w=.ok z w) {kv:Value} {q:Lit} (hkey:keyOf P k kv=some q) :
    (Instr.lookup t (.map (some b)) kv false).run P w=.ok ((f q).getD z) w:=by
  obtain ⟨D,h1,h3⟩:=h
  obtain ⟨v,ps,h4,h5⟩:=h1.lookup K ht hz (show RV z=some (.held z,[]) from rfl) hkey
  obtain ⟨h6,h7⟩:=h3 q
  rw [h4]
  simp only [RV,Option.some.injEq,Prod.mk.injEq] at h5
  cases hf:f q with
  | some l =>
    rw [h7 l hf] at h5
    cases h5.1
    rfl
  | none =>
    rw [hf] at h6
    rw [atKey_of_not_has h6] at h5
    cases h5.1
    rfl
theorem MapV.store (h:MapV P k b n f w) (K:Keyed P k) (ht:P.underlying t=some (.map k e)) (hn:n < maxLen) {kv:Value} {q:Lit} (hkey:keyOf P k kv=some q) (v:Value) :
    ∃ w',(Instr.mapUpdate t (.map (some b)) kv v).run P w=.ok () w'∧MapV P k b (n + 1) (putL f q v) w'∧w.mapTurned w' b:=by
  obtain ⟨D,h1,h3⟩:=h
  have hil:=K.key hkey
  obtain ⟨w',h4,h5,h6⟩:=h1.store K ht hn hkey (show RV v=some (.held v,[]) from rfl)
  refine ⟨w',h4,⟨_,h5,fun x=>?_⟩,h6⟩
  by_cases e:x=q
  · subst e
    rw [putL_same]
    refine ⟨has_put_same h1.isMap hil _,fun l' hl z=>?_⟩
    cases hl
    exact atKey_put_same h1.isMap hil _ _
  · rw [putL_other e]
    rw [has_put_other e]
    exact ⟨(h3 x).1,fun l' hl z=>by rw [atKey_put_other e]; exact (h3 x).2 l' hl z⟩
def Ent.mapV (P:Program) (k:TypeId) (b n:Nat) (f:Lit→Option Value):Ent:=.pr (fun k=>k=b) (MapV P k b n f) fun _ _ hb h=>h.loc (hb b rfl)
end
section
variable {P:Program} {ops:Array Oper} {Q:Exit→Act→World→Prop} {rest:List Oper} {N:Nat} {F F':List (Nat × Value)} {L L':List Ent} {M:Nat→Prop} {w0 w:World} {a:Act}
variable {d:Tmp} {ty:TypeId} {pos:String} {aft:Array Edge} {x y z:Operand} {t k e:TypeId} {b n:Nat} {f:Lit→Option Value}
theorem has_mapV {w:World} {k:TypeId}:Has w.heap.size (w.alloc (.map #[] 0)) [.mapV P k w.heap.size 0 (fun _=>none)]:=by
  refine ⟨?_,List.pairwise_singleton _ _,?_,?_⟩
  · intro e he
    simp only [List.mem_singleton] at he
    subst he
    exact MapV.made w
  · intro e he q hq
    simp only [List.mem_singleton] at he
    subst he
    have hq:q=w.heap.size:=hq
    subst hq
    simp
  · intro e he q hq
    simp only [List.mem_singleton] at he
    subst he
    have hq:q=w.heap.size:=hq
    omega
theorem s_makeMapV (hs:St N F L M w0 a w) (hd:Nat.blt d N=true) (kk:∀ a w gb,St N ((d,.map (some gb))::F) (.mapV P k gb 0 (fun _=>none)::L) M w0 a w→wpList P ops Q rest a w):wpList P ops Q (⟨some d,.makeMap t none,ty,pos,aft,none⟩::rest) a w:=by
  have hr:(execOp a.eval ⟨some d,.makeMap t none,ty,pos,aft,none⟩).run P w=.ok (.value (.map (some w.heap.size))) (w.alloc (.map #[] 0)):=by
    simp [execOp,RowKit.run_makeMap]
  exact s_new hs hr hd (.alloc _ _) has_mapV fun a hs=>kk a _ _ hs
theorem c_lookupV {dd:Option Tmp} {g:Option (Nat × Bool)} {zv kv:Value} {q:Lit} (K:Keyed P k) (ht:P.underlying t=some (.map k e)) (hz:(zeroValue e).run P w=.ok zv w) (h:MapV P k b n f w) (hx:a.eval x=.map (some b)) (hy:a.eval y=kv) (hkey:keyOf P k kv=some q) :
    (execOp a.eval ⟨dd,.lookup t x y true,ty,pos,aft,g⟩).run P w=.ok (.value (.tuple #[(f q).getD zv,.bool (f q).isSome])) w:=by
  simp [execOp,hx,hy,h.lookOk K ht hz hkey]
theorem c_lookupW {dd:Option Tmp} {g:Option (Nat × Bool)} {zv kv:Value} {q:Lit} (K:Keyed P k) (ht:P.underlying t=some (.map k e)) (hz:(zeroValue e).run P w=.ok zv w) (h:MapV P k b n f w) (hx:a.eval x=.map (some b)) (hy:a.eval y=kv) (hkey:keyOf P k kv=some q) :
    (execOp a.eval ⟨dd,.lookup t x y false,ty,pos,aft,g⟩).run P w=.ok (.value ((f q).getD zv)) w:=by
  simp [execOp,hx,hy,h.look K ht hz hkey]
theorem s_mapPut {i:Nat} {kv v:Value} {q:Lit} (hs:St N F L M w0 a w) (K:Keyed P k) (ht:P.underlying t=some (.map k e)) (hx:ev F x=some (.map (some b))) (hy:ev F y=some kv) (hv:ev F z=some v) (hkey:keyOf P k kv=some q) (hi:L[i]?=some (.mapV P k b n f)) (hn:n < maxLen)
    (kk:∀ w,St N F (L.set i (.mapV P k b (n + 1) (putL f q v))) M w0 a w→wpList P ops Q rest a w):wpList P ops Q (⟨none,.mapUpdate t x y z,ty,pos,aft,none⟩::rest) a w:=by
  have hm:MapV P k b n f w:=hs.get hi
  obtain ⟨w',h1,h2,h3⟩:=hm.store K ht hn hkey v
  have hr:(execOp a.eval ⟨none,.mapUpdate t x y z,ty,pos,aft,none⟩).run P w=.ok .skip w':=by
    simp [execOp,hs.ev hx,hs.ev hy,hs.ev hv,h1]
  refine wpList_plain rfl fun K hK=>upon_skip hr (hK _ _ (kk _ ?_))
  refine hs.mod hi (turned_fr h3) h2 fun j hj=>⟨.inl hj,?_⟩
  obtain ⟨es,cl,h4⟩:=h2.blk
  have hj:j=b:=hj
  subst hj
  exact heap_lt h4
end
section
variable {P:Program} {ops:Array Oper} {N B1:Nat} {w1:World} {K:List (Nat × Value)→Fes→Prop} {Fc:List (Nat × Value)} {Fe:Fes} {rest:List Oper}
variable {d:Tmp} {op:Op} {ty:TypeId} {pos:String} {aft:Array Edge} {x y z:Operand} {t k:TypeId}
theorem rg_makeMapV (hC:look Fc d=none)
    (kk:RG P ops N B1 w1 K Fc ((d,fun v L _=>∃ g,v=.map (some g)∧L=[.mapV P k g 0 (fun _=>none)])::Fe) rest):RG P ops N B1 w1 K Fc Fe (⟨some d,.makeMap t none,ty,pos,aft,none⟩::rest) :=
  rg_e _ (fun _ _ _ _ _ h=>h) (fun a w hc=>by
    have hr:(execOp a.eval ⟨some d,.makeMap t none,ty,pos,aft,none⟩).run P w=.ok (.value (.map (some w.heap.size))) (w.alloc (.map #[] 0)):=by
      simp [execOp,RowKit.run_makeMap]
    rw [hr]
    exact ⟨_,⟨_,rfl,rfl⟩,.alloc _ _,has_mapV⟩) hC kk
end
theorem int_key {P:Program} {k:TypeId} (hk:P.underlying k=some (.int .i64)) {q:Int} (h:-9223372036854775808≤q∧q≤9223372036854775807):keyOf P k (I q)=some (.int .i64 q):=Maps.keyOf_int_mk hk (by
  have h1:IntKind.i64.min=-9223372036854775808:=by decide
  have h2:IntKind.i64.max=9223372036854775807:=by decide
  simp [Lit.wf,h1,h2]
  omega)
theorem iu_keyed {P:Program} {k:TypeId} {f0 f1:Field} (hl:laidOutB P=true) (hk:P.underlying k=some (.struct #[f0,f1])) (hrow:k < P.types.size) (hkt:P.keyTypeAt 2 k=true):Keyed P k :=
  Keyed.of_law (deep_law_laid hl (m:=2) (by omega) hrow hkt (by rw [hk]))
theorem iu_key {P:Program} {k:TypeId} {f0 f1:Field} (hk:P.underlying k=some (.struct #[f0,f1])) (hkt:P.keyType k=true) (hc:P.cellsOf k=2) (h0:P.underlying f0.type=some (.int .i64)) (h1:P.underlying f1.type=some (.int .u32)) (o0:f0.offset=0) (o1:f1.offset=1)
    (c0 : P.cellsOf f0.type = 1) (c1 : P.cellsOf f1.type = 1) (hn : #[f0, f1].all (·.name != "_") = true) (hsz : ∃ m, P.types.size = m + 1) {q : Int} (h : -9223372036854775808 ≤ q ∧ q ≤ 9223372036854775807) (u : UInt32) : ∃ l, keyOf P k (.agg #[I q, U u]) = some l := by
  have hw0:(Lit.int .i64 q).wf=true:=by
    have h1:IntKind.i64.min=-9223372036854775808:=by decide
    have h2:IntKind.i64.max=9223372036854775807:=by decide
    simp [Lit.wf,h1,h2]
    omega
  have hw1:(Lit.int .u32 (u.toNat:Int)).wf=true:=by
    have h1:IntKind.u32.min=0:=by decide
    have h2:IntKind.u32.max=4294967295:=by decide
    have:=UInt32.toNat_lt u
    simp [Lit.wf,h1,h2]
    omega
  obtain ⟨m,hm⟩:=hsz
  unfold keyOf
  rw [hk]
  dsimp only
  rw [if_pos (by simp [hkt,Value.formed,hk,hc]),hm]
  have e0:P.keyLits (m + 1) f0.type [I q]=some [.int .i64 q]:=by
    simp only [Program.keyLits,h0]
    simp [hw0]
  have e1:P.keyLits (m + 1) f1.type [U u]=some [.int .u32 (u.toNat:Int)]:=by
    simp only [Program.keyLits,h1]
    simp [hw1]
  unfold Program.keyLits
  simp only [hk]
  rw [if_pos ⟨by simp [hc,Value.cells],hn⟩]
  simp [Value.cells,o0,o1,c0,c1,e0,e1]
end Go.Fw
end

section
/- Ledgers: claims as values,how they are compared,where one stands. -/
namespace Go.Proofs.YtklajbdbnnceiaaGreat
open Go Go.Fw
structure Cl where
  d:Int
  ep:UInt32
  sq:UInt32
  mt:Int
  sn:Int
deriving DecidableEq,Inhabited
abbrev Cl.v (c:Cl):Value:=.agg #[I c.d,U c.ep,U c.sq,I c.mt,I c.sn]
def Cl.c (c:Cl):List Value:=[I c.d,U c.ep,U c.sq,I c.mt,I c.sn]
def clsC (l:List Cl):List Value:=l.flatMap Cl.c
theorem getD_at {l:List Cl} {k:Nat} (h:k < l.length):l.getD k default=l[k]:=by simp [List.getD_eq_getElem?_getD,h]
theorem clsC_length:∀ l:List Cl,(clsC l).length=l.length * 5
  | []=>rfl
  | x::l=>by
    have h:=clsC_length l
    simp only [clsC,List.flatMap_cons,List.length_append] at h ⊢
    rw [h,List.length_cons,Cl.c]
    simp only [List.length_cons,List.length_nil]
    omega
theorem clsC_append (l m:List Cl):clsC (l++m)=clsC l++clsC m:=by simp [clsC]
theorem clsC_one (x:Cl):clsC [x]=x.c:=by simp [clsC]
theorem clsC_piece:∀ (l:List Cl) (k:Nat),k < l.length→((clsC l).drop (k * 5)).take 5=(l.getD k default).c
  | [],k,h=>absurd h (by simp)
  | x::l,0,_=>by simp [clsC,Cl.c]
  | x::l,k + 1,h=>by
    have h1:=clsC_piece l k (by simpa using h)
    rw [show (k + 1) * 5=x.c.length + k * 5 by rw [Cl.c]; simp only [List.length_cons,List.length_nil]; omega]
    show (List.take 5 (List.drop (x.c.length + k * 5) (x.c++clsC l)))=_
    rw [List.drop_append,List.drop_of_length_le (by omega),List.nil_append,show x.c.length + k * 5 - x.c.length=k * 5 by omega,h1]
    rfl
theorem cls_piece {all:List Value} {o k:Nat} {l:List Cl} (h:(all.drop o).take (clsC l).length=clsC l) (hk:k < l.length):(all.drop (o + k * 5)).take 5=(l.getD k default).c:=by
  have hle:k * 5 + 5≤(clsC l).length:=by rw [clsC_length]; omega
  have h2:(((all.drop o).take (clsC l).length).drop (k * 5)).take 5=((clsC l).drop (k * 5)).take 5:=by rw [h]
  rw [List.drop_take,List.take_take,Nat.min_eq_left (by omega),List.drop_drop] at h2
  rw [h2,clsC_piece l k hk]
theorem Rd.cls_at {w:World} {ad:Option Addr} {cap:Nat} {l:List Cl} (h:Rd w (.slice ad l.length cap) l.length (clsC l)) (hn:0 < l.length) :
    ∃ b o T fr all,ad=some ⟨b,o,none⟩∧w.heap[b]?=some (.cells all T fr)∧(all.toList.drop o).take (clsC l).length=clsC l:=by
  obtain ⟨b,o,cap',T,fr,all,e,_,_,hb,hc⟩:=Rd.at_ h (by intro e; have:=congrArg List.length e; rw [clsC_length] at this; simp only [List.length_nil] at this; omega)
  cases e
  exact ⟨b,o,T,fr,all,rfl,hb,hc⟩
theorem tr_i (t:TypeId) (k:IntKind) (hu:Tryz.prog.underlying t=some (.int k)) (a b:Int) (n:Nat) (w:World):(Op.equalIn (n + 1) t (.int k a) (.int k b)).run Tryz.prog w=.ok (decide (a=b)) w:=by
  simp [Op.equalIn,run_underlying hu]
  rfl
theorem tr_KeyR (a b a' b':UInt32) (c c':Int) (n:Nat) (w:World):(Op.equalIn (n + 2) 52 (.agg #[U a,U b,I c]) (.agg #[U a',U b',I c'])).run Tryz.prog w=.ok (decide (a=a'∧b=b'∧c=c')) w:=by
  have h:∀ x y,(Op.equalIn (n + 1) 3 (I x) (I y)).run Tryz.prog w=.ok (decide (x=y)) w:=fun x y=>tr_i 3 .i64 un3 x y n w
  have hU:∀ x y:UInt32,(Op.equalIn (n + 1) 25 (U x) (U y)).run Tryz.prog w=.ok (decide (x=y)) w:=fun x y=>by
    have h2:=tr_i 25 .u32 un25 (x.toNat:Int) (y.toNat:Int) n w
    have e:decide ((x.toNat:Int)=(y.toNat:Int))=decide (x=y):=by
      by_cases hx:x=y
      · subst hx; simp
      · rw [decide_eq_false hx,decide_eq_false]
        intro h3
        exact hx (UInt32.toNat_inj.1 (by omega))
    rw [e] at h2
    exact h2
  rw [Op.equalIn]
  simp only [Sem.run_bind,run_underlying Tryz.underlying52,Result.andThen_ok]
  simp [part,h,hU]
  by_cases h1:a=a' <;> by_cases h2:b=b' <;> by_cases h3:c=c' <;> simp [*]
theorem tr_KeyP (a b a' b':UInt32) (c c':Int) (n:Nat) (w:World):(Op.equalIn (n + 2) 59 (.agg #[U a,U b,I c]) (.agg #[U a',U b',I c'])).run Tryz.prog w=.ok (decide (a=a'∧b=b'∧c=c')) w:=by
  have h:∀ x y,(Op.equalIn (n + 1) 3 (I x) (I y)).run Tryz.prog w=.ok (decide (x=y)) w:=fun x y=>tr_i 3 .i64 un3 x y n w
  have hU:∀ x y:UInt32,(Op.equalIn (n + 1) 25 (U x) (U y)).run Tryz.prog w=.ok (decide (x=y)) w:=fun x y=>by
    have h2:=tr_i 25 .u32 un25 (x.toNat:Int) (y.toNat:Int) n w
    have e:decide ((x.toNat:Int)=(y.toNat:Int))=decide (x=y):=by
      by_cases hx:x=y
      · subst hx; simp
      · rw [decide_eq_false hx,decide_eq_false]
        intro h3
        exact hx (UInt32.toNat_inj.1 (by omega))
    rw [e] at h2
    exact h2
  rw [Op.equalIn]
  simp only [Sem.run_bind,run_underlying Tryz.underlying59,Result.andThen_ok]
  simp [part,h,hU]
  by_cases h1:a=a' <;> by_cases h2:b=b' <;> by_cases h3:c=c' <;> simp [*]
theorem tr_ClaimP (d d' i i' c c':Int) (a b a' b':UInt32) (w:World):(Op.equal 61 (.agg #[I d,U a,U b,I c,I i]) (.agg #[I d',U a',U b',I c',I i'])).run Tryz.prog w=.ok (decide (d=d'∧(a=a'∧b=b'∧c=c')∧i=i')) w:=by
  have h:∀ x y,(Op.equalIn 9999 3 (I x) (I y)).run Tryz.prog w=.ok (decide (x=y)) w:=fun x y=>tr_i 3 .i64 un3 x y 9998 w
  have hK:(Op.equalIn 9999 59 (.agg #[U a,U b,I c]) (.agg #[U a',U b',I c'])).run Tryz.prog w=.ok (decide (a=a'∧b=b'∧c=c')) w:=tr_KeyP a b a' b' c c' 9997 w
  unfold Op.equal
  rw [show Op.maxDepth=9999 + 1 from rfl]
  rw [Op.equalIn]
  simp only [Sem.run_bind,run_underlying Tryz.underlying61,Result.andThen_ok]
  simp [part,h]
  rw [hK]
  by_cases h2:a=a'∧b=b'∧c=c'
  · rw [decide_eq_true h2]
    obtain ⟨rfl,rfl,rfl⟩:=h2
    by_cases h1:d=d' <;> by_cases h3:i=i' <;> simp [h,h1,h3]
  · rw [decide_eq_false h2]
    have h4:(decide (a=a') && (decide (b=b') && decide (c=c')))=false:=by
      rw [← Bool.not_eq_true]
      simpa using h2
    by_cases h1:d=d' <;> by_cases h3:i=i' <;> simp [h,h1,h3,h4]
theorem c_eqlClaimP {ac:Act} {w:World} {dt:Option Tmp} {ty u:TypeId} {pos:String} {aft:Array Edge} {g:Option (Nat × Bool)} {x y:Operand} {s c:Cl} (hx:ac.eval x=s.v) (hy:ac.eval y=c.v) :
    (execOp ac.eval ⟨dt,.binOp .eql 61 x y u,ty,pos,aft,g⟩).run Tryz.prog w=.ok (.value (.bool (decide (s=c)))) w:=by
  obtain ⟨d,ep,sq,mt,sn⟩:=s
  obtain ⟨d',ep',sq',mt',sn'⟩:=c
  have e:decide (d=d'∧(ep=ep'∧sq=sq'∧mt=mt')∧sn=sn')=decide ((⟨d,ep,sq,mt,sn⟩:Cl)=⟨d',ep',sq',mt',sn'⟩):=by
    apply decide_eq_decide.2
    simp only [Cl.mk.injEq]
    constructor
    · rintro ⟨h1,⟨h2,h3,h4⟩,h5⟩; exact ⟨h1,h2,h3,h4,h5⟩
    · rintro ⟨h1,h2,h3,h4,h5⟩; exact ⟨h1,⟨h2,h3,h4⟩,h5⟩
  simp only [Cl.v] at hx hy
  simp [execOp,hx,hy,eqGuard,binOp,eg61,tr_ClaimP,e]
theorem tr_Index (l:List Cl) (sv:Value) (x:Cl) (w:World) (hq:Rd w sv l.length (clsC l)):Ctr Tryz.prog 144 [sv,x.v] w (fun _=>False) (fun v _=>(x∈l∧∃ k:Nat,v=I k∧k < l.length)∨(¬ x∈l∧v=I (-1))):=by
  have hnl:=hq.le
  obtain ⟨sad,scap,rfl,hsc,hsm⟩:=Rd.sl hq
  refine fn_start (N:=19) Tryz.func144 rfl rfl rfl fun ac hk=>?_
  have hs:=St.start hk w
  refine wp_seq (wp_reg ?_)
  refine s_box hs rfl rfl rfl fun ac ww g3 hs=>?_
  refine zA hs fun ac hs=>?_
  refine s_end ?_
  replace hs:=hs.sub (F':=[(0,_),(3,_),(4,_)]) ⟨rfl,rfl,rfl,trivial⟩
  refine then_n (wp_seq (wp_seq (wp_reg ?_)))
  refine zM hs fun ac hs=>?_
  refine s_q hs (c_lenS un193 (hs.ev rfl)) rfl fun ac hs=>?_
  refine zM hs fun ac hs=>?_
  refine s_end ?_
  replace hs:=hs.sub (F':=[(0,_),(3,_),(4,_),(7,_),(8,_)]) ⟨rfl,rfl,rfl,rfl,rfl,trivial⟩
  refine then_n (wp_block ?_)
  refine s_loop hs (X:=Nat) (fun k=>[(8,I k)]) [(0,_),(3,_),(7,_)] (fun _=>[_]) (fun n k=>k≤l.length∧n=l.length - k∧∀ i,i < k→¬ l.getD i default=x) (_) (0) (⟨Nat.zero_le _,rfl,fun _ h=>absurd h (by omega)⟩) ⟨rfl,rfl,rfl,rfl,trivial⟩ rfl ?_
  rintro n k ac ww hok hs
  simp only [List.cons_append,List.nil_append] at hs
  obtain ⟨hk,rfl,hne⟩:=hok
  refine wp_seq (wp_reg ?_)
  refine s_q hs (c_lssI (hs.ev rfl) (hs.ev rfl)) rfl fun ac hs=>?_
  refine s_end (then_n (wp_seq ?_))
  refine s_cond hs rfl (fun hc=>?_) (fun hc=>?_)
  · try simp only [z1,z2,z3,z4,z5,z6,z7] at hc
    have hkn:k < l.length:=by omega
    obtain ⟨pb,po,pT,pf,pall,rfl,hpb,hps⟩:=Rd.cls_at hq (by omega)
    refine wp_skip (then_n (wp_seq (wp_block (wp_seq (wp_reg ?_)))))
    refine zM hs fun ac hs=>?_
    refine zA hs fun ac hs=>?_
    refine s_end (then_n (wp_seq ?_))
    refine wp_region_rg pmix 5 (by kernel_rfl) rfl hs ?_
    simp only [List.take_succ_cons,List.take_zero]
    refine rg_q (fun ac ww h=>c_loadW ty61 ag61 (h.ev rfl) (h.blk (hs.seg (i:=0) rfl)) (by rfl)) rfl ?_
    refine rg_q (fun ac ww h=>c_move (h.ev rfl)) rfl ?_
    refine rg_q (fun ac ww h=>c_move (h.ev rfl)) rfl ?_
    refine rg_q (fun ac ww h=>c_idxS (j:=k) un193 ty61 (h.ev rfl) (h.ev rfl) (by omega) (by omega)) rfl ?_
    refine rg_q (fun ac ww h=>c_loadA ty61 ag61 (h.ev rfl) (h.blk (hs.old hpb id)) (cls_piece hps hkn) (by rfl)) rfl ?_
    refine rg_nil fun ac ww L' hf hfe hs=>?_
    simp only [List.drop_succ_cons,List.drop_zero]
    obtain rfl:L'=[]:=hfe
    replace hs:=hs.toL (List.nil_append _)
    refine s_q hs (c_eqlClaimP (hs.ev rfl) (hs.ev rfl)) rfl fun ac hs=>?_
    refine s_end (then_n ?_)
    refine s_cond hs rfl (fun hc=>?_) (fun hc=>?_)
    · try simp only [z1,z2,z3,z4,z5,z6,z7] at hc
      have heq:x=l.getD k default:=hc
      refine wp_seq (wp_reg ?_)
      refine zM hs fun ac hs=>?_
      refine zA hs fun ac hs=>?_
      refine s_end (then_n (wp_ret (blk_r (then_r (then_r (blk_r (then_r ?_)))))))
      refine s_ret hs rfl (.tmp (hs.tmp rfl) .nil) rfl ⟨_,rfl,hs.fr,?_⟩
      refine .inl ⟨?_,k,rfl,hkn⟩
      rw [heq,getD_at hkn]
      exact List.getElem_mem hkn
    · try simp only [z1,z2,z3,z4,z5,z6,z7] at hc
      have hne2:¬ l.getD k default=x:=fun e=>hc e.symm
      refine wp_skip (blk_n (then_n (wp_reg ?_)))
      refine s_q hs (c_addI (hs.ev rfl) (hs.ev rfl) (by omega) (by omega)) rfl fun ac hs=>?_
      refine zM hs fun ac hs=>?_
      refine s_end (then_n ?_)
      exact ⟨l.length - (k + 1),by omega,k + 1,⟨by omega,rfl,fun i hi=>by
          by_cases e:i=k
          · subst e; exact hne2
          · exact hne i (by omega)⟩,St.next hs ⟨rfl,rfl,rfl,rfl,trivial⟩ rfl⟩
  · try simp only [z1,z2,z3,z4,z5,z6,z7] at hc
    obtain rfl:k=l.length:=by omega
    refine wp_exit (then_e (then_e (blk_hit (then_n (wp_seq (wp_reg ?_))))))
    refine zA hs fun ac hs=>?_
    refine s_end ?_
    replace hs:=hs.sub (F':=[(4,_)]) ⟨rfl,trivial⟩
    refine then_n (wp_ret ?_)
    refine s_ret hs rfl (.tmp (hs.tmp rfl) .nil) rfl ⟨_,rfl,hs.fr,?_⟩
    refine .inr ⟨fun hm=>?_,rfl⟩
    obtain ⟨i,hi,e⟩:=List.getElem_of_mem hm
    exact hne i hi (by rw [getD_at hi]; exact e)
theorem tr_Contains (l:List Cl) (sv:Value) (x:Cl) (w:World) (hq:Rd w sv l.length (clsC l)):Ctr Tryz.prog 125 [sv,x.v] w (fun _=>False) (fun v _=>v=.bool (decide (x∈l))):=by
  have hnl:=hq.le
  obtain ⟨sad,scap,rfl,hsc,hsm⟩:=Rd.sl hq
  refine fn_start (N:=9) Tryz.func125 rfl rfl rfl fun ac hk=>?_
  have hs:=St.start hk w
  refine wp_seq (wp_reg ?_)
  refine s_box hs rfl rfl rfl fun ac ww g3 hs=>?_
  refine zA hs fun ac hs=>?_
  refine s_end ?_
  replace hs:=hs.sub (F':=[(0,_),(3,_),(4,_)]) ⟨rfl,rfl,rfl,trivial⟩
  refine then_n (wp_seq (wp_reg ?_))
  refine zM hs fun ac hs=>?_
  refine s_q hs (c_loadW ty61 ag61 (hs.ev rfl) (hs.seg (i:=0) rfl) (by rfl)) rfl fun ac hs=>?_
  refine s_call hs fu144 (.cons (hs.ev rfl) (.cons (hs.ev rfl) .nil)) (tr_Index l _ x _ (hq.fr0 hs.fr)) rfl fun ac ww v7 hf hp hs=>?_
  obtain ⟨z,rfl,hz⟩:∃ z:Int,v7=I z∧decide (0≤z)=decide (x∈l):=by
    rcases hp with ⟨h1,k,rfl,_⟩ | ⟨h1,rfl⟩
    · exact ⟨_,rfl,by rw [decide_eq_true h1]; simp⟩
    · exact ⟨_,rfl,by rw [decide_eq_false h1]; rfl⟩
  replace hs:=hs [] (.nil _ _)
  refine s_q hs (c_to (c_geqI (hs.ev rfl) (hs.ev rfl)) ((congrArg (fun b:Bool=>Value.bool b) hz))) rfl fun ac hs=>?_
  refine zA hs fun ac hs=>?_
  refine s_end ?_
  replace hs:=hs.sub (F':=[(4,_)]) ⟨rfl,trivial⟩
  refine then_n (wp_ret ?_)
  refine s_ret hs rfl (.tmp (hs.tmp rfl) .nil) rfl ⟨_,rfl,hs.fr,?_⟩
  rfl
end Go.Proofs.YtklajbdbnnceiaaGreat
end

section
/- Structs of which some fields alone are given. -/
namespace Go.Fw
open Go
inductive EvQ (a:Act):List (Nat × Operand)→List (Nat × Value)→Prop
  | nil:EvQ a [] []
  | cons {k:Nat} {x:Operand} {v:Value} {xs:List (Nat × Operand)} {vs:List (Nat × Value)} (h:a.eval x=v) (t:EvQ a xs vs):EvQ a ((k,x)::xs) ((k,v)::vs)
theorem EvQ.map {a:Act} {xs:List (Nat × Operand)} {vs:List (Nat × Value)} (h:EvQ a xs vs):(xs.map fun p=>(p.1,a.eval p.2))=vs:=by
  induction h with
  | nil=>rfl
  | cons h _ ih=>rw [List.map_cons,ih,h]
section
variable {P:Program} {a:Act} {w:World} {d:Option Tmp} {ty:TypeId} {pos:String} {aft:Array Edge} {g:Option (Nat × Bool)} {t:TypeId}
theorem c_buildQ {bytes sz:Nat} {td:TypeDesc} {zs zc:List Value} {pl:Array (Nat × Nat)} {ps:Array (Nat × Operand)} {qs:List (Nat × Value)} (hT:Ty P t td sz bytes zs) (hB:BP P t pl)
    (hps:EvQ a ps.toList qs) (hf:Instr.fill (fun i=>pl[i]?) zs.toArray qs=some zc.toArray) :
    (execOp a.eval ⟨d,.build t ps,ty,pos,aft,g⟩).run P w=.ok (.value (.agg zc.toArray)) w:=by
  obtain ⟨v,hzv,hzc⟩:=hT.zero (w:=w)
  obtain ⟨hb1,hb2⟩:=hB
  have hb3:=hb2 w
  simp only [bind_pure_comp] at hb3
  simp [execOp,Instr.build,hzv,hzc,run_underlying hb1,hb3,hps.map,hf]
end
section
variable {P:Program} {ops:Array Oper} {Q:Exit→Act→World→Prop} {rest:List Oper} {N:Nat} {F F':List (Nat × Value)} {L L':List Ent} {M:Nat→Prop} {w0 w:World} {a:Act}
variable {d:Tmp} {op:Op} {ty:TypeId} {pos:String} {aft:Array Edge} {x y z:Operand} {t u:TypeId}
theorem s_gn {j s:Nat} {b b1 c1 q:Bool} {v:Value} (hs:St N F L M w0 a w) (hj:(ops[j]?).bind (·.dst)=some s) (hb:look F s=some (if c1=b1 then .bool q else undef))
    (hr:c1=b1→q=b→(execOp a.eval ⟨some d,op,ty,pos,aft,none⟩).run P w=.ok (.value v) w) (hd:Nat.blt d N=true)
    (k:∀ a,St N ((d,if c1=b1 then (if q=b then v else undef) else undef)::F) L M w0 a w→wpList P ops Q rest a w):wpList P ops Q (⟨some d,op,ty,pos,aft,some (j,b)⟩::rest) a w:=by
  by_cases e:c1=b1
  · rw [if_pos e] at hb k
    exact s_g hs hj hb (hr e) hd k
  · rw [if_neg e] at hb k
    exact s_noU hs hj hb hd k
end
section
variable {P:Program} {ops:Array Oper} {N B1:Nat} {w1:World} {K:List (Nat × Value)→Fes→Prop} {Fc:List (Nat × Value)} {Fe:Fes} {rest:List Oper}
variable {d:Tmp} {op:Op} {ty:TypeId} {pos:String} {aft:Array Edge}
end
end Go.Fw
end

section
/- Ledgers in memory. -/
namespace Go.Proofs.YtklajbdbnnceiaaGreat
open Go Go.Fw
def whF (wh:Int→Bool):Lit→Option Value:=fun q=>match q with | .int .i64 d=>if wh d then some (.bool true) else none | _=>none
theorem whF_get (wh:Int→Bool) (d:Int):(whF wh (.int .i64 d)).getD (.bool false)=.bool (wh d):=by
  simp only [whF]
  cases wh d <;> rfl
theorem whF_none:whF (fun _=>false)=fun _=>none:=by
  funext q
  unfold whF
  split <;> rfl
def led (g mb nb:Nat) (v:Value) (l:List Cl) (wh:Int→Bool):List Ent:=[.seg g [v,.map (some mb)] 195,.row v l.length (clsC l) 61 5,.mapV Tryz.prog 3 mb nb (whF wh)]
structure LedR (w:World) (g mb nb:Nat) (v:Value) (l:List Cl) (wh:Int→Bool):Prop where
  hg:w.heap[g]?=some (.cells #[v,.map (some mb)] 195 (0,0))
  rd:Rd w v l.length (clsC l)
  mp:MapV Tryz.prog 3 mb nb (whF wh) w
theorem LedR.fr0 {w w':World} {g mb nb:Nat} {v:Value} {l:List Cl} {wh:Int→Bool} (h:LedR w g mb nb v l wh) (hf:Fr0 w w'):LedR w' g mb nb v l wh:=by
  obtain ⟨es,cl,hb⟩:=h.mp.blk
  exact ⟨(hf.block g (heap_lt h.hg) id).trans h.hg,h.rd.fr0 hf,h.mp.loc (hf.block mb (heap_lt hb) id)⟩
theorem led_get {w:World} {g mb nb:Nat} {v:Value} {l:List Cl} {wh:Int→Bool} (h:Has 0 w (led g mb nb v l wh)):LedR w g mb nb v l wh :=
  ⟨h.holds _ (List.mem_of_getElem? (i:=0) rfl),Rd.of_row (h.holds _ (List.mem_of_getElem? (i:=1) rfl)),h.holds _ (List.mem_of_getElem? (i:=2) rfl)⟩
def shOk (c:Cl):Bool:=decide (0≤c.d) && decide (c.d < 8) && decide (0≤c.mt)
def addC (l:List Cl) (c:Cl):List Cl:=if shOk c=true then l++[c] else l
def ec (b:Bool):Int:=if b=true then 0 else 1
def nearS (d:Int) (ep sq:UInt32) (b:Int) (c:Cl):Int:=if c.d=d∧c.ep=ep∧c.sq=sq∧(b < 0∨c.mt < b) then c.mt else b
def nearK (l:List Cl) (d:Int) (ep sq:UInt32) (k:Nat):Int:=(l.take k).foldl (nearS d ep sq) (-1)
def near (l:List Cl) (d:Int) (ep sq:UInt32):Int:=l.foldl (nearS d ep sq) (-1)
theorem nearK_succ {l:List Cl} {d:Int} {ep sq:UInt32} {k:Nat} (h:k < l.length):nearK l d ep sq (k + 1)=nearS d ep sq (nearK l d ep sq k) (l.getD k default):=by
  rw [nearK,nearK,List.take_add_one,List.foldl_append,getD_at h,List.getElem?_eq_getElem h]
  rfl
theorem nearK_all (l:List Cl) (d:Int) (ep sq:UInt32):nearK l d ep sq l.length=near l d ep sq:=by rw [nearK,List.take_length]; rfl
def mayP (wh:Int→Bool) (l:List Cl) (c:Cl):Bool:=wh c.d || decide (c∈l) || (decide (0≤near l c.d c.ep c.sq) && decide (near l c.d c.ep c.sq < c.mt))
theorem map3:Go.Maps.Keyed Tryz.prog 3:=Go.Maps.int_keyed un3
theorem tr_Open  (w:World) :Ctr Tryz.prog 52 [] w (fun _=>False) (fun v w'=>∃ g mb,v=.pointer (some ⟨g,0,none⟩)∧Has w.heap.size w' (led g mb 0 (.slice none 0 0) [] (fun _=>false))):=by
  refine fn_start (N:=4) Tryz.func52 rfl rfl rfl fun ac hk=>?_
  have hs:=St.start hk w
  refine wp_seq (wp_reg ?_)
  refine zA hs fun ac hs=>?_
  refine s_end (then_n (wp_seq (wp_reg ?_)))
  refine s_makeMapV (k:=3) hs rfl fun ac ww mb hs=>?_
  refine s_q hs (c_buildQ (zc:=[.slice none 0 0,.map (some mb)]) ty195 bp195 (.cons (hs.ev rfl) .nil) rfl) rfl fun ac hs=>?_
  refine s_box hs rfl rfl rfl fun ac ww g3 hs=>?_
  refine zA hs fun ac hs=>?_
  refine s_end ?_
  replace hs:=hs.sub (F':=[(0,_)]) ⟨rfl,trivial⟩
  refine then_n (wp_ret ?_)
  replace hs:=((hs.nilrow 61 5).perm (List.Perm.swap _ _ _)).toL (show _=led g3 mb 0 (.slice none 0 0) [] (fun _=>false) from by rw [led,whF_none]; rfl)
  refine s_ret hs rfl (.tmp (hs.tmp rfl) .nil) rfl ⟨_,rfl,hs.fr,?_⟩
  exact ⟨g3,mb,rfl,hs.made⟩
theorem tr_Show (g mb nb:Nat) (v:Value) (l:List Cl) (wh:Int→Bool) (c:Cl) (hl:l.length≤100000) (w:World) (hled:Has 0 w (led g mb nb v l wh)):Ctr Tryz.prog 53 [.pointer (some ⟨g,0,none⟩),c.v] w (Ent.grp (led g mb nb v l wh)).keys (fun v2 w'=>v2=I (ec (shOk c))∧∃ v',Has 0 w' (led g mb nb v' (addC l c) wh)∧∀ k,(Ent.grp (led g mb nb v' (addC l c) wh)).keys k→(Ent.grp (led g mb nb v l wh)).keys k∨w.heap.size≤k):=by
  refine fn_start (N:=33) Tryz.func53 rfl rfl rfl fun ac hk=>?_
  have hs:=St.startG hk hled
  refine wp_seq (wp_reg ?_)
  refine s_box hs rfl rfl rfl fun ac ww g3 hs=>?_
  refine zA hs fun ac hs=>?_
  refine s_end ?_
  replace hs:=hs.sub (F':=[(0,_),(3,_),(4,_)]) ⟨rfl,rfl,rfl,trivial⟩
  refine then_n (wp_seq (wp_block (wp_seq (wp_reg ?_))))
  refine zM hs fun ac hs=>?_
  refine s_q hs (c_eqlNil un107 (hs.ev rfl) (hs.ev rfl)) rfl fun ac hs=>?_
  refine zA hs fun ac hs=>?_
  refine s_end ?_
  replace hs:=hs.sub (F':=[(0,_),(3,_),(4,_),(5,_)]) ⟨rfl,rfl,rfl,rfl,trivial⟩
  refine then_n ?_
  refine wp_cond_false (hs.ev rfl) ?_
  refine wp_seq (wp_reg ?_)
  refine s_q hs (c_fld fl61_0 (hs.ev rfl)) rfl fun ac hs=>?_
  refine s_q hs (c_loadS un3 rfl (hs.ev rfl) (hs.seg (i:=0) rfl) rfl) rfl fun ac hs=>?_
  refine s_q hs (c_lssI (hs.ev rfl) (hs.ev rfl)) rfl fun ac hs=>?_
  refine zM hs fun ac hs=>?_
  refine s_g hs rfl rfl (fun hg=>c_fld fl61_0 (hs.ev rfl)) rfl fun ac hs=>?_
  refine s_g hs rfl rfl (fun hg=>c_loadS un3 rfl (gev (hs.ev rfl) hg) (hs.seg (i:=0) rfl) rfl) rfl fun ac hs=>?_
  refine s_g hs rfl rfl (fun hg=>c_geqI (gev (hs.ev rfl) hg) (hs.ev rfl)) rfl fun ac hs=>?_
  refine s_q hs (c_or (hs.ev rfl) (hs.ev rfl)) rfl fun ac hs=>?_
  refine zM hs fun ac hs=>?_
  refine s_g hs rfl rfl (fun hg=>c_fld fl61_1 (hs.ev rfl)) rfl fun ac hs=>?_
  refine s_g hs rfl rfl (fun hg=>c_fld fl59_2 (gev (hs.ev rfl) hg)) rfl fun ac hs=>?_
  refine s_g hs rfl rfl (fun hg=>c_loadS un3 rfl (gev (hs.ev rfl) hg) (hs.seg (i:=0) rfl) rfl) rfl fun ac hs=>?_
  refine s_g hs rfl rfl (fun hg=>c_lssI (gev (hs.ev rfl) hg) (hs.ev rfl)) rfl fun ac hs=>?_
  refine s_q hs (c_or (hs.ev rfl) (hs.ev rfl)) rfl fun ac hs=>?_
  refine zA hs fun ac hs=>?_
  refine s_end ?_
  replace hs:=hs.sub (F':=[(0,_),(3,_),(4,_),(8,_)]) ⟨rfl,rfl,rfl,rfl,trivial⟩
  refine then_n ?_
  refine s_cond hs rfl (fun hc=>?_) (fun hc=>?_)
  · skip
    have hno:shOk c=false:=by
      simp [shOk] at hc ⊢
      omega
    refine wp_seq (wp_reg ?_)
    refine zA hs fun ac hs=>?_
    refine s_end ?_
    replace hs:=hs.sub (F':=[(0,_),(3,_),(4,_)]) ⟨rfl,rfl,rfl,trivial⟩
    refine then_n (wp_ret (blk_r (then_r ?_)))
    refine s_ret hs rfl (.tmp (hs.tmp rfl) .nil) rfl ⟨_,rfl,hs.fr,?_⟩
    refine ⟨by rw [hno]; rfl,v,?_⟩
    rw [addC,hno]
    exact (hs.pick (L':=led g mb nb v l wh) (.cons _ (.refl _))).grp
  · skip
    have hyes:shOk c=true:=by
      simp [shOk] at hc ⊢
      omega
    refine wp_skip (blk_n (then_n (wp_seq ?_)))
    obtain ⟨vad,vcap,rfl,hvc,hvm⟩:=Rd.sl (Rd.of_row (hs.get (i:=2) rfl))
    refine wp_region_rgX (J:=[0]) pmix 7 (by kernel_rfl) (by kernel_rfl) rfl rfl hs ?_
    simp only [List.take_succ_cons,List.take_zero]
    refine rg_q (fun ac ww h=>c_move (h.ev rfl)) rfl ?_
    refine rg_q (fun ac ww h=>c_move (h.ev rfl)) rfl ?_
    refine rg_q (fun ac ww h=>c_nil (h.ev rfl)) rfl ?_
    refine rg_q (fun ac ww h=>c_fld fl195_0 (h.ev rfl)) rfl ?_
    refine rg_q (fun ac ww h=>c_loadS un193 rfl (h.ev rfl) (h.blk (hs.seg (i:=1) rfl)) rfl) rfl ?_
    refine rg_q (fun ac ww h=>c_loadW ty61 ag61 (h.ev rfl) (h.blk (hs.seg (i:=0) rfl)) (by rfl)) rfl ?_
    refine rg_bslice un193 ty61 (fun ac ww h=>(.cons (h.ev rfl) .nil)) rfl (by simp [Value.cells]) (by decide) rfl rfl ?_
    refine rg_nil fun ac ww L' hf hfe hs hlk=>?_
    simp only [List.drop_succ_cons,List.drop_zero]
    obtain ⟨v29,L29,M29,h29,e29,rfl,rfl⟩:=hfe
    replace hs:=hs.add h29
    obtain ⟨g29,rfl,rfl⟩:=e29
    refine sk_append (i:=3) hs un193 ty61 (by decide) rfl rfl rfl (Rd.of_seg (n:=1) (hs.seg (i:=0) rfl) (Nat.le_refl _) (by decide) (List.take_of_length_le (by simp [flatCells,Value.cells]))) (by simp [flatCells,Value.cells]) (by simp [flatCells,Value.cells,Value.oneCell',U]) (by unfold maxLen; omega) (by omega) rfl (fun ac ww v30 hf hnil hs=>late_turn rfl rfl (late_nil)) fun ac ww v30 hf hnil hs=>?_
    obtain ⟨ad30,cap30,rfl,_,_⟩:=Rd.sl (Rd.of_row (hs.get (i:=3) rfl))
    refine s_q hs (c_nil (hs.ev rfl)) rfl fun ac hs=>?_
    refine s_q hs (c_fld fl195_0 (hs.ev rfl)) rfl fun ac hs=>?_
    refine s_store (i:=2) hs ty193 rfl rfl rfl rfl rfl rfl (by simp) rfl fun ww hs=>?_
    refine s_end ?_
    replace hs:=hs.sub (F':=[(4,_)]) ⟨rfl,trivial⟩
    refine then_n (wp_seq (wp_reg ?_))
    refine zA hs fun ac hs=>?_
    refine s_end (then_n (wp_ret ?_))
    refine s_ret hs rfl (.tmp (hs.tmp rfl) .nil) rfl ⟨_,rfl,hs.fr,?_⟩
    rw [show addC l c=l++[c] from if_pos hyes]
    exact ⟨by rw [hyes]; rfl,_,((hs.pick (L':=[_,_,_]) (.cons _ (.cons _ (.refl _)))).toL (L':=led g mb nb _ (l++[c]) wh) (by rw [led,clsC_append,clsC_one,List.length_append]; rfl)).grp⟩
theorem tr_Nearest (g mb nb:Nat) (v:Value) (l:List Cl) (wh:Int→Bool) (d:Int) (ep sq:UInt32) (w:World) (hlr:LedR w g mb nb v l wh):Ctr Tryz.prog 126 [.pointer (some ⟨g,0,none⟩),I d,U ep,U sq] w (fun _=>False) (fun v2 _=>v2=I (near l d ep sq)):=by
  have hnl:=hlr.rd.le
  obtain ⟨vad,vcap,rfl,hvc,hvm⟩:=Rd.sl hlr.rd
  refine fn_start (N:=58) Tryz.func126 rfl rfl rfl fun ac hk=>?_
  have hs:=St.start hk w
  refine wp_seq (wp_reg ?_)
  refine zA hs fun ac hs=>?_
  refine s_end (then_n (wp_seq (wp_reg ?_)))
  refine zA hs fun ac hs=>?_
  refine s_end (then_n (wp_seq (wp_seq (wp_reg ?_))))
  refine zM hs fun ac hs=>?_
  refine s_q hs (c_eqlNil un107 (hs.ev rfl) (hs.ev rfl)) rfl fun ac hs=>?_
  refine s_end ?_
  replace hs:=hs.sub (F':=[(0,_),(1,_),(2,_),(3,_),(8,_),(9,_),(13,_)]) ⟨rfl,rfl,rfl,rfl,rfl,rfl,rfl,trivial⟩
  refine then_n ?_
  refine wp_cond_false (hs.ev rfl) ?_
  refine wp_skip (then_n (wp_seq (wp_seq (wp_reg ?_))))
  refine zM hs fun ac hs=>?_
  refine s_q hs (c_nil (hs.ev rfl)) rfl fun ac hs=>?_
  refine s_q hs (c_fld fl195_0 (hs.ev rfl)) rfl fun ac hs=>?_
  refine s_q hs (c_loadS un193 rfl (hs.ev rfl) (hs.old hlr.hg id) rfl) rfl fun ac hs=>?_
  refine s_q hs (c_lenS un193 (hs.ev rfl)) rfl fun ac hs=>?_
  refine zM hs fun ac hs=>?_
  refine s_end ?_
  replace hs:=hs.sub (F':=[(1,_),(2,_),(3,_),(8,_),(9,_),(18,_),(19,_),(20,_)]) ⟨rfl,rfl,rfl,rfl,rfl,rfl,rfl,rfl,trivial⟩
  refine then_n (wp_block ?_)
  refine s_loop hs (X:=Nat) (fun k=>[(9,I (nearK l d ep sq k)),(20,I k)]) [(1,_),(2,_),(3,_),(8,_),(18,_),(19,_)] (fun _=>[]) (fun n k=>k≤l.length∧n=l.length - k) (_) (0) (⟨Nat.zero_le _,rfl⟩) ⟨rfl,rfl,rfl,rfl,rfl,rfl,rfl,rfl,trivial⟩ rfl ?_
  rintro n k ac ww hok hs
  simp only [List.cons_append,List.nil_append] at hs
  obtain ⟨hk,rfl⟩:=hok
  refine wp_seq (wp_reg ?_)
  refine s_q hs (c_lssI (hs.ev rfl) (hs.ev rfl)) rfl fun ac hs=>?_
  refine s_end (then_n (wp_seq ?_))
  refine s_cond hs rfl (fun hc=>?_) (fun hc=>?_)
  · try simp only [z1,z2,z3,z4,z5,z6,z7] at hc
    have hkn:k < l.length:=by omega
    obtain ⟨pb,po,pT,pf,pall,rfl,hpb,hps⟩:=Rd.cls_at hlr.rd (by omega)
    have hsu:=nearK_succ (d:=d) (ep:=ep) (sq:=sq) hkn
    obtain ⟨x,hx⟩:∃ x,l.getD k default=x:=⟨_,rfl⟩
    rw [hx] at hsu
    refine wp_skip (then_n (wp_seq (wp_block (wp_seq (wp_reg ?_)))))
    refine s_q hs (c_idxS (j:=k) un193 ty61 (hs.ev rfl) (hs.ev rfl) (by omega) (by omega)) rfl fun ac hs=>?_
    refine s_q hs (c_loadA ty61 ag61 (hs.ev rfl) (hs.old hpb id) ((cls_piece hps hkn).trans (congrArg Cl.c hx)) (by rfl)) rfl fun ac hs=>?_
    refine s_alloc hs ty61 rfl fun ac ww g11 hs=>?_
    refine s_storeW (i:=0) hs ty61 rfl rfl rfl (by rfl) (by rfl) rfl fun ww hs=>?_
    refine s_end (then_n (wp_seq (wp_reg ?_)))
    refine s_q hs (c_fld fl61_0 (hs.ev rfl)) rfl fun ac hs=>?_
    refine s_q hs (c_loadS un3 rfl (hs.ev rfl) (hs.seg (i:=0) rfl) rfl) rfl fun ac hs=>?_
    refine zM hs fun ac hs=>?_
    refine s_q hs (c_eqlI (hs.ev rfl) (hs.ev rfl)) rfl fun ac hs=>?_
    refine zM hs fun ac hs=>?_
    refine s_g hs rfl rfl (fun hg=>c_fld fl61_1 (hs.ev rfl)) rfl fun ac hs=>?_
    refine s_g hs rfl rfl (fun hg=>c_fld fl59_0 (gev (hs.ev rfl) hg)) rfl fun ac hs=>?_
    refine s_g hs rfl rfl (fun hg=>c_loadS un25 rfl (gev (hs.ev rfl) hg) (hs.seg (i:=0) rfl) rfl) rfl fun ac hs=>?_
    refine s_g hs rfl rfl (fun hg=>c_move (hs.ev rfl)) rfl fun ac hs=>?_
    refine s_g hs rfl rfl (fun hg=>c_eqlU (gev (hs.ev rfl) hg) (gev (hs.ev rfl) hg)) rfl fun ac hs=>?_
    refine s_q hs (c_and (hs.ev rfl) (hs.ev rfl)) rfl fun ac hs=>?_
    refine zM hs fun ac hs=>?_
    refine s_g hs rfl rfl (fun hg=>c_fld fl61_1 (hs.ev rfl)) rfl fun ac hs=>?_
    refine s_g hs rfl rfl (fun hg=>c_fld fl59_1 (gev (hs.ev rfl) hg)) rfl fun ac hs=>?_
    refine s_g hs rfl rfl (fun hg=>c_loadS un25 rfl (gev (hs.ev rfl) hg) (hs.seg (i:=0) rfl) rfl) rfl fun ac hs=>?_
    refine s_g hs rfl rfl (fun hg=>c_move (hs.ev rfl)) rfl fun ac hs=>?_
    refine s_g hs rfl rfl (fun hg=>c_eqlU (gev (hs.ev rfl) hg) (gev (hs.ev rfl) hg)) rfl fun ac hs=>?_
    refine s_q hs (c_and (hs.ev rfl) (hs.ev rfl)) rfl fun ac hs=>?_
    refine zM hs fun ac hs=>?_
    refine s_g hs rfl rfl (fun hg=>c_move (hs.ev rfl)) rfl fun ac hs=>?_
    refine s_g hs rfl rfl (fun hg=>c_lssI (gev (hs.ev rfl) hg) (hs.ev rfl)) rfl fun ac hs=>?_
    refine s_g hs rfl rfl (fun hg=>c_move (gev (hs.ev rfl) hg)) rfl fun ac hs=>?_
    refine s_gn hs rfl rfl (fun hc hg=>c_fld fl61_1 (hs.ev rfl)) rfl fun ac hs=>?_
    refine s_gn hs rfl rfl (fun hc hg=>c_fld fl59_2 (gev (gev (hs.ev rfl) hc) hg)) rfl fun ac hs=>?_
    refine s_gn hs rfl rfl (fun hc hg=>c_loadS un3 rfl (gev (gev (hs.ev rfl) hc) hg) (hs.seg (i:=0) rfl) rfl) rfl fun ac hs=>?_
    refine s_gn hs rfl rfl (fun hc hg=>c_move (hs.ev rfl)) rfl fun ac hs=>?_
    refine s_gn hs rfl rfl (fun hc hg=>c_lssI (gev (gev (hs.ev rfl) hc) hg) (gev (gev (hs.ev rfl) hc) hg)) rfl fun ac hs=>?_
    refine s_g hs rfl rfl (fun hg=>c_or (gev (hs.ev rfl) hg) (gev (hs.ev rfl) hg)) rfl fun ac hs=>?_
    refine s_q hs (c_and (hs.ev rfl) (hs.ev rfl)) rfl fun ac hs=>?_
    refine s_end (then_n ?_)
    refine s_cond hs rfl (fun hc=>?_) (fun hc=>?_)
    · skip
      have hnx:nearK l d ep sq (k + 1)=x.mt:=by
        rw [hsu,nearS,if_pos]
        simp at hc
        obtain ⟨⟨⟨h1,h2⟩,h3⟩,h4⟩:=hc
        exact ⟨h1,h2,h3,h4⟩
      refine wp_reg ?_
      refine s_q hs (c_fld fl61_1 (hs.ev rfl)) rfl fun ac hs=>?_
      refine s_q hs (c_fld fl59_2 (hs.ev rfl)) rfl fun ac hs=>?_
      refine s_q hs (c_loadS un3 rfl (hs.ev rfl) (hs.seg (i:=0) rfl) rfl) rfl fun ac hs=>?_
      refine zA hs fun ac hs=>?_
      refine s_end (blk_n (then_n (wp_reg ?_)))
      refine s_q hs (c_addI (hs.ev rfl) (hs.ev rfl) (by omega) (by omega)) rfl fun ac hs=>?_
      refine zM hs fun ac hs=>?_
      refine s_end (then_n ?_)
      replace hs:=hs.pick (L':=[]) (.cons _ (.refl _))
      exact ⟨l.length - (k + 1),by omega,k + 1,⟨by omega,rfl⟩,St.next hs ⟨(congrArg (fun z=>some (I z)) hnx.symm),rfl,rfl,rfl,rfl,rfl,rfl,rfl,trivial⟩ rfl⟩
    · skip
      have hnx:nearK l d ep sq (k + 1)=nearK l d ep sq k:=by
        rw [hsu,nearS,if_neg]
        rintro ⟨h1,h2,h3,h4⟩
        simp [h1,h2,h3] at hc
        omega
      refine wp_skip (blk_n (then_n (wp_reg ?_)))
      refine s_q hs (c_addI (hs.ev rfl) (hs.ev rfl) (by omega) (by omega)) rfl fun ac hs=>?_
      refine zM hs fun ac hs=>?_
      refine s_end (then_n ?_)
      replace hs:=hs.pick (L':=[]) (.cons _ (.refl _))
      exact ⟨l.length - (k + 1),by omega,k + 1,⟨by omega,rfl⟩,St.next hs ⟨(congrArg (fun z=>some (I z)) hnx.symm),rfl,rfl,rfl,rfl,rfl,rfl,rfl,trivial⟩ rfl⟩
  · try simp only [z1,z2,z3,z4,z5,z6,z7] at hc
    obtain rfl:k=l.length:=by omega
    refine wp_exit (then_e (then_e (blk_hit (then_n (wp_seq (wp_reg ?_))))))
    refine zM hs fun ac hs=>?_
    refine zA hs fun ac hs=>?_
    refine s_end ?_
    replace hs:=hs.sub (F':=[(8,_)]) ⟨rfl,trivial⟩
    refine then_n (wp_ret ?_)
    refine s_ret hs rfl (.tmp (hs.tmp rfl) .nil) rfl ⟨_,rfl,hs.fr,?_⟩
    rw [nearK_all]
    rfl
theorem tr_May (g mb nb:Nat) (v:Value) (l:List Cl) (wh:Int→Bool) (c:Cl) (hcd:-9223372036854775808≤c.d∧c.d≤9223372036854775807) (w:World) (hlr:LedR w g mb nb v l wh):Ctr Tryz.prog 94 [.pointer (some ⟨g,0,none⟩),c.v] w (fun _=>False) (fun v2 _=>v2=.bool (mayP wh l c)):=by
  have hnl:=hlr.rd.le
  obtain ⟨vad,vcap,rfl,hvc,hvm⟩:=Rd.sl hlr.rd
  refine fn_start (N:=42) Tryz.func94 rfl rfl rfl fun ac hk=>?_
  have hs:=St.start hk w
  refine wp_seq (wp_reg ?_)
  refine s_box hs rfl rfl rfl fun ac ww g3 hs=>?_
  refine zA hs fun ac hs=>?_
  refine s_end ?_
  replace hs:=hs.sub (F':=[(0,_),(3,_),(4,_)]) ⟨rfl,rfl,rfl,trivial⟩
  refine then_n (wp_seq (wp_seq (wp_reg ?_)))
  refine zM hs fun ac hs=>?_
  refine s_q hs (c_eqlNil un107 (hs.ev rfl) (hs.ev rfl)) rfl fun ac hs=>?_
  refine s_end ?_
  replace hs:=hs.sub (F':=[(0,_),(3,_),(4,_),(7,_)]) ⟨rfl,rfl,rfl,rfl,trivial⟩
  refine then_n ?_
  refine wp_cond_false (hs.ev rfl) ?_
  refine wp_skip (then_n (wp_seq (wp_seq ?_)))
  refine wp_region_rg pmix 15 (by kernel_rfl) rfl hs ?_
  simp only [List.take_succ_cons,List.take_zero]
  refine rg_q (fun ac ww h=>c_move (h.ev rfl)) rfl ?_
  refine rg_q (fun ac ww h=>c_nil (h.ev rfl)) rfl ?_
  refine rg_q (fun ac ww h=>c_fld fl195_1 (h.ev rfl)) rfl ?_
  refine rg_q (fun ac ww h=>c_loadS un192 rfl (h.ev rfl) (h.blk (hs.old hlr.hg id)) rfl) rfl ?_
  refine rg_q (fun ac ww h=>c_fld fl61_0 (h.ev rfl)) rfl ?_
  refine rg_q (fun ac ww h=>c_loadS un3 rfl (h.ev rfl) (h.blk (hs.seg (i:=0) rfl)) rfl) rfl ?_
  refine rg_q (fun ac ww h=>c_to (c_lookupW map3 Tryz.underlying192 (by kernel_rfl) (hlr.fr0 (hs.fr.trans0 h.fr)).mp (h.ev rfl) (h.ev rfl) (int_key un3 hcd)) ((whF_get wh c.d))) rfl ?_
  refine rg_q (fun ac ww h=>c_move (h.ev rfl)) rfl ?_
  refine rg_g rfl rfl (fun hg ac ww h=>c_move (h.ev rfl)) rfl ?_
  refine rg_g rfl rfl (fun hg ac ww h=>c_nil (gev (h.ev rfl) hg)) rfl ?_
  refine rg_g rfl rfl (fun hg ac ww h=>c_fld fl195_0 (gev (h.ev rfl) hg)) rfl ?_
  refine rg_g rfl rfl (fun hg ac ww h=>c_loadS un193 rfl (gev (h.ev rfl) hg) (h.blk (hs.old hlr.hg id)) rfl) rfl ?_
  refine rg_g rfl rfl (fun hg ac ww h=>c_loadW ty61 ag61 (h.ev rfl) (h.blk (hs.seg (i:=0) rfl)) (by rfl)) rfl ?_
  refine rg_gcall rfl rfl fu125 (fun hg ac ww h=>(.cons (gev (h.ev rfl) hg) (.cons (gev (h.ev rfl) hg) .nil))) (fun hg ww hf=>tr_Contains l _ c _ (hlr.rd.fr0 (hs.fr.trans0 hf))) rfl ?_
  refine rg_q (fun ac ww h=>c_or (h.ev rfl) (h.ev rfl)) rfl ?_
  refine rg_nil fun ac ww L' hf hfe hs=>?_
  simp only [List.drop_succ_cons,List.drop_zero]
  obtain rfl:L'=[]:=hfe
  replace hs:=hs.toL (List.nil_append _)
  refine s_end ?_
  replace hs:=hs.sub (F':=[(0,_),(3,_),(4,_),(22,_)]) ⟨rfl,rfl,rfl,rfl,trivial⟩
  refine then_n ?_
  refine s_cond hs rfl (fun hc=>?_) (fun hc=>?_)
  · skip
    refine wp_seq (wp_reg ?_)
    refine zA hs fun ac hs=>?_
    refine s_end ?_
    replace hs:=hs.sub (F':=[(0,_),(3,_),(4,_)]) ⟨rfl,rfl,rfl,trivial⟩
    refine then_n (wp_ret (then_r ?_))
    refine s_ret hs rfl (.tmp (hs.tmp rfl) .nil) rfl ⟨_,rfl,hs.fr,?_⟩
    show _=Value.bool (mayP wh l c)
    rw [mayP,hc]
    rfl
  · skip
    refine wp_skip (then_n (wp_seq (wp_reg ?_)))
    refine zM hs fun ac hs=>?_
    refine s_q hs (c_fld fl61_0 (hs.ev rfl)) rfl fun ac hs=>?_
    refine s_q hs (c_loadS un3 rfl (hs.ev rfl) (hs.seg (i:=0) rfl) rfl) rfl fun ac hs=>?_
    refine s_q hs (c_fld fl61_1 (hs.ev rfl)) rfl fun ac hs=>?_
    refine s_q hs (c_fld fl59_0 (hs.ev rfl)) rfl fun ac hs=>?_
    refine s_q hs (c_loadS un25 rfl (hs.ev rfl) (hs.seg (i:=0) rfl) rfl) rfl fun ac hs=>?_
    refine s_q hs (c_fld fl61_1 (hs.ev rfl)) rfl fun ac hs=>?_
    refine s_q hs (c_fld fl59_1 (hs.ev rfl)) rfl fun ac hs=>?_
    refine s_q hs (c_loadS un25 rfl (hs.ev rfl) (hs.seg (i:=0) rfl) rfl) rfl fun ac hs=>?_
    refine s_call hs fu126 (.cons (hs.ev rfl) (.cons (hs.ev rfl) (.cons (hs.ev rfl) (.cons (hs.ev rfl) .nil)))) (tr_Nearest _ _ _ _ _ _ _ _ _ _ (hlr.fr0 hs.fr)) rfl fun ac ww v32 hf hp hs=>?_
    obtain rfl:=hp
    replace hs:=hs [] (.nil _ _)
    refine zA hs fun ac hs=>?_
    refine s_end ?_
    replace hs:=hs.sub (F':=[(3,_),(4,_),(5,_)]) ⟨rfl,rfl,rfl,trivial⟩
    refine then_n (wp_seq (wp_reg ?_))
    refine zM hs fun ac hs=>?_
    refine s_q hs (c_geqI (hs.ev rfl) (hs.ev rfl)) rfl fun ac hs=>?_
    refine zM hs fun ac hs=>?_
    refine s_g hs rfl rfl (fun hg=>c_move (hs.ev rfl)) rfl fun ac hs=>?_
    refine s_g hs rfl rfl (fun hg=>c_fld fl61_1 (hs.ev rfl)) rfl fun ac hs=>?_
    refine s_g hs rfl rfl (fun hg=>c_fld fl59_2 (gev (hs.ev rfl) hg)) rfl fun ac hs=>?_
    refine s_g hs rfl rfl (fun hg=>c_loadS un3 rfl (gev (hs.ev rfl) hg) (hs.seg (i:=0) rfl) rfl) rfl fun ac hs=>?_
    refine s_g hs rfl rfl (fun hg=>c_lssI (gev (hs.ev rfl) hg) (gev (hs.ev rfl) hg)) rfl fun ac hs=>?_
    refine s_q hs (c_and (hs.ev rfl) (hs.ev rfl)) rfl fun ac hs=>?_
    refine zA hs fun ac hs=>?_
    refine s_end ?_
    replace hs:=hs.sub (F':=[(4,_)]) ⟨rfl,trivial⟩
    refine then_n (wp_ret ?_)
    refine s_ret hs rfl (.tmp (hs.tmp rfl) .nil) rfl ⟨_,rfl,hs.fr,?_⟩
    show _=Value.bool (mayP wh l c)
    rw [mayP]
    rw [show (wh c.d || decide (c∈l))=false from hc,Bool.false_or]
    rfl
end Go.Proofs.YtklajbdbnnceiaaGreat
end

section
/- Calls of function values; a slice that isn't nil. -/
namespace Go.Fw
open Go
section
variable {P:Program} {a:Act} {w:World} {d:Option Tmp} {ty:TypeId} {pos:String} {aft:Array Edge} {g:Option (Nat × Bool)} {t u:TypeId} {x y:Operand}
theorem run_callV {f:FuncId} {args:Array Operand} {vs:List Value} {tys:Array TypeId} (hF:Fun P f) (hx:a.eval x=.func (.func f) #[] #[]) (hargs:Evs a args.toList vs) :
    (execOp a.eval ⟨d,.call { callee:=.value x,args:=args,argTypes:=tys },ty,pos,aft,g⟩).run P w=.ok (.enter f vs.toArray) w:=by
  obtain ⟨fn,h1,h2,h3⟩:=hF
  have he:args.map a.eval=vs.toArray:=by
    apply Array.ext'
    rw [Array.toList_map,hargs.map]
  have h2' : ¬ fn.name = "runtime.NumGoroutine" := by simpa using h2
  have h3':¬ fn.body=none:=fun e=>by simp [e] at h3
  simp [execOp,resolve,he,hx,Deferred.ofValue,invoke,callFunc,h1,h2',h3']
theorem eqsn {ad:Addr} {m c:Nat} {E:TypeId} (hu:P.underlying t=some (.slice E)) (n:Nat):(Op.equalIn (n + 1) t (.slice (some ad) m c) (.slice none 0 0)).run P w=.ok false w:=by simp [Op.equalIn,run_underlying hu]
theorem c_eqlSn {ad:Addr} {n c:Nat} {E:TypeId} (hu:P.underlying t=some (.slice E)) (hx:a.eval x=.slice (some ad) n c) (hy:a.eval y=.slice none 0 0) :
    (execOp a.eval ⟨d,.binOp .eql t x y u,ty,pos,aft,g⟩).run P w=.ok (.value (.bool false)) w:=by
  have e:(Op.equal t (.slice (some ad) n c) (.slice none 0 0)).run P w=.ok false w:=eqsn hu 9999
  simp [execOp,hx,hy,eqGuard,binOp,e]
end
section
variable {P:Program} {ops:Array Oper} {Q:Exit→Act→World→Prop} {rest:List Oper} {N:Nat} {F F':List (Nat × Value)} {L L':List Ent} {M:Nat→Prop} {w0 w:World} {a:Act}
variable {d:Tmp} {op:Op} {ty:TypeId} {pos:String} {aft:Array Edge} {x y z:Operand} {t u:TypeId}
theorem s_callV {f:FuncId} {args:Array Operand} {vs:List Value} {tys:Array TypeId} {Post:Value→World→Prop} (hs:St N F L M w0 a w) (hF:Fun P f) (hx:ev F x=some (.func (.func f) #[] #[])) (hargs:Evs a args.toList vs)
    (hc:Ctr P f vs w (fun _=>False) Post) (hd:Nat.blt d N=true)
    (k:∀ a w' v,Fr0 w w'→Post v w'→(∀ L',Has w.heap.size w' L'→St N ((d,v)::F) (L'++L) M w0 a w')→wpList P ops Q rest a w') :
    wpList P ops Q (⟨some d,.call { callee:=.value x,args:=args,argTypes:=tys },ty,pos,aft,none⟩::rest) a w:=by
  refine wpList_plain rfl fun K hK=>?_
  unfold Oper.wp
  rw [run_callV hF (hs.ev hx) hargs]
  refine Calls.mono hc fun e w' ⟨v,he,hf,hp⟩=>?_
  subst he
  exact hK _ _ (k _ _ v hf hp fun L' hn=>(hs.new hf hn).put (lt_of_blt hd) v)
end
end Go.Fw
end

section
/- Locks and atomics,entered alone. -/
namespace Go.Proofs.YtklajbdbnnceiaaGreat
open Go Go.Fw
theorem disable (w:World):(callFunc 167 #[]).run Tryz.prog w=.ok (.value (.tuple #[])) w:=run_call_mark0 Tryz.func167 (by kernel_rfl) (by kernel_rfl) (by kernel_rfl) .disable (by kernel_rfl) w
theorem enable (w:World):(callFunc 169 #[]).run Tryz.prog w=.ok (.value (.tuple #[])) w:=run_call_mark0 Tryz.func169 (by kernel_rfl) (by kernel_rfl) (by kernel_rfl) .enable (by kernel_rfl) w
theorem acquire (a:Addr) (w:World):(callFunc 170 #[.pointer (some a)]).run Tryz.prog w=.ok (.value (.tuple #[])) w:=run_call_marked Tryz.func170 (by kernel_rfl) (by kernel_rfl) (by kernel_rfl) .acquire (by kernel_rfl) a w
theorem releaseMerge (a:Addr) (w:World):(callFunc 172 #[.pointer (some a)]).run Tryz.prog w=.ok (.value (.tuple #[])) w:=run_call_marked Tryz.func172 (by kernel_rfl) (by kernel_rfl) (by kernel_rfl) .releaseMerge (by kernel_rfl) a w
theorem store_deferred (a:Addr) (x:Value) (u:FrameMode) (w:World) (hc:w.cell? a=some x) (hz:w.frozen? a=false) :
    CallsD Tryz.prog 148 #[.pointer (some a),.bool true] u w fun e u' w'=>u'=u∧(e=.returned (.tuple #[])∧w'=w.drew.setCell a (.int .u32 1)):=by
  have hc':w.drew.cell? a=some x:=by go_simp
  have hz':w.drew.frozen? a=false:=by go_simp
  have hst:=run_call_store (P:=Tryz.prog) Tryz.func162 (by kernel_rfl) (by kernel_rfl) (by kernel_rfl) (by kernel_rfl) (k:=.u32) (y:=1) hc' hz'
  go_enter_d Tryz.func148,Tryz.ntmps148
  go_wp2
  go_region_calls
  all_goals (go_end0; exact ⟨rfl,rfl⟩)
theorem unlock_deferred (a:Addr) (u:FrameMode) (w:World) (hc:w.cell? a=some (.int .i32 1)) (hz:w.frozen? a=false) :
    CallsD Tryz.prog 147 #[.pointer (some a)] u w fun e u' w'=>u'=u∧(e=.returned (.tuple #[])∧w'=w.setCell a (.int .i32 0)):=by
  have hd:=disable
  have he:=enable
  have hr:=releaseMerge
  have hadd:=run_call_add (P:=Tryz.prog) Tryz.func173 (by kernel_rfl) (by kernel_rfl) (by kernel_rfl) .i32 (by kernel_rfl) (y:=-1) (s:=0) hc hz (by simp [go_sem]; rfl)
  have hcv:=run_convert_to_unsafe (P:=Tryz.prog) (src:=276) (dst:=280) Tryz.underlying276 Tryz.underlying280 (by kernel_rfl) hc
  go_enter_d Tryz.func147,Tryz.ntmps147
  go_wp2
  go_end0
  go_wp2
  go_end0
  exact ⟨rfl,rfl⟩
theorem lock_free (a:Addr) (w:World) (hc:w.cell? a=some (.int .i32 0)) (hz:w.frozen? a=false) :
    Calls Tryz.prog 146 #[.pointer (some a)] w fun e w'=>e=.returned (.tuple #[])∧w'=w.setCell a (.int .i32 1):=by
  have hd:=disable
  have he:=enable
  have ha:=acquire
  have hcas:=run_call_cas_hit (P:=Tryz.prog) Tryz.func168 (by kernel_rfl) (by kernel_rfl) (by kernel_rfl) .i32 (by kernel_rfl) (y:=1) hc hz
  have hc':(w.setCell a (.int .i32 1)).cell? a=some (.int .i32 1):=World.cell?_setCell_same w a _ hc
  have hcv:=run_convert_to_unsafe (P:=Tryz.prog) (src:=276) (dst:=280) Tryz.underlying276 Tryz.underlying280 (by kernel_rfl) hc'
  go_enter Tryz.func146,Tryz.ntmps146
  go_wp2
  first | go_end0 | (simp only [Exit.inBlock,Exit.then]; refine bodyPost_ret (results_none rfl _ _ _) rfl ?_) | refine bodyPost_ret (results_none rfl _ _ _) rfl ?_
  go_wp2
  go_end0
  exact ⟨rfl,rfl⟩
theorem slow_186 (b off:Nat) (cap:Array Value) (R:World→Prop) (w:World) (h0:w.cell? ⟨b,off,none⟩=some (.int .u32 0)) (h1:w.cell? ⟨b,off + 1,none⟩=some (.int .i32 0))
    (f0:w.frozen? ⟨b,off,none⟩=false) (f1:w.frozen? ⟨b,off + 1,none⟩=false)
    (hcl:Calls Tryz.prog 105 cap (w.setCell ⟨b,off + 1,none⟩ (.int .i32 1)) fun e w'=>e=.returned (.tuple #[])∧R w')
    (hR:∀ w',R w'→w'.cell? ⟨b,off,none⟩=some (.int .u32 0)∧w'.cell? ⟨b,off + 1,none⟩=some (.int .i32 1)∧w'.frozen? ⟨b,off,none⟩=false∧w'.frozen? ⟨b,off + 1,none⟩=false) :
    Calls Tryz.prog 130 #[.pointer (some ⟨b,off,none⟩),.func (.func 105) #[] cap] w fun e w'=>e=.returned (.tuple #[])∧∃ w1,R w1∧w'=(w1.drew.setCell ⟨b,off,none⟩ (.int .u32 1)).setCell ⟨b,off + 1,none⟩ (.int .i32 0):=by
  have hl:=run_call_load (P:=Tryz.prog) Tryz.func145 (by kernel_rfl) (by kernel_rfl) (by kernel_rfl) .u32 (by kernel_rfl) (w:=w.setCell ⟨b,off + 1,none⟩ (.int .i32 1)) (a:=⟨b,off,none⟩) (x:=0) ((World.cell?_setCell_other _ ⟨b,off + 1,none⟩ ⟨b,off,none⟩ _ (by simp)).trans h0)
  have hnot:∀ (x:Bool) (w:World),(Op.unary .not (.bool x)).run Tryz.prog w=.ok (.bool (!x)) w:=fun _ _=>rfl
  go_enter_defers Tryz.func130,Tryz.ntmps130
  go_wp2_with (go_at_call 146; refine (lock_free ⟨b,off + 1,none⟩ _ (by go_simp) (by go_simp)).mono ?_; rintro e w' ⟨rfl,rfl⟩)
  go_wp2_with (first | (go_at_call 105; refine hcl.mono ?_; rintro e w' ⟨rfl,hr⟩; obtain ⟨q0,q1,q2,q3⟩:=hR _ hr) | (go_at_call 129; go_in))
  refine leaves_cons (f:=148) (args:=#[.pointer (some ⟨b,off,none⟩),.bool true]) (by simp) (by simp [go_sem]) ?_
  refine (store_deferred ⟨b,off,none⟩ (.int .u32 0) .returning _ q0 q2).mono ?_
  rintro e u' w'' ⟨rfl,rfl,rfl⟩
  refine leaves_cons (f:=147) (args:=#[.pointer (some ⟨b,off + 1,none⟩)]) (by simp [settle]) (by simp [go_sem]) ?_
  refine (unlock_deferred ⟨b,off + 1,none⟩ _ _ ?_ (by simp [q3])).mono ?_
  · refine (World.cell?_setCell_other _ ⟨b,off,none⟩ ⟨b,off + 1,none⟩ _ (by simp)).trans ?_
    rw [World.cell?_drew]
    exact q1
  rintro e u' w'' ⟨rfl,rfl,rfl⟩
  simp [Leaves,settle,results,Tryz.results130]
  exact ⟨_,hr,rfl⟩
theorem once_186 (b off:Nat) (cap:Array Value) (R:World→Prop) (w:World) (h0:w.cell? ⟨b,off,none⟩=some (.int .u32 0)) (h1:w.cell? ⟨b,off + 1,none⟩=some (.int .i32 0))
    (f0:w.frozen? ⟨b,off,none⟩=false) (f1:w.frozen? ⟨b,off + 1,none⟩=false)
    (hcl:Calls Tryz.prog 105 cap (w.setCell ⟨b,off + 1,none⟩ (.int .i32 1)) fun e w'=>e=.returned (.tuple #[])∧R w')
    (hR:∀ w',R w'→w'.cell? ⟨b,off,none⟩=some (.int .u32 0)∧w'.cell? ⟨b,off + 1,none⟩=some (.int .i32 1)∧w'.frozen? ⟨b,off,none⟩=false∧w'.frozen? ⟨b,off + 1,none⟩=false) :
    Calls Tryz.prog 102 #[.pointer (some ⟨b,off,none⟩),.func (.func 105) #[] cap] w fun e w'=>e=.returned (.tuple #[])∧∃ w1,R w1∧w'=(w1.drew.setCell ⟨b,off,none⟩ (.int .u32 1)).setCell ⟨b,off + 1,none⟩ (.int .i32 0):=by
  have hl:=run_call_load (P:=Tryz.prog) Tryz.func145 (by kernel_rfl) (by kernel_rfl) (by kernel_rfl) .u32 (by kernel_rfl) h0
  have hnot:∀ (x:Bool) (w:World),(Op.unary .not (.bool x)).run Tryz.prog w=.ok (.bool (!x)) w:=fun _ _=>rfl
  go_enter Tryz.func102,Tryz.ntmps102
  go_wp2_with (first | (go_at_call 130; refine (slow_186 b off cap R _ h0 h1 f0 f1 hcl hR).mono ?_; rintro e w' ⟨rfl,w1,hr,rfl⟩) | (go_at_call 129; go_in))
  go_end0
  exact ⟨rfl,_,hr,rfl⟩
theorem slow_187 (b off:Nat) (cap:Array Value) (R:World→Prop) (w:World) (h0:w.cell? ⟨b,off,none⟩=some (.int .u32 0)) (h1:w.cell? ⟨b,off + 1,none⟩=some (.int .i32 0))
    (f0:w.frozen? ⟨b,off,none⟩=false) (f1:w.frozen? ⟨b,off + 1,none⟩=false)
    (hcl:Calls Tryz.prog 103 cap (w.setCell ⟨b,off + 1,none⟩ (.int .i32 1)) fun e w'=>e=.returned (.tuple #[])∧R w')
    (hR:∀ w',R w'→w'.cell? ⟨b,off,none⟩=some (.int .u32 0)∧w'.cell? ⟨b,off + 1,none⟩=some (.int .i32 1)∧w'.frozen? ⟨b,off,none⟩=false∧w'.frozen? ⟨b,off + 1,none⟩=false) :
    Calls Tryz.prog 130 #[.pointer (some ⟨b,off,none⟩),.func (.func 103) #[] cap] w fun e w'=>e=.returned (.tuple #[])∧∃ w1,R w1∧w'=(w1.drew.setCell ⟨b,off,none⟩ (.int .u32 1)).setCell ⟨b,off + 1,none⟩ (.int .i32 0):=by
  have hl:=run_call_load (P:=Tryz.prog) Tryz.func145 (by kernel_rfl) (by kernel_rfl) (by kernel_rfl) .u32 (by kernel_rfl) (w:=w.setCell ⟨b,off + 1,none⟩ (.int .i32 1)) (a:=⟨b,off,none⟩) (x:=0) ((World.cell?_setCell_other _ ⟨b,off + 1,none⟩ ⟨b,off,none⟩ _ (by simp)).trans h0)
  have hnot:∀ (x:Bool) (w:World),(Op.unary .not (.bool x)).run Tryz.prog w=.ok (.bool (!x)) w:=fun _ _=>rfl
  go_enter_defers Tryz.func130,Tryz.ntmps130
  go_wp2_with (go_at_call 146; refine (lock_free ⟨b,off + 1,none⟩ _ (by go_simp) (by go_simp)).mono ?_; rintro e w' ⟨rfl,rfl⟩)
  go_wp2_with (first | (go_at_call 103; refine hcl.mono ?_; rintro e w' ⟨rfl,hr⟩; obtain ⟨q0,q1,q2,q3⟩:=hR _ hr) | (go_at_call 129; go_in))
  refine leaves_cons (f:=148) (args:=#[.pointer (some ⟨b,off,none⟩),.bool true]) (by simp) (by simp [go_sem]) ?_
  refine (store_deferred ⟨b,off,none⟩ (.int .u32 0) .returning _ q0 q2).mono ?_
  rintro e u' w'' ⟨rfl,rfl,rfl⟩
  refine leaves_cons (f:=147) (args:=#[.pointer (some ⟨b,off + 1,none⟩)]) (by simp [settle]) (by simp [go_sem]) ?_
  refine (unlock_deferred ⟨b,off + 1,none⟩ _ _ ?_ (by simp [q3])).mono ?_
  · refine (World.cell?_setCell_other _ ⟨b,off,none⟩ ⟨b,off + 1,none⟩ _ (by simp)).trans ?_
    rw [World.cell?_drew]
    exact q1
  rintro e u' w'' ⟨rfl,rfl,rfl⟩
  simp [Leaves,settle,results,Tryz.results130]
  exact ⟨_,hr,rfl⟩
theorem once_187 (b off:Nat) (cap:Array Value) (R:World→Prop) (w:World) (h0:w.cell? ⟨b,off,none⟩=some (.int .u32 0)) (h1:w.cell? ⟨b,off + 1,none⟩=some (.int .i32 0))
    (f0:w.frozen? ⟨b,off,none⟩=false) (f1:w.frozen? ⟨b,off + 1,none⟩=false)
    (hcl:Calls Tryz.prog 103 cap (w.setCell ⟨b,off + 1,none⟩ (.int .i32 1)) fun e w'=>e=.returned (.tuple #[])∧R w')
    (hR:∀ w',R w'→w'.cell? ⟨b,off,none⟩=some (.int .u32 0)∧w'.cell? ⟨b,off + 1,none⟩=some (.int .i32 1)∧w'.frozen? ⟨b,off,none⟩=false∧w'.frozen? ⟨b,off + 1,none⟩=false) :
    Calls Tryz.prog 102 #[.pointer (some ⟨b,off,none⟩),.func (.func 103) #[] cap] w fun e w'=>e=.returned (.tuple #[])∧∃ w1,R w1∧w'=(w1.drew.setCell ⟨b,off,none⟩ (.int .u32 1)).setCell ⟨b,off + 1,none⟩ (.int .i32 0):=by
  have hl:=run_call_load (P:=Tryz.prog) Tryz.func145 (by kernel_rfl) (by kernel_rfl) (by kernel_rfl) .u32 (by kernel_rfl) h0
  have hnot:∀ (x:Bool) (w:World),(Op.unary .not (.bool x)).run Tryz.prog w=.ok (.bool (!x)) w:=fun _ _=>rfl
  go_enter Tryz.func102,Tryz.ntmps102
  go_wp2_with (first | (go_at_call 130; refine (slow_187 b off cap R _ h0 h1 f0 f1 hcl hR).mono ?_; rintro e w' ⟨rfl,w1,hr,rfl⟩) | (go_at_call 129; go_in))
  go_end0
  exact ⟨rfl,_,hr,rfl⟩
theorem once_done (a:Addr) (d:Int) (hd:¬ d=0) (fv:Value) (w:World) (h0:w.cell? a=some (.int .u32 d)) :
    Calls Tryz.prog 102 #[.pointer (some a),fv] w fun e w'=>e=.returned (.tuple #[])∧w'=w:=by
  have hl:=run_call_load (P:=Tryz.prog) Tryz.func145 (by kernel_rfl) (by kernel_rfl) (by kernel_rfl) .u32 (by kernel_rfl) h0
  have hnot:∀ (x:Bool) (w:World),(Op.unary .not (.bool x)).run Tryz.prog w=.ok (.bool (!x)) w:=fun _ _=>rfl
  have hd':(d != 0)=true:=by simp [hd]
  go_enter Tryz.func102,Tryz.ntmps102
  go_wp2
  go_end0
  exact ⟨rfl,rfl⟩
theorem count_add (a:Addr) (k:Int) (hk:0≤k∧k < 1000000) (w:World) (h0:w.cell? a=some (.int .i64 k)) (hz:w.frozen? a=false) :
    Calls Tryz.prog 133 #[.pointer (some a),.int .i64 1] w fun e w'=>e=.returned (.int .i64 (k + 1))∧w'=w.setCell a (.int .i64 (k + 1)):=by
  have hadd:=run_call_add (P:=Tryz.prog) Tryz.func151 (by kernel_rfl) (by kernel_rfl) (by kernel_rfl) .i64 (by kernel_rfl) (y:=1) (s:=k + 1) h0 hz (by simp [Op.intArith,wrap64_in (n:=k + 1) (by omega) (by omega)])
  go_enter Tryz.func133,Tryz.ntmps133
  go_wp2
  go_ret
  exact ⟨rfl,rfl⟩
end Go.Proofs.YtklajbdbnnceiaaGreat
end

section
/- The sum of the standard,as plain functions. -/
namespace Go.Proofs.YtklajbdbnnceiaaGreat
/-! SHA-256 as plain functions on lists. -/
namespace Sha
def rotr (x:UInt32) (n:Nat):UInt32:=x >>> UInt32.ofNat n ||| x <<< UInt32.ofNat (32 - n)
def s0 (x:UInt32):UInt32:=rotr x 7 ^^^ rotr x 18 ^^^ x >>> 3
def s1 (x:UInt32):UInt32:=rotr x 17 ^^^ rotr x 19 ^^^ x >>> 10
def word (p:List UInt8) (i:Nat):UInt32 :=
  (p.getD (4 * i) 0).toUInt32 <<< 24 ||| (p.getD (4 * i + 1) 0).toUInt32 <<< 16 ||| (p.getD (4 * i + 2) 0).toUInt32 <<< 8 ||| (p.getD (4 * i + 3) 0).toUInt32
def sched (p:List UInt8):Nat→List UInt32
  | 0=>[]
  | n + 1=>sched p n++[if n < 16 then word p n else (sched p n).getD (n - 16) 0 + s0 ((sched p n).getD (n - 15) 0) + (sched p n).getD (n - 7) 0 + s1 ((sched p n).getD (n - 2) 0)]
theorem sched_length (p:List UInt8):∀ n,(sched p n).length=n
  | 0=>rfl
  | n + 1=>by simp [sched,sched_length p n]
def K:List UInt32:=[
    0x428a2f98,0x71374491,0xb5c0fbcf,0xe9b5dba5,0x3956c25b,0x59f111f1,0x923f82a4,0xab1c5ed5,
    0xd807aa98,0x12835b01,0x243185be,0x550c7dc3,0x72be5d74,0x80deb1fe,0x9bdc06a7,0xc19bf174,
    0xe49b69c1,0xefbe4786,0x0fc19dc6,0x240ca1cc,0x2de92c6f,0x4a7484aa,0x5cb0a9dc,0x76f988da,
    0x983e5152,0xa831c66d,0xb00327c8,0xbf597fc7,0xc6e00bf3,0xd5a79147,0x06ca6351,0x14292967,
    0x27b70a85,0x2e1b2138,0x4d2c6dfc,0x53380d13,0x650a7354,0x766a0abb,0x81c2c92e,0x92722c85,
    0xa2bfe8a1,0xa81a664b,0xc24b8b70,0xc76c51a3,0xd192e819,0xd6990624,0xf40e3585,0x106aa070,
    0x19a4c116,0x1e376c08,0x2748774c,0x34b0bcb5,0x391c0cb3,0x4ed8aa4a,0x5b9cca4f,0x682e6ff3,
    0x748f82ee,0x78a5636f,0x84c87814,0x8cc70208,0x90befffa,0xa4506ceb,0xbef9a3f7,0xc67178f2]
@[simp] theorem K_length:K.length=64:=rfl
structure R where
  (a b c d e f g h:UInt32)
  deriving DecidableEq
def R.list (r:R):List UInt32:=[r.a,r.b,r.c,r.d,r.e,r.f,r.g,r.h]
def first:R:=⟨0x6a09e667,0xbb67ae85,0x3c6ef372,0xa54ff53a,0x510e527f,0x9b05688c,0x1f83d9ab,0x5be0cd19⟩
def t1 (r:R) (k w:UInt32):UInt32:=r.h + (rotr r.e 6 ^^^ rotr r.e 11 ^^^ rotr r.e 25) + (r.e &&& r.f ^^^ ~~~r.e &&& r.g) + k + w
def t2 (r:R):UInt32:=(rotr r.a 2 ^^^ rotr r.a 13 ^^^ rotr r.a 22) + (r.a &&& r.b ^^^ r.a &&& r.c ^^^ r.b &&& r.c)
def round (r:R) (k w:UInt32):R:=⟨t1 r k w + t2 r,r.a,r.b,r.c,r.d + t1 r k w,r.e,r.f,r.g⟩
def rounds (p:List UInt8) (r:R):Nat→R
  | 0=>r
  | n + 1=>round (rounds p r n) (K.getD n 0) ((sched p 64).getD n 0)
def R.add (r s:R):R:=⟨r.a + s.a,r.b + s.b,r.c + s.c,r.d + s.d,r.e + s.e,r.f + s.f,r.g + s.g,r.h + s.h⟩
def comp (r:R) (p:List UInt8):R:=r.add (rounds p r 64)
theorem set_rep {α:Type} (l:List α) (m:Nat) (z x:α):(l++List.replicate (m + 1) z).set l.length x=(l++[x])++List.replicate m z:=by
  rw [List.set_append_right _ _ (Nat.le_refl _),Nat.sub_self,List.replicate_succ,List.set_cons_zero]
  simp
theorem sched_set (p:List UInt8) (k:Nat) (hk:k < 64) (x:UInt32) (hx:sched p (k + 1)=sched p k++[x]):(sched p k++List.replicate (64 - k) 0).set k x=sched p (k + 1)++List.replicate (64 - (k + 1)) 0:=by
  have h:=set_rep (sched p k) (64 - (k + 1)) 0 x
  rw [sched_length,show 64 - (k + 1) + 1=64 - k from by omega] at h
  rw [h,hx]
theorem sched_lo (p:List UInt8) (k:Nat) (hk:k < 16):sched p (k + 1)=sched p k++[word p k]:=by simp [sched,hk]
theorem sched_hi (p:List UInt8) (k:Nat) (hk:16≤k):sched p (k + 1)=sched p k++[(sched p k).getD (k - 16) 0 + s0 ((sched p k).getD (k - 15) 0) + (sched p k).getD (k - 7) 0 + s1 ((sched p k).getD (k - 2) 0)]:=by
  simp [sched,show ¬ k < 16 by omega]
theorem sched_getD (p:List UInt8) (k j:Nat) (R:List UInt32) (hj:j < k):(sched p k++R).getD j 0=(sched p k).getD j 0:=by
  have:j < (sched p k).length:=by rw [sched_length]; exact hj
  simp [List.getElem?_append_left this]
theorem sched_zero (p:List UInt8):sched p 0=[]:=rfl
attribute [irreducible] sched
@[simp] theorem R.list_length (r:R):r.list.length=8:=rfl
end Sha
end Go.Proofs.YtklajbdbnnceiaaGreat
end

section
/- The sum of many blocks,as plain Lean. -/
namespace Go.Proofs.YtklajbdbnnceiaaGreat
namespace Sha
theorem word_congr {p q:List UInt8} (h:∀ j,j < 64→p.getD j 0=q.getD j 0) {i:Nat} (hi:i < 16):word p i=word q i:=by
  simp only [word,h (4 * i) (by omega),h (4 * i + 1) (by omega),h (4 * i + 2) (by omega),h (4 * i + 3) (by omega)]
theorem sched_congr {p q:List UInt8} (h:∀ j,j < 64→p.getD j 0=q.getD j 0):∀ n,sched p n=sched q n
  | 0=>by rw [sched_zero,sched_zero]
  | n + 1=>by
    have ih:=sched_congr h n
    by_cases hn:n < 16
    · rw [sched_lo p n hn,sched_lo q n hn,ih,word_congr h hn]
    · rw [sched_hi p n (by omega),sched_hi q n (by omega),ih]
theorem rounds_congr {p q:List UInt8} (h:∀ j,j < 64→p.getD j 0=q.getD j 0) (r:R):∀ n,rounds p r n=rounds q r n
  | 0=>rfl
  | n + 1=>by rw [rounds,rounds,rounds_congr h r n,sched_congr h 64]
theorem comp_congr {p q:List UInt8} (h:∀ j,j < 64→p.getD j 0=q.getD j 0) (r:R):comp r p=comp r q:=by
  rw [comp,comp,rounds_congr h r 64]
def foldB (r:R) (l:List UInt8):Nat→R
  | 0=>r
  | n + 1=>comp (foldB r l n) (l.drop (64 * n))
theorem foldB_congr {l m:List UInt8} (r:R):∀ n,(∀ j,j < 64 * n→l.getD j 0=m.getD j 0)→foldB r l n=foldB r m n
  | 0,_=>rfl
  | n + 1,h=>by
    rw [foldB,foldB,foldB_congr r n fun j hj=>h j (by omega)]
    refine comp_congr (fun j hj=>?_) _
    have:=h (64 * n + j) (by omega)
    simpa [List.getD,List.getElem?_drop] using this
theorem foldB_app (r:R) (a b:List UInt8) (n:Nat) (h:64 * n≤a.length):foldB r (a++b) n=foldB r a n :=
  foldB_congr r n fun j hj=>by simp [List.getD,List.getElem?_append_left (show j < a.length by omega)]
theorem foldB_add (r:R) (l:List UInt8) (n:Nat):∀ k,foldB (foldB r l n) (l.drop (64 * n)) k=foldB r l (n + k)
  | 0=>rfl
  | k + 1=>by
    rw [foldB,foldB_add r l n k,List.drop_drop,← Nat.add_assoc,foldB]
    congr 2
    omega
def be32 (x:UInt32):List UInt8:=[(x >>> 24).toUInt8,(x >>> 16).toUInt8,(x >>> 8).toUInt8,x.toUInt8]
def be64 (x:UInt64):List UInt8:=[(x >>> 56).toUInt8,(x >>> 48).toUInt8,(x >>> 40).toUInt8,(x >>> 32).toUInt8,(x >>> 24).toUInt8,(x >>> 16).toUInt8,(x >>> 8).toUInt8,x.toUInt8]
def zc (m:Nat):Nat:=(119 - m % 64) % 64
def fill (l:List UInt8) (n:UInt64):List UInt8:=l++[0x80]++List.replicate (zc l.length) 0++be64 (n * 8)
def pad (p:List UInt8):List UInt8:=fill p (UInt64.ofNat p.length)
def out (r:R):List UInt8:=r.list.flatMap be32
def sum (p:List UInt8):List UInt8:=out (foldB first (pad p) ((pad p).length / 64))
def blocks (n:Nat):Nat:=n / 64 + (if n % 64 > 55 then 2 else 1)
@[simp] theorem be32_length (x:UInt32):(be32 x).length=4:=rfl
@[simp] theorem be64_length (x:UInt64):(be64 x).length=8:=rfl
@[simp] theorem out_length (r:R):(out r).length=32:=rfl
@[simp] theorem sum_length (p:List UInt8):(sum p).length=32:=rfl
theorem fill_length (l:List UInt8) (n:UInt64):(fill l n).length=64 * blocks l.length:=by
  simp only [fill,List.length_append,List.length_cons,List.length_nil,List.length_replicate,be64_length,zc,blocks]
  split <;> omega
theorem pad_length (p:List UInt8):(pad p).length=64 * blocks p.length:=fill_length _ _
theorem sum_eq (p:List UInt8):sum p=out (foldB first (pad p) (blocks p.length)):=by
  rw [sum,pad_length,Nat.mul_div_cancel_left _ (by decide)]
def rest (a:List UInt8):List UInt8:=a.drop (64 * (a.length / 64))
theorem rest_length (a:List UInt8):(rest a).length=a.length % 64:=by rw [rest,List.length_drop]; omega
theorem pad_rest (a:List UInt8):fill (rest a) (UInt64.ofNat a.length)=(pad a).drop (64 * (a.length / 64)):=by
  have hz:zc (rest a).length=zc a.length:=by rw [rest_length,zc,zc,Nat.mod_mod]
  simp only [pad,fill,hz,List.append_assoc]
  rw [List.drop_append_of_le_length (by omega)]
  rfl
theorem sum_rest (a:List UInt8):out (foldB (foldB first a (a.length / 64)) (fill (rest a) (UInt64.ofNat a.length)) (blocks (a.length % 64)))=sum a:=by
  have h1:foldB first a (a.length / 64)=foldB first (pad a) (a.length / 64):=by
    simp only [pad,fill,List.append_assoc]
    rw [foldB_app _ _ _ _ (by omega)]
  rw [h1,pad_rest,foldB_add,sum_eq]
  congr 2
  simp only [blocks]
  split <;> split <;> omega
end Sha
end Go.Proofs.YtklajbdbnnceiaaGreat
end

section
/- Keyed sums and short sums,as plain Lean. -/
namespace Go.Proofs.YtklajbdbnnceiaaGreat
namespace Sha
def short (k:UInt8) (p:List UInt8):List UInt8:=(sum (k::p)).take 16
@[simp] theorem short_length (k:UInt8) (p:List UInt8):(short k p).length=16:=rfl
def keyB (k:List UInt8):List UInt8:=if k.length > 64 then sum k++List.replicate 32 0 else k++List.replicate (64 - k.length) 0
theorem keyB_length (k:List UInt8):(keyB k).length=64:=by
  unfold keyB
  split
  · rw [List.length_append,sum_length,List.length_replicate]
  · simp; omega
def hmac (k p:List UInt8):List UInt8:=sum ((keyB k).map (· ^^^ 0x5c)++sum ((keyB k).map (· ^^^ 0x36)++p))
@[simp] theorem hmac_length (k p:List UInt8):(hmac k p).length=32:=rfl
def tag (k p:List UInt8):List UInt8:=(hmac k p).take 16
@[simp] theorem tag_length (k p:List UInt8):(tag k p).length=16:=rfl
def prf (seed:List UInt8) (kind:UInt8) (nums:List UInt64):List UInt8:=tag seed (kind::UInt8.ofNat nums.length::nums.flatMap be64)
@[simp] theorem prf_length (seed:List UInt8) (kind:UInt8) (nums:List UInt64):(prf seed kind nums).length=16:=rfl
def xorZ (c:UInt8) (l:List UInt8) (k:Nat):List UInt8:=(l.take k).map (· ^^^ c)++l.drop k
theorem xorZ_length (c:UInt8) (l:List UInt8) (k:Nat):(xorZ c l k).length=l.length:=by simp [xorZ]; omega
theorem xorZ_zero (c:UInt8) (l:List UInt8):xorZ c l 0=l:=by simp [xorZ]
theorem xorZ_full (c:UInt8) (l:List UInt8) (k:Nat) (h:k=l.length):xorZ c l k=l.map (· ^^^ c):=by subst h; simp [xorZ]
theorem xorZ_get (c:UInt8) (l:List UInt8) (k:Nat) (h:k < l.length):(xorZ c l k).getD k 0=l.getD k 0:=by
  have h1:((l.take k).map (· ^^^ c)).length=k:=by simp; omega
  rw [xorZ,List.getD,List.getElem?_append_right (by omega),h1,Nat.sub_self,List.getElem?_drop]
  rfl
theorem xorZ_set (c:UInt8) (l:List UInt8) (k:Nat) (h:k < l.length):(xorZ c l k).set k (l.getD k 0 ^^^ c)=xorZ c l (k + 1):=by
  have h1:((l.take k).map (· ^^^ c)).length=k:=by simp; omega
  rw [xorZ,xorZ,List.set_append_right _ _ (by omega),h1,Nat.sub_self,List.take_succ_eq_append_getElem h,List.drop_eq_getElem_cons h,List.set_cons_zero,List.map_append,List.append_assoc]
  have h2:l.getD k 0=l[k]:=by simp [List.getD,h]
  rw [h2]
  rfl
def upto (l:List UInt8) (n k:Nat):List UInt8:=l.take k++List.replicate (n - k) 0
theorem upto_len (l:List UInt8) (n k:Nat) (h:k≤n) (hl:k≤l.length):(upto l n k).length=n:=by simp [upto]; omega
theorem upto_set (l:List UInt8) (n k:Nat) (h:k < n) (hl:k < l.length):(upto l n k).set k (l.getD k 0)=upto l n (k + 1):=by
  have h2:=set_rep (l.take k) (n - (k + 1)) (0:UInt8) (l.getD k 0)
  rw [List.length_take,Nat.min_eq_left (by omega),show n - (k + 1) + 1=n - k from by omega] at h2
  rw [upto,upto,h2,List.take_succ_eq_append_getElem hl]
  simp [List.getD,hl]
theorem keyB_long (k:List UInt8) (h:64 < k.length):(sum k).take 64++(List.replicate 64 (0:UInt8)).drop (sum k).length=keyB k:=by rw [keyB,if_pos h]; rfl
theorem keyB_small (k:List UInt8) (h:¬ 64 < k.length):k.take 64++(List.replicate 64 (0:UInt8)).drop k.length=keyB k:=by
  rw [keyB,if_neg h,List.take_of_length_le (by omega),List.drop_replicate]
end Sha
end Go.Proofs.YtklajbdbnnceiaaGreat
end

section
/- Rows of short sums; texts that have one short sum. -/
namespace Go.Proofs.YtklajbdbnnceiaaGreat
open Sha
def ofT (t:List UInt8):List UInt8:=short (t.getD 0 0) t.tail
@[simp] theorem ofT_length (t:List UInt8):(ofT t).length=16:=rfl
def clash (a b:List (List UInt8)):Bool:=a.any fun x=>b.any fun y=>decide (ofT x=ofT y) && decide (x ≠ y)
theorem clash_not {a b:List (List UInt8)} (h:clash a b=false) {x y:List UInt8} (hx:x∈a) (hy:y∈b) (e:ofT x=ofT y):x=y:=by
  apply Classical.byContradiction
  intro hne
  have:clash a b=true:=List.any_eq_true.2 ⟨x,hx,List.any_eq_true.2 ⟨y,hy,by simp [e,hne]⟩⟩
  rw [h] at this
  cases this
def chunk (s:List UInt8) (c:Nat):List UInt8:=(s.drop (16 * c)).take 16
theorem chunk_len {s:List UInt8} {c:Nat} (h:16 * c + 16≤s.length):(chunk s c).length=16:=by rw [chunk,List.length_take,List.length_drop]; omega
def rows (f:Nat→List UInt8) (n:Nat):List UInt8:=(List.range n).flatMap f
theorem rows_succ (f:Nat→List UInt8) (n:Nat):rows f (n + 1)=rows f n++f n:=by simp [rows,List.range_succ]
theorem rows_length {f:Nat→List UInt8} {N:Nat} (hf:∀ c,c < N→(f c).length=16):∀ n,n≤N→(rows f n).length=16 * n
  | 0,_=>rfl
  | n + 1,h=>by rw [rows_succ,List.length_append,rows_length hf n (by omega),hf n (by omega)]; omega
theorem rows_chunk {f:Nat→List UInt8} {N:Nat} (hf:∀ c,c < N→(f c).length=16):∀ n,n≤N→∀ c,c < n→chunk (rows f n) c=f c
  | 0,_,c,hc=>by omega
  | n + 1,h,c,hc=>by
    have hl:=rows_length hf n (by omega)
    rw [rows_succ]
    by_cases e:c=n
    · subst e
      rw [chunk,List.drop_append_of_le_length (by omega),List.drop_of_length_le (by omega),List.nil_append,List.take_of_length_le (by rw [hf c (by omega)]; omega)]
    · rw [chunk,List.drop_append_of_le_length (by omega),List.take_append_of_le_length (by rw [List.length_drop]; omega)]
      exact rows_chunk hf n (by omega) c (by omega)
end Go.Proofs.YtklajbdbnnceiaaGreat
end

section
/- Trees of short sums: the own way leads up,and whatever way leads up is the own one,or two unlike texts have one short sum. -/
namespace Go.Proofs.YtklajbdbnnceiaaGreat
open Sha
section
variable (J:Nat→List UInt8→List UInt8→List UInt8) (lf:Nat→List UInt8) (lt:Nat→List (List UInt8))
def node:Nat→Nat→List UInt8
  | 0,q=>lf q
  | n + 1,q=>ofT (J (n + 1) (node n (2 * q)) (node n (2 * q + 1)))
def nodeTs:Nat→Nat→List (List UInt8)
  | 0,q=>lt q
  | n + 1,q=>nodeTs n (2 * q)++nodeTs n (2 * q + 1)++[J (n + 1) (node J lf n (2 * q)) (node J lf n (2 * q + 1))]
def stepX (k q:Nat) (l s:List UInt8):List UInt8:=if q % 2=1 then J (k + 1) s l else J (k + 1) l s
def riseN (id:Nat) (l:List UInt8) (way:Nat→List UInt8):Nat→List UInt8
  | 0=>l
  | k + 1=>ofT (stepX J k (id / 2 ^ k) (riseN id l way k) (way k))
def riseTs (id:Nat) (l:List UInt8) (way:Nat→List UInt8):Nat→List (List UInt8)
  | 0=>[]
  | k + 1=>riseTs id l way k++[stepX J k (id / 2 ^ k) (riseN J id l way k) (way k)]
def besideI (q:Nat):Nat:=if q % 2=1 then q - 1 else q + 1
def wayN (id k:Nat):List UInt8:=node J lf k (besideI (id / 2 ^ k))
variable {J lf lt}
theorem node_length (hl:∀ q,(lf q).length=16):∀ n q,(node J lf n q).length=16
  | 0,q=>hl q
  | n + 1,q=>rfl
theorem riseN_length {id:Nat} {l:List UInt8} {way:Nat→List UInt8} (hl:l.length=16):∀ n,(riseN J id l way n).length=16
  | 0=>hl
  | n + 1=>rfl
theorem half_pow (id k:Nat):id / 2 ^ (k + 1)=id / 2 ^ k / 2:=by rw [Nat.pow_succ,Nat.div_div_eq_div_mul]
theorem step_own (k q:Nat):stepX J k q (node J lf k q) (node J lf k (besideI q))=J (k + 1) (node J lf k (2 * (q / 2))) (node J lf k (2 * (q / 2) + 1)):=by
  unfold stepX besideI
  by_cases h:q % 2=1
  · rw [if_pos h,if_pos h,show 2 * (q / 2)=q - 1 from by omega,show q - 1 + 1=q from by omega]
  · rw [if_neg h,if_neg h,show 2 * (q / 2)=q from by omega]
theorem rise_node (id:Nat):∀ n,riseN J id (lf id) (wayN J lf id) n=node J lf n (id / 2 ^ n)
  | 0=>by simp [riseN,node]
  | n + 1=>by rw [riseN,rise_node id n,wayN,step_own,half_pow,node]
theorem rise_sound (hJ:∀ k a b c d,a.length=16→c.length=16→J k a b=J k c d→a=c∧b=d) (hl:∀ q,(lf q).length=16) {id:Nat} {l:List UInt8} {way:Nat→List UInt8} (hl2:l.length=16) :
    ∀ n,(∀ k,k < n→(way k).length=16)→riseN J id l way n=node J lf n (id / 2 ^ n)→(∀ x∈nodeTs J lf lt n (id / 2 ^ n),∀ y∈riseTs J id l way n,ofT x=ofT y→x=y)→l=lf id∧∀ k,k < n→way k=wayN J lf id k
  | 0,_,h,_=>⟨by simpa [riseN,node] using h,fun k hk=>by omega⟩
  | n + 1,hw,h,hc=>by
    have hq:=half_pow id n
    rw [hq] at h hc
    have e:J (n + 1) (node J lf n (2 * (id / 2 ^ n / 2))) (node J lf n (2 * (id / 2 ^ n / 2) + 1))=stepX J n (id / 2 ^ n) (riseN J id l way n) (way n) :=
      hc _ (by simp [nodeTs]) _ (by simp [riseTs]) (by rw [riseN,node] at h; exact h.symm)
    rw [← step_own (J:=J) (lf:=lf) n (id / 2 ^ n)] at e
    have hn:=hw n (by omega)
    have e2:riseN J id l way n=node J lf n (id / 2 ^ n)∧way n=node J lf n (besideI (id / 2 ^ n)):=by
      unfold stepX at e
      split at e
      · have:=hJ _ _ _ _ _ (node_length hl _ _) hn e
        exact ⟨this.2.symm,this.1.symm⟩
      · have:=hJ _ _ _ _ _ (node_length hl _ _) (riseN_length hl2 n) e
        exact ⟨this.1.symm,this.2.symm⟩
    have sub:∀ x∈nodeTs J lf lt n (id / 2 ^ n),x∈nodeTs J lf lt (n + 1) (id / 2 ^ n / 2):=fun x hx=>by
      have h2:id / 2 ^ n=2 * (id / 2 ^ n / 2)∨id / 2 ^ n=2 * (id / 2 ^ n / 2) + 1:=by omega
      simp only [nodeTs,List.mem_append]
      rcases h2 with h2 | h2
      · left; left; rw [← h2]; exact hx
      · left; right; rw [← h2]; exact hx
    have ih:=rise_sound hJ hl hl2 n (fun k hk=>hw k (by omega)) e2.1 fun x hx y hy=>hc x (sub x hx) y (by rw [riseTs]; exact List.mem_append.2 (.inl hy))
    refine ⟨ih.1,fun k hk=>?_⟩
    by_cases ek:k=n
    · subst ek; exact e2.2
    · exact ih.2 k (by omega)
end
end Go.Proofs.YtklajbdbnnceiaaGreat
end

section
namespace Go.Proofs.YtklajbdbnnceiaaGreat
open Go Go.Fw
open Sha
theorem sched_at (p:List UInt8) (k j:Nat) (R:List UInt32) (hj:j < k):((sched p k++R).map U)[0 + j * 1]?=some (U ((sched p k).getD j 0)):=by
  have:=map_get (f:=U) (l:=sched p k++R) (i:=j) 0 (by simp [sched_length]; omega)
  rw [this,sched_getD p k j R hj]
theorem sched_len (p:List UInt8) (k:Nat) (hk:k≤64):(sched p k++List.replicate (64 - k) (0:UInt32)).length=64:=by simp [sched_length]; omega
theorem sha_turn (x:UInt32) (n:Nat) (hn:0 < n) (hn2:n < 32) (w:World) :Ctr Tryz.prog 176 [U x,I n] w (fun _=>False) (fun v _=>v=U (rotr x n)):=by
  refine fn_start (N:=13) Tryz.func176 rfl rfl rfl fun ac hk=>?_
  have hs:=St.start hk w
  refine wp_seq (wp_reg ?_)
  refine s_q hs (c_assign (St.ev (v:=U 0) hs rfl)) rfl fun ac hs=>?_
  refine s_end (then_n (wp_seq ?_))
  refine wp_region_rg pmix 9 (by kernel_rfl) rfl hs ?_
  simp only [List.take_succ_cons,List.take_zero]
  refine rg_q (fun ac ww h=>c_move (h.ev rfl)) rfl ?_
  refine rg_q (fun ac ww h=>c_move (h.ev rfl)) rfl ?_
  refine rg_q (fun ac ww h=>c_shrU (h.ev rfl) (h.ev rfl) (by omega)) rfl ?_
  refine rg_q (fun ac ww h=>c_move (h.ev rfl)) rfl ?_
  refine rg_q (fun ac ww h=>c_move (h.ev rfl)) rfl ?_
  refine rg_q (fun ac ww h=>c_subI (h.ev rfl) (h.ev rfl) (by omega) (by omega)) rfl ?_
  refine rg_q (fun ac ww h=>c_shlU (n:=32 - n) (h.ev rfl) ((h.ev rfl).trans (congrArg I (by omega))) (by omega)) rfl ?_
  refine rg_q (fun ac ww h=>c_orU (h.ev rfl) (h.ev rfl)) rfl ?_
  refine rg_q (fun ac ww h=>c_assign (h.ev rfl)) rfl ?_
  refine rg_nil fun ac ww L' hf hfe hs=>?_
  simp only [List.drop_succ_cons,List.drop_zero]
  obtain rfl:L'=[]:=hfe
  replace hs:=hs.toL (List.nil_append _)
  refine s_end ?_
  replace hs:=hs.sub (F':=[(4,_)]) ⟨rfl,trivial⟩
  refine then_n (wp_ret ?_)
  refine s_ret hs rfl (.tmp (hs.tmp rfl) .nil) rfl ⟨_,rfl,hs.fr,?_⟩
  rfl
theorem sha_words  (w:World) :Ctr Tryz.prog 177 [] w (fun _=>False) (fun v _=>v=.agg (K.map U).toArray):=by
  refine fn_start (N:=2) Tryz.func177 rfl rfl rfl fun ac hk=>?_
  have hs:=St.start hk w
  refine wp_seq (wp_reg ?_)
  refine s_alloc hs ty264 rfl fun ac ww g0 hs=>?_
  refine s_end (then_n (wp_seq (wp_reg ?_)))
  refine s_q hs (c_buildA ty264 un264 ty25 (vs:=K.map U) (zc:=K.map U) (by repeat (first | exact .nil | refine .cons rfl ?_)) (by decide) (by decide) rfl) rfl fun ac hs=>?_
  refine s_storeW (i:=0) hs ty264 rfl rfl rfl (by simp) (by simp [Value.oneCell']) (by simp) fun ww hs=>?_
  refine s_end ?_
  replace hs:=hs.sub (F':=[(0,_)]) ⟨rfl,trivial⟩
  refine then_n (wp_ret ?_)
  refine s_ret hs rfl (.cell (hs.tmp rfl) (run_loadA ty264 rfl (hs.seg (i:=0) rfl) (List.take_of_length_le (by simp)) (by simp)) .nil) rfl ⟨_,rfl,hs.fr,?_⟩
  rfl
theorem sha_mix (h:R) (p:List UInt8) (vp:Value) (h64:64≤p.length) (w:World) (hp:RdB w vp p):Ctr Tryz.prog 165 [.agg (h.list.map U).toArray,vp] w (fun _=>False) (fun v _=>v=.agg ((comp h p).list.map U).toArray):=by
  obtain ⟨pb,po,pc,pT,pf,pall,rfl,hpc,hpm,hpb,hps⟩:=RdB.at_ hp (by omega)
  have hpl:=hp.le
  refine fn_start (N:=221) Tryz.func165 rfl rfl rfl fun ac hk=>?_
  have hs:=St.start hk w
  refine wp_seq (wp_reg ?_)
  refine s_box hs rfl rfl rfl fun ac ww g2 hs=>?_
  refine s_alloc hs ty262 rfl fun ac ww g4 hs=>?_
  refine s_end ?_
  replace hs:=hs.sub (F':=[(1,_),(2,_),(4,_)]) ⟨rfl,rfl,rfl,trivial⟩
  refine then_n (wp_seq (wp_reg ?_))
  refine s_alloc hs ty264 rfl fun ac ww g5 hs=>?_
  refine s_end (then_n (wp_seq (wp_seq (wp_reg ?_))))
  refine zM hs fun ac hs=>?_
  refine s_end (then_n (wp_block ?_))
  refine s_loop hs (X:=Nat) (fun k=>[(24,I k)]) [(1,_),(2,_),(4,_),(5,_)] (fun k=>[.seg g5 ((sched p k++List.replicate (64 - k) 0).map U) 264,_,_]) (fun n k=>k≤16∧n=16 - k) (16) (0) (⟨by omega,rfl⟩) ⟨rfl,rfl,rfl,rfl,rfl,trivial⟩ (congrArg (fun z=>[Ent.seg g5 (List.map U z) 264,_,_]) (show List.replicate 64 0=_ by rw [sched_zero]; rfl)) ?_
  rintro n k ac ww hok hs
  simp only [List.cons_append,List.nil_append] at hs
  refine wp_seq (wp_reg ?_)
  refine s_q hs (c_lssI (hs.ev rfl) (hs.ev rfl)) rfl fun ac hs=>?_
  refine s_end (then_n (wp_seq ?_))
  refine s_cond hs rfl (fun hc=>?_) (fun hc=>?_)
  · try simp only [z1,z2,z3,z4,z5,z6,z7] at hc
    obtain ⟨hk,rfl⟩:=hok
    refine wp_skip (then_n (wp_seq (wp_block (wp_seq (wp_reg ?_)))))
    refine zM hs fun ac hs=>?_
    refine zA hs fun ac hs=>?_
    refine s_end (then_n ?_)
    refine wp_region_rg pmix 35 (by kernel_rfl) rfl hs ?_
    simp only [List.take_succ_cons,List.take_zero]
    refine rg_q (fun ac ww h=>c_move (h.ev rfl)) rfl ?_
    refine rg_q (fun ac ww h=>c_move (h.ev rfl)) rfl ?_
    refine rg_q (fun ac ww h=>c_move (h.ev rfl)) rfl ?_
    refine rg_q (fun ac ww h=>c_mulI (h.ev rfl) (h.ev rfl) (by omega) (by omega)) rfl ?_
    refine rg_q (fun ac ww h=>c_idxS (j:=4 * k) un177 ty5 (h.ev rfl) (h.ev rfl) (by omega) (by omega)) rfl ?_
    refine rg_q (fun ac ww h=>c_loadS un5 rfl (h.ev rfl) (h.blk (hs.old hpb id)) (seg_get 0 hps (by omega))) rfl ?_
    refine rg_q (fun ac ww h=>c_cvBU un5 un25 (h.ev rfl)) rfl ?_
    refine rg_q (fun ac ww h=>c_shlU (h.ev rfl) (h.ev rfl) (by decide)) rfl ?_
    refine rg_q (fun ac ww h=>c_move (h.ev rfl)) rfl ?_
    refine rg_q (fun ac ww h=>c_move (h.ev rfl)) rfl ?_
    refine rg_q (fun ac ww h=>c_mulI (h.ev rfl) (h.ev rfl) (by omega) (by omega)) rfl ?_
    refine rg_q (fun ac ww h=>c_addI (h.ev rfl) (h.ev rfl) (by omega) (by omega)) rfl ?_
    refine rg_q (fun ac ww h=>c_idxS (j:=4 * k + 1) un177 ty5 (h.ev rfl) (h.ev rfl) (by omega) (by omega)) rfl ?_
    refine rg_q (fun ac ww h=>c_loadS un5 rfl (h.ev rfl) (h.blk (hs.old hpb id)) (seg_get 0 hps (by omega))) rfl ?_
    refine rg_q (fun ac ww h=>c_cvBU un5 un25 (h.ev rfl)) rfl ?_
    refine rg_q (fun ac ww h=>c_shlU (h.ev rfl) (h.ev rfl) (by decide)) rfl ?_
    refine rg_q (fun ac ww h=>c_orU (h.ev rfl) (h.ev rfl)) rfl ?_
    refine rg_q (fun ac ww h=>c_move (h.ev rfl)) rfl ?_
    refine rg_q (fun ac ww h=>c_move (h.ev rfl)) rfl ?_
    refine rg_q (fun ac ww h=>c_mulI (h.ev rfl) (h.ev rfl) (by omega) (by omega)) rfl ?_
    refine rg_q (fun ac ww h=>c_addI (h.ev rfl) (h.ev rfl) (by omega) (by omega)) rfl ?_
    refine rg_q (fun ac ww h=>c_idxS (j:=4 * k + 2) un177 ty5 (h.ev rfl) (h.ev rfl) (by omega) (by omega)) rfl ?_
    refine rg_q (fun ac ww h=>c_loadS un5 rfl (h.ev rfl) (h.blk (hs.old hpb id)) (seg_get 0 hps (by omega))) rfl ?_
    refine rg_q (fun ac ww h=>c_cvBU un5 un25 (h.ev rfl)) rfl ?_
    refine rg_q (fun ac ww h=>c_shlU (h.ev rfl) (h.ev rfl) (by decide)) rfl ?_
    refine rg_q (fun ac ww h=>c_orU (h.ev rfl) (h.ev rfl)) rfl ?_
    refine rg_q (fun ac ww h=>c_move (h.ev rfl)) rfl ?_
    refine rg_q (fun ac ww h=>c_move (h.ev rfl)) rfl ?_
    refine rg_q (fun ac ww h=>c_mulI (h.ev rfl) (h.ev rfl) (by omega) (by omega)) rfl ?_
    refine rg_q (fun ac ww h=>c_addI (h.ev rfl) (h.ev rfl) (by omega) (by omega)) rfl ?_
    refine rg_q (fun ac ww h=>c_idxS (j:=4 * k + 3) un177 ty5 (h.ev rfl) (h.ev rfl) (by omega) (by omega)) rfl ?_
    refine rg_q (fun ac ww h=>c_loadS un5 rfl (h.ev rfl) (h.blk (hs.old hpb id)) (seg_get 0 hps (by omega))) rfl ?_
    refine rg_q (fun ac ww h=>c_cvBU un5 un25 (h.ev rfl)) rfl ?_
    refine rg_q (fun ac ww h=>c_orU (h.ev rfl) (h.ev rfl)) rfl ?_
    refine rg_q (fun ac ww h=>c_idxA (j:=k) un264 ty25 (h.ev rfl) (h.ev rfl) (by omega) (by omega)) rfl ?_
    refine rg_nil fun ac ww L' hf hfe hs=>?_
    simp only [List.drop_succ_cons,List.drop_zero]
    obtain rfl:L'=[]:=hfe
    replace hs:=hs.toL (List.nil_append _)
    refine s_store (i:=0) hs ty25 rfl rfl rfl rfl rfl rfl (by rw [List.length_map,sched_len p k (by omega)]; omega) (map_set _ (by rw [sched_len p k (by omega)]; omega)) fun ww hs=>?_
    refine s_end (blk_n (then_n (wp_reg ?_)))
    refine s_q hs (c_addI (hs.ev rfl) (hs.ev rfl) (by omega) (by omega)) rfl fun ac hs=>?_
    refine zM hs fun ac hs=>?_
    refine s_end (then_n ?_)
    exact ⟨16 - (k + 1),by omega,k + 1,⟨by omega,rfl⟩,St.next hs ⟨rfl,rfl,rfl,rfl,rfl,trivial⟩ (congrArg (fun z=>[Ent.seg g5 (List.map U z) 264,_,_]) (sched_set p k (by omega) _ (sched_lo p k (by omega))))⟩
  · try simp only [z1,z2,z3,z4,z5,z6,z7] at hc
    obtain ⟨hk,rfl⟩:=hok
    obtain rfl:k=16:=by omega
    refine wp_exit (then_e (then_e (blk_hit (then_n (wp_seq (wp_seq (wp_reg ?_)))))))
    refine zA hs fun ac hs=>?_
    refine s_end ?_
    replace hs:=hs.sub (F':=[(2,_),(4,_),(5,_),(7,_)]) ⟨rfl,rfl,rfl,rfl,trivial⟩
    refine then_n (wp_block ?_)
    refine s_loop hs (X:=Nat) (fun k=>[(7,I k)]) [(2,_),(4,_),(5,_)] (fun k=>[.seg g5 ((sched p k++List.replicate (64 - k) 0).map U) 264,_,_]) (fun n k=>16≤k∧k≤64∧n=64 - k) (48) (16) (⟨by omega,by omega,rfl⟩) ⟨rfl,rfl,rfl,rfl,trivial⟩ rfl ?_
    rintro n k ac ww hok hs
    simp only [List.cons_append,List.nil_append] at hs
    refine wp_seq (wp_seq (wp_reg ?_))
    refine zM hs fun ac hs=>?_
    refine s_q hs (c_lssI (hs.ev rfl) (hs.ev rfl)) rfl fun ac hs=>?_
    refine s_end (then_n ?_)
    refine s_cond hs rfl (fun hc=>?_) (fun hc=>?_)
    · try simp only [z1,z2,z3,z4,z5,z6,z7] at hc
      obtain ⟨hk,hk2,rfl⟩:=hok
      refine wp_skip (then_n (wp_seq (wp_block (wp_seq ?_))))
      refine wp_region_rg pmix 10 (by kernel_rfl) rfl hs ?_
      simp only [List.take_succ_cons,List.take_zero]
      refine rg_q (fun ac ww h=>c_move (h.ev rfl)) rfl ?_
      refine rg_q (fun ac ww h=>c_subI (h.ev rfl) (h.ev rfl) (by omega) (by omega)) rfl ?_
      refine rg_q (fun ac ww h=>c_idxA (j:=k - 15) un264 ty25 (h.ev rfl) (h.ev rfl) (by omega) (by omega)) rfl ?_
      refine rg_q (fun ac ww h=>c_loadS un25 rfl (h.ev rfl) (h.blk (hs.seg (i:=0) rfl)) (sched_at p k (k - 15) _ (by omega))) rfl ?_
      refine rg_q (fun ac ww h=>c_move (h.ev rfl)) rfl ?_
      refine rg_q (fun ac ww h=>c_subI (h.ev rfl) (h.ev rfl) (by omega) (by omega)) rfl ?_
      refine rg_q (fun ac ww h=>c_idxA (j:=k - 2) un264 ty25 (h.ev rfl) (h.ev rfl) (by omega) (by omega)) rfl ?_
      refine rg_q (fun ac ww h=>c_loadS un25 rfl (h.ev rfl) (h.blk (hs.seg (i:=0) rfl)) (sched_at p k (k - 2) _ (by omega))) rfl ?_
      refine rg_q (fun ac ww h=>c_assign (h.ev rfl)) rfl ?_
      refine rg_q (fun ac ww h=>c_assign (h.ev rfl)) rfl ?_
      refine rg_nil fun ac ww L' hf hfe hs=>?_
      simp only [List.drop_succ_cons,List.drop_zero]
      obtain rfl:L'=[]:=hfe
      replace hs:=hs.toL (List.nil_append _)
      refine s_end (then_n (wp_seq (wp_reg ?_)))
      refine zM hs fun ac hs=>?_
      refine s_call hs fu176 (.cons (hs.ev rfl) (.cons (hs.ev rfl) .nil)) (sha_turn _ 7 (by omega) (by omega) _) rfl fun ac ww v76 hf hp hs=>?_
      obtain rfl:=hp
      replace hs:=hs [] (.nil _ _)
      refine zM hs fun ac hs=>?_
      refine s_call hs fu176 (.cons (hs.ev rfl) (.cons (hs.ev rfl) .nil)) (sha_turn _ 18 (by omega) (by omega) _) rfl fun ac ww v78 hf hp hs=>?_
      obtain rfl:=hp
      replace hs:=hs [] (.nil _ _)
      refine s_q hs (c_xorU (hs.ev rfl) (hs.ev rfl)) rfl fun ac hs=>?_
      refine zM hs fun ac hs=>?_
      refine s_q hs (c_shrU (hs.ev rfl) (hs.ev rfl) (by decide)) rfl fun ac hs=>?_
      refine s_q hs (c_xorU (hs.ev rfl) (hs.ev rfl)) rfl fun ac hs=>?_
      refine zA hs fun ac hs=>?_
      refine s_end (then_n (wp_seq (wp_reg ?_)))
      refine zM hs fun ac hs=>?_
      refine s_call hs fu176 (.cons (hs.ev rfl) (.cons (hs.ev rfl) .nil)) (sha_turn _ 17 (by omega) (by omega) _) rfl fun ac ww v84 hf hp hs=>?_
      obtain rfl:=hp
      replace hs:=hs [] (.nil _ _)
      refine zM hs fun ac hs=>?_
      refine s_call hs fu176 (.cons (hs.ev rfl) (.cons (hs.ev rfl) .nil)) (sha_turn _ 19 (by omega) (by omega) _) rfl fun ac ww v86 hf hp hs=>?_
      obtain rfl:=hp
      replace hs:=hs [] (.nil _ _)
      refine s_q hs (c_xorU (hs.ev rfl) (hs.ev rfl)) rfl fun ac hs=>?_
      refine zM hs fun ac hs=>?_
      refine s_q hs (c_shrU (hs.ev rfl) (hs.ev rfl) (by decide)) rfl fun ac hs=>?_
      refine s_q hs (c_xorU (hs.ev rfl) (hs.ev rfl)) rfl fun ac hs=>?_
      refine zA hs fun ac hs=>?_
      refine s_end (then_n ?_)
      refine wp_region_rg pmix 15 (by kernel_rfl) rfl hs ?_
      simp only [List.take_succ_cons,List.take_zero]
      refine rg_q (fun ac ww h=>c_move (h.ev rfl)) rfl ?_
      refine rg_q (fun ac ww h=>c_move (h.ev rfl)) rfl ?_
      refine rg_q (fun ac ww h=>c_subI (h.ev rfl) (h.ev rfl) (by omega) (by omega)) rfl ?_
      refine rg_q (fun ac ww h=>c_idxA (j:=k - 16) un264 ty25 (h.ev rfl) (h.ev rfl) (by omega) (by omega)) rfl ?_
      refine rg_q (fun ac ww h=>c_loadS un25 rfl (h.ev rfl) (h.blk (hs.seg (i:=0) rfl)) (sched_at p k (k - 16) _ (by omega))) rfl ?_
      refine rg_q (fun ac ww h=>c_move (h.ev rfl)) rfl ?_
      refine rg_q (fun ac ww h=>c_addU (h.ev rfl) (h.ev rfl)) rfl ?_
      refine rg_q (fun ac ww h=>c_move (h.ev rfl)) rfl ?_
      refine rg_q (fun ac ww h=>c_subI (h.ev rfl) (h.ev rfl) (by omega) (by omega)) rfl ?_
      refine rg_q (fun ac ww h=>c_idxA (j:=k - 7) un264 ty25 (h.ev rfl) (h.ev rfl) (by omega) (by omega)) rfl ?_
      refine rg_q (fun ac ww h=>c_loadS un25 rfl (h.ev rfl) (h.blk (hs.seg (i:=0) rfl)) (sched_at p k (k - 7) _ (by omega))) rfl ?_
      refine rg_q (fun ac ww h=>c_addU (h.ev rfl) (h.ev rfl)) rfl ?_
      refine rg_q (fun ac ww h=>c_move (h.ev rfl)) rfl ?_
      refine rg_q (fun ac ww h=>c_addU (h.ev rfl) (h.ev rfl)) rfl ?_
      refine rg_q (fun ac ww h=>c_idxA (j:=k) un264 ty25 (h.ev rfl) (h.ev rfl) (by omega) (by omega)) rfl ?_
      refine rg_nil fun ac ww L' hf hfe hs=>?_
      simp only [List.drop_succ_cons,List.drop_zero]
      obtain rfl:L'=[]:=hfe
      replace hs:=hs.toL (List.nil_append _)
      refine s_store (i:=0) hs ty25 rfl rfl rfl rfl rfl rfl (by rw [List.length_map,sched_len p k (by omega)]; omega) (map_set _ (by rw [sched_len p k (by omega)]; omega)) fun ww hs=>?_
      refine s_end (blk_n (then_n (wp_reg ?_)))
      refine zM hs fun ac hs=>?_
      refine s_q hs (c_addI (hs.ev rfl) (hs.ev rfl) (by omega) (by omega)) rfl fun ac hs=>?_
      refine zA hs fun ac hs=>?_
      refine s_end (then_n ?_)
      exact ⟨64 - (k + 1),by omega,k + 1,⟨by omega,by omega,rfl⟩,St.next hs ⟨rfl,rfl,rfl,rfl,trivial⟩ (congrArg (fun z=>[Ent.seg g5 (List.map U z) 264,_,_]) (sched_set p k (by omega) _ (sched_hi p k (by omega))))⟩
    · try simp only [z1,z2,z3,z4,z5,z6,z7] at hc
      obtain ⟨hk,hk2,rfl⟩:=hok
      obtain rfl:k=64:=by omega
      refine wp_exit (then_e (then_e (blk_hit (then_n (wp_seq (wp_reg ?_))))))
      refine s_call hs fu177 .nil (sha_words _) rfl fun ac ww v106 hf hp hs=>?_
      obtain rfl:=hp
      replace hs:=hs [] (.nil _ _)
      refine s_alloc hs ty264 rfl fun ac ww g10 hs=>?_
      refine s_storeW (i:=0) hs ty264 rfl rfl rfl (by simp) (by simp [Value.oneCell']) (by simp) fun ww hs=>?_
      refine s_end ?_
      replace hs:=hs.sub (F':=[(2,_),(4,_),(5,_),(10,_)]) ⟨rfl,rfl,rfl,rfl,trivial⟩
      refine then_n (wp_seq ?_)
      refine wp_region_rg pmix 24 (by kernel_rfl) rfl hs ?_
      simp only [List.take_succ_cons,List.take_zero]
      refine rg_q (fun ac ww h=>c_idxA un262 ty25 (h.ev rfl) (h.ev rfl) rfl (by decide)) rfl ?_
      refine rg_q (fun ac ww h=>c_loadS un25 rfl (h.ev rfl) (h.blk (hs.seg (i:=3) rfl)) rfl) rfl ?_
      refine rg_q (fun ac ww h=>c_idxA un262 ty25 (h.ev rfl) (h.ev rfl) rfl (by decide)) rfl ?_
      refine rg_q (fun ac ww h=>c_loadS un25 rfl (h.ev rfl) (h.blk (hs.seg (i:=3) rfl)) rfl) rfl ?_
      refine rg_q (fun ac ww h=>c_idxA un262 ty25 (h.ev rfl) (h.ev rfl) rfl (by decide)) rfl ?_
      refine rg_q (fun ac ww h=>c_loadS un25 rfl (h.ev rfl) (h.blk (hs.seg (i:=3) rfl)) rfl) rfl ?_
      refine rg_q (fun ac ww h=>c_idxA un262 ty25 (h.ev rfl) (h.ev rfl) rfl (by decide)) rfl ?_
      refine rg_q (fun ac ww h=>c_loadS un25 rfl (h.ev rfl) (h.blk (hs.seg (i:=3) rfl)) rfl) rfl ?_
      refine rg_q (fun ac ww h=>c_idxA un262 ty25 (h.ev rfl) (h.ev rfl) rfl (by decide)) rfl ?_
      refine rg_q (fun ac ww h=>c_loadS un25 rfl (h.ev rfl) (h.blk (hs.seg (i:=3) rfl)) rfl) rfl ?_
      refine rg_q (fun ac ww h=>c_idxA un262 ty25 (h.ev rfl) (h.ev rfl) rfl (by decide)) rfl ?_
      refine rg_q (fun ac ww h=>c_loadS un25 rfl (h.ev rfl) (h.blk (hs.seg (i:=3) rfl)) rfl) rfl ?_
      refine rg_q (fun ac ww h=>c_idxA un262 ty25 (h.ev rfl) (h.ev rfl) rfl (by decide)) rfl ?_
      refine rg_q (fun ac ww h=>c_loadS un25 rfl (h.ev rfl) (h.blk (hs.seg (i:=3) rfl)) rfl) rfl ?_
      refine rg_q (fun ac ww h=>c_idxA un262 ty25 (h.ev rfl) (h.ev rfl) rfl (by decide)) rfl ?_
      refine rg_q (fun ac ww h=>c_loadS un25 rfl (h.ev rfl) (h.blk (hs.seg (i:=3) rfl)) rfl) rfl ?_
      refine rg_q (fun ac ww h=>c_assign (h.ev rfl)) rfl ?_
      refine rg_q (fun ac ww h=>c_assign (h.ev rfl)) rfl ?_
      refine rg_q (fun ac ww h=>c_assign (h.ev rfl)) rfl ?_
      refine rg_q (fun ac ww h=>c_assign (h.ev rfl)) rfl ?_
      refine rg_q (fun ac ww h=>c_assign (h.ev rfl)) rfl ?_
      refine rg_q (fun ac ww h=>c_assign (h.ev rfl)) rfl ?_
      refine rg_q (fun ac ww h=>c_assign (h.ev rfl)) rfl ?_
      refine rg_q (fun ac ww h=>c_assign (h.ev rfl)) rfl ?_
      refine rg_nil fun ac ww L' hf hfe hs=>?_
      simp only [List.drop_succ_cons,List.drop_zero]
      obtain rfl:L'=[]:=hfe
      replace hs:=hs.toL (List.nil_append _)
      refine s_end ?_
      replace hs:=hs.sub (F':=[(2,_),(4,_),(5,_),(10,_),(11,_),(12,_),(13,_),(14,_),(15,_),(16,_),(17,_),(18,_)]) ⟨rfl,rfl,rfl,rfl,rfl,rfl,rfl,rfl,rfl,rfl,rfl,rfl,trivial⟩
      refine then_n (wp_seq (wp_seq (wp_reg ?_)))
      refine zM hs fun ac hs=>?_
      refine s_end (then_n (wp_block ?_))
      refine s_loop hs (X:=Nat) (fun k=>[(123,I k),(11,U (rounds p h k).a),(12,U (rounds p h k).b),(13,U (rounds p h k).c),(14,U (rounds p h k).d),(15,U (rounds p h k).e),(16,U (rounds p h k).f),(17,U (rounds p h k).g),(18,U (rounds p h k).h)]) [(2,_),(4,_),(5,_),(10,_)] (fun _=>[_,_,_,_]) (fun n k=>k≤64∧n=64 - k) (64) (0) (⟨by omega,rfl⟩) ⟨rfl,rfl,rfl,rfl,rfl,rfl,rfl,rfl,rfl,rfl,rfl,rfl,rfl,trivial⟩ rfl ?_
      rintro n k ac ww hok hs
      simp only [List.cons_append,List.nil_append] at hs
      refine wp_seq (wp_reg ?_)
      refine s_q hs (c_lssI (hs.ev rfl) (hs.ev rfl)) rfl fun ac hs=>?_
      refine s_end (then_n (wp_seq ?_))
      refine s_cond hs rfl (fun hc=>?_) (fun hc=>?_)
      · try simp only [z1,z2,z3,z4,z5,z6,z7] at hc
        obtain ⟨hk,rfl⟩:=hok
        refine wp_skip (then_n (wp_seq (wp_block (wp_seq (wp_reg ?_)))))
        refine zM hs fun ac hs=>?_
        refine zA hs fun ac hs=>?_
        refine s_end (then_n (wp_seq (wp_reg ?_)))
        refine zM hs fun ac hs=>?_
        refine s_call hs fu176 (.cons (hs.ev rfl) (.cons (hs.ev rfl) .nil)) (sha_turn _ 6 (by omega) (by omega) _) rfl fun ac ww v127 hf hp hs=>?_
        obtain rfl:=hp
        replace hs:=hs [] (.nil _ _)
        refine zM hs fun ac hs=>?_
        refine s_call hs fu176 (.cons (hs.ev rfl) (.cons (hs.ev rfl) .nil)) (sha_turn _ 11 (by omega) (by omega) _) rfl fun ac ww v129 hf hp hs=>?_
        obtain rfl:=hp
        replace hs:=hs [] (.nil _ _)
        refine s_q hs (c_xorU (hs.ev rfl) (hs.ev rfl)) rfl fun ac hs=>?_
        refine zM hs fun ac hs=>?_
        refine s_call hs fu176 (.cons (hs.ev rfl) (.cons (hs.ev rfl) .nil)) (sha_turn _ 25 (by omega) (by omega) _) rfl fun ac ww v132 hf hp hs=>?_
        obtain rfl:=hp
        replace hs:=hs [] (.nil _ _)
        refine s_q hs (c_xorU (hs.ev rfl) (hs.ev rfl)) rfl fun ac hs=>?_
        refine zA hs fun ac hs=>?_
        refine s_end (then_n (wp_seq ?_))
        refine wp_region_rg pmix 21 (by kernel_rfl) rfl hs ?_
        simp only [List.take_succ_cons,List.take_zero]
        refine rg_q (fun ac ww h=>c_move (h.ev rfl)) rfl ?_
        refine rg_q (fun ac ww h=>c_move (h.ev rfl)) rfl ?_
        refine rg_q (fun ac ww h=>c_addU (h.ev rfl) (h.ev rfl)) rfl ?_
        refine rg_q (fun ac ww h=>c_move (h.ev rfl)) rfl ?_
        refine rg_q (fun ac ww h=>c_move (h.ev rfl)) rfl ?_
        refine rg_q (fun ac ww h=>c_andU (h.ev rfl) (h.ev rfl)) rfl ?_
        refine rg_q (fun ac ww h=>c_move (h.ev rfl)) rfl ?_
        refine rg_q (fun ac ww h=>c_notU (h.ev rfl)) rfl ?_
        refine rg_q (fun ac ww h=>c_move (h.ev rfl)) rfl ?_
        refine rg_q (fun ac ww h=>c_andU (h.ev rfl) (h.ev rfl)) rfl ?_
        refine rg_q (fun ac ww h=>c_xorU (h.ev rfl) (h.ev rfl)) rfl ?_
        refine rg_q (fun ac ww h=>c_addU (h.ev rfl) (h.ev rfl)) rfl ?_
        refine rg_q (fun ac ww h=>c_move (h.ev rfl)) rfl ?_
        refine rg_q (fun ac ww h=>c_idxA (j:=k) un264 ty25 (h.ev rfl) (h.ev rfl) (by omega) (by omega)) rfl ?_
        refine rg_q (fun ac ww h=>c_loadS un25 rfl (h.ev rfl) (h.blk (hs.seg (i:=0) rfl)) (map_get 0 (by simp; omega))) rfl ?_
        refine rg_q (fun ac ww h=>c_addU (h.ev rfl) (h.ev rfl)) rfl ?_
        refine rg_q (fun ac ww h=>c_move (h.ev rfl)) rfl ?_
        refine rg_q (fun ac ww h=>c_idxA (j:=k) un264 ty25 (h.ev rfl) (h.ev rfl) (by omega) (by omega)) rfl ?_
        refine rg_q (fun ac ww h=>c_loadS un25 rfl (h.ev rfl) (h.blk (hs.seg (i:=1) rfl)) (sched_at p 64 k _ (by omega))) rfl ?_
        refine rg_q (fun ac ww h=>c_addU (h.ev rfl) (h.ev rfl)) rfl ?_
        refine rg_q (fun ac ww h=>c_assign (h.ev rfl)) rfl ?_
        refine rg_nil fun ac ww L' hf hfe hs=>?_
        simp only [List.drop_succ_cons,List.drop_zero]
        obtain rfl:L'=[]:=hfe
        replace hs:=hs.toL (List.nil_append _)
        refine s_end (then_n (wp_seq (wp_reg ?_)))
        refine zM hs fun ac hs=>?_
        refine s_call hs fu176 (.cons (hs.ev rfl) (.cons (hs.ev rfl) .nil)) (sha_turn _ 2 (by omega) (by omega) _) rfl fun ac ww v155 hf hp hs=>?_
        obtain rfl:=hp
        replace hs:=hs [] (.nil _ _)
        refine zM hs fun ac hs=>?_
        refine s_call hs fu176 (.cons (hs.ev rfl) (.cons (hs.ev rfl) .nil)) (sha_turn _ 13 (by omega) (by omega) _) rfl fun ac ww v157 hf hp hs=>?_
        obtain rfl:=hp
        replace hs:=hs [] (.nil _ _)
        refine s_q hs (c_xorU (hs.ev rfl) (hs.ev rfl)) rfl fun ac hs=>?_
        refine zM hs fun ac hs=>?_
        refine s_call hs fu176 (.cons (hs.ev rfl) (.cons (hs.ev rfl) .nil)) (sha_turn _ 22 (by omega) (by omega) _) rfl fun ac ww v160 hf hp hs=>?_
        obtain rfl:=hp
        replace hs:=hs [] (.nil _ _)
        refine s_q hs (c_xorU (hs.ev rfl) (hs.ev rfl)) rfl fun ac hs=>?_
        refine zA hs fun ac hs=>?_
        refine s_end (then_n (wp_seq (wp_reg ?_)))
        refine zM hs fun ac hs=>?_
        refine zM hs fun ac hs=>?_
        refine zM hs fun ac hs=>?_
        refine s_q hs (c_andU (hs.ev rfl) (hs.ev rfl)) rfl fun ac hs=>?_
        refine zM hs fun ac hs=>?_
        refine zM hs fun ac hs=>?_
        refine s_q hs (c_andU (hs.ev rfl) (hs.ev rfl)) rfl fun ac hs=>?_
        refine s_q hs (c_xorU (hs.ev rfl) (hs.ev rfl)) rfl fun ac hs=>?_
        refine zM hs fun ac hs=>?_
        refine zM hs fun ac hs=>?_
        refine s_q hs (c_andU (hs.ev rfl) (hs.ev rfl)) rfl fun ac hs=>?_
        refine s_q hs (c_xorU (hs.ev rfl) (hs.ev rfl)) rfl fun ac hs=>?_
        refine s_q hs (c_addU (hs.ev rfl) (hs.ev rfl)) rfl fun ac hs=>?_
        refine zA hs fun ac hs=>?_
        refine s_end (then_n (wp_reg ?_))
        refine zM hs fun ac hs=>?_
        refine zM hs fun ac hs=>?_
        refine s_q hs (c_addU (hs.ev rfl) (hs.ev rfl)) rfl fun ac hs=>?_
        refine zM hs fun ac hs=>?_
        refine zM hs fun ac hs=>?_
        refine zM hs fun ac hs=>?_
        refine zM hs fun ac hs=>?_
        refine zM hs fun ac hs=>?_
        refine s_q hs (c_addU (hs.ev rfl) (hs.ev rfl)) rfl fun ac hs=>?_
        refine zM hs fun ac hs=>?_
        refine zM hs fun ac hs=>?_
        refine zM hs fun ac hs=>?_
        refine zA hs fun ac hs=>?_
        refine zA hs fun ac hs=>?_
        refine zA hs fun ac hs=>?_
        refine zA hs fun ac hs=>?_
        refine zA hs fun ac hs=>?_
        refine zA hs fun ac hs=>?_
        refine zA hs fun ac hs=>?_
        refine zA hs fun ac hs=>?_
        refine s_end (blk_n (then_n (wp_reg ?_)))
        refine s_q hs (c_addI (hs.ev rfl) (hs.ev rfl) (by omega) (by omega)) rfl fun ac hs=>?_
        refine zM hs fun ac hs=>?_
        refine s_end (then_n ?_)
        exact ⟨64 - (k + 1),by omega,k + 1,⟨by omega,rfl⟩,St.next hs ⟨rfl,rfl,rfl,rfl,rfl,rfl,rfl,rfl,rfl,rfl,rfl,rfl,rfl,trivial⟩ rfl⟩
      · try simp only [z1,z2,z3,z4,z5,z6,z7] at hc
        obtain ⟨hk,rfl⟩:=hok
        obtain rfl:k=64:=by omega
        refine wp_exit (then_e (then_e (blk_hit (then_n (wp_seq (wp_reg ?_))))))
        refine s_q hs (c_idxA un262 ty25 (hs.ev rfl) (hs.ev rfl) rfl (by decide)) rfl fun ac hs=>?_
        refine s_q hs (c_loadS un25 rfl (hs.ev rfl) (hs.seg (i:=3) rfl) rfl) rfl fun ac hs=>?_
        refine zM hs fun ac hs=>?_
        refine s_q hs (c_addU (hs.ev rfl) (hs.ev rfl)) rfl fun ac hs=>?_
        refine s_q hs (c_idxA un262 ty25 (hs.ev rfl) (hs.ev rfl) rfl (by decide)) rfl fun ac hs=>?_
        refine s_q hs (c_loadS un25 rfl (hs.ev rfl) (hs.seg (i:=3) rfl) rfl) rfl fun ac hs=>?_
        refine zM hs fun ac hs=>?_
        refine s_q hs (c_addU (hs.ev rfl) (hs.ev rfl)) rfl fun ac hs=>?_
        refine s_q hs (c_idxA un262 ty25 (hs.ev rfl) (hs.ev rfl) rfl (by decide)) rfl fun ac hs=>?_
        refine s_q hs (c_loadS un25 rfl (hs.ev rfl) (hs.seg (i:=3) rfl) rfl) rfl fun ac hs=>?_
        refine zM hs fun ac hs=>?_
        refine s_q hs (c_addU (hs.ev rfl) (hs.ev rfl)) rfl fun ac hs=>?_
        refine s_q hs (c_idxA un262 ty25 (hs.ev rfl) (hs.ev rfl) rfl (by decide)) rfl fun ac hs=>?_
        refine s_q hs (c_loadS un25 rfl (hs.ev rfl) (hs.seg (i:=3) rfl) rfl) rfl fun ac hs=>?_
        refine zM hs fun ac hs=>?_
        refine s_q hs (c_addU (hs.ev rfl) (hs.ev rfl)) rfl fun ac hs=>?_
        refine s_q hs (c_idxA un262 ty25 (hs.ev rfl) (hs.ev rfl) rfl (by decide)) rfl fun ac hs=>?_
        refine s_q hs (c_loadS un25 rfl (hs.ev rfl) (hs.seg (i:=3) rfl) rfl) rfl fun ac hs=>?_
        refine zM hs fun ac hs=>?_
        refine s_q hs (c_addU (hs.ev rfl) (hs.ev rfl)) rfl fun ac hs=>?_
        refine s_q hs (c_idxA un262 ty25 (hs.ev rfl) (hs.ev rfl) rfl (by decide)) rfl fun ac hs=>?_
        refine s_q hs (c_loadS un25 rfl (hs.ev rfl) (hs.seg (i:=3) rfl) rfl) rfl fun ac hs=>?_
        refine zM hs fun ac hs=>?_
        refine s_q hs (c_addU (hs.ev rfl) (hs.ev rfl)) rfl fun ac hs=>?_
        refine s_q hs (c_idxA un262 ty25 (hs.ev rfl) (hs.ev rfl) rfl (by decide)) rfl fun ac hs=>?_
        refine s_q hs (c_loadS un25 rfl (hs.ev rfl) (hs.seg (i:=3) rfl) rfl) rfl fun ac hs=>?_
        refine zM hs fun ac hs=>?_
        refine s_q hs (c_addU (hs.ev rfl) (hs.ev rfl)) rfl fun ac hs=>?_
        refine s_q hs (c_idxA un262 ty25 (hs.ev rfl) (hs.ev rfl) rfl (by decide)) rfl fun ac hs=>?_
        refine s_q hs (c_loadS un25 rfl (hs.ev rfl) (hs.seg (i:=3) rfl) rfl) rfl fun ac hs=>?_
        refine zM hs fun ac hs=>?_
        refine s_q hs (c_addU (hs.ev rfl) (hs.ev rfl)) rfl fun ac hs=>?_
        refine s_q hs (c_buildA ty262 un262 ty25 (zc:=(comp h p).list.map U) (.cons (hs.ev rfl) (.cons (hs.ev rfl) (.cons (hs.ev rfl) (.cons (hs.ev rfl) (.cons (hs.ev rfl) (.cons (hs.ev rfl) (.cons (hs.ev rfl) (.cons (hs.ev rfl) .nil)))))))) (by simp [Value.cells]) (by simp [flatCells,Value.cells]) rfl) rfl fun ac hs=>?_
        refine s_storeW (i:=2) hs ty262 rfl rfl rfl (by simp) (by simp [Value.oneCell']) (by simp) fun ww hs=>?_
        refine s_end ?_
        replace hs:=hs.sub (F':=[(4,_)]) ⟨rfl,trivial⟩
        refine then_n (wp_ret ?_)
        refine s_ret hs rfl (.cell (hs.tmp rfl) (run_loadA ty262 rfl (hs.seg (i:=2) rfl) (List.take_of_length_le (by simp)) (by simp)) .nil) rfl ⟨_,rfl,hs.fr,?_⟩
        rfl
end Go.Proofs.YtklajbdbnnceiaaGreat
end

section
/- A sum under way. -/
namespace Go.Proofs.YtklajbdbnnceiaaGreat
open Go Go.Fw
open Sha
def ws (r:R) (rv:Value) (n:UInt64) (b:Int):List Value:=r.list.map U++[rv,V n,I b]
@[simp] theorem ws_length (r:R) (rv:Value) (n:UInt64) (b:Int):(ws r rv n b).length=11:=rfl
def hcells (a:List UInt8) (rv:Value):List Value:=ws (foldB first a (a.length / 64)) rv (UInt64.ofNat a.length) ((a.length / 64:Nat):Int)
def hash (g:Nat) (rv:Value) (a:List UInt8):List Ent:=[.seg g (hcells a rv) 272,.row rv (rest a).length ((rest a).map B) 5 1]
@[simp] theorem hcells_length (a:List UInt8) (rv:Value):(hcells a rv).length=11:=by simp [hcells,ws]
theorem sha_New  (w:World) :Ctr Tryz.prog 152 [] w (fun _=>False) (fun v w'=>∃ g,v=.pointer (some ⟨g,0,none⟩)∧Has w.heap.size w' (hash g (.slice none 0 0) [])):=by
  refine fn_start (N:=4) Tryz.func152 rfl rfl rfl fun ac hk=>?_
  have hs:=St.start hk w
  refine wp_seq (wp_reg ?_)
  refine zA hs fun ac hs=>?_
  refine s_end (then_n (wp_seq (wp_reg ?_)))
  refine s_q hs (c_buildA (zc:=first.list.map U) ty262 un262 ty25 (.cons (St.ev (v:=U 1779033703) hs rfl) (.cons (St.ev (v:=U 3144134277) hs rfl) (.cons (St.ev (v:=U 1013904242) hs rfl) (.cons (St.ev (v:=U 2773480762) hs rfl) (.cons (St.ev (v:=U 1359893119) hs rfl) (.cons (St.ev (v:=U 2600822924) hs rfl) (.cons (St.ev (v:=U 528734635) hs rfl) (.cons (St.ev (v:=U 1541459225) hs rfl) .nil)))))))) (by simp [Value.cells]) (by simp [flatCells,Value.cells]) rfl) rfl fun ac hs=>?_
  refine s_q hs (c_buildS (zc:=hcells [] (.slice none 0 0)) ty272 bp272 (.cons (hs.ev rfl) .nil) ⟨rfl,trivial⟩ (by simp [flatCells,Value.cells]) rfl) rfl fun ac hs=>?_
  refine s_box hs rfl rfl rfl fun ac ww g3 hs=>?_
  refine zA hs fun ac hs=>?_
  refine s_end ?_
  replace hs:=hs.sub (F':=[(0,_)]) ⟨rfl,trivial⟩
  refine then_n (wp_ret ?_)
  replace hs:=(hs.nilrow 5 1).perm (L':=hash g3 (.slice none 0 0) []) (by unfold hash; exact List.Perm.swap _ _ _)
  refine s_ret hs rfl (.tmp (hs.tmp rfl) .nil) rfl ⟨_,rfl,hs.fr,?_⟩
  exact ⟨g3,rfl,hs.made⟩
theorem w_start {g:Nat} {v:Value} {a p:List UInt8} (h:a.length + p.length≤140737488355328) {b:Int}:[Ent.seg g (ws (foldB first a (a.length / 64)) v (UInt64.ofNat a.length + i64 (p.length:Int)) b) 272,.row v (rest a++p).length ((rest a++p).map B) 5 1] =
    [Ent.seg g (ws (foldB first (a++p) (a.length / 64)) v (UInt64.ofNat (a++p).length) b) 272,.row v ((a++p).drop (64 * (a.length / 64))).length (((a++p).drop (64 * (a.length / 64))).map B) 5 1]:=by
  rw [u64_app a p (by omega),foldB_app _ _ _ _ (by omega),List.drop_append_of_le_length (by omega),rest]
theorem w_next {g:Nat} {ad:Option Addr} {cap:Nat} {l:List UInt8} {k:Nat}:[Ent.seg g (ws (comp (foldB first l k) (l.drop (64 * k))) (.slice ad ([]++(l.drop (64 * k)).drop 64).length cap) (UInt64.ofNat l.length) ((k:Int) + 1)) 272,.row (.slice ad ([]++(l.drop (64 * k)).drop 64).length cap) ([]++(l.drop (64 * k)).drop 64).length (([]++(l.drop (64 * k)).drop 64).map B) 5 1] =
    [Ent.seg g (ws (foldB first l (k + 1)) (.slice ad ([]++(l.drop (64 * k)).drop 64).length cap) (UInt64.ofNat l.length) ((k + 1:Nat):Int)) 272,.row (.slice ad ([]++(l.drop (64 * k)).drop 64).length cap) (l.drop (64 * (k + 1))).length ((l.drop (64 * (k + 1))).map B) 5 1]:=by
  rw [show l.drop (64 * (k + 1))=[]++(l.drop (64 * k)).drop 64 from by rw [List.nil_append,List.drop_drop]; rfl]
  rfl
theorem w_end {g:Nat} {v:Value} {l:List UInt8} {k:Nat} (h:k=l.length / 64):[Ent.seg g (ws (foldB first l k) v (UInt64.ofNat l.length) (k:Int)) 272,.row v (l.drop (64 * k)).length ((l.drop (64 * k)).map B) 5 1]=hash g v l:=by
  subst h; rfl
theorem hash_get {w:World} {g:Nat} {rv:Value} {a:List UInt8} (h:Has 0 w (hash g rv a)):w.heap[g]?=some (.cells (hcells a rv).toArray 272 (0,0))∧RdB w rv (rest a) :=
  ⟨h.holds _ (by simp [hash]:Ent.seg g (hcells a rv) 272∈hash g rv a),RdB.row (h.holds _ (by simp [hash]:Ent.row rv (rest a).length ((rest a).map B) 5 1∈hash g rv a))⟩
theorem sha_Write (a p:List UInt8) (g:Nat) (rv pv:Value) (hle:a.length + p.length≤140737488355328) (w:World) (hh:Has 0 w (hash g rv a)) (hq:RdB w pv p) (hpM:p ≠ []→∀ k,pv.ownBlock=some k→¬ (Ent.grp (hash g rv a)).keys k):Ctr Tryz.prog 153 [.pointer (some ⟨g,0,none⟩),pv] w (Ent.grp (hash g rv a)).keys (fun _ w'=>∃ rv',Has 0 w' (hash g rv' (a++p))∧∀ k,(Ent.grp (hash g rv' (a++p))).keys k→(Ent.grp (hash g rv a)).keys k∨w.heap.size≤k):=by
  obtain ⟨pad,pcap,rfl,hpc,hpm⟩:=Rd.sl hq
  refine fn_start (N:=60) Tryz.func153 rfl rfl rfl fun ac hk=>?_
  have hs:=St.startG hk hh
  refine wp_seq (wp_seq (wp_reg ?_))
  refine zM hs fun ac hs=>?_
  refine s_q hs (c_eqlNil un256 (hs.ev rfl) (hs.ev rfl)) rfl fun ac hs=>?_
  refine s_end ?_
  replace hs:=hs.sub (F':=[(0,_),(1,_),(5,_)]) ⟨rfl,rfl,rfl,trivial⟩
  refine then_n ?_
  refine wp_cond_false (hs.ev rfl) ?_
  refine wp_skip (then_n (wp_seq (wp_reg ?_)))
  refine zM hs fun ac hs=>?_
  refine s_q hs (c_nil (hs.ev rfl)) rfl fun ac hs=>?_
  refine s_q hs (c_fld fl272_2 (hs.ev rfl)) rfl fun ac hs=>?_
  refine s_q hs (c_loadS un124 rfl (hs.ev rfl) (hs.seg (i:=0) rfl) rfl) rfl fun ac hs=>?_
  refine zM hs fun ac hs=>?_
  refine s_q hs (c_lenS un177 (hs.ev rfl)) rfl fun ac hs=>?_
  refine s_q hs (c_cvIV un3 un124 (hs.ev rfl)) rfl fun ac hs=>?_
  refine s_q hs (c_addV (hs.ev rfl) (hs.ev rfl)) rfl fun ac hs=>?_
  refine s_q hs (c_nil (hs.ev rfl)) rfl fun ac hs=>?_
  refine s_q hs (c_fld fl272_2 (hs.ev rfl)) rfl fun ac hs=>?_
  refine s_store (i:=0) hs ty124 rfl rfl rfl rfl rfl rfl (by simp) (show _=ws (foldB first a (a.length / 64)) (rv) (UInt64.ofNat a.length + i64 (p.length:Int)) (((a.length / 64:Nat):Int)) from rfl) fun ww hs=>?_
  refine s_end ?_
  replace hs:=hs.sub (F':=[(0,_),(1,_)]) ⟨rfl,rfl,trivial⟩
  refine then_n (wp_seq (wp_reg ?_))
  refine zM hs fun ac hs=>?_
  refine zM hs fun ac hs=>?_
  refine s_q hs (c_nil (hs.ev rfl)) rfl fun ac hs=>?_
  refine s_q hs (c_fld fl272_1 (hs.ev rfl)) rfl fun ac hs=>?_
  refine s_q hs (c_loadS un177 rfl (hs.ev rfl) (hs.seg (i:=0) rfl) rfl) rfl fun ac hs=>?_
  refine zM hs fun ac hs=>?_
  refine s_appB (i:=1) hs un177 ty5 rfl rfl rfl (hq.fr' hs.fr hpM) (by rw [rest_length]; omega) rfl fun ac ww v22 hf hnil hs=>?_
  obtain ⟨ad22,cap22,rfl,_,_⟩:=Rd.sl (RdB.row (hs.get (i:=1) rfl))
  refine s_q hs (c_nil (hs.ev rfl)) rfl fun ac hs=>?_
  refine s_q hs (c_fld fl272_1 (hs.ev rfl)) rfl fun ac hs=>?_
  refine s_store (i:=0) hs ty177 rfl rfl rfl rfl rfl rfl (by simp) (show _=ws (foldB first a (a.length / 64)) (_) (UInt64.ofNat a.length + i64 (p.length:Int)) (((a.length / 64:Nat):Int)) from rfl) fun ww hs=>?_
  refine s_end ?_
  replace hs:=hs.sub (F':=[(0,_)]) ⟨rfl,trivial⟩
  refine then_n (wp_block ?_)
  refine s_loop hs (X:=Nat × Value) (fun _=>[]) [(0,_)] (fun x=>[.seg g (ws (foldB first (a++p) x.1) x.2 (UInt64.ofNat (a++p).length) (x.1:Int)) 272,.row x.2 ((a++p).drop (64 * x.1)).length (((a++p).drop (64 * x.1)).map B) 5 1]) (fun n x=>64 * x.1≤(a++p).length∧n=(a++p).length / 64 - x.1) (_) ((a.length / 64,_)) (⟨by simp only [List.length_append]; omega,rfl⟩) ⟨rfl,trivial⟩ (w_start hle) ?_
  rintro n ⟨k,rv⟩ ac ww hok hs
  simp only [List.cons_append,List.nil_append] at hs
  obtain ⟨hk,rfl⟩:=hok
  simp only at hk hs
  obtain ⟨rad,rcap,rfl,hrc,hrm⟩:=Rd.sl (RdB.row (hs.get (i:=1) rfl))
  have hll:(a++p).length≤140737488355328:=by simp only [List.length_append]; omega
  have hdl:((a++p).drop (64 * k)).length=(a++p).length - 64 * k:=List.length_drop
  refine wp_seq (wp_seq (wp_reg ?_))
  refine zM hs fun ac hs=>?_
  refine s_q hs (c_nil (hs.ev rfl)) rfl fun ac hs=>?_
  refine s_q hs (c_fld fl272_1 (hs.ev rfl)) rfl fun ac hs=>?_
  refine s_q hs (c_loadS un177 rfl (hs.ev rfl) (hs.seg (i:=0) rfl) rfl) rfl fun ac hs=>?_
  refine s_q hs (c_lenS un177 (hs.ev rfl)) rfl fun ac hs=>?_
  refine s_q hs (c_geqI (hs.ev rfl) (hs.ev rfl)) rfl fun ac hs=>?_
  refine s_end (then_n ?_)
  refine s_cond hs rfl (fun hc=>?_) (fun hc=>?_)
  · try simp only [z1,z2,z3,z4,z5,z6,z7] at hc
    refine wp_skip (then_n (wp_block (wp_seq ?_)))
    refine wp_region_rg pmix 12 (by kernel_rfl) rfl hs ?_
    simp only [List.take_succ_cons,List.take_zero]
    refine rg_q (fun ac ww h=>c_move (h.ev rfl)) rfl ?_
    refine rg_q (fun ac ww h=>c_move (h.ev rfl)) rfl ?_
    refine rg_q (fun ac ww h=>c_nil (h.ev rfl)) rfl ?_
    refine rg_q (fun ac ww h=>c_fld fl272_0 (h.ev rfl)) rfl ?_
    refine rg_q (fun ac ww h=>c_loadA ty262 rfl (h.ev rfl) (h.blk (hs.seg (i:=0) rfl)) rfl (by simp)) rfl ?_
    refine rg_q (fun ac ww h=>c_move (h.ev rfl)) rfl ?_
    refine rg_q (fun ac ww h=>c_nil (h.ev rfl)) rfl ?_
    refine rg_q (fun ac ww h=>c_fld fl272_1 (h.ev rfl)) rfl ?_
    refine rg_q (fun ac ww h=>c_loadS un177 rfl (h.ev rfl) (h.blk (hs.seg (i:=0) rfl)) rfl) rfl ?_
    refine rg_call fu165 (fun ac ww h=>(.cons (h.ev rfl) (.cons (h.ev rfl) .nil))) (fun ww hf=>sha_mix (foldB first (a++p) k) ((a++p).drop (64 * k)) _ (by omega) ww ((RdB.row (hs.get (i:=1) rfl)).fr0 hf)) rfl ?_
    refine rg_q (fun ac ww h=>c_nil (h.ev rfl)) rfl ?_
    refine rg_q (fun ac ww h=>c_fld fl272_0 (h.ev rfl)) rfl ?_
    refine rg_nil fun ac ww L' hf hfe hs=>?_
    simp only [List.drop_succ_cons,List.drop_zero]
    obtain rfl:L'=[]:=hfe
    replace hs:=hs.toL (List.nil_append _)
    refine s_store (i:=0) hs ty262 rfl rfl rfl (show _=(comp (foldB first (a++p) k) ((a++p).drop (64 * k))).list.map U from rfl) (by simp) (all_map_U _) (by simp) (show _=ws (comp (foldB first (a++p) k) ((a++p).drop (64 * k))) (_) (UInt64.ofNat (a++p).length) ((k:Int)) from rfl) fun ww hs=>?_
    refine s_end (then_n (wp_seq (wp_reg ?_)))
    refine zM hs fun ac hs=>?_
    refine s_bslice hs un177 ty5 .nil rfl (by simp [Value.cells]) (by decide) rfl rfl fun ac ww g44 hs=>?_
    refine zM hs fun ac hs=>?_
    refine s_q hs (c_nil (hs.ev rfl)) rfl fun ac hs=>?_
    refine s_q hs (c_fld fl272_1 (hs.ev rfl)) rfl fun ac hs=>?_
    refine s_q hs (c_loadS un177 rfl (hs.ev rfl) (hs.seg (i:=1) rfl) rfl) rfl fun ac hs=>?_
    refine s_q hs (c_sliceL (i:=64) un177 ty5 (hs.ev rfl) (hs.ev rfl) (by omega) (by omega)) rfl fun ac hs=>?_
    replace hs:=hs.segrow (i:=0) (n:=0) (sz:=1) rfl rfl (by decide)
    refine s_appB (i:=0) (l:=[]) hs un177 ty5 rfl rfl rfl (RdB.cut (i:=64) (RdB.row (hs.get (i:=2) rfl)) (by omega)) (by simp; omega) rfl fun ac ww v50 hf hnil hs=>?_
    obtain ⟨ad50,cap50,rfl,_,_⟩:=Rd.sl (RdB.row (hs.get (i:=0) rfl))
    refine s_q hs (c_nil (hs.ev rfl)) rfl fun ac hs=>?_
    refine s_q hs (c_fld fl272_1 (hs.ev rfl)) rfl fun ac hs=>?_
    refine s_store (i:=1) hs ty177 rfl rfl rfl rfl rfl rfl (by simp) (show _=ws (comp (foldB first (a++p) k) ((a++p).drop (64 * k))) (_) (UInt64.ofNat (a++p).length) ((k:Int)) from rfl) fun ww hs=>?_
    refine s_end (then_n (wp_reg ?_))
    refine zM hs fun ac hs=>?_
    refine s_q hs (c_nil (hs.ev rfl)) rfl fun ac hs=>?_
    refine s_q hs (c_fld fl272_3 (hs.ev rfl)) rfl fun ac hs=>?_
    refine s_q hs (c_loadS un3 rfl (hs.ev rfl) (hs.seg (i:=1) rfl) rfl) rfl fun ac hs=>?_
    refine s_q hs (c_addI (hs.ev rfl) (hs.ev rfl) (by omega) (by omega)) rfl fun ac hs=>?_
    refine s_q hs (c_nil (hs.ev rfl)) rfl fun ac hs=>?_
    refine s_q hs (c_fld fl272_3 (hs.ev rfl)) rfl fun ac hs=>?_
    refine s_store (i:=1) hs ty3 rfl rfl rfl rfl rfl rfl (by simp) (show _=ws (comp (foldB first (a++p) k) ((a++p).drop (64 * k))) (_) (UInt64.ofNat (a++p).length) ((k:Int) + 1) from rfl) fun ww hs=>?_
    refine s_end (blk_n (then_n ?_))
    replace hs:=(hs.pick (L':=[_,_]) (.cons_cons _ (.cons_cons _ (.cons _ .slnil)))).perm (List.Perm.swap _ _ _)
    exact ⟨(a++p).length / 64 - (k + 1),by rw [hdl] at hc; omega,(k + 1,_),⟨by rw [hdl] at hc; simp only; omega,rfl⟩,St.next hs ⟨rfl,trivial⟩ w_next⟩
  · try simp only [z1,z2,z3,z4,z5,z6,z7] at hc
    have hkk:k=(a++p).length / 64:=by rw [hdl] at hc; omega
    refine wp_exit (then_e (then_e (blk_hit ?_)))
    refine s_ret_end hs rfl .nil rfl ⟨_,rfl,hs.fr,?_⟩
    exact ⟨_,(hs.toL (w_end hkk)).grp⟩
end Go.Proofs.YtklajbdbnnceiaaGreat
end
