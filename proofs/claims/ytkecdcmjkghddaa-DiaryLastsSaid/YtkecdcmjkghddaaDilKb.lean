/- Own texts of this seat,laid together for one claim (with what its proof uses alone). -/
import Derived.Test.YtkecdcmjkghddaaDilKa
set_option linter.unusedSimpArgs false
set_option linter.unusedVariables false
set_option maxRecDepth 100000
set_option maxHeartbeats 4000000
section
/- Openings of rows of anything that is opened by itself; claims,and an int ahead of a claim,in rows. -/
namespace Go.Fw
open Go Go.ChangeShapes Go.WideShapes Go.ChangeAt Go.RowKit
section
variable {H:Type} {enc:TypeId × Value→H} {P:Program} {w:World} {base:Nat} {spare:Nat→Bool} {held:Bool} {fuel:Nat} {t e u:TypeId} {cs:List Value} {x:DataW H × List MemPlace} {v:Value} {d:DataW H} {ps:List MemPlace} {r:Reach} {b0:Nat}
theorem trodG {α:Type} [Inhabited α] {f:α→List Value} {p:α→Prop} {m:Nat} (ht:P.underlying t=some (.slice e)) (hce:P.cellsOf e=m) (hm0:0 < m)
    (op1:∀ fu (cs:List Value) x,DataW.trod enc P w base spare held fu e cs=some x→∃ y:α,cs=f y∧(f y).length=m∧p y)
    (h:DataW.trod enc P w base spare held fuel t cs=some x):∃ (v:Value) (l:List α),cs=[v]∧(∀ y∈l,(f y).length=m∧p y)∧Rd w v l.length (l.flatMap f):=by
  rcases Deep.open_slice ht h with ⟨h1,h2⟩ | ⟨a,len,cap,q,n,D,Pl,h1,hb,hl,hm,hmm,h2,hx⟩
  · exact ⟨_,[],h1,by simp,⟨none,0,rfl,Nat.le_refl _,Nat.zero_le _,fun _=>rfl,.inl rfl⟩⟩
  · have hlm:len≤q:=by rw [hmm]; split <;> omega
    have each:∀ i,i < len→∃ y:α,((f y).length=m∧p y)∧∀ j,j < m→w.cell? ((a.add (i * m)).add j)=(f y)[j]?:=fun i hi=>by
      obtain ⟨cs',h3,h4⟩:=hx i (by omega)
      rw [hce] at h3
      obtain ⟨y,rfl,hl2,hp2⟩:=op1 _ _ _ h4
      exact ⟨y,⟨hl2,hp2⟩,fun j hj=>(World.cells?_some h3).2.2 j hj⟩
    obtain ⟨F,hF⟩:=Deep.choose_lt (α:=α) (p:=fun i y=>((f y).length=m∧p y)∧∀ j,j < m→w.cell? ((a.add (i * m)).add j)=(f y)[j]?) each
    have hfl:∀ k,k≤len→((List.range k).flatMap fun i=>f (F i)).length=k * m∧∀ i j,i < k→j < m→((List.range k).flatMap fun i=>f (F i))[i * m + j]?=(f (F i))[j]?:=by
      intro k
      induction k with
      | zero=>intro _; exact ⟨by simp,fun i j hi _=>by omega⟩
      | succ k ih =>
        intro hk
        obtain ⟨ih1,ih2⟩:=ih (by omega)
        have hk1:=(hF k (by omega)).1.1
        rw [List.range_succ,List.flatMap_append]
        simp only [List.flatMap_cons,List.flatMap_nil,List.append_nil]
        refine ⟨by rw [List.length_append,ih1,hk1,Nat.succ_mul],fun i j hi hj=>?_⟩
        by_cases e:i=k
        · subst e
          rw [List.getElem?_append_right (by omega),ih1,Nat.add_sub_cancel_left]
        · have hle:(i + 1) * m≤k * m:=Nat.mul_le_mul_right _ (by omega)
          rw [Nat.succ_mul] at hle
          rw [List.getElem?_append_left (by omega),ih2 i j (by omega) hj]
    obtain ⟨hf1,hf2⟩:=hfl len (Nat.le_refl _)
    have hfm:((List.range len).map F).flatMap f=(List.range len).flatMap fun i=>f (F i):=by rw [List.flatMap_map]
    refine ⟨_,(List.range len).map F,h1,fun y hy=>?_,some a,cap,by simp,by simpa using hl,hm,(fun h=>by cases h),?_⟩
    · obtain ⟨i,hi,rfl⟩:=List.mem_map.1 hy
      exact (hF i (List.mem_range.1 hi)).1
    rw [hfm]
    by_cases hp:len=0
    · left; subst hp; rfl
    · right
      have hsp:a.spot=none:=by
        have h5:=(hF 0 (by omega)).2 0 hm0
        have h6:=(hF 0 (by omega)).1.1
        rw [List.getElem?_eq_getElem (by omega)] at h5
        have:=World.cell?_spot h5
        have e0:(a.add (0 * m)).add 0=a:=by rw [Nat.zero_mul]; obtain ⟨b,o,s⟩:=a; cases s <;> simp [Addr.add]
        rw [e0] at this
        exact this
      obtain ⟨b,o,T,fr,all,rfl,h5,h6⟩:=row_of (w:=w) (a:=a) (cs:=(List.range len).flatMap fun i=>f (F i)) (n:=len * m) (Nat.mul_pos (by omega) hm0) hf1 (fun i hi=>by
        have hdiv:i / m < len:=Nat.div_lt_of_lt_mul (by rw [Nat.mul_comm]; exact hi)
        have hmod:=Nat.mod_lt i hm0
        have h7:=(hF (i / m) hdiv).2 (i % m) hmod
        rw [add_add _ _ _ hsp,Nat.div_add_mod'] at h7
        rw [h7,← hf2 (i / m) (i % m) hdiv hmod,Nat.div_add_mod'])
      exact ⟨b,o,T,fr,all,rfl,h5,h6⟩
theorem opSG {α:Type} [Inhabited α] {f:α→List Value} {p:α→Prop} {m:Nat} (ht:P.underlying t=some (.slice e)) (hce:P.cellsOf e=m) (hm0:0 < m)
    (op1:∀ fu (cs:List Value) x,DataW.trod enc P w base spare held fu e cs=some x→∃ y:α,cs=f y∧(f y).length=m∧p y)
    (hval:Value.okWide P w r b0 t v) (hd:DataW.Trod enc P w base spare held t v d ps):∃ l:List α,(∀ y∈l,(f y).length=m∧p y)∧Rd w v l.length (l.flatMap f):=by
  obtain ⟨a,len,cap,rfl⟩:=okWide_slice ht hval
  obtain ⟨fu,hf⟩:=hd
  obtain ⟨v2,l,he,hp,hr⟩:=trodG ht hce hm0 op1 (by simpa [Value.cells] using hf)
  obtain rfl:_=v2:=by simpa using he
  exact ⟨l,hp,hr⟩
end
end Go.Fw
end

section
/- Regions that draw their order and hold one call that turns what was there,once: as Fw43,but that the call is known to find all as it was. -/
namespace Go.FwO
open Go
open Go.Fw hiding factsC factsE addC addE fresh DV Links factsC_src factsE_src RC Meets Ob RG Inv
open Go.FwK (FrK DV addC addE fresh factsC factsE factsC_src factsE_src Has.newK DV.ok_stable Links)
structure RC (Fk:World→World→Prop) (c:Nat) (N:Nat) (Fc:List (Nat × Value)) (Fe:Fes) (o:Oper) (B1:Nat) (w1:World) (a:Act) (w:World):Prop where
  know:Know N Fc a
  fr:Fk w1 w
  fr0:o.dst=some c→Fr0 w1 w
  ents:∀ n E,lookE Fe n=some E→(tmpsOf o).any (Nat.beq n)=true→∃ v L',a.tmps[n]?=some v∧E v L' w∧Has B1 w L'
def Meets {Fk:World→World→Prop} (c:Nat) (o:Oper) (D:DV Fk) (w:World) (v:Value) (w':World):Prop:=∃ L',D.ok v L' w'∧Fk w w'∧(o.dst ≠ some c→Fr0 w w')∧Has w.heap.size w' L'
def Ob {Fk:World→World→Prop} (c:Nat) (P:Program) (ops:Array Oper) (N:Nat) (B1:Nat) (w1:World) (Fc:List (Nat × Value)) (Fe:Fes) (o:Oper) (D:DV Fk):Prop :=
  ((wantedAs ops Fc o=some true∧∀ a w,RC Fk c N Fc Fe o B1 w1 a w→Yl P (Meets c o D w) ((execOp a.eval o).run P w))∨(wantedAs ops Fc o=some false∧D=.c undef)) ∧
  (needQ o=true→∃ v,∀ a w,RC Fk c N Fc Fe o B1 w1 a w→(execOp a.eval o).run P w=.ok (.value v) w)
def RG (Fk:World→World→Prop) (c:Nat) (P:Program) (ops:Array Oper) (N B1:Nat) (w1:World) (K:List (Nat × Value)→Fes→Prop):List (Nat × Value)→Fes→List Oper→Prop
  | Fc,Fe,[]=>K Fc Fe
  | Fc,Fe,o::rest=>∃ (d:Nat) (D:DV Fk),o.dst=some d∧Ob c P ops N B1 w1 Fc Fe o D∧fresh Fc Fe d D∧RG Fk c P ops N B1 w1 K (addC Fc d D) (addE Fe d D) rest
theorem RG.parts {Fk:World→World→Prop} {c:Nat} {P:Program} {opsA:Array Oper} {N B1:Nat} {w1:World} {K:List (Nat × Value)→Fes→Prop} (Fc0:List (Nat × Value)):∀ (rest pre:List Oper) (Ds:List (DV Fk)),pre.length=Ds.length →
    RG Fk c P opsA N B1 w1 K (factsC (pre++rest) Ds Fc0 pre.length) (factsE (pre++rest) Ds pre.length) rest →
    ∃ Ds':List (DV Fk),(Ds++Ds').length=(pre++rest).length∧K (factsC (pre++rest) (Ds++Ds') Fc0 (pre++rest).length) (factsE (pre++rest) (Ds++Ds') (pre++rest).length) ∧
      ∀ i o,pre.length≤i→(pre++rest)[i]?=some o→∃ (d:Nat) (D:DV Fk),o.dst=some d∧(Ds++Ds')[i]?=some D∧Ob c P opsA N B1 w1 (factsC (pre++rest) (Ds++Ds') Fc0 i) (factsE (pre++rest) (Ds++Ds') i) o D ∧
        fresh (factsC (pre++rest) (Ds++Ds') Fc0 i) (factsE (pre++rest) (Ds++Ds') i) d D
  | [],pre,Ds,hl,h=>by
    refine ⟨[],by simp [hl],?_,fun i o hi ho=>?_⟩
    · simpa [RG] using h
    · simp at ho
      have:=(List.getElem?_eq_some_iff.1 ho).1
      omega
  | o::rest,pre,Ds,hl,h=>by
    obtain ⟨d,D,hd,hob,hfr,hk⟩:=h
    have ext:∀ (X Y:List (DV Fk)) (i:Nat),i≤X.length→factsC (pre++o::rest) (X++Y) Fc0 i=factsC (pre++o::rest) X Fc0 i∧factsE (pre++o::rest) (X++Y) i=factsE (pre++o::rest) X i:=by
      intro X Y i
      induction i with
      | zero=>intro _; exact ⟨rfl,rfl⟩
      | succ i ih =>
        intro hi
        have h1:=ih (by omega)
        have h2:(X++Y)[i]?=X[i]?:=List.getElem?_append_left (by omega)
        simp only [factsC,factsE,h2,h1.1,h1.2]
        exact ⟨trivial,trivial⟩
    have hget:(pre++o::rest)[pre.length]?=some o:=by simp
    have e1:=ext Ds [D] pre.length (by omega)
    have hDget:(Ds++[D])[pre.length]?=some D:=by rw [hl]; simp
    have hc:factsC (pre++o::rest) (Ds++[D]) Fc0 (pre.length + 1)=addC (factsC (pre++o::rest) Ds Fc0 pre.length) d D:=by
      simp only [factsC,hget,hDget,hd,e1.1]
    have he:factsE (pre++o::rest) (Ds++[D]) (pre.length + 1)=addE (factsE (pre++o::rest) Ds pre.length) d D:=by
      simp only [factsE,hget,hDget,hd,e1.2]
    have heq:pre++o::rest=(pre++[o])++rest:=by simp
    have hk':RG Fk c P opsA N B1 w1 K (factsC ((pre++[o])++rest) (Ds++[D]) Fc0 (pre++[o]).length) (factsE ((pre++[o])++rest) (Ds++[D]) (pre++[o]).length) rest:=by
      rw [← heq,show (pre++[o]).length=pre.length + 1 by simp,hc,he]
      exact hk
    obtain ⟨Ds',hl',hK',hall⟩:=RG.parts Fc0 rest (pre++[o]) (Ds++[D]) (by simp [hl]) hk'
    rw [← heq] at hl' hK' hall
    rw [List.append_assoc] at hl' hK' hall
    refine ⟨[D]++Ds',hl',hK',fun i o' hi ho'=>?_⟩
    by_cases hip:i=pre.length
    · subst hip
      rw [hget] at ho'
      obtain rfl:=Option.some.inj ho'
      have e2:=ext Ds ([D]++Ds') pre.length (by omega)
      refine ⟨d,D,hd,?_,?_,?_⟩
      · rw [List.getElem?_append_right (by omega)]
        simp [hl]
      · rw [e2.1,e2.2]; exact hob
      · rw [e2.1,e2.2]; exact hfr
    · exact hall i o' (by simp; omega) ho'
section
variable {c:Nat} {P:Program} {l:List Oper} {n N B1:Nat} {w1:World} {Fc0:List (Nat × Value)} {Fk:World→World→Prop} {Ds:List (DV Fk)} {Q:Exit→Act→World→Prop} {late:List Nat}
/-! the head: any order -/
structure Inv {Fk:World→World→Prop} (c:Nat) (l:List Oper) (n N B1:Nat) (w1:World) (Fc0:List (Nat × Value)) (Ds:List (DV Fk)) (vals:Nat→Value) (ents:Nat→List Ent) (listed:Array Bool) (a:Act) (w:World):Prop where
  size:listed.size=l.length
  know:a.tmps.size=N∧a.defers=[]
  done:∀ j d D,j < n→listed.getD j false=true→dstAt l.toArray j=some d→Ds[j]?=some D→a.tmps[d]?=some (vals j)∧D.ok (vals j) (ents j) w
  base:∀ s v,Fw.look Fc0 s=some v→(∀ j,j < n→listed.getD j false=true→dstAt l.toArray j ≠ some s)→a.tmps[s]?=some v
  has:Has B1 w ((List.range n).flatMap fun j=>if listed.getD j false=true then ents j else [])
  fr:Fk w1 w
  fr0:(∀ j,j < n→listed.getD j false=true→dstAt l.toArray j ≠ some c)→Fr0 w1 w
  tail:∀ t,n≤t→listed.getD t false=false
  closed:∀ j o,l[j]?=some o→listed.getD j false=true→∀ e∈o.after,Region.binds .any e=true→listed.getD e.on false=true
  links:∀ j o s,j < n→l[j]?=some o→listed.getD j false=true→opnd o=some s→safeB l.toArray n j s=true→LinkV o (a.tmps.getD s undef) (vals j)
theorem Inv.step0 (hF:FrK Fk B1) {vals:Nat→Value} {ents:Nat→List Ent} {listed:Array Bool} {a:Act} {w:World} {i:Nat} {o:Oper} (hok:RgOk l.toArray n late) (hl:Ds.length=n)
    (hparts:∀ i o,i < n→l[i]?=some o→∃ (d:Nat) (D:DV Fk),o.dst=some d∧Ds[i]?=some D∧Ob c P l.toArray N B1 w1 (factsC (l.take n) Ds Fc0 i) (factsE (l.take n) Ds i) o D∧fresh (factsC (l.take n) Ds Fc0 i) (factsE (l.take n) Ds i) d D)
    (hN:∀ i o d,i < n→l[i]?=some o→o.dst=some d→d < N) (hB:B1≤w1.heap.size)
    (inv:Inv c l n N B1 w1 Fc0 Ds vals ents listed a w) (hi:i < n) (hr:i∈Region.ready .any l.toArray listed)
    (hol:l[i]?=some o) :
    (Region.wanted o (yielded l.toArray a.tmps)=true∧Yl P (fun v w'=>∃ L',Inv c l n N B1 w1 Fc0 Ds (fun j=>if j=i then v else vals j) (fun j=>if j=i then L' else ents j) (listed.setIfInBounds i true) (a.put o.dst v) w') ((execOp a.eval o).run P w)∧(needQ o=true→∃ v,(execOp a.eval o).run P w=.ok (.value v) w)) ∨
    (Region.wanted o (yielded l.toArray a.tmps)=false∧Inv c l n N B1 w1 Fc0 Ds (fun j=>if j=i then undef else vals j) (fun j=>if j=i then [] else ents j) (listed.setIfInBounds i true) (a.put o.dst undef) w):=by
  obtain ⟨hun,o',ho,hall⟩:=mem_ready.1 hr
  have hil:i < l.length:=by have:=hok.le; simp at this; omega
  have hol':l[i]?=some o':=by simpa using ho
  rw [hol] at hol'
  obtain rfl:=Option.some.inj hol'
  have hunf:listed.getD i false=false:=by rw [← getD_both_iff (by rw [inv.size]; exact hil)]; exact hun
  obtain ⟨d,D,hd,hD,hob,hfr⟩:=hparts i o hi hol
  have hdi:dstAt l.toArray i=some d:=by simp [dstAt,hol,hd]
  -- the slots, as the text has them
  have hds:∃ ds:Nat→Nat,∀ j,j < n→dstAt l.toArray j=some (ds j):=by
    refine ⟨fun j=>(dstAt l.toArray j).getD 0,fun j hj=>?_⟩
    have hjl:j < l.length:=by have:=hok.le; simp at this; omega
    obtain ⟨d',hd'⟩:=hok.dst j l[j] (by simp [hjl]) hj
    simp [dstAt,hjl,hd']
  obtain ⟨ds,hds⟩:=hds
  have htake:(l.take n).length=n:=by have:=hok.le; simp at this; simp [this]
  have hds':∀ j o,(l.take n)[j]?=some o→o.dst=some (ds j):=by
    intro j o' hj
    have hjn:j < n:=by have:=(List.getElem?_eq_some_iff.1 hj).1; omega
    rw [List.getElem?_take_of_lt hjn] at hj
    have:=hds j hjn
    simpa [dstAt,hj] using this
  have hfr':∀ j o D,(l.take n)[j]?=some o→Ds[j]?=some D→fresh (factsC (l.take n) Ds Fc0 j) (factsE (l.take n) Ds j) (ds j) D:=by
    intro j o' D' hj hDj
    have hjn:j < n:=by have:=(List.getElem?_eq_some_iff.1 hj).1; omega
    have hj':=hj
    rw [List.getElem?_take_of_lt hjn] at hj'
    obtain ⟨d2,D2,h1,h2,_,h4⟩:=hparts j o' hjn hj'
    rw [hDj] at h2
    obtain rfl:=Option.some.inj h2
    have:=hds' j o' hj
    rw [h1] at this
    obtain rfl:=Option.some.inj this
    exact h4
  have listed_of:∀ j s,j < n→j ≠ i→s∈looks l.toArray o→dstAt l.toArray j=some s→(j < i∧listed.getD j false=true)∨(i < j∧listed.getD j false=false):=by
    intro j s hj hne hs hdj
    rcases hok.use i o s j ho hi hs hj hne hdj with ⟨h1,h2⟩ | ⟨h1,oj,h2,h3⟩
    · obtain ⟨e,he,hb,hon⟩:=waits_spec h2
      exact .inl ⟨h1,hon ▸ hall e he hb⟩
    · refine .inr ⟨h1,?_⟩
      obtain ⟨e,he,hb,hon⟩:=waits_spec h3
      cases hj2:listed.getD j false with
      | false=>rfl
      | true =>
        have:=inv.closed j oj (by simpa using h2) hj2 e he hb
        rw [hon,hunf] at this
        cases this
  have valueC:∀ s v,s∈looks l.toArray o→Fw.look (factsC (l.take n) Ds Fc0 i) s=some v→a.tmps[s]?=some v:=by
    intro s v hs hv
    rcases factsC_src (Fc0:=Fc0) hds' (by rw [hl,htake]) hfr' i (by omega) s v hv with ⟨j,hj,h1,h2⟩ | ⟨h1,h2⟩
    · have hjn:j < n:=by omega
      rcases listed_of j s hjn (by omega) hs (by rw [hds j hjn,h1]) with ⟨_,h3⟩ | ⟨h3,_⟩
      · obtain ⟨h4,h5⟩:=inv.done j s _ hjn h3 (by rw [hds j hjn,h1]) h2
        rw [h4,h5.1]
      · omega
    · refine inv.base s v h1 fun j hjn hj2 hdj=>?_
      by_cases hji:j=i
      · subst hji; rw [hunf] at hj2; cases hj2
      · rcases listed_of j s hjn hji hs hdj with ⟨h3,_⟩ | ⟨_,h3⟩
        · rw [hds j hjn] at hdj
          exact h2 j h3 (Option.some.inj hdj)
        · rw [h3] at hj2; cases hj2
  have hwant:∀ b,wantedAs l.toArray (factsC (l.take n) Ds Fc0 i) o=some b→Region.wanted o (yielded l.toArray a.tmps)=b:=by
    intro b hb
    unfold wantedAs at hb
    unfold Region.wanted
    cases hg:o.guard with
    | none=>rw [hg] at hb; simpa using hb
    | some gw =>
      obtain ⟨j,wt⟩:=gw
      rw [hg] at hb
      dsimp only at hb ⊢
      cases hs:(l.toArray[j]?).bind (·.dst) with
      | none=>rw [hs] at hb; simp at hb
      | some s =>
        rw [hs] at hb
        simp only [Option.bind_some] at hb
        cases hv:Fw.look (factsC (l.take n) Ds Fc0 i) s with
        | none=>rw [hv] at hb; simp at hb
        | some v =>
          rw [hv] at hb
          have h5:=valueC s _ (List.mem_append_right _ (by rw [hg]; dsimp only; rw [hs]; simp)) hv
          unfold yielded
          rw [hs]
          simp only [Option.bind_some,h5]
          cases v with
          | bool c =>
            simp at hb
            rw [← hb]
            cases c <;> cases wt <;> rfl
          | _ =>
            simp at hb
            subst hb
            rfl
  have next:∀ v L' w',D.ok v L' w'→Fk w w'→(o.dst ≠ some c→Fr0 w w')→Has w.heap.size w' L'→(∀ s,opnd o=some s→LinkV o (a.tmps.getD s undef) v)→Inv c l n N B1 w1 Fc0 Ds (fun j=>if j=i then v else vals j) (fun j=>if j=i then L' else ents j) (listed.setIfInBounds i true) (a.put (some d) v) w':=by
    intro v L' w' hv hf hf0 hn hlk
    have hdN:=hN i o d hi hol hd
    refine ⟨by simpa using inv.size,⟨by simpa [Act.put] using inv.know.1,inv.know.2⟩,fun j dj Dj hj hlj hdj hDj=>?_,fun s u hu hne=>?_,?_,hF.trans inv.fr hf,fun hx=>(inv.fr0 fun j hj hlj=>hx j hj (by rw [getD_set_ne false (show i ≠ j from fun e=>by subst e; rw [hunf] at hlj; cases hlj)]; exact hlj)).trans0 (hf0 fun e=>hx i hi (by simp [show i < listed.size by rw [inv.size]; exact hil]) (hdi.trans (hd.symm.trans e))),fun t ht=>?_,fun j oj hj hlj e he hb=>?_,fun j oj s hj hlj hlst hos hsf=>?_⟩
    · by_cases hji:j=i
      · subst hji
        rw [hdi] at hdj
        obtain rfl:=Option.some.inj hdj
        rw [hD] at hDj
        obtain rfl:=Option.some.inj hDj
        refine ⟨?_,by simpa using hv⟩
        simp [Act.put,inv.know.1,hdN]
      · rw [getD_set_ne false (Ne.symm hji)] at hlj
        obtain ⟨h1,h2⟩:=inv.done j dj Dj hj hlj hdj hDj
        have hne:d ≠ dj:=fun e=>hji (hok.uniq j i d hj hi (by rw [hdj,e]) hdi)
        refine ⟨?_,by simpa [hji] using DV.ok_stable hf h2⟩
        simp only [Act.put,if_neg hji]
        rw [Array.getElem?_setIfInBounds,if_neg hne]
        exact h1
    · have hsd:d ≠ s:=fun e=>hne i hi (by simp [show i < listed.size by rw [inv.size]; exact hil]) (by rw [hdi,e])
      simp only [Act.put]
      rw [Array.getElem?_setIfInBounds,if_neg hsd]
      refine inv.base s u hu fun j hj hlj=>?_
      by_cases hji:j=i
      · subst hji; rw [hunf] at hlj; cases hlj
      · exact hne j hj (by rw [getD_set_ne false (Ne.symm hji)]; exact hlj)
    · have hp:=flatMap_set_perm (fun j=>if listed.getD j false=true then ents j else []) (fun j=>if (listed.setIfInBounds i true).getD j false=true then (if j=i then L' else ents j) else []) i L'
        (by simp only [hunf]; simp) (by simp [show i < listed.size by rw [inv.size]; exact hil]) (fun j hji=>by simp only [getD_set_ne false (Ne.symm hji),if_neg hji]) (List.range n) List.nodup_range (List.mem_range.2 hi)
      exact (Has.newK (hF.has inv.has hf) inv.has (Nat.le_trans hB (hF.size inv.fr)) hn).perm hp
    · rw [getD_set_ne false (by omega)]
      exact inv.tail t ht
    · by_cases hji:j=i
      · subst hji
        rw [hol] at hj
        obtain rfl:=Option.some.inj hj
        have hlt:=hok.back j o ho e he hb
        rw [getD_set_ne false (by omega)]
        exact hall e he hb
      · rw [getD_set_ne false (Ne.symm hji)] at hlj
        have h9:=inv.closed j oj hj hlj e he hb
        by_cases hei:i=e.on
        · rw [← hei,hunf] at h9; cases h9
        · rw [getD_set_ne false hei]; exact h9
    · have hsi:d=s→i < j:=fun e=>by
        have h1:=List.all_eq_true.1 hsf i (List.mem_range.2 hi)
        rw [hdi,e] at h1
        simpa [Nat.blt_eq] using h1
      by_cases hji:j=i
      · subst hji
        rw [hol] at hlj
        obtain rfl:=Option.some.inj hlj
        have hne:d ≠ s:=fun e=>absurd (hsi e) (by omega)
        rw [getD_put hne]
        simpa using hlk s hos
      · rw [getD_set_ne false (Ne.symm hji)] at hlst
        have hne:d ≠ s:=fun e=>by
          have hlt:=hsi e
          rcases hok.use j oj s i (by simpa using hlj) hj (opnd_looks hos) hi (Ne.symm hji) (by rw [hdi,e]) with ⟨_,h2⟩ | ⟨h2,_⟩
          · obtain ⟨e2,he2,hb2,hon⟩:=waits_spec h2
            have:=inv.closed j oj hlj hlst e2 he2 hb2
            rw [hon,hunf] at this
            cases this
          · omega
        rw [getD_put hne]
        simp only [if_neg hji]
        exact inv.links j oj s hj hlj hlst hos hsf
  obtain ⟨hob,hqt⟩:=hob
  rcases hob with ⟨hw,hy⟩ | ⟨hw,rfl⟩
  · refine .inl ⟨hwant true hw,?_⟩
    -- a frame that has the text's facts, and that the operation cannot tell from this one
    obtain ⟨a',hsz,hdf,ha1,ha2⟩:∃ a':Act,a'.tmps.size=N∧a'.defers=[]∧(∀ s v,Fw.look (factsC (l.take n) Ds Fc0 i) s=some v→a'.tmps[s]?=some v)∧(∀ s,s∈tmpsOf o→a'.tmps[s]?=a.tmps[s]?):=by
      have hlk:∀ s v,Fw.look (factsC (l.take n) Ds Fc0 i) s=some v→s < N:=by
        intro s v hv
        rcases factsC_src (Fc0:=Fc0) hds' (by rw [hl,htake]) hfr' i (by omega) s v hv with ⟨j,hj,h1,h2⟩ | ⟨h1,h2⟩
        · have hjl:j < l.length:=by omega
          exact hN j l[j] s (by omega) (by simp [hjl]) (by have:=hds j (by omega); rw [h1] at this; simpa [dstAt,hjl] using this)
        · by_cases hex:∃ j,j < n∧dstAt l.toArray j=some s
          · obtain ⟨j,hj,hdj⟩:=hex
            have hjl:j < l.length:=by have:=hok.le; simp at this; omega
            exact hN j l[j] s hj (by simp [hjl]) (by simpa [dstAt,hjl] using hdj)
          · have:=inv.base s v h1 (fun j hj _ hdj=>hex ⟨j,hj,hdj⟩)
            have:=(Array.getElem?_eq_some_iff.1 this).1
            rw [inv.know.1] at this
            exact this
      refine ⟨⟨Array.ofFn (n:=N) fun s=>if (tmpsOf o).any (Nat.beq s.1)=true then a.tmps.getD s.1 undef else (Fw.look (factsC (l.take n) Ds Fc0 i) s.1).getD (a.tmps.getD s.1 undef),[]⟩,by simp,rfl,fun s v hv=>?_,fun s hs=>?_⟩
      · have hsN:=hlk s v hv
        simp only [Array.getElem?_ofFn,hsN,dif_pos]
        by_cases hu:(tmpsOf o).any (Nat.beq s)=true
        · rw [if_pos hu]
          have hmem:s∈tmpsOf o:=by
            obtain ⟨x,hx,hb⟩:=List.any_eq_true.1 hu
            rw [Nat.eq_of_beq_eq_true hb]; exact hx
          have:=valueC s v (List.mem_append_left _ hmem) hv
          simp [this]
        · rw [if_neg hu,hv]; rfl
      · have hu:(tmpsOf o).any (Nat.beq s)=true:=List.any_eq_true.2 ⟨s,hs,by simp⟩
        by_cases hsN:s < N
        · simp only [Array.getElem?_ofFn,hsN,dif_pos]
          rw [if_pos hu]
          have:s < a.tmps.size:=by rw [inv.know.1]; exact hsN
          simp [this]
        · simp only [Array.getElem?_ofFn,hsN]
          rw [Array.getElem?_eq_none (by rw [inv.know.1]; omega)]
          simp
    have hev:execOp a.eval o=execOp a'.eval o:=by
      refine execOp_congr o (not_select (hok.sel i o ho)) fun x hx=>?_
      cases x with
      | tmp s =>
        have:=ha2 s (mem_tmpsOf hx)
        simp only [Act.eval,Array.getD_eq_getD_getElem?,this]
      | _=>rfl
    have hrc:RC Fk c N (factsC (l.take n) Ds Fc0 i) (factsE (l.take n) Ds i) o B1 w1 a' w:=by
      refine ⟨⟨hsz,hdf,ha1⟩,inv.fr,fun e=>inv.fr0 fun j hj hlj hdj=>(by
        have hji:=hok.uniq j i d hj hi (hdj.trans (e.symm.trans hd)) hdi
        subst hji
        rw [hunf] at hlj
        cases hlj),fun s E hE hu=>?_⟩
      have hmem:s∈tmpsOf o:=by
        obtain ⟨x,hx,hb⟩:=List.any_eq_true.1 hu
        rw [Nat.eq_of_beq_eq_true hb]; exact hx
      obtain ⟨j,hj,h1,_,h2⟩:=factsE_src hds' (by rw [hl,htake]) i (by omega) s E hE
      have hjn:j < n:=by omega
      rcases listed_of j s hjn (by omega) (List.mem_append_left _ hmem) (by rw [hds j hjn,h1]) with ⟨_,h3⟩ | ⟨h3,_⟩
      · obtain ⟨h4,h5⟩:=inv.done j s _ hjn h3 (by rw [hds j hjn,h1]) h2
        have hsub:=sublist_flatMap (fun j=>if listed.getD j false=true then ents j else []) j (List.range n) (List.mem_range.2 hjn)
        simp only [h3,if_true] at hsub
        exact ⟨vals j,ents j,by rw [ha2 s hmem]; exact h4,h5,inv.has.pick hsub⟩
      · omega
    have hyl:=hy a' w hrc
    rw [← hev] at hyl
    have hyl2:Yl P (fun v w'=>Meets c o D w v w'∧∀ s,opnd o=some s→LinkV o (a.tmps.getD s undef) v) ((execOp a.eval o).run P w):=by
      cases ho2:opnd o with
      | none=>exact hyl.mono fun v w' h=>⟨h,fun s hs=>by cases hs⟩
      | some s=>exact (yl_link ho2 hyl).mono fun v w' h=>⟨h.1,fun s' hs'=>by cases hs'; exact h.2⟩
    exact ⟨hyl2.mono fun v w' ⟨⟨L',h1,h2,h20,h3⟩,h4⟩=>⟨L',by rw [hd]; exact next v L' w' h1 h2 h20 h3 h4⟩,fun hq=>by
      obtain ⟨v,hv⟩:=hqt hq
      exact ⟨v,by rw [hev]; exact hv a' w hrc⟩⟩
  · refine .inr ⟨hwant false hw,?_⟩
    rw [hd]
    exact next undef [] w ⟨rfl,rfl⟩ (hF.of0 (.refl _ _)) (fun _=>.refl _ _) (.nil _ _) fun s hs=>by
      unfold wantedAs at hw
      rw [opnd_guard hs] at hw
      cases hw
theorem Inv.step (hF:FrK Fk B1) {vals:Nat→Value} {ents:Nat→List Ent} {listed:Array Bool} {a:Act} {w:World} {i:Nat} {K:Act→World→Prop} (hok:RgOk l.toArray n late) (hl:Ds.length=n)
    (hparts:∀ i o,i < n→l[i]?=some o→∃ (d:Nat) (D:DV Fk),o.dst=some d∧Ds[i]?=some D∧Ob c P l.toArray N B1 w1 (factsC (l.take n) Ds Fc0 i) (factsE (l.take n) Ds i) o D∧fresh (factsC (l.take n) Ds Fc0 i) (factsE (l.take n) Ds i) d D)
    (hN:∀ i o d,i < n→l[i]?=some o→o.dst=some d→d < N) (hB:B1≤w1.heap.size)
    (inv:Inv c l n N B1 w1 Fc0 Ds vals ents listed a w) (hi:i < n) (hr:i∈Region.ready .any l.toArray listed)
    (k:∀ v L' a' w',Inv c l n N B1 w1 Fc0 Ds (fun j=>if j=i then v else vals j) (fun j=>if j=i then L' else ents j) (listed.setIfInBounds i true) a' w'→K a' w'):wpOp P l.toArray Q i K a w:=by
  obtain ⟨hun,o,ho,hall⟩:=mem_ready.1 hr
  have hol:l[i]?=some o:=by simpa using ho
  unfold wpOp
  rw [ho]
  dsimp only
  rcases inv.step0 hF hok hl hparts hN hB hi hr hol with ⟨hw,hy,_⟩ | ⟨hw,h⟩
  · rw [if_pos hw]
    left
    exact wp_of_yl hy fun v w' ⟨L',h⟩=>k v L' _ _ h
  · rw [hw]
    simp only [Bool.false_eq_true,if_false]
    exact k undef [] _ _ h
end
section
variable {c:Nat} {P:Program} {l:List Oper} {n N B1:Nat} {w1:World} {Fc0:List (Nat × Value)} {Fk:World→World→Prop} {Ds:List (DV Fk)} {Q:Exit→Act→World→Prop} {late:List Nat}
theorem wpAny_head (hF:FrK Fk B1) (hok:RgOk l.toArray n []) (hl:Ds.length=n)
    (hparts:∀ i o,i < n→l[i]?=some o→∃ (d:Nat) (D:DV Fk),o.dst=some d∧Ds[i]?=some D∧Ob c P l.toArray N B1 w1 (factsC (l.take n) Ds Fc0 i) (factsE (l.take n) Ds i) o D∧fresh (factsC (l.take n) Ds Fc0 i) (factsE (l.take n) Ds i) d D)
    (hN:∀ i o d,i < n→l[i]?=some o→o.dst=some d→d < N) (hB:B1≤w1.heap.size)
    (fin:∀ vals ents listed a w,Inv c l n N B1 w1 Fc0 Ds vals ents listed a w→(∀ j,j < n→listed.getD j false=true)→wpList P l.toArray Q (l.drop n) a w) :
    ∀ (m:Nat) (U:List Nat) (vals:Nat→Value) (ents:Nat→List Ent) (listed:Array Bool) (a:Act) (w:World),U.length=m→U.Nodup→(∀ j,j∈U ↔ j < l.length∧listed.getD j false=false) →
      Inv c l n N B1 w1 Fc0 Ds vals ents listed a w→wpAny P .any l.toArray Q m listed a w:=by
  intro m
  induction m with
  | zero =>
    intro U vals ents listed a w hU hnd hmem inv
    have hU0:U=[]:=List.eq_nil_of_length_eq_zero hU
    subst hU0
    have hall:∀ j,j < l.length→listed.getD j false=true:=fun j hj=>by
      cases hx:listed.getD j false with
      | true=>rfl
      | false=>have:=(hmem j).2 ⟨hj,hx⟩; simp at this
    have hn:n=l.length:=by
      have h1:=hok.le
      simp at h1
      by_cases e:n < l.length
      · have:=inv.tail n (Nat.le_refl _); rw [hall n e] at this; cases this
      · omega
    have h:=fin vals ents listed a w inv (fun j hj=>hall j (by omega))
    refine wpAny_tail hok 0 l.length listed a w (by omega) (by omega) inv.size (fun j hj=>?_) (by rw [← hn]; exact h)
    rw [getD_both_iff (by rw [inv.size]; exact hj),hall j hj]
    simp [hj]
  | succ m ih =>
    intro U vals ents listed a w hU hnd hmem inv
    by_cases hall:∀ j,j < n→listed.getD j false=true
    · have h:=fin vals ents listed a w inv hall
      have hle:=hok.le
      simp at hle
      have hcount:m + 1=l.length - n:=by
        rw [← hU]
        have:U.Perm ((List.range (l.length - n)).map (· + n)):=by
          refine (List.perm_ext_iff_of_nodup hnd ?_).2 fun j=>?_
          · exact List.Pairwise.map (R:=(· ≠ ·)) (S:=(· ≠ ·)) (· + n) (fun x y h=>by simp; exact h) List.nodup_range
          · rw [hmem]
            simp only [List.mem_map,List.mem_range]
            constructor
            · rintro ⟨h1,h2⟩
              refine ⟨j - n,?_,?_⟩
              · by_cases e:j < n
                · rw [hall j e] at h2; cases h2
                · omega
              · by_cases e:j < n
                · rw [hall j e] at h2; cases h2
                · omega
            · rintro ⟨x,h1,rfl⟩
              exact ⟨by omega,inv.tail _ (by omega)⟩
        rw [this.length_eq]; simp
      refine wpAny_tail hok (m + 1) n listed a w (by omega) (Nat.le_refl _) inv.size (fun j hj=>?_) h
      rw [getD_both_iff (by rw [inv.size]; exact hj)]
      by_cases e:j < n
      · rw [hall j e]; simp [e]
      · rw [inv.tail j (by omega)]; simp [e]
    · obtain ⟨j0,hj0,hl0⟩:∃ j,j < n∧listed.getD j false=false:=by
        apply Classical.byContradiction
        intro hn
        apply hall
        intro j hj
        cases hx:listed.getD j false with
        | true=>rfl
        | false=>exact absurd ⟨j,hj,hx⟩ hn
      have hle:=hok.le
      simp at hle
      refine ⟨fun h0=>?_,fun i hi=>?_⟩
      · obtain ⟨i,hi⟩:=exists_ready hok inv.size j0 (by omega) hl0
        rw [h0] at hi; cases hi
      · have hin:i < n:=by
          apply Classical.byContradiction
          intro hge
          obtain ⟨_,o,ho,hall2⟩:=mem_ready.1 hi
          have key:=anc_closed (ops:=l.toArray) (S:=fun j=>listed.getD j false=true) (fun i' o' hi' hs' e he hb=>inv.closed i' o' (by simpa using hi') hs' e he hb) 24 o j0 (fun e he hb=>hall2 e he hb) ((hok.tail i o ho (by omega) j0 (by omega)).resolve_left fun h=>by cases h)
          rw [hl0] at key
          cases key
        have hil:i < l.length:=by omega
        have hiU:i∈U:=(hmem i).2 ⟨hil,by
          have h1:=(mem_ready.1 hi).1
          rw [getD_both_iff (by rw [inv.size]; exact hil)] at h1
          exact h1⟩
        refine inv.step hF hok hl hparts hN hB hin hi fun v L' a' w' inv'=>?_
        refine ih (U.erase i) _ _ _ _ _ ?_ (hnd.erase i) (fun j=>?_) inv'
        · rw [List.length_erase_of_mem hiU,hU]; simp
        · rw [hnd.mem_erase_iff,hmem]
          by_cases e:j=i
          · subst e
            simp [show j < listed.size by rw [inv.size]; exact hil]
          · rw [getD_set_ne false (Ne.symm e)]
            simp [e]
theorem RG.mono {Fk:World→World→Prop} {c:Nat} {P:Program} {ops:Array Oper} {K K':List (Nat × Value)→Fes→Prop} (hm:∀ Fc Fe,K Fc Fe→K' Fc Fe):∀ (rest:List Oper) (Fc:List (Nat × Value)) (Fe:Fes),RG Fk c P ops N B1 w1 K Fc Fe rest→RG Fk c P ops N B1 w1 K' Fc Fe rest
  | [],Fc,Fe,h=>hm Fc Fe h
  | o::rest,Fc,Fe,⟨d,D,h1,h2,h3,h4⟩=>⟨d,D,h1,h2,h3,RG.mono hm rest _ _ h4⟩
end
end Go.FwO
end

section
/- The steps of such regions. -/
namespace Go.FwO
open Go Go.Fw
section
variable {cc:Nat} {P:Program} {l:List Oper} {n N:Nat} {Q:Exit→Act→World→Prop} {Fk:World→World→Prop}
end
section
variable {cc:Nat} {P:Program} {ops:Array Oper} {N B1:Nat} {w1:World} {Fk:World→World→Prop} {K:List (Nat × Value)→Fes→Prop} {Fc:List (Nat × Value)} {Fe:Fes} {rest:List Oper}
variable {d:Tmp} {op:Op} {ty:TypeId} {pos:String} {aft:Array Edge} {x y z:Operand} {t u:TypeId}
theorem RC.ev {o:Oper} {a:Act} {w:World} {x:Operand} {v:Value} (h:RC Fk cc N Fc Fe o B1 w1 a w) (hx:ev Fc x=some v):a.eval x=v:=h.know.eval hx
theorem rg_nil (h:K Fc Fe):RG Fk cc P ops N B1 w1 K Fc Fe []:=h
theorem rg_q (hK:FwK.FrK Fk B1) {v:Value} (h:∀ a w,RC Fk cc N Fc Fe ⟨some d,op,ty,pos,aft,none⟩ B1 w1 a w→(execOp a.eval ⟨some d,op,ty,pos,aft,none⟩).run P w=.ok (.value v) w) (hE:lookE Fe d=none)
    (k:RG Fk cc P ops N B1 w1 K ((d,v)::Fc) Fe rest):RG Fk cc P ops N B1 w1 K Fc Fe (⟨some d,op,ty,pos,aft,none⟩::rest) :=
  ⟨d,.c v,rfl,⟨.inl ⟨rfl,fun a w hc=>by rw [h a w hc]; exact ⟨[],⟨rfl,rfl⟩,hK.of0 (.refl _ _),(fun _=>.refl _ _),.nil _ _⟩⟩,fun _=>⟨v,h⟩⟩,hE,k⟩
theorem rg_yes (hK:FwK.FrK Fk B1) {v:Value} {j s:Nat} {b:Bool} (hj:(ops[j]?).bind (·.dst)=some s) (hb:Fw.look Fc s=some (.bool b))
    (h:∀ a w,RC Fk cc N Fc Fe ⟨some d,op,ty,pos,aft,some (j,b)⟩ B1 w1 a w→(execOp a.eval ⟨some d,op,ty,pos,aft,some (j,b)⟩).run P w=.ok (.value v) w) (hE:lookE Fe d=none)
    (k:RG Fk cc P ops N B1 w1 K ((d,v)::Fc) Fe rest):RG Fk cc P ops N B1 w1 K Fc Fe (⟨some d,op,ty,pos,aft,some (j,b)⟩::rest) :=
  ⟨d,.c v,rfl,⟨.inl ⟨by simp [wantedAs,hj,hb],fun a w hc=>by rw [h a w hc]; exact ⟨[],⟨rfl,rfl⟩,hK.of0 (.refl _ _),(fun _=>.refl _ _),.nil _ _⟩⟩,fun h=>by cases h⟩,hE,k⟩
theorem rg_no (hK:FwK.FrK Fk B1) {j s:Nat} {b c:Bool} (hj:(ops[j]?).bind (·.dst)=some s) (hb:Fw.look Fc s=some (.bool c)) (hne:c=!b) (hE:lookE Fe d=none)
    (k:RG Fk cc P ops N B1 w1 K ((d,undef)::Fc) Fe rest):RG Fk cc P ops N B1 w1 K Fc Fe (⟨some d,op,ty,pos,aft,some (j,b)⟩::rest) :=
  ⟨d,.c undef,rfl,⟨.inr ⟨by subst hne; cases b <;> simp [wantedAs,hj,hb],rfl⟩,fun h=>by cases h⟩,hE,k⟩
theorem rg_e (hK:FwK.FrK Fk B1) (E:Value→List Ent→World→Prop) (st:∀ v L w w',Fk w w'→E v L w→E v L w')
    (h:∀ a w,RC Fk cc N Fc Fe ⟨some d,op,ty,pos,aft,none⟩ B1 w1 a w→Yl P (fun v w'=>∃ L',E v L' w'∧Fr0 w w'∧Has w.heap.size w' L') ((execOp a.eval ⟨some d,op,ty,pos,aft,none⟩).run P w)) (hC:Fw.look Fc d=none)
    (k:RG Fk cc P ops N B1 w1 K Fc ((d,E)::Fe) rest) (hq:needQ ⟨some d,op,ty,pos,aft,none⟩=false:=by rfl):RG Fk cc P ops N B1 w1 K Fc Fe (⟨some d,op,ty,pos,aft,none⟩::rest) :=
  ⟨d,.e E st,rfl,⟨.inl ⟨rfl,fun a w hc=>(h a w hc).mono fun v w' ⟨L',h1,h2,h3⟩=>⟨L',h1,hK.of0 h2,fun _=>h2,h3⟩⟩,fun h=>by rw [hq] at h; cases h⟩,hC,k⟩
theorem rg_alloc (hK:FwK.FrK Fk B1) {td:TypeDesc} {sz bytes:Nat} {zs:List Value} (hT:Ty P t td sz bytes zs) (hC:Fw.look Fc d=none)
    (k:RG Fk cc P ops N B1 w1 K Fc ((d,fun v L _=>∃ g,v=.pointer (some ⟨g,0,none⟩)∧L=[.seg g zs t])::Fe) rest):RG Fk cc P ops N B1 w1 K Fc Fe (⟨some d,.alloc t,ty,pos,aft,none⟩::rest) :=
  rg_e hK _ (fun _ _ _ _ _ h=>h) (fun a w hc=>by rw [c_alloc hT]; exact ⟨_,⟨_,rfl,rfl⟩,(.alloc _ _),has_alloc⟩) hC k
theorem rg_bslice (hK:FwK.FrK Fk B1) {E:TypeId} {ed:TypeDesc} {s bytes n:Nat} {z zs:List Value} {ps:Array (Nat × Operand)} {vs:List Value} (hu:P.underlying t=some (.slice E)) (hE:Ty P E ed s bytes z)
    (hps:∀ a w,RC Fk cc N Fc Fe ⟨some d,.buildSlice t n ps,ty,pos,aft,none⟩ B1 w1 a w→Evp a 0 ps.toList vs) (hn:vs.length=n) (hv:∀ v∈vs,v.cells.size=s) (hsmall:n * s≤16777216) (hz:flatCells vs=zs) (hC:Fw.look Fc d=none)
    (k:RG Fk cc P ops N B1 w1 K Fc ((d,fun v L _=>∃ g,v=.slice (some ⟨g,0,none⟩) n n∧L=[.seg g zs E])::Fe) rest):RG Fk cc P ops N B1 w1 K Fc Fe (⟨some d,.buildSlice t n ps,ty,pos,aft,none⟩::rest) :=
  rg_e hK _ (fun _ _ _ _ _ h=>h) (fun a w hc=>by rw [c_bslice hu hE (hps a w hc) hn hv hsmall,hz]; exact ⟨_,⟨_,rfl,rfl⟩,(.alloc _ _),has_alloc⟩) hC k
theorem rg_call (hK:FwK.FrK Fk B1) {f:FuncId} {args:Array Operand} {vs:List Value} {tys:Array TypeId} {c:Value} (hF:Fun P f)
    (hargs:∀ a w,RC Fk cc N Fc Fe ⟨some d,.call { callee:=.value (.func f),args:=args,argTypes:=tys },ty,pos,aft,none⟩ B1 w1 a w→Evs a args.toList vs)
    (hc:∀ w,Fk w1 w→Ctr P f vs w (fun _=>False) fun v _=>v=c) (hE:lookE Fe d=none)
    (k:RG Fk cc P ops N B1 w1 K ((d,c)::Fc) Fe rest):RG Fk cc P ops N B1 w1 K Fc Fe (⟨some d,.call { callee:=.value (.func f),args:=args,argTypes:=tys },ty,pos,aft,none⟩::rest) :=
  ⟨d,.c c,rfl,⟨.inl ⟨rfl,fun a w h=>by
    rw [run_call hF (hargs a w h)]
    exact Calls.mono (hc w h.fr) fun e w' ⟨v,he,hf,hv⟩=>⟨v,he,[],⟨hv,rfl⟩,hK.of0 hf,(fun _=>hf),.nil _ _⟩⟩,fun h=>by cases h⟩,hE,k⟩
end
section
variable {cc:Nat} {P:Program} {ops:Array Oper} {N B1:Nat} {w1:World} {Fk:World→World→Prop} {K:List (Nat × Value)→Fes→Prop} {Fc:List (Nat × Value)} {Fe:Fes} {rest:List Oper}
variable {d:Tmp} {op:Op} {ty:TypeId} {pos:String} {aft:Array Edge} {x y z:Operand} {t u:TypeId}
end
section
variable {cc:Nat} {P:Program} {ops:Array Oper} {N B1:Nat} {w1:World} {Fk:World→World→Prop} {K:List (Nat × Value)→Fes→Prop} {Fc:List (Nat × Value)} {Fe:Fes} {rest:List Oper}
variable {d:Tmp} {op:Op} {ty:TypeId} {pos:String} {aft:Array Edge} {x y z:Operand} {t u:TypeId}
theorem rg_g (hK:FwK.FrK Fk B1) {v:Value} {j s:Nat} {b c:Bool} (hj:(ops[j]?).bind (·.dst)=some s) (hb:Fw.look Fc s=some (.bool c))
    (h:c=b→∀ a w,RC Fk cc N Fc Fe ⟨some d,op,ty,pos,aft,some (j,b)⟩ B1 w1 a w→(execOp a.eval ⟨some d,op,ty,pos,aft,some (j,b)⟩).run P w=.ok (.value v) w) (hE:lookE Fe d=none)
    (k:RG Fk cc P ops N B1 w1 K ((d,if c=b then v else undef)::Fc) Fe rest):RG Fk cc P ops N B1 w1 K Fc Fe (⟨some d,op,ty,pos,aft,some (j,b)⟩::rest):=by
  by_cases e:c=b
  · subst e
    exact rg_yes hK hj hb (h rfl) hE (by simpa using k)
  · exact rg_no hK hj hb (by cases c <;> cases b <;> simp_all) hE (by simpa [e] using k)
end
def KeepB (kp:Obj→Bool) (a b:World):Prop:=∀ (g:Nat) (x:Obj),a.heap[g]?=some x→kp x=true→b.heap[g]?=some x
abbrev FkO (M:Nat→Prop) (kp:Obj→Bool) (R:World→World→Prop):World→World→Prop:=fun a b=>Fr M a b∧KeepB kp a b∧R a b
section
variable {cc:Nat} {N B1:Nat} {w1:World} {M:Nat→Prop} {kp:Obj→Bool} {R:World→World→Prop} {Fc:List (Nat × Value)} {Fe:Fes}
theorem RC.blk {o:Oper} {a:Act} {w:World} {g:Nat} {x:Obj} (h:RC (FkO M kp R) cc N Fc Fe o B1 w1 a w) (hb:w1.heap[g]?=some x) (hk:kp x=true:=by rfl):w.heap[g]?=some x:=h.fr.2.1 g x hb hk
end
end Go.FwO
end

section
/- Regions that draw,with several stores at the end,behind which plain turnings may still be late. -/
namespace Go.Fw
open Go
section
variable {P:Program} {l:List Oper} {n N B1:Nat} {w1:World} {Fc0:List (Nat × Value)} {Ds:List DV} {Q:Exit→Act→World→Prop} {late:List Nat}
def lateBK (l:List Oper) (n K:Nat) (J:List Nat):Bool :=
  ((List.range (K + 1)).all fun i=>match l[n + i]? with | some o=>(match o.guard with | none=>notSelect o | _=>false) | none=>false) &&
  ((l.drop (n + (K + 1))).all fun o=>turnB o || J.all fun j=>anc l.toArray 24 o j) &&
  (J.all fun j=>match l[j]? with
    | none=>false
    | some o=>((opnd o).isSome || needQ o) && match o.dst with
      | some d=>((tmpsOf o).all fun s=>(J.all fun j'=>!(dstAt l.toArray j' == some s) || waits o j') && ((l.drop n).all fun o'=>!(o'.dst == some s))) && ((l.drop n).all fun o'=>!(o'.dst == some d) && (!((tmpsOf o').any (Nat.beq d)) || waits o' j))
      | _=>false)
structure LateK (l:List Oper) (n K:Nat) (J:List Nat):Prop where
  op:∀ j∈J,∃ o d,l[j]?=some o∧((opnd o).isSome=true∨needQ o=true)∧o.dst=some d∧(∀ s∈tmpsOf o,(∀ j'∈J,dstAt l.toArray j'=some s→waits o j'=true)∧∀ t o',n≤t→l[t]?=some o'→o'.dst ≠ some s)∧∀ t o',n≤t→l[t]?=some o'→o'.dst ≠ some d∧(d∈tmpsOf o'→waits o' j=true)
  tl:∀ t o,n + (K + 1)≤t→l[t]?=some o→turnB o=true∨∀ j∈J,anc l.toArray 24 o j=true
  hd:∀ i,i < K + 1→∃ o,l[n + i]?=some o∧o.guard=none∧notSelect o=true
theorem lateBK_spec {l:List Oper} {n K:Nat} {J:List Nat} (h:lateBK l n K J=true):LateK l n K J:=by
  unfold lateBK at h
  simp only [Bool.and_eq_true] at h
  obtain ⟨⟨h1,h2⟩,h3⟩:=h
  refine ⟨fun j hj=>?_,fun t o ht ho=>?_,fun i hi=>?_⟩
  · have h4:=List.all_eq_true.1 h3 j hj
    cases ho:l[j]? with
    | none=>rw [ho] at h4; cases h4
    | some o =>
      rw [ho] at h4
      dsimp only at h4
      rw [Bool.and_eq_true] at h4
      obtain ⟨h4,h5⟩:=h4
      cases hd:o.dst with
      | none=>rw [hd] at h5; cases h5
      | some d =>
        rw [hd] at h5
        dsimp only at h5
        rw [Bool.and_eq_true] at h5
        refine ⟨o,d,rfl,by simpa using h4,hd,fun s hs=>?_,fun t o' ht ho'=>?_⟩
        · have h6:=List.all_eq_true.1 h5.1 s hs
          rw [Bool.and_eq_true] at h6
          exact ⟨fun j' hj' e=>by
            have h7:=List.all_eq_true.1 h6.1 j' hj'
            rw [e] at h7
            simpa using h7,fun t o' ht ho'=>by simpa using List.all_eq_true.1 h6.2 o' (mem_drop_at ht ho')⟩
        · have h6:=List.all_eq_true.1 h5.2 o' (mem_drop_at ht ho')
          simp only [Bool.and_eq_true,Bool.or_eq_true,Bool.not_eq_true',beq_eq_false_iff_ne,ne_eq] at h6
          refine ⟨h6.1,fun hm=>h6.2.resolve_left fun hn=>?_⟩
          have:(tmpsOf o').any (Nat.beq d)=true:=List.any_eq_true.2 ⟨d,hm,by simp⟩
          rw [hn] at this
          cases this
  · have h5:=List.all_eq_true.1 h2 o (mem_drop_at (n:=n + (K + 1)) (by omega) ho)
    rw [Bool.or_eq_true] at h5
    exact h5.imp id fun h j hj=>List.all_eq_true.1 h j hj
  · replace h1:=List.all_eq_true.1 h1 i (List.mem_range.2 hi)
    cases ho:l[n + i]? with
    | none=>rw [ho] at h1; cases h1
    | some o =>
      rw [ho] at h1
      dsimp only at h1
      cases hg:o.guard with
      | some g=>rw [hg] at h1; cases h1
      | none=>rw [hg] at h1; exact ⟨o,rfl,hg,h1⟩
def Firsts (P:Program) (ops:Array Oper) (Q:Exit→Act→World→Prop) (l:List Oper) (J:List Nat):Nat→List Oper→Act→World→Prop
  | 0,rest,a,w=>wpList P ops Q rest a w
  | _ + 1,[],_,_=>False
  | k + 1,on::rest,a,w=>∃ nx w2 v,(execOp a.eval on).run P w=.ok nx w2∧((nx=.skip∧v=undef)∨nx=.value v)∧lateOk P l (a.put on.dst v) w2 J∧Firsts P ops Q l J k rest (a.put on.dst v) w2
theorem wpAny_lagK {J:List Nat} {K:Nat} (hok:RgOk l.toArray n J) (hL:LateK l n K J) :
    ∀ (m:Nat) (U:List Nat) (t:Nat) (listed:Array Bool) (a b:Act) (w:World),U.length=m→U.Nodup→(∀ j,j∈U ↔ j < l.length∧listed.getD j false=false)→listed.size=l.length→n≤t →
      (∀ j,j < l.length→j ∉ J→listed.getD j false=decide (j < t))→(∀ j o,l[j]?=some o→listed.getD j false=true→∀ e∈o.after,Region.binds .any e=true→listed.getD e.on false=true) →
      Lag P l J listed a b w→((∃ r,t + (r + 1)=n + (K + 1)∧Firsts P l.toArray Q l J (r + 1) (l.drop t) b w)∨(n + (K + 1)≤t∧wpList P l.toArray Q (l.drop t) b w)) →
      wpAny P .any l.toArray Q m listed a w:=by
  intro m
  have hJ:∀ t,n≤t→t ∉ J:=fun t ht h=>by have:=hok.lateLt t h; omega
  have hnl:n≤l.length:=by have:=hok.le; simpa using this
  induction m with
  | zero =>
    intro U t listed a b w hU hnd hmem hsz hnt hls hcl hlag H
    have hU0:U=[]:=List.eq_nil_of_length_eq_zero hU
    subst hU0
    have hall:∀ j,j < l.length→listed.getD j false=true:=fun j hj=>by
      cases hx:listed.getD j false with
      | true=>rfl
      | false=>have:=(hmem j).2 ⟨hj,hx⟩; simp at this
    have htl:l.length≤t:=by
      apply Classical.byContradiction
      intro h
      have h1:=hls t (by omega) (hJ t hnt)
      rw [hall t (by omega)] at h1
      simp at h1
    have hab:a=b:=hlag.eq fun j hj=>hall j (by have:=hok.lateLt j hj; omega)
    subst hab
    refine ⟨?_,?_⟩
    · apply List.eq_nil_iff_forall_not_mem.2
      intro i hi
      obtain ⟨h1,o,ho,_⟩:=mem_ready.1 hi
      have hlt:i < l.length:=by simpa using (Array.getElem?_eq_some_iff.1 ho).1
      rw [getD_both_iff (by omega),hall i hlt] at h1
      cases h1
    · rcases H with ⟨r,h1,_⟩ | ⟨_,h⟩
      · obtain ⟨o,h2,_⟩:=hL.hd (t - n) (by omega)
        have:=(List.getElem?_eq_some_iff.1 h2).1
        omega
      · rw [List.drop_eq_nil_of_le htl] at h
        exact h
  | succ m ih =>
    intro U t listed a b w hU hnd hmem hsz hnt hls hcl hlag H
    obtain ⟨u,hu⟩:∃ u,u∈U:=List.exists_mem_of_length_pos (by omega)
    have hu2:=(hmem u).1 hu
    refine ⟨fun h0=>?_,fun i hi=>?_⟩
    · obtain ⟨i,hi⟩:=exists_ready hok hsz u hu2.1 hu2.2
      rw [h0] at hi; cases hi
    · have hi0:=hi
      obtain ⟨hi1,o,ho,hall⟩:=mem_ready.1 hi
      have hil:i < l.length:=by simpa using (Array.getElem?_eq_some_iff.1 ho).1
      rw [getD_both_iff (by omega)] at hi1
      have hol:l[i]?=some o:=by simpa using ho
      have hiU:i∈U:=(hmem i).2 ⟨hil,hi1⟩
      have hlen:(U.erase i).length=m:=by rw [List.length_erase_of_mem hiU,hU]; simp
      have hcl2:∀ j o,l[j]?=some o→(listed.setIfInBounds i true).getD j false=true→∀ e∈o.after,Region.binds .any e=true→(listed.setIfInBounds i true).getD e.on false=true:=by
        intro j oj hj hlj e he hb
        have up:∀ k,listed.getD k false=true→(listed.setIfInBounds i true).getD k false=true:=fun k hk=>by
          by_cases e:i=k
          · subst e; simp [show i < listed.size by omega]
          · rw [getD_set_ne false e]; exact hk
        by_cases hji:j=i
        · subst hji
          rw [hol] at hj
          obtain rfl:=Option.some.inj hj
          exact up _ (hall e he hb)
        · rw [getD_set_ne false (Ne.symm hji)] at hlj
          exact up _ (hcl j oj hj hlj e he hb)
      by_cases hiJ:i∈J
      · -- a late one
        obtain ⟨o',d,h1,h2,h3,h4,h5⟩:=hL.op i hiJ
        rw [hol] at h1
        obtain rfl:=Option.some.inj h1
        obtain ⟨v,hv,hr⟩:=hlag.run i hiJ hi1 o d hol h3
        rw [← eval_same (a:=a) (late_sel h2) fun s hs=>hlag.same s fun j' hj' hlj' hdj'=>by
          obtain ⟨e,he,hb,hon⟩:=waits_spec ((h4 s hs).1 j' hj' hdj')
          have:=hall e he hb
          rw [hon,hlj'] at this
          cases this] at hr
        have hda:d < a.tmps.size:=by rw [← hlag.size]; exact (Array.getElem?_eq_some_iff.1 hv).1
        have hdi:dstAt l.toArray i=some d:=by simp [dstAt,hol,h3]
        unfold wpOp
        rw [ho]
        dsimp only
        rw [if_pos (by simp [Region.wanted,late_guard h2])]
        left
        refine upon_value hr ?_
        rw [h3]
        refine ih (U.erase i) t _ _ b w hlen (hnd.erase i) (erase_mem hnd hsz hil hmem) (by simpa using hsz) hnt (fun j hj hjJ=>?_) hcl2 ⟨by simp [Act.put,hlag.size],hlag.defers,fun s' hs'=>?_,fun j hj hlj oj d' hoj hdj=>?_⟩ H
        · rw [getD_set_ne false (show i ≠ j from fun e=>hjJ (e ▸ hiJ))]
          exact hls j hj hjJ
        · by_cases e:d=s'
          · subst e
            rw [hv]
            simp [Act.put,hda]
          · simp only [Act.put]
            rw [Array.getElem?_setIfInBounds,if_neg e]
            refine hlag.same s' fun j hj hlj hdj=>?_
            by_cases hji:j=i
            · subst hji
              rw [hdi] at hdj
              exact e (Option.some.inj hdj)
            · exact hs' j hj (by rw [getD_set_ne false (Ne.symm hji)]; exact hlj) hdj
        · by_cases hji:j=i
          · subst hji
            simp [show j < listed.size by omega] at hlj
          · rw [getD_set_ne false (Ne.symm hji)] at hlj
            exact hlag.run j hj hlj oj d' hoj hdj
      · -- the tail's next
        have hit:i=t:=by
          have h1:=hls i hil hiJ
          rw [hi1] at h1
          have h2:¬ i < t:=by simpa using h1.symm
          apply Classical.byContradiction
          intro hne
          have key:=anc_closed (ops:=l.toArray) (S:=fun j=>listed.getD j false=true) (fun i' o' hi' hs' e he hb=>hcl i' o' (by simpa using hi') hs' e he hb) 24 o t (fun e he hb=>hall e he hb) ((hok.tail i o ho (by omega) t (by omega)).resolve_left (hJ t hnt))
          rw [hls t (by omega) (hJ t hnt)] at key
          simp at key
        subst hit
        have heq:∀ s,s∈tmpsOf o→b.tmps[s]?=a.tmps[s]?:=fun s hs=>hlag.same s fun j hj hlj hdj=>by
          obtain ⟨oj,dj,h1,h2,h3,h4,h5⟩:=hL.op j hj
          have:dj=s:=by simp [dstAt,h1,h3] at hdj; exact hdj
          subst this
          obtain ⟨e,he,hb,hon⟩:=waits_spec ((h5 i o hnt hol).2 hs)
          have:=hall e he hb
          rw [hon,hlj] at this
          cases this
        have hlsn:∀ j,j < l.length→j ∉ J→(listed.setIfInBounds i true).getD j false=decide (j < i + 1):=fun j hj hjJ=>by
          by_cases e:i=j
          · subst e
            simp [show i < listed.size by omega]
          · rw [getD_set_ne false e,hls j hj hjJ]
            simp
            omega
        have hsm:∀ s,(∀ j∈J,(listed.setIfInBounds i true).getD j false=false→dstAt l.toArray j ≠ some s)→b.tmps[s]?=a.tmps[s]?:=fun s hs=>hlag.same s fun j hj hlj=>hs j hj (by rw [getD_set_ne false (show i ≠ j from fun e=>hiJ (e ▸ hj))]; exact hlj)
        have lagged:∀ v w2,(∀ j∈J,listed.getD j false=false→∀ oj dj,l[j]?=some oj→oj.dst=some dj→∃ u,(b.put o.dst v).tmps[dj]?=some u∧(execOp (b.put o.dst v).eval oj).run P w2=.ok (.value u) w2)→Lag P l J (listed.setIfInBounds i true) (a.put o.dst v) (b.put o.dst v) w2:=fun v w2 hr=>by
          have hr':∀ j∈J,(listed.setIfInBounds i true).getD j false=false→∀ oj dj,l[j]?=some oj→oj.dst=some dj→∃ u,(b.put o.dst v).tmps[dj]?=some u∧(execOp (b.put o.dst v).eval oj).run P w2=.ok (.value u) w2:=fun j hj hlj=>hr j hj (by rw [getD_set_ne false (show i ≠ j from fun e=>hiJ (e ▸ hj))] at hlj; exact hlj)
          cases hd:o.dst with
          | none=>rw [hd] at hr'; exact ⟨hlag.size,hlag.defers,hsm,hr'⟩
          | some d =>
            rw [hd] at hr'
            refine ⟨by simp [Act.put,hlag.size],hlag.defers,fun s hs=>?_,hr'⟩
            simp only [Act.put]
            rw [Array.getElem?_setIfInBounds,Array.getElem?_setIfInBounds,hlag.size,hsm s hs]
        have putd:∀ v dj,o.dst ≠ some dj→(b.put o.dst v).tmps[dj]?=b.tmps[dj]?:=fun v dj h=>by
          cases hd:o.dst with
          | none=>rfl
          | some d =>
            have:d ≠ dj:=fun e=>h (by rw [hd,e])
            simp only [Act.put]
            rw [Array.getElem?_setIfInBounds,if_neg this]
        have pure1:∀ v w2 j,j∈J→listed.getD j false=false→∀ oj dj,l[j]?=some oj→oj.dst=some dj→((opnd oj).isSome=true∨w2=w)→∃ u,(b.put o.dst v).tmps[dj]?=some u∧(execOp (b.put o.dst v).eval oj).run P w2=.ok (.value u) w2:=fun v w2 j hj hlj oj dj hoj hdj hor=>by
          obtain ⟨u,k1,k2⟩:=hlag.run j hj hlj oj dj hoj hdj
          obtain ⟨o3,d3,q1,q2,q3,q4,q5⟩:=hL.op j hj
          rw [hoj] at q1
          obtain rfl:=Option.some.inj q1
          rw [hdj] at q3
          obtain rfl:=Option.some.inj q3
          refine ⟨u,by rw [putd v dj (q5 i o hnt hol).1]; exact k1,?_⟩
          rw [tm_put (late_sel q2) fun s hs e=>(q4 s hs).2 i o hnt hol e]
          rcases hor with hor | rfl
          · obtain ⟨s,hs⟩:=Option.isSome_iff_exists.1 hor
            obtain ⟨u',hu'⟩:=late_all (w:=w) (R:=fun _ _=>True) hs (by rw [k2]; trivial)
            have:=hu' w
            rw [k2] at this
            obtain rfl:=Next.value.inj (Result.ok.inj this).1
            exact hu' w2
          · exact k2
        rcases H with ⟨r,h1,hF⟩ | ⟨hlt,h⟩
        · rw [List.drop_eq_getElem_cons hil] at hF
          have hoe:l[i]=o:=by
            rw [List.getElem?_eq_getElem hil] at hol
            exact Option.some.inj hol
          rw [hoe] at hF
          obtain ⟨nx,w2,v,h2,hnx,hlo,h3⟩:=hF
          unfold wpOp
          rw [ho]
          dsimp only
          obtain ⟨on',k1,k2,k4⟩:=hL.hd (i - n) (by omega)
          rw [show n + (i - n)=i by omega,hol] at k1
          obtain rfl:=Option.some.inj k1
          rw [if_pos (by simp [Region.wanted,k2])]
          left
          rw [← eval_same (not_select k4) heq] at h2
          have hnext:wpAny P .any l.toArray Q m (listed.setIfInBounds i true) (a.put o.dst v) w2:=by
            refine ih (U.erase i) (i + 1) _ _ (b.put o.dst v) w2 hlen (hnd.erase i) (erase_mem hnd hsz hil hmem) (by simpa using hsz) (by omega) hlsn hcl2 (lagged v w2 fun j hj hlj oj dj hoj hdj=>?_) (by cases r with
              | zero=>exact .inr ⟨by omega,h3⟩
              | succ r=>exact .inl ⟨r,by omega,h3⟩)
            cases hop:opnd oj with
            | some s=>exact pure1 v w2 j hj hlj oj dj hoj hdj (.inl (by rw [hop]; rfl))
            | none =>
              obtain ⟨u,r1,r2⟩:=lateOk_at hlo j hj oj dj hoj hdj hop
              obtain ⟨o3,d3,q1,q2,q3,q4,q5⟩:=hL.op j hj
              rw [hoj] at q1
              obtain rfl:=Option.some.inj q1
              exact ⟨u,r1,r2⟩
          rcases hnx with ⟨rfl,rfl⟩ | rfl
          · exact upon_skip h2 hnext
          · exact upon_value h2 hnext
        · rcases hL.tl i o hlt hol with hturn | hbar
          · unfold wpOp
            rw [ho]
            dsimp only
            rw [List.drop_eq_getElem_cons hil] at h
            have hoe:l[i]=o:=by
              rw [List.getElem?_eq_getElem hil] at hol
              exact Option.some.inj hol
            rw [hoe] at h
            obtain ⟨hg,hop⟩:o.guard=none∧((∃ x,o.op=.move x)∨∃ x,o.op=.assign x):=by
              unfold turnB at hturn
              cases hg:o.guard with
              | some g=>rw [hg] at hturn; cases hturn
              | none =>
                rw [hg] at hturn
                refine ⟨rfl,?_⟩
                cases hop:o.op <;> rw [hop] at hturn <;> first | exact .inl ⟨_,rfl⟩ | exact .inr ⟨_,rfl⟩ | cases hturn
            rw [if_pos (by simp [Region.wanted,hg])]
            left
            have hsel:∀ cs b,o.op ≠ .select cs b:=fun cs b e=>by
              rcases hop with ⟨x,hx⟩ | ⟨x,hx⟩ <;> rw [hx] at e <;> cases e
            obtain ⟨v,hv⟩:∃ v,∀ w,(execOp b.eval o).run P w=.ok (.value v) w:=by
              obtain ⟨d,op,ty,pos,aft,g⟩:=o
              rcases hop with ⟨x,hx⟩ | ⟨x,hx⟩ <;> dsimp only at hx <;> subst hx
              · exact ⟨b.eval x,fun w=>c_move rfl⟩
              · exact ⟨b.eval x,fun w=>c_assign rfl⟩
            have hk:wpList P l.toArray Q (l.drop (i + 1)) (b.put o.dst v) w:=by
              unfold wpList at h
              rw [if_pos (by simp [Region.wanted,hg])] at h
              rcases h with h | ⟨⟨h,_⟩,_⟩
              · unfold Oper.wp at h
                rw [hv] at h
                exact h
              · exfalso
                obtain ⟨d,op,ty,pos,aft,g⟩:=o
                rcases hop with ⟨x,hx⟩ | ⟨x,hx⟩ <;> dsimp only at hx <;> subst hx <;> exact absurd (show noRoomEvent∈(#[]:Array Event) from h) (by simp)
            refine upon_value (by rw [eval_same hsel heq]; exact hv w) ?_
            exact ih (U.erase i) (i + 1) _ _ (b.put o.dst v) w hlen (hnd.erase i) (erase_mem hnd hsz hil hmem) (by simpa using hsz) (by omega) hlsn hcl2 (lagged v w fun j hj hlj oj dj hoj hdj=>pure1 v w j hj hlj oj dj hoj hdj (.inr rfl)) (.inr ⟨by omega,hk⟩)
          · -- nothing is late any more
            have hJl:∀ j∈J,listed.getD j false=true:=fun j hj=>anc_closed (ops:=l.toArray) (S:=fun j=>listed.getD j false=true) (fun i' o' hi' hs' e he hb=>hcl i' o' (by simpa using hi') hs' e he hb) 24 o j (fun e he hb=>hall e he hb) (hbar j hj)
            have hls2:∀ j,j < l.length→listed.getD j false=decide (j < i):=fun j hj=>by
              by_cases hjJ:j∈J
              · rw [hJl j hjJ]
                have:=hok.lateLt j hjJ
                simp
                omega
              · exact hls j hj hjJ
            obtain rfl:=hlag.eq hJl
            have hct:=count_tail hnd hmem hls2
            have:=wpAny_tail (Q:=Q) (P:=P) hok (m + 1) i listed a w (by omega) hnt hsz (fun j hj=>by rw [getD_both_iff (by omega)]; exact hls2 j hj) h
            exact this.2 i hi0
theorem Inv.finishK {J:List Nat} {K:Nat} (hok:RgOk l.toArray n J) (hL:LateK l n K J) (hl:Ds.length=n)
    (hparts:∀ i o,i < n→l[i]?=some o→∃ d D,o.dst=some d∧Ds[i]?=some D∧Ob P l.toArray N B1 w1 (factsC (l.take n) Ds Fc0 i) (factsE (l.take n) Ds i) o D∧fresh (factsC (l.take n) Ds Fc0 i) (factsE (l.take n) Ds i) d D)
    (hN:∀ i o d,i < n→l[i]?=some o→o.dst=some d→d < N) (hB:B1≤w1.heap.size) (w:World) :
    ∀ (r k:Nat) (vals:Nat→Value) (ents:Nat→List Ent) (listed:Array Bool) (a:Act),k + r=n→Inv P l n N B1 w1 Fc0 Ds vals ents listed a w→(∀ j,j < n→j ∉ J→listed.getD j false=true)→(∀ j,j < k→listed.getD j false=true) →
      ∃ b vals' ents' listed',Inv P l n N B1 w1 Fc0 Ds vals' ents' listed' b w∧(∀ j,j < n→listed'.getD j false=true)∧Lag P l J listed a b w:=by
  intro r
  induction r with
  | zero =>
    intro k vals ents listed a hk inv _ hlt
    exact ⟨a,vals,ents,listed,inv,fun j hj=>hlt j (by omega),rfl,rfl,fun _ _=>rfl,fun j hj hx=>by
      rw [hlt j (by have:=hok.lateLt j hj; omega)] at hx
      cases hx⟩
  | succ r ih =>
    intro k vals ents listed a hk inv hnj hlt
    by_cases hx:listed.getD k false=true
    · exact ih (k + 1) vals ents listed a (by omega) inv hnj fun j hj=>by
        by_cases e:j=k
        · subst e; exact hx
        · exact hlt j (by omega)
    · have hx:listed.getD k false=false:=by simpa using hx
      have hkJ:k∈J:=Classical.byContradiction fun h=>by rw [hnj k (by omega) h] at hx; cases hx
      obtain ⟨o,d,h1,h2,h3,h4,_⟩:=hL.op k hkJ
      have hle:=hok.le
      simp at hle
      have hrd:k∈Region.ready .any l.toArray listed:=mem_ready.2 ⟨by rw [getD_both_iff (by rw [inv.size]; omega)]; exact hx,o,by simpa using h1,fun e he hb=>hlt e.on (hok.back k o (by simpa using h1) e he hb)⟩
      rcases inv.step0 hok hl hparts hN hB (by omega) hrd h1 with ⟨_,hy,hyq⟩ | ⟨hw,_⟩
      rotate_left
      · have:Region.wanted o (yielded l.toArray a.tmps)=true:=by simp [Region.wanted,late_guard h2]
        rw [this] at hw; cases hw
      · obtain ⟨v,hv⟩:∃ v,(execOp a.eval o).run P w=.ok (.value v) w:=by
          rcases h2 with h2 | h2
          · obtain ⟨s,hs⟩:=Option.isSome_iff_exists.1 h2
            obtain ⟨v,hv⟩:=late_all hs hy
            exact ⟨v,hv w⟩
          · exact hyq h2
        rw [hv] at hy
        obtain ⟨L',inv'⟩:=hy
        rw [h3] at inv'
        have hup:∀ j,listed.getD j false=true→(listed.setIfInBounds k true).getD j false=true:=fun j hj=>by
          by_cases e:k=j
          · subst e; rw [hx] at hj; cases hj
          · rw [getD_set_ne false e]; exact hj
        have hkk:(listed.setIfInBounds k true).getD k false=true:=by simp [show k < listed.size by rw [inv.size]; omega]
        obtain ⟨b,vals',ents',listed',i1,i2,i3⟩:=ih (k + 1) _ _ _ _ (by omega) inv' (fun j hj hjJ=>hup j (hnj j hj hjJ)) (fun j hj=>by
          by_cases e:j=k
          · subst e; exact hkk
          · exact hup j (hlt j (by omega)))
        have hdk:dstAt l.toArray k=some d:=by simp [dstAt,h1,h3]
        have hdN:d < a.tmps.size:=by rw [inv.know.1]; exact hN k o d (by omega) h1 h3
        refine ⟨b,vals',ents',listed',i1,i2,by have:=i3.size; simpa [Act.put] using this,i3.defers,fun s' hs'=>?_,fun j hj hlj oj dj hoj hdj=>?_⟩
        · have hne:d ≠ s':=fun e=>hs' k hkJ hx (by rw [hdk,e])
          rw [i3.same s' fun j hj hlj=>hs' j hj (by
            by_cases e:k=j
            · subst e; exact hx
            · rw [getD_set_ne false e] at hlj; exact hlj)]
          simp only [Act.put]
          rw [Array.getElem?_setIfInBounds,if_neg hne]
        · by_cases hjk:k=j
          · subst hjk
            rw [h1] at hoj
            obtain rfl:=Option.some.inj hoj
            rw [h3] at hdj
            obtain rfl:=Option.some.inj hdj
            have hwk:∀ j',waits o j'=true→j' < k:=fun j' hw=>by
              obtain ⟨e,he,hb,hon⟩:=waits_spec hw
              have:=hok.back k o (by simpa using h1) e he hb
              omega
            refine ⟨v,?_,by
              rw [← eval_same (a:=a) (late_sel h2) fun s hs=>?_]
              · exact hv
              · rw [i3.same s fun j' hj' hlj' hdj'=>by
                  rw [hup j' (hlt j' (hwk j' ((h4 s hs).1 j' hj' hdj')))] at hlj'
                  cases hlj']
                have hne:d ≠ s:=fun e=>by have:=hwk k ((h4 s hs).1 k hkJ (by rw [hdk,e])); omega
                simp only [Act.put]
                rw [Array.getElem?_setIfInBounds,if_neg hne]⟩
            rw [i3.same d fun j' hj' hlj' hdj'=>by
              have:=hok.uniq j' k d (hok.lateLt j' hj') (by omega) hdj' hdk
              subst this
              rw [hkk] at hlj'
              cases hlj']
            simp [Act.put,hdN]
          · exact i3.run j hj (by rw [getD_set_ne false hjk]; exact hlj) oj dj hoj hdj
theorem wpAny_headJK {J:List Nat} {K:Nat} (hok:RgOk l.toArray n J) (hL:LateK l n K J) (hl:Ds.length=n)
    (hparts:∀ i o,i < n→l[i]?=some o→∃ d D,o.dst=some d∧Ds[i]?=some D∧Ob P l.toArray N B1 w1 (factsC (l.take n) Ds Fc0 i) (factsE (l.take n) Ds i) o D∧fresh (factsC (l.take n) Ds Fc0 i) (factsE (l.take n) Ds i) d D)
    (hN:∀ i o d,i < n→l[i]?=some o→o.dst=some d→d < N) (hB:B1≤w1.heap.size)
    (fin:∀ vals ents listed a w,Inv P l n N B1 w1 Fc0 Ds vals ents listed a w→(∀ j,j < n→listed.getD j false=true)→Firsts P l.toArray Q l J (K + 1) (l.drop n) a w) :
    ∀ (m:Nat) (U:List Nat) (vals:Nat→Value) (ents:Nat→List Ent) (listed:Array Bool) (a:Act) (w:World),U.length=m→U.Nodup→(∀ j,j∈U ↔ j < l.length∧listed.getD j false=false) →
      Inv P l n N B1 w1 Fc0 Ds vals ents listed a w→wpAny P .any l.toArray Q m listed a w:=by
  intro m
  have eln:n < l.length:=by
    obtain ⟨o,h1,_⟩:=hL.hd 0 (by omega)
    exact (List.getElem?_eq_some_iff.1 h1).1
  induction m with
  | zero =>
    intro U vals ents listed a w hU hnd hmem inv
    have hU0:U=[]:=List.eq_nil_of_length_eq_zero hU
    subst hU0
    have:=(hmem n).2 ⟨eln,inv.tail n (Nat.le_refl _)⟩
    cases this
  | succ m ih =>
    intro U vals ents listed a w hU hnd hmem inv
    by_cases hall:∀ j,j < n→j ∉ J→listed.getD j false=true
    · obtain ⟨b,vals',ents',listed',i1,i2,i3⟩:=Inv.finishK hok hL hl hparts hN hB w n 0 vals ents listed a (by omega) inv hall fun j hj=>by omega
      refine wpAny_lagK hok hL (m + 1) U n listed a b w hU hnd hmem inv.size (Nat.le_refl _) (fun j hj hjJ=>?_) inv.closed i3 (.inl ⟨K,rfl,fin vals' ents' listed' b w i1 i2⟩)
      by_cases e:j < n
      · rw [hall j e hjJ]; simp [e]
      · rw [inv.tail j (by omega)]; simp [e]
    · obtain ⟨j0,hj0,hj0J,hl0⟩:∃ j,j < n∧j ∉ J∧listed.getD j false=false:=by
        apply Classical.byContradiction
        intro hn
        apply hall
        intro j hj hjJ
        cases hx:listed.getD j false with
        | true=>rfl
        | false=>exact absurd ⟨j,hj,hjJ,hx⟩ hn
      refine ⟨fun h0=>?_,fun i hi=>?_⟩
      · obtain ⟨i,hi⟩:=exists_ready hok inv.size j0 (by omega) hl0
        rw [h0] at hi; cases hi
      · have hin:i < n:=by
          apply Classical.byContradiction
          intro hge
          obtain ⟨_,o,ho,hall2⟩:=mem_ready.1 hi
          have key:=anc_closed (ops:=l.toArray) (S:=fun j=>listed.getD j false=true) (fun i' o' hi' hs' e he hb=>inv.closed i' o' (by simpa using hi') hs' e he hb) 24 o j0 (fun e he hb=>hall2 e he hb) ((hok.tail i o ho (by omega) j0 (by omega)).resolve_left hj0J)
          rw [hl0] at key
          cases key
        have hil:i < l.length:=by omega
        have hiU:i∈U:=(hmem i).2 ⟨hil,by
          have h1:=(mem_ready.1 hi).1
          rw [getD_both_iff (by rw [inv.size]; exact hil)] at h1
          exact h1⟩
        refine inv.step hok hl hparts hN hB hin hi fun v L' a' w' inv'=>?_
        exact ih (U.erase i) _ _ _ _ _ (by rw [List.length_erase_of_mem hiU,hU]; simp) (hnd.erase i) (erase_mem hnd inv.size hil hmem) inv'
theorem any_rgXK {J:List Nat} {K:Nat} {F:List (Nat × Value)} {L:List Ent} {M:Nat→Prop} {w0 w:World} {a:Act} (n:Nat) (hB:rgBL l.toArray n J=true) (hJ:lateBK l n K J=true) (hd:dstB (l.take n) N=true) (hs:St N F L M w0 a w)
    (h:RG P l.toArray N w.heap.size w (fun Fc Fe=>∀ a' w' L',Fr0 w w'→FeOk Fe a' w' L'→St N Fc (L'++L) M w0 a' w'→Links P l n a'→Firsts P l.toArray Q l J (K + 1) (l.drop n) a' w') F [] (l.take n)) :
    RegAny P Q l a w:=by
  have hok:RgOk l.toArray n J:=rgB_spec hB
  have hle:=hok.le
  simp at hle
  have htl:(l.take n).length=n:=by simp [hle]
  obtain ⟨Ds,hlen,hK,hparts⟩:=RG.parts F (l.take n) [] [] rfl h
  simp only [List.nil_append,htl] at hlen hK hparts
  have hget:∀ i o,i < n→l[i]?=some o→(l.take n)[i]?=some o:=fun i o hi ho=>by rw [List.getElem?_take_of_lt hi]; exact ho
  have hparts':∀ i o,i < n→l[i]?=some o→∃ d D,o.dst=some d∧Ds[i]?=some D∧Ob P l.toArray N w.heap.size w (factsC (l.take n) Ds F i) (factsE (l.take n) Ds i) o D∧fresh (factsC (l.take n) Ds F i) (factsE (l.take n) Ds i) d D :=
    fun i o hi ho=>hparts i o (by simp) (hget i o hi ho)
  have hN:∀ i o d,i < n→l[i]?=some o→o.dst=some d→d < N:=fun i o d hi ho hod=>by
    have:=List.all_eq_true.1 hd o (List.mem_of_getElem? (hget i o hi ho))
    rw [hod] at this
    exact lt_of_blt this
  unfold RegAny
  have hdr:Fr0 w { w with drawn:=w.drawn + 1 }:=Fr.drew w
  have hU:((List.range l.length).length=l.toArray.size):=by simp
  refine wpAny_headJK (w1:=w) (B1:=w.heap.size) (Ds:=Ds) (Fc0:=F) hok (lateBK_spec hJ) (by omega) hparts' hN (Nat.le_refl _) ?_ _ (List.range l.length) (fun _=>undef) (fun _=>[]) _ _ _ hU List.nodup_range ?_ ?_
  · intro vals ents listed a' w' inv hall
    have hds:∃ ds:Nat→Nat,∀ j o,(l.take n)[j]?=some o→o.dst=some (ds j):=by
      refine ⟨fun j=>(dstAt l.toArray j).getD 0,fun j o hj=>?_⟩
      have hjn:j < n:=by have:=(List.getElem?_eq_some_iff.1 hj).1; omega
      rw [List.getElem?_take_of_lt hjn] at hj
      obtain ⟨d',hd'⟩:=hok.dst j o (by simpa using hj) hjn
      simp [dstAt,hj,hd']
    obtain ⟨ds,hds⟩:=hds
    have hdsA:∀ j,j < n→dstAt l.toArray j=some (ds j):=fun j hj=>by
      have hjl:j < l.length:=by omega
      have:=hds j l[j] (by rw [List.getElem?_take_of_lt hj]; simp [hjl])
      simp [dstAt,hjl,this]
    have hfr':∀ j o D,(l.take n)[j]?=some o→Ds[j]?=some D→fresh (factsC (l.take n) Ds F j) (factsE (l.take n) Ds j) (ds j) D:=by
      intro j o' D' hj hDj
      have hjn:j < n:=by have:=(List.getElem?_eq_some_iff.1 hj).1; omega
      have hj':=hj
      rw [List.getElem?_take_of_lt hjn] at hj'
      obtain ⟨d2,D2,h1,h2,_,h4⟩:=hparts' j o' hjn hj'
      rw [hDj] at h2
      obtain rfl:=Option.some.inj h2
      have:=hds j o' hj
      rw [h1] at this
      obtain rfl:=Option.some.inj this
      exact h4
    have hknow:Know N (factsC (l.take n) Ds F n) a':=by
      refine ⟨inv.know.1,inv.know.2,fun s v hv=>?_⟩
      rcases factsC_src (Fc0:=F) hds (by omega) hfr' n (by omega) s v hv with ⟨j,hj,h1,h2⟩ | ⟨h1,h2⟩
      · obtain ⟨h4,h5⟩:=inv.done j s _ hj (hall j hj) (by rw [hdsA j hj,h1]) h2
        rw [h4,h5.1]
      · exact inv.base s v h1 fun j hj _ hdj=>by
          rw [hdsA j hj] at hdj
          exact h2 j hj (Option.some.inj hdj)
    have hfe:∀ i,i≤n→∃ L'',FeOk (factsE (l.take n) Ds i) a' w' L''∧L''.Perm ((List.range i).flatMap ents):=by
      intro i
      induction i with
      | zero=>intro _; exact ⟨[],rfl,by simp⟩
      | succ i ih =>
        intro hi
        obtain ⟨L'',h1,h2⟩:=ih (by omega)
        have hil:i < (l.take n).length:=by omega
        have ho:(l.take n)[i]?=some (l.take n)[i]:=List.getElem?_eq_getElem hil
        have hD:Ds[i]?=some (Ds[i]'(by omega)):=List.getElem?_eq_getElem (by omega)
        have hdi:=hds i _ ho
        obtain ⟨h4,h5⟩:=inv.done i (ds i) _ (by omega) (hall i (by omega)) (hdsA i (by omega)) hD
        simp only [factsE,ho,hD,hdi,List.range_succ,List.flatMap_append]
        generalize Ds[i]'(by omega)=D at *
        cases D with
        | c u=>exact ⟨L'',h1,by simp [h5.2]; exact h2⟩
        | e E st =>
          refine ⟨ents i++L'',⟨vals i,ents i,L'',h4,h5,h1,rfl⟩,?_⟩
          simp only [List.flatMap_cons,List.flatMap_nil,List.append_nil]
          exact (List.Perm.append_left _ h2).trans List.perm_append_comm
    obtain ⟨L'',hf1,hf2⟩:=hfe n (Nat.le_refl _)
    have hhas:Has w.heap.size w' L'':=by
      have:(List.range n).flatMap (fun j=>if listed.getD j false=true then ents j else [])=(List.range n).flatMap ents:=flatMap_same _ _ _ fun j hj=>by rw [if_pos (hall j (List.mem_range.1 hj))]
      have hh:=inv.has
      rw [this] at hh
      exact hh.perm hf2
    have hst:St N (factsC (l.take n) Ds F n) (L''++L) M w0 a' w':=⟨hknow,(hs.has.new inv.fr (Nat.zero_le _) hhas),fun e he k hk=>by
      rcases List.mem_append.1 he with he | he
      · exact .inl (Nat.le_trans hs.fr.size (hhas.ge e he k hk))
      · exact hs.own e he k hk,hs.fr.trans0 inv.fr⟩
    refine hK a' w' L'' inv.fr hf1 hst ⟨fun j oj dj s hj hoj hdj hos hsf=>?_,fun j oj dj hj hoj hdj hbj hsf=>?_⟩
    · obtain ⟨d2,D2,h1,h2,_,_⟩:=hparts' j oj hj hoj
      rw [hdj] at h1
      obtain rfl:=Option.some.inj h1
      exact ⟨vals j,(inv.done j dj D2 hj (hall j hj) (by simp [dstAt,hoj,hdj]) h2).1,inv.links j oj s hj hoj (hall j hj) hos hsf⟩
    · obtain ⟨d2,D2,h1,h2,_,_⟩:=hparts' j oj hj hoj
      rw [hdj] at h1
      obtain rfl:=Option.some.inj h1
      obtain ⟨w1,w2,h3⟩:=inv.links2 j oj hj hoj (hall j hj) hbj hsf
      exact ⟨vals j,w1,w2,(inv.done j dj D2 hj (hall j hj) (by simp [dstAt,hoj,hdj]) h2).1,h3⟩
  · intro j
    simp
    intro hj
    simp [Array.getElem?_replicate,hj]
  · refine ⟨by simp,⟨hs.know.size,hs.know.defers⟩,fun j d D hj hl'=>?_,fun s v hv _=>hs.know.at_ s v hv,?_,hdr,fun t _=>?_,fun j o _ hl'=>?_,fun j o s _ _ hl'=>?_,fun j o _ _ hl'=>?_⟩
    · simp [Array.getElem?_replicate] at hl'
      split at hl' <;> simp at hl'
    · have:∀ r:List Nat,r.flatMap (fun j=>if (Array.replicate l.toArray.size false).getD j false=true then ([]:List Ent) else [])=[]:=fun r=>by induction r with | nil=>rfl | cons x t ih=>simp
      rw [this]
      exact .nil _ _
    · simp [Array.getElem?_replicate]
      split <;> simp
    · simp [Array.getElem?_replicate] at hl'
      split at hl' <;> simp at hl'
    · simp [Array.getElem?_replicate] at hl'
      split at hl' <;> simp at hl'
    · simp [Array.getElem?_replicate] at hl'
      split at hl' <;> simp at hl'
theorem wp_region_rgXK {J:List Nat} {id:Nat} {F:List (Nat × Value)} {L:List Ent} {M:Nat→Prop} {w0 w:World} {a:Act} (hm:P.follows .mixedOrders=true) (n K:Nat) (hB:rgBL l.toArray n J=true) (hJ:lateBK l n K J=true) (hd:dstB (l.take n) N=true) (hs:St N F L M w0 a w)
    (h:RG P l.toArray N w.heap.size w (fun Fc Fe=>∀ a' w' L',Fr0 w w'→FeOk Fe a' w' L'→St N Fc (L'++L) M w0 a' w'→Links P l n a'→Firsts P l.toArray Q l J (K + 1) (l.drop n) a' w') F [] (l.take n)) :
    (Code.region id l.toArray true).wp P Q a w:=wp_region_any hm (any_rgXK n hB hJ hd hs h)
end
section
variable {P:Program} {ops:Array Oper} {Q:Exit→Act→World→Prop} {rest:List Oper} {N:Nat} {F F':List (Nat × Value)} {L L':List Ent} {M:Nat→Prop} {w0 w:World} {a:Act}
variable {d:Tmp} {op:Op} {ty:TypeId} {pos:String} {aft:Array Edge} {x y z:Operand} {t u:TypeId}
theorem sf_store {kk:Nat} {i:Nat} {l:List Oper} {J:List Nat} {T':TypeId} {td:TypeDesc} {sz bytes:Nat} {zz:List Value} {gb o:Nat} {cs cs' c:List Value} {v:Value} (hs:St N F L M w0 a w) (hT:Ty P t td sz bytes zz)
    (hx:ev F x=some (.pointer (some ⟨gb,o,none⟩))) (hy:ev F y=some v) (hi:L[i]?=some (.seg gb cs T')) (hv:v.cells.toList=c) (hl:c.length=sz) (h1:c.all (·.oneCell')=true) (hfit:o + sz≤cs.length)
    (hcs:cs.take o++c++cs.drop (o + sz)=cs') (hlate:∀ w,St N F (L.set i (.seg gb cs' T')) M w0 a w→lateOk P l a w J) (k:∀ w,St N F (L.set i (.seg gb cs' T')) M w0 a w→Firsts P ops Q l J kk rest a w) :
    Firsts P ops Q l J (kk + 1) (⟨none,.store t x y,ty,pos,aft,none⟩::rest) a w:=by
  have hr:=c_store (P:=P) (w:=w) (d:=none) (ty:=ty) (pos:=pos) (aft:=aft) (g:=none) hT (hs.ev hx) (hs.ev hy) hv hl h1 (hs.seg hi) hfit
  rw [hcs] at hr
  have hs2:St N F (L.set i (.seg gb cs' T')) M w0 a { w with heap:=(w.setRow gb cs'.toArray).heap }:=hs.mod hi (.setRow w gb _) (setRow_heap w gb _ _ _ _ (hs.seg hi)) (fun j hj=>⟨.inl hj,by
    have h2:gb < w.heap.size:=hs.has.lt _ (List.mem_of_getElem? hi) gb rfl
    cases hj
    simpa using h2⟩)
  exact ⟨_,_,undef,hr,.inl ⟨rfl,rfl⟩,hlate _ hs2,k _ hs2⟩
theorem sf_storeW {kk:Nat} {i:Nat} {l:List Oper} {J:List Nat} {T':TypeId} {td:TypeDesc} {sz bytes:Nat} {zz:List Value} {gb:Nat} {cs c:List Value} (hs:St N F L M w0 a w) (hT:Ty P t td sz bytes zz)
    (hx:ev F x=some (.pointer (some ⟨gb,0,none⟩))) (hy:ev F y=some (.agg c.toArray)) (hi:L[i]?=some (.seg gb cs T')) (hl:c.length=sz) (h1:c.all (·.oneCell')=true) (hcs:cs.length=sz)
    (hlate:∀ w,St N F (L.set i (.seg gb c T')) M w0 a w→lateOk P l a w J) (k:∀ w,St N F (L.set i (.seg gb c T')) M w0 a w→Firsts P ops Q l J kk rest a w) :
    Firsts P ops Q l J (kk + 1) (⟨none,.store t x y,ty,pos,aft,none⟩::rest) a w :=
  sf_store hs hT hx hy hi (by simp [Value.cells]) hl h1 (by omega) (by simp [hcs]) hlate k
end
end Go.Fw
end

section
/- Frames put together again; a block owned once more; openings of []int. -/
namespace Go.Fw
section
open Go
variable {N:Nat} {F F0:List (Nat × Value)} {L L0:List Ent} {M:Nat→Prop} {w0 w1 w:World} {a a0:Act}
theorem St.own1 {g:Nat} {cs:List Value} {T:TypeId} (h:Know N F a) (hb:w.heap[g]?=some (.cells cs.toArray T (0,0))):St N F [.seg g cs T] (fun k=>k=g) w a w :=
  ⟨h,⟨fun e he=>by simp only [List.mem_singleton] at he; subst he; exact hb,List.pairwise_singleton _ _,fun e he k hk=>by
    simp only [List.mem_singleton] at he
    subst he
    have hk:k=g:=hk
    subst hk
    exact heap_lt hb,fun _ _ _ _=>Nat.zero_le _⟩,fun e he k hk=>by
    simp only [List.mem_singleton] at he
    subst he
    exact .inr hk,Fr.refl _ _⟩
end
section
open Go Go.ChangeShapes Go.WideShapes Go.ChangeAt Go.RowKit
variable {H:Type} {enc:TypeId × Value→H} {P:Program} {w:World} {base:Nat} {spare:Nat→Bool} {held:Bool} {fuel:Nat} {t e u:TypeId} {cs:List Value} {x:DataW H × List MemPlace} {v:Value} {d:DataW H} {ps:List MemPlace} {r:Reach} {b0:Nat}
end
end Go.Fw
end

section
/- Structs of which some fields alone are given. -/
namespace Go.Fw
open Go
inductive EvQ (a:Act):List (Nat × Operand)→List (Nat × Value)→Prop
  | nil:EvQ a [] []
  | cons {k:Nat} {x:Operand} {v:Value} {xs:List (Nat × Operand)} {vs:List (Nat × Value)} (h:a.eval x=v) (t:EvQ a xs vs):EvQ a ((k,x)::xs) ((k,v)::vs)
theorem EvQ.map {a:Act} {xs:List (Nat × Operand)} {vs:List (Nat × Value)} (h:EvQ a xs vs):(xs.map fun p=>(p.1,a.eval p.2))=vs:=by
  induction h with
  | nil=>rfl
  | cons h _ ih=>rw [List.map_cons,ih,h]
section
variable {P:Program} {a:Act} {w:World} {d:Option Tmp} {ty:TypeId} {pos:String} {aft:Array Edge} {g:Option (Nat × Bool)} {t:TypeId}
theorem c_buildQ {bytes sz:Nat} {td:TypeDesc} {zs zc:List Value} {pl:Array (Nat × Nat)} {ps:Array (Nat × Operand)} {qs:List (Nat × Value)} (hT:Ty P t td sz bytes zs) (hB:BP P t pl)
    (hps:EvQ a ps.toList qs) (hf:Instr.fill (fun i=>pl[i]?) zs.toArray qs=some zc.toArray) :
    (execOp a.eval ⟨d,.build t ps,ty,pos,aft,g⟩).run P w=.ok (.value (.agg zc.toArray)) w:=by
  obtain ⟨v,hzv,hzc⟩:=hT.zero (w:=w)
  obtain ⟨hb1,hb2⟩:=hB
  have hb3:=hb2 w
  simp only [bind_pure_comp] at hb3
  simp [execOp,Instr.build,hzv,hzc,run_underlying hb1,hb3,hps.map,hf]
end
section
variable {P:Program} {ops:Array Oper} {Q:Exit→Act→World→Prop} {rest:List Oper} {N:Nat} {F F':List (Nat × Value)} {L L':List Ent} {M:Nat→Prop} {w0 w:World} {a:Act}
variable {d:Tmp} {op:Op} {ty:TypeId} {pos:String} {aft:Array Edge} {x y z:Operand} {t u:TypeId}
theorem s_gn {j s:Nat} {b b1 c1 q:Bool} {v:Value} (hs:St N F L M w0 a w) (hj:(ops[j]?).bind (·.dst)=some s) (hb:look F s=some (if c1=b1 then .bool q else undef))
    (hr:c1=b1→q=b→(execOp a.eval ⟨some d,op,ty,pos,aft,none⟩).run P w=.ok (.value v) w) (hd:Nat.blt d N=true)
    (k:∀ a,St N ((d,if c1=b1 then (if q=b then v else undef) else undef)::F) L M w0 a w→wpList P ops Q rest a w):wpList P ops Q (⟨some d,op,ty,pos,aft,some (j,b)⟩::rest) a w:=by
  by_cases e:c1=b1
  · rw [if_pos e] at hb k
    exact s_g hs hj hb (hr e) hd k
  · rw [if_neg e] at hb k
    exact s_noU hs hj hb hd k
end
section
variable {P:Program} {ops:Array Oper} {N B1:Nat} {w1:World} {K:List (Nat × Value)→Fes→Prop} {Fc:List (Nat × Value)} {Fe:Fes} {rest:List Oper}
variable {d:Tmp} {op:Op} {ty:TypeId} {pos:String} {aft:Array Edge}
end
end Go.Fw
end

section
/- Copying into the midst of a block; numbers of sixteen bits; what an owned slice's head is. -/
namespace Go.Fw
open Go
section
variable {P:Program} {ops:Array Oper} {Q:Exit→Act→World→Prop} {rest:List Oper} {N:Nat} {F F':List (Nat × Value)} {L L':List Ent} {M:Nat→Prop} {w0 w:World} {a:Act}
variable {d:Tmp} {op:Op} {ty:TypeId} {pos:String} {aft:Array Edge} {x y z:Operand} {t u:TypeId}
theorem s_copyAt {i g o n c:Nat} {l p:List UInt8} {T dT sT E:TypeId} {ed:TypeDesc} {zs:List Value} {v:Value} (hs:St N F L M w0 a w) (hu:P.underlying dT=some (.slice E)) (hE:Ty P E ed 1 1 zs)
    (hx:ev F x=some (.slice (some ⟨g,o,none⟩) n c)) (hy:ev F y=some v) (hi:L[i]?=some (.seg g (l.map B) T)) (hr:RdB w v p) (hp:p.length=n) (hn:o + n≤l.length) (hd:Nat.blt d N=true)
    (k:∀ a w,St N ((d,I (n:Nat))::F) (L.set i (.seg g ((l.take o++p++l.drop (o + n)).map B) T)) M w0 a w→wpList P ops Q rest a w) :
    wpList P ops Q (⟨some d,.call { callee:=.builtin .copy,args:=#[x,y],argTypes:=#[dT,sT] },ty,pos,aft,none⟩::rest) a w:=by
  subst hp
  have hg:=hs.seg hi
  obtain ⟨inf,hi1,hi2,_⟩:=hE.info
  have hsz:(P.info? E).map (·.size)=some 1:=by rw [hi1]; simp [hi2]
  have key:∃ w',(Builtin.copy_ #[dT,sT] ty #[.slice (some ⟨g,o,none⟩) p.length c,v]).run P w=.ok (I (p.length:Nat)) w'∧Fr (·=g) w w' ∧
      w'.heap[g]?=some (.cells ((l.take o++p++l.drop (o + p.length)).map B).toArray T (0,0)):=by
    rcases hr.src with ⟨rfl,h2,_⟩ | ⟨ad,cap,rfl,hc⟩
    · refine ⟨w,?_,.refl _ _,?_⟩
      · rw [run_copy_nil P w dT sT ty E _ _ _ hu (by rw [hsz]; rfl)]
        simp [h2,goInt]
      · have hp:p=[]:=List.eq_nil_of_length_eq_zero h2
        subst hp
        simpa using hg
    · have hlen:(p.map B).length=Nat.min p.length p.length:=by simp
      have hrun:=run_copy_row (P:=P) w dT sT ty E g o p.length c ad p.length cap (l.map B).toArray T (p.map B) hu hsz hg hlen (fun j v hj=>hc j v hj) (by simp; omega) (by intro v hv; obtain ⟨b,_,rfl⟩:=List.mem_map.1 hv; rfl)
      have hres:((l.map B).toArray.toList.take o++p.map B++(l.map B).toArray.toList.drop (o + (p.map B).length))=(l.take o++p++l.drop (o + p.length)).map B:=by
        simp
      rw [hres,List.length_map] at hrun
      exact ⟨_,hrun,.setRow _ _ _,setRow_heap w g _ _ T (0,0) hg⟩
  obtain ⟨w',hrun,hf,hg'⟩:=key
  have hrun':(execOp a.eval ⟨some d,.call { callee:=.builtin .copy,args:=#[x,y],argTypes:=#[dT,sT] },ty,pos,aft,none⟩).run P w=.ok (.value (I (p.length:Nat))) w':=by
    simp [execOp,resolve,invoke,builtin,hs.ev hx,hs.ev hy,hrun]
  refine wpList_plain rfl fun K hK=>upon_value hrun' (hK _ _ (k _ _ ?_))
  refine (hs.mod (e':=.seg g ((l.take o++p++l.drop (o + p.length)).map B) T) hi hf hg' fun k hk=>⟨.inl hk,?_⟩).put (lt_of_blt hd) _
  obtain rfl:k=g:=hk
  exact heap_lt hg'
end
/-! numbers of sixteen bits -/
abbrev W16 (x:UInt16):Value:=.int .u16 (x.toNat:Int)
section
variable {P:Program} {a:Act} {w:World} {d:Option Tmp} {ty:TypeId} {pos:String} {aft:Array Edge} {g:Option (Nat × Bool)} {x y z:Operand} {t u:TypeId} {p q:UInt16}
theorem wrapW {n:Int}:IntKind.u16.wrap n=n % 65536:=by
  simp [IntKind.wrap,IntKind.bits,IntKind.signed]
theorem c_addW (hx:a.eval x=W16 p) (hy:a.eval y=W16 q):(execOp a.eval ⟨d,.binOp .add t x y u,ty,pos,aft,g⟩).run P w=.ok (.value (W16 (p + q))) w:=by
  simp [execOp,hx,hy,eqGuard,binOp,Op.intArith,wrapW,UInt16.toNat_add]
theorem c_cvBW {ds:TypeDesc} {b:UInt8} (hs:P.underlying t=some ds) (hd:P.underlying u=some (.int .u16)) (hx:a.eval x=B b):(execOp a.eval ⟨d,.convert t u x,ty,pos,aft,g⟩).run P w=.ok (.value (W16 b.toUInt16)) w:=by
  rw [c_conv hs hd hx,wrapW]
  have h:=b.toNat_lt
  have e:(b.toUInt16.toNat:Int)=(b.toNat:Int) % 65536:=by
    rw [UInt8.toNat_toUInt16]
    omega
  rw [← e]
theorem c_cvWB {ds:TypeDesc} {b:UInt16} (hs:P.underlying t=some ds) (hd:P.underlying u=some (.int .u8)) (hx:a.eval x=W16 b):(execOp a.eval ⟨d,.convert t u x,ty,pos,aft,g⟩).run P w=.ok (.value (B b.toUInt8)) w:=by
  rw [c_conv hs hd hx,wrapB]
  have e:(b.toUInt8.toNat:Int)=(b.toNat:Int) % 256:=by
    rw [UInt16.toNat_toUInt8]
    omega
  rw [← e]
theorem c_shrW {k:IntKind} {n:Nat} (hx:a.eval x=W16 p) (hy:a.eval y=.int k (n:Int)) (hn:n < 16) :
    (execOp a.eval ⟨d,.binOp .shr t x y u,ty,pos,aft,g⟩).run P w=.ok (.value (W16 (p >>> UInt16.ofNat n))) w:=by
  have e:(p >>> UInt16.ofNat n).toNat=p.toNat / 2 ^ n:=by
    rw [UInt16.toNat_shiftRight,Nat.shiftRight_eq_div_pow]
    simp [Nat.mod_eq_of_lt (a:=n) (b:=65536) (by omega),Nat.mod_eq_of_lt hn]
  have hm:min n 16=n:=by omega
  simp [execOp,hx,hy,eqGuard,binOp,Op.shift,IntKind.bits,hm,e]
end
theorem owns_cut0 {w:World} {n cap sz:Nat} {ad:Option Addr} {T:TypeId} {xs:List Value} (h:w.ownsRow 0 T sz (.slice ad n cap) n xs):(if cap=0 then ad else ad.map (·.add 0))=ad:=by
  obtain ⟨h1,h2⟩:=h
  rcases h2 with ⟨h3,_⟩ | ⟨g,cap',cur,h3,_⟩
  · cases h3; rfl
  · cases h3
    split <;> rfl
end Go.Fw
end

section
/- The device: what its calls come to,in plain words. -/
namespace Go.Proofs.Ytkecdcmjkghddaa
open Go Go.Fw
structure Wr where
  p:Nat
  b:List UInt8
  deriving Inhabited
def Wr.c (x:Wr):List Value:=I x.p::x.b.map B
def wrC (q:List Wr):List Value:=q.flatMap Wr.c
def Wr.Ok (n:Nat) (x:Wr):Prop:=x.b.length=64∧x.p < n
theorem Wr.c_len {n:Nat} {x:Wr} (h:x.Ok n):x.c.length=65:=by simp [Wr.c,h.1]
theorem wr_at {q:List Wr} {k:Nat} (h:k < q.length):q.getD k default=q[k]:=by simp [List.getD_eq_getElem?_getD,h]
theorem wr_ok {n:Nat} {q:List Wr} (hq:∀ x∈q,x.Ok n) {k:Nat} (h:k < q.length):(q.getD k default).Ok n:=by
  rw [wr_at h]; exact hq _ (List.getElem_mem h)
theorem wrC_app (q r:List Wr):wrC (q++r)=wrC q++wrC r:=by simp [wrC]
theorem wrC_one (x:Wr):wrC [x]=x.c:=by simp [wrC]
theorem wrC_piece {n:Nat}:∀ {q:List Wr} {k:Nat},(∀ x∈q,x.Ok n)→k < q.length→((wrC q).drop (k * 65)).take 65=(q.getD k default).c
  | [],k,_,h=>absurd h (by simp)
  | x::q,0,h,_=>by
    have h2:=Wr.c_len (h x (List.mem_cons_self ..))
    simp [wrC,h2]
  | x::q,k + 1,h,hk=>by
    have h1:=wrC_piece (n:=n) (k:=k) (fun y hy=>h y (List.mem_cons_of_mem _ hy)) (show k < q.length by simpa using hk)
    have h2:=Wr.c_len (h x (List.mem_cons_self ..))
    rw [show (k + 1) * 65=x.c.length + k * 65 by omega]
    show (List.take 65 (List.drop (x.c.length + k * 65) (x.c++wrC q)))=_
    rw [← List.drop_drop,List.drop_left,h1]
    rfl
theorem wr_piece {n:Nat} {all:List Value} {k:Nat} {q:List Wr} (hq:∀ x∈q,x.Ok n) (h:all.take (q.length * 65)=wrC q) (hk:k < q.length):(all.drop (0 + k * 65)).take 65=(q.getD k default).c:=by
  have h2:((all.take (q.length * 65)).drop (k * 65)).take 65=((wrC q).drop (k * 65)).take 65:=by rw [h]
  rw [List.drop_take,List.take_take,Nat.min_eq_left (by omega),wrC_piece hq hk] at h2
  rw [Nat.zero_add,h2]
theorem wr_cell {n:Nat} {all:List Value} {k:Nat} {q:List Wr} (hq:∀ x∈q,x.Ok n) (h:all.take (q.length * 65)=wrC q) (hk:k < q.length):all[0 + k * 65 + 0]?=some (I (q.getD k default).p):=by
  have h1:=wr_piece hq h hk
  have h2:=congrArg (fun l:List Value=>l[0]?) h1
  simp only [List.getElem?_take,List.getElem?_drop] at h2
  simpa [Wr.c] using h2
theorem wr_body {n:Nat} {all:List Value} {k:Nat} {q:List Wr} (hq:∀ x∈q,x.Ok n) (h:all.take (q.length * 65)=wrC q) (hk:k < q.length):(all.drop (0 + k * 65 + 1)).take 64=(q.getD k default).b.map B:=by
  have h1:=wr_piece hq h hk
  have h2:=congrArg (fun l:List Value=>l.drop 1) h1
  simp only [List.drop_take,List.drop_drop] at h2
  simpa [Wr.c] using h2
def putW (xs:List UInt8) (x:Wr):List UInt8:=xs.take (x.p * 64)++x.b++xs.drop (x.p * 64 + 64)
def putQ (xs:List UInt8) (q:List Wr):List UInt8:=q.foldl putW xs
def tearW (xs:List UInt8) (x:Wr) (t:Nat):List UInt8:=xs.take (x.p * 64)++x.b.take t++xs.drop (x.p * 64 + t)
def sec (xs:List UInt8) (j:Nat):List UInt8:=(xs.drop (j * 64)).take 64
theorem putW_len {n:Nat} {xs:List UInt8} {x:Wr} (hx:xs.length=n * 64) (h:x.Ok n):(putW xs x).length=n * 64:=by
  obtain ⟨h1,h2⟩:=h
  have:x.p * 64 + 64≤n * 64:=by omega
  simp [putW,h1,hx]
  omega
theorem tearW_len {n t:Nat} {xs:List UInt8} {x:Wr} (hx:xs.length=n * 64) (h:x.Ok n) (ht:t≤64):(tearW xs x t).length=n * 64:=by
  obtain ⟨h1,h2⟩:=h
  have:x.p * 64 + 64≤n * 64:=by omega
  simp [tearW,h1,hx]
  omega
theorem putQ_len {n:Nat}:∀ {q:List Wr} {xs:List UInt8},xs.length=n * 64→(∀ x∈q,x.Ok n)→(putQ xs q).length=n * 64
  | [],xs,hx,_=>hx
  | x::q,xs,hx,h=>putQ_len (q:=q) (putW_len hx (h x (List.mem_cons_self ..))) fun y hy=>h y (List.mem_cons_of_mem _ hy)
theorem putQ_succ {xs:List UInt8} {q:List Wr} {k:Nat} (h:k < q.length):putQ xs (q.take (k + 1))=putW (putQ xs (q.take k)) (q.getD k default):=by
  rw [putQ,putQ,List.take_add_one,List.foldl_append,wr_at h,List.getElem?_eq_getElem h]
  rfl
theorem take_ok {n k:Nat} {q:List Wr} (h:∀ x∈q,x.Ok n):∀ x∈q.take k,x.Ok n:=fun x hx=>h x (List.mem_of_mem_take hx)
theorem sec_len {n j:Nat} {xs:List UInt8} (hx:xs.length=n * 64) (h:j < n):(sec xs j).length=64:=by
  have:j * 64 + 64≤n * 64:=by omega
  simp [sec,hx]
  omega
theorem sec_tear {n t j:Nat} {xs:List UInt8} {x:Wr} (hx:xs.length=n * 64) (h:x.Ok n) (ht:t≤64) (hj:j < n):sec (tearW xs x t) j=if j=x.p then x.b.take t++(sec xs j).drop t else sec xs j:=by
  obtain ⟨h1,h2⟩:=h
  have a1:x.p * 64 + 64≤n * 64:=by omega
  have a2:j * 64 + 64≤n * 64:=by omega
  unfold sec tearW
  split
  · rename_i e
    subst e
    rw [List.append_assoc,List.drop_left' (by simp; omega),List.take_append,List.take_of_length_le (by simp; omega)]
    simp only [List.length_take,h1,Nat.min_eq_left ht,List.drop_take,List.drop_drop]
  · rename_i e
    apply List.ext_getElem?
    intro i
    simp only [List.getElem?_take,List.getElem?_drop,List.getElem?_append,List.length_append,List.length_take,hx,h1]
    by_cases hi:i < 64
    · rw [if_pos hi,if_pos hi,Nat.min_eq_left (show x.p * 64≤n * 64 by omega),Nat.min_eq_left ht]
      by_cases c1:j * 64 + i < x.p * 64
      · rw [if_pos (by omega),if_pos c1,if_pos (by omega)]
      · rw [if_neg (by omega),show x.p * 64 + t + (j * 64 + i - (x.p * 64 + t))=j * 64 + i by omega]
    · rw [if_neg hi,if_neg hi]
theorem tear_full {xs:List UInt8} {x:Wr} {n:Nat} (h:x.Ok n):tearW xs x 64=putW xs x:=by
  unfold tearW putW
  rw [show x.b.take 64=x.b from List.take_of_length_le (by rw [h.1]; omega)]
theorem sec_put {n j:Nat} {xs:List UInt8} {x:Wr} (hx:xs.length=n * 64) (h:x.Ok n) (hj:j < n):sec (putW xs x) j=if j=x.p then x.b else sec xs j:=by
  rw [← tear_full h,sec_tear hx h (Nat.le_refl _) hj,List.take_of_length_le (by rw [h.1]; omega)]
  split
  · rw [List.drop_of_length_le (by rw [sec_len hx hj]; omega),List.append_nil]
  · rfl
def ofW (q:List Wr) (j:Nat) (first:List UInt8):List UInt8:=q.foldl (fun f x=>if x.p=j then x.b else f) first
theorem ofW_app (q r:List Wr) (j:Nat) (f:List UInt8):ofW (q++r) j f=ofW r j (ofW q j f):=List.foldl_append ..
theorem ofW_succ {q:List Wr} {k j:Nat} {f:List UInt8} (h:k < q.length):ofW (q.take (k + 1)) j f=if (q.getD k default).p=j then (q.getD k default).b else ofW (q.take k) j f:=by
  rw [ofW,List.take_add_one,List.foldl_append,wr_at h,List.getElem?_eq_getElem h]
  rfl
theorem sec_putQ {n j:Nat} (hj:j < n):∀ {q:List Wr} {xs:List UInt8},xs.length=n * 64→(∀ x∈q,x.Ok n)→sec (putQ xs q) j=ofW q j (sec xs j)
  | [],xs,hx,_=>rfl
  | x::q,xs,hx,h=>by
    have hxo:=h x (List.mem_cons_self ..)
    rw [putQ,List.foldl_cons,← putQ,sec_putQ hj (putW_len hx hxo) fun y hy=>h y (List.mem_cons_of_mem _ hy),sec_put hx hxo hj]
    simp only [ofW,List.foldl_cons]
    congr 1
    by_cases e:x.p=j
    · subst e; simp
    · rw [if_neg e,if_neg (fun h=>e h.symm)]
theorem ofW_len {n j:Nat}:∀ {q:List Wr} {f:List UInt8},f.length=64→(∀ x∈q,x.Ok n)→(ofW q j f).length=64
  | [],f,hf,_=>hf
  | x::q,f,hf,h=>by
    refine ofW_len (q:=q) (n:=n) (f:=if x.p=j then x.b else f) ?_ (fun y hy=>h y (List.mem_cons_of_mem _ hy))
    split
    · exact (h x (List.mem_cons_self ..)).1
    · exact hf
theorem ofW_none {j:Nat}:∀ {q:List Wr} {f:List UInt8},(∀ x∈q,¬ x.p=j)→ofW q j f=f
  | [],_,_=>rfl
  | x::q,f,h=>by
    simp only [ofW,List.foldl_cons,if_neg (h x (List.mem_cons_self ..))]
    exact ofW_none (q:=q) fun y hy=>h y (List.mem_cons_of_mem _ hy)
theorem ofW_hit {j k:Nat} {q:List Wr} {f:List UInt8} (hk:k < q.length) (he:(q.getD k default).p=j) (hn:∀ i,k < i→i < q.length→¬ (q.getD i default).p=j):ofW q j f=(q.getD k default).b:=by
  rw [← List.take_append_drop (k + 1) q,ofW_app,ofW_none (q:=q.drop (k + 1)),ofW_succ hk,if_pos he]
  · rw [List.take_append_drop]
  · intro x hx
    obtain ⟨i,hi,rfl⟩:=List.getElem_of_mem hx
    simp only [List.length_drop] at hi
    have:=hn (k + 1 + i) (by omega) (by omega)
    rw [wr_at (by omega)] at this
    simpa using this
theorem ofW_miss {j:Nat} {q:List Wr} {f:List UInt8} (hn:∀ i,i < q.length→¬ (q.getD i default).p=j):ofW q j f=f :=
  ofW_none fun x hx=>by
    obtain ⟨i,hi,rfl⟩:=List.getElem_of_mem hx
    have:=hn i hi
    rwa [wr_at hi] at this
structure Sl where
  n:Nat
  xs:List UInt8
  q:List Wr
  fuse:Int
  down:Bool
  steps:Nat
  deriving Inhabited
structure Sl.Ok (s:Sl):Prop where
  n1:s.n≤4096
  xl:s.xs.length=s.n * 64
  qo:∀ x∈s.q,x.Ok s.n
  f1:-1≤s.fuse
  f2:s.fuse≤9223372036854775807
def newS (n:Nat):Sl:=⟨n,List.replicate (n * 64) 0,[],-1,false,0⟩
def Sl.up (s:Sl):Int:=if s.down=true then 5 else 0
def Sl.off (s:Sl):Sl:={ s with down:=true }
def Sl.on (s:Sl):Sl:={ s with fuse:=if 0 < s.fuse then s.fuse - 1 else s.fuse,steps:=s.steps + 1 }
def Sl.pow (s:Sl):Sl:=if s.fuse=0 then s.off else s.on
def Sl.write (s:Sl) (j:Int) (b:List UInt8):Int × Sl :=
  if s.down=true then (5,s) else if j < 0∨s.n≤j then (1,s) else if s.fuse=0 then (5,s.off) else (0,{ s.on with q:=s.q++[⟨j.toNat,b⟩] })
def Sl.flush (s:Sl):Int × Sl:=if s.down=true then (5,s) else if s.fuse=0 then (5,s.off) else (0,{ s.on with xs:=putQ s.xs s.q,q:=[] })
def Sl.fus (s:Sl) (n:Int):Int × Sl:=if s.down=true then (5,s) else (0,{ s with fuse:=max n (-1) })
def zero64:List UInt8:=List.replicate 64 0
def Sl.read (s:Sl) (j:Int):List UInt8 × Int:=if s.down=true then (zero64,5) else if j < 0∨s.n≤j then (zero64,1) else (ofW s.q j.toNat (sec s.xs j.toNat),0)
def clampN (n:Int) (m:Nat):Nat:=min n.toNat m
def Sl.crash (s:Sl) (wr by_:Int):Sl :=
  { s with xs:=(if clampN wr s.q.length < s.q.length then tearW (putQ s.xs (s.q.take (clampN wr s.q.length))) (s.q.getD (clampN wr s.q.length) default) (clampN by_ 64) else putQ s.xs (s.q.take (clampN wr s.q.length))),q:=[],fuse:=-1,down:=false }
theorem clampN_eq (n:Int) (m:Nat):max 0 (min n (m:Int))=(clampN n m:Int):=by unfold clampN; omega
theorem clampN_le (n:Int) (m:Nat):clampN n m≤m:=by unfold clampN; omega
theorem newS_ok {n:Nat} (h:n≤4096):(newS n).Ok:=⟨h,by simp [newS],fun x hx=>(by cases hx),(by show (-1:Int)≤-1; decide),(by show (-1:Int)≤_; decide)⟩
theorem Sl.on_ok {s:Sl} (h:s.Ok):s.on.Ok:=⟨h.n1,h.xl,h.qo,by
  have:=h.f1
  simp only [Sl.on]
  split <;> omega,by
  have:=h.f2
  simp only [Sl.on]
  split <;> omega⟩
theorem Sl.off_ok {s:Sl} (h:s.Ok):s.off.Ok:=⟨h.n1,h.xl,h.qo,h.f1,h.f2⟩
theorem Sl.write_ok {s:Sl} (h:s.Ok) {j:Int} {b:List UInt8} (hb:b.length=64):(s.write j b).2.Ok:=by
  unfold Sl.write
  split
  · exact h
  split
  · exact h
  split
  · exact Sl.off_ok h
  · obtain ⟨h1,h2,h3,h4,h5⟩:=Sl.on_ok h
    refine ⟨h1,h2,fun x hx=>?_,h4,h5⟩
    rcases List.mem_append.1 hx with hx | hx
    · exact h.qo x hx
    · obtain rfl:=List.mem_singleton.1 hx
      refine ⟨hb,?_⟩
      show j.toNat < s.n
      omega
theorem Sl.flush_ok {s:Sl} (h:s.Ok):s.flush.2.Ok:=by
  unfold Sl.flush
  split
  · exact h
  split
  · exact Sl.off_ok h
  · obtain ⟨h1,h2,h3,h4,h5⟩:=Sl.on_ok h
    exact ⟨h1,putQ_len h.xl h.qo,fun x hx=>(by cases hx),h4,h5⟩
theorem Sl.fus_ok {s:Sl} (h:s.Ok) {n:Int} (hn:n≤9223372036854775807):(s.fus n).2.Ok:=by
  unfold Sl.fus
  split
  · exact h
  · refine ⟨h.n1,h.xl,h.qo,?_,?_⟩
    · show -1≤max n (-1); omega
    · show max n (-1)≤_; omega
theorem Sl.crash_ok {s:Sl} (h:s.Ok) (wr by_:Int):(s.crash wr by_).Ok:=by
  refine ⟨h.n1,?_,fun x hx=>(by cases hx),(by show (-1:Int)≤-1; decide),(by show (-1:Int)≤_; decide)⟩
  show (if _ then _ else _:List UInt8).length=s.n * 64
  have h1:=putQ_len h.xl (take_ok (k:=clampN wr s.q.length) h.qo)
  split
  · rename_i hk
    exact tearW_len h1 (wr_ok h.qo hk) (clampN_le _ _)
  · exact h1
end Go.Proofs.Ytkecdcmjkghddaa
end

section
/- Openings of structs of ints and bytes; things taken apart; a region with one call that turns something: what it leaves is told. -/
namespace Go.Fw
open Go Go.ChangeShapes Go.WideShapes Go.ChangeAt Go.RowKit
section
variable {H:Type} {enc:TypeId × Value→H} {P:Program} {w:World} {base:Nat} {spare:Nat→Bool} {held:Bool} {fuel:Nat} {t e u:TypeId} {cs:List Value} {x:DataW H × List MemPlace} {v:Value} {d:DataW H} {ps:List MemPlace} {r:Reach} {b0:Nat}
theorem cut_at {α:Type} (l:List α) (a b:Nat):l.drop a=(l.drop a).take b++l.drop (a + b):=by rw [← List.drop_drop,List.take_append_drop]
theorem trodI {f:Field} {y:DataW H × List MemPlace} (h0:P.underlying f.type=some (.int .i64)) (c0:P.cellsOf f.type=1) {o:Nat} (o0:f.offset=o) (h:DataW.trod enc P w base spare held fuel f.type ((cs.drop f.offset).take (P.cellsOf f.type))=some y) :
    ∃ n:Int,(cs.drop o).take 1=[I n]∧-9223372036854775808≤n∧n≤9223372036854775807:=by
  rw [o0,c0] at h
  obtain ⟨z,hz,_,hw⟩:=DataW.trod_int h0 h
  exact ⟨z,hz,bounds_i64 hw⟩
theorem trodU {f:Field} {y:DataW H × List MemPlace} (h0:P.underlying f.type=some (.int .u32)) (c0:P.cellsOf f.type=1) {o:Nat} (o0:f.offset=o) (h:DataW.trod enc P w base spare held fuel f.type ((cs.drop f.offset).take (P.cellsOf f.type))=some y) :
    ∃ n:UInt32,(cs.drop o).take 1=[U n]:=by
  rw [o0,c0] at h
  obtain ⟨z,hz,_,hw⟩:=DataW.trod_int h0 h
  obtain ⟨b,hb⟩:=ofU hw
  exact ⟨b,by rw [hz,← hb]⟩
end
/-! rows of anything,piece by piece -/
theorem fm_len {α:Type} {f:α→List Value} {m:Nat}:∀ {l:List α},(∀ x∈l,(f x).length=m)→(l.flatMap f).length=l.length * m
  | [],_=>by simp
  | x::l,h=>by
    rw [List.flatMap_cons,List.length_append,fm_len (l:=l) (fun y hy=>h y (List.mem_cons_of_mem _ hy)),h x (List.mem_cons_self ..),List.length_cons,Nat.succ_mul,Nat.add_comm]
section
variable {α:Type} [Inhabited α] {f:α→List Value} {m:Nat}
theorem getD_lt {l:List α} {k:Nat} (h:k < l.length):l.getD k default=l[k]:=by simp [List.getD_eq_getElem?_getD,h]
theorem getD_mem {l:List α} {k:Nat} (h:k < l.length):l.getD k default∈l:=by rw [getD_lt h]; exact List.getElem_mem h
theorem fm_piece:∀ {l:List α} {k:Nat},(∀ x∈l,(f x).length=m)→k < l.length→((l.flatMap f).drop (k * m)).take m=f (l.getD k default)
  | [],k,_,h=>absurd h (by simp)
  | x::l,0,h,_=>by
    rw [List.flatMap_cons,Nat.zero_mul,List.drop_zero]
    exact List.take_left' (h x (List.mem_cons_self ..))
  | x::l,k + 1,h,hk=>by
    rw [List.flatMap_cons,Nat.succ_mul,Nat.add_comm,← List.drop_drop,List.drop_left' (h x (List.mem_cons_self ..)),fm_piece (fun y hy=>h y (List.mem_cons_of_mem _ hy)) (show k < l.length by simpa using hk)]
    rfl
theorem fm_row {all:List Value} {l:List α} {k:Nat} (hl:∀ x∈l,(f x).length=m) (h:all.take (l.length * m)=l.flatMap f) (hk:k < l.length):(all.drop (0 + k * m)).take m=f (l.getD k default):=by
  have hle:(k + 1) * m≤l.length * m:=Nat.mul_le_mul_right _ (by omega)
  rw [Nat.succ_mul] at hle
  have h2:((all.take (l.length * m)).drop (k * m)).take m=((l.flatMap f).drop (k * m)).take m:=by rw [h]
  rw [List.drop_take,List.take_take,Nat.min_eq_left (by omega),fm_piece hl hk] at h2
  rw [Nat.zero_add,h2]
theorem Rd.fm_at {w:World} {ad:Option Addr} {cap:Nat} {l:List α} (hm:0 < m) (hl:∀ x∈l,(f x).length=m) (h:Rd w (.slice ad l.length cap) l.length (l.flatMap f)) (hn:0 < l.length) :
    ∃ b o T fr all,ad=some ⟨b,o,none⟩∧w.heap[b]?=some (.cells all T fr)∧∀ k,k < l.length→(all.toList.drop (o + k * m)).take m=f (l.getD k default):=by
  obtain ⟨b,o,cap',T,fr,all,e,_,_,hb,hc⟩:=Rd.at_ h (by
    intro e
    have:=congrArg List.length e
    rw [fm_len hl] at this
    have h2:1 * 1≤l.length * m:=Nat.mul_le_mul hn hm
    simp only [List.length_nil] at this
    omega)
  cases e
  refine ⟨b,o,T,fr,all,rfl,hb,fun k hk=>?_⟩
  have hle:(k + 1) * m≤l.length * m:=Nat.mul_le_mul_right _ (by omega)
  rw [Nat.succ_mul] at hle
  have h2:(((all.toList.drop o).take (l.flatMap f).length).drop (k * m)).take m=((l.flatMap f).drop (k * m)).take m:=by rw [hc]
  rw [fm_len hl,List.drop_take,List.take_take,Nat.min_eq_left (by omega),List.drop_drop,fm_piece hl hk] at h2
  exact h2
end
end Go.Fw
namespace Go.Fw
open Go
section
variable {N:Nat} {F F':List (Nat × Value)} {L L' A:List Ent} {M:Nat→Prop} {w0 w w':World} {a a':Act}
theorem St.ungrp (h:St N F (.grp A::L) M w0 a w):St N F (A++L) M w0 a w:=by
  have hA:Has 0 w A:=h.has.holds _ (List.mem_cons_self ..)
  have hc:=List.pairwise_cons.1 h.has.apart
  refine ⟨h.know,⟨fun e he=>?_,?_,fun e he k hk=>?_,fun _ _ _ _=>Nat.zero_le _⟩,fun e he k hk=>?_,h.fr⟩
  · rcases List.mem_append.1 he with he | he
    · exact hA.holds e he
    · exact h.has.holds e (List.mem_cons_of_mem _ he)
  · exact List.pairwise_append.2 ⟨hA.apart,hc.2,fun x hx y hy k h1 h2=>hc.1 y hy k ⟨x,hx,h1⟩ h2⟩
  · rcases List.mem_append.1 he with he | he
    · exact hA.lt e he k hk
    · exact h.has.lt e (List.mem_cons_of_mem _ he) k hk
  · rcases List.mem_append.1 he with he | he
    · exact h.own _ (List.mem_cons_self ..) k ⟨e,he,hk⟩
    · exact h.own e (List.mem_cons_of_mem _ he) k hk
theorem St.getM {i j:Nat} {e x:Ent} (hs:St N F L M w0 a w) (hi:L[i]?=some x) (hj:L[j]?=some e) (hij:i ≠ j) (hf:Fr e.keys w w'):x.holds w' :=
  x.loc (fun k hk=>hf.block k (hs.has.lt x (List.mem_of_getElem? hi) k hk) (fun h2=>apart_at hs.has.apart hi hj hij k hk h2)) (hs.get hi)
end
end Go.Fw
namespace Go.FwO
open Go Go.Fw
section
variable {cc:Nat} {P:Program} {ops:Array Oper} {N B1:Nat} {w1:World} {Fk:World→World→Prop} {K:List (Nat × Value)→Fes→Prop} {Fc:List (Nat × Value)} {Fe:Fes} {rest:List Oper}
variable {d:Tmp} {op:Op} {ty:TypeId} {pos:String} {aft:Array Edge} {x y z:Operand} {t u:TypeId}
end
end Go.FwO
namespace Go.Fw
open Go
section
variable {P:Program} {Q:Exit→Act→World→Prop} {a:Act} {w:World}
theorem wp_sc {c:Code} (h:c.wp P (Exit.noGoto Q) a w):(Code.scope c).wp P Q a w:=wp_scope_straight h
theorem sc_r (h:Q .ret a w):Exit.noGoto Q .ret a w:=h
end
end Go.Fw
end

section
/- Parts of arrays; copying less than there is room. -/
namespace Go.Fw
open Go
section
variable {P:Program} {a:Act} {w:World} {d:Option Tmp} {ty:TypeId} {pos:String} {aft:Array Edge} {g:Option (Nat × Bool)} {x y z:Operand} {t u:TypeId}
theorem c_sliceAL {n:Nat} {E:TypeId} {bytes:Nat} {ed:TypeDesc} {zz:List Value} {gb o:Nat} {i:Nat} {k:IntKind} {m:Int} (hu:P.underlying t=some (.array n E)) (hE:Ty P E ed 1 bytes zz)
    (hx:a.eval x=.pointer (some ⟨gb,o,none⟩)) (hy:a.eval y=.int k m) (hm:m=(i:Int)) (hi:i < n) :
    (execOp a.eval ⟨d,.slice t x (some y) none none,ty,pos,aft,g⟩).run P w=.ok (.value (.slice (some ⟨gb,o + i,none⟩) (n - i) (n - i))) w:=by
  subst hm
  have h1:¬ n=i:=by omega
  simp [execOp,Instr.sliceAt,Instr.slice,Instr.sureAddr,hx,hy,run_underlying hu,Instr.sliceBounds,Instr.sliceBound,asIntOf,hE.size,h1,Addr.add,Nat.le_of_lt hi]
  all_goals (first | omega | rfl | skip)
theorem c_sliceAS {n:Nat} {E:TypeId} {bytes:Nat} {ed:TypeDesc} {zz:List Value} {gb o:Nat} {i j:Nat} {k k':IntKind} {m m':Int} (hu:P.underlying t=some (.array n E)) (hE:Ty P E ed 1 bytes zz)
    (hx:a.eval x=.pointer (some ⟨gb,o,none⟩)) (hy:a.eval y=.int k m) (hz:a.eval z=.int k' m') (hm:m=(i:Int)) (hm':m'=(j:Int)) (hij:i≤j) (hj:j≤n) (hi:i < n) :
    (execOp a.eval ⟨d,.slice t x (some y) (some z) none,ty,pos,aft,g⟩).run P w=.ok (.value (.slice (some ⟨gb,o + i,none⟩) (j - i) (n - i))) w:=by
  subst hm hm'
  have h1:¬ n=i:=by omega
  simp [execOp,Instr.sliceAt,Instr.slice,Instr.sureAddr,hx,hy,hz,run_underlying hu,Instr.sliceBounds,Instr.sliceBound,asIntOf,hE.size,h1,hij,hj,Addr.add,Nat.le_of_lt hi]
  all_goals (first | omega | rfl | skip)
end
section
variable {P:Program} {ops:Array Oper} {Q:Exit→Act→World→Prop} {rest:List Oper} {N:Nat} {F F':List (Nat × Value)} {L L':List Ent} {M:Nat→Prop} {w0 w:World} {a:Act}
variable {d:Tmp} {op:Op} {ty:TypeId} {pos:String} {aft:Array Edge} {x y z:Operand} {t u:TypeId}
theorem s_copyTo {i g o n c:Nat} {l p:List UInt8} {T dT sT E:TypeId} {ed:TypeDesc} {zs:List Value} {v:Value} (hs:St N F L M w0 a w) (hu:P.underlying dT=some (.slice E)) (hE:Ty P E ed 1 1 zs)
    (hx:ev F x=some (.slice (some ⟨g,o,none⟩) n c)) (hy:ev F y=some v) (hi:L[i]?=some (.seg g (l.map B) T)) (hr:RdB w v p) (hp:p.length≤n) (hn:o + n≤l.length) (hd:Nat.blt d N=true)
    (k:∀ a w,St N ((d,I (p.length:Nat))::F) (L.set i (.seg g ((l.take o++p++l.drop (o + p.length)).map B) T)) M w0 a w→wpList P ops Q rest a w) :
    wpList P ops Q (⟨some d,.call { callee:=.builtin .copy,args:=#[x,y],argTypes:=#[dT,sT] },ty,pos,aft,none⟩::rest) a w:=by
  have hg:=hs.seg hi
  obtain ⟨inf,hi1,hi2,_⟩:=hE.info
  have hsz:(P.info? E).map (·.size)=some 1:=by rw [hi1]; simp [hi2]
  have key:∃ w',(Builtin.copy_ #[dT,sT] ty #[.slice (some ⟨g,o,none⟩) n c,v]).run P w=.ok (I (p.length:Nat)) w'∧Fr (·=g) w w' ∧
      w'.heap[g]?=some (.cells ((l.take o++p++l.drop (o + p.length)).map B).toArray T (0,0)):=by
    rcases hr.src with ⟨rfl,h2,_⟩ | ⟨ad,cap,rfl,hc⟩
    · refine ⟨w,?_,.refl _ _,?_⟩
      · rw [run_copy_nil P w dT sT ty E _ _ _ hu (by rw [hsz]; rfl)]
        simp [h2,goInt]
      · have hp:p=[]:=List.eq_nil_of_length_eq_zero h2
        subst hp
        simpa using hg
    · have hlen:(p.map B).length=Nat.min p.length n:=by simp [Nat.min_eq_left hp]
      have hrun:=run_copy_row (P:=P) w dT sT ty E g o n c ad p.length cap (l.map B).toArray T (p.map B) hu hsz hg hlen (fun j v hj=>hc j v hj) (by simp; omega) (by intro v hv; obtain ⟨b,_,rfl⟩:=List.mem_map.1 hv; rfl)
      have hres:((l.map B).toArray.toList.take o++p.map B++(l.map B).toArray.toList.drop (o + (p.map B).length))=(l.take o++p++l.drop (o + p.length)).map B:=by
        simp
      rw [hres,List.length_map] at hrun
      exact ⟨_,hrun,.setRow _ _ _,setRow_heap w g _ _ T (0,0) hg⟩
  obtain ⟨w',hrun,hf,hg'⟩:=key
  have hrun':(execOp a.eval ⟨some d,.call { callee:=.builtin .copy,args:=#[x,y],argTypes:=#[dT,sT] },ty,pos,aft,none⟩).run P w=.ok (.value (I (p.length:Nat))) w':=by
    simp [execOp,resolve,invoke,builtin,hs.ev hx,hs.ev hy,hrun]
  refine wpList_plain rfl fun K hK=>upon_value hrun' (hK _ _ (k _ _ ?_))
  refine (hs.mod (e':=.seg g ((l.take o++p++l.drop (o + p.length)).map B) T) hi hf hg' fun k hk=>⟨.inl hk,?_⟩).put (lt_of_blt hd) _
  obtain rfl:k=g:=hk
  exact heap_lt hg'
end
end Go.Fw
end

section
/- The diary: what its calls come to,in plain words. -/
namespace Go.Proofs.Ytkecdcmjkghddaa
open Go Go.Fw
def be4 (g:UInt32):List UInt8:=[(g >>> UInt32.ofNat 24).toUInt8,(g >>> UInt32.ofNat 16).toUInt8,(g >>> UInt32.ofNat 8).toUInt8,g.toUInt8]
def get4 (l:List UInt8):UInt32:=((((l.getD 0 0).toUInt32 <<< UInt32.ofNat 24) ||| ((l.getD 1 0).toUInt32 <<< UInt32.ofNat 16)) ||| ((l.getD 2 0).toUInt32 <<< UInt32.ofNat 8)) ||| (l.getD 3 0).toUInt32
def sumL (l:List UInt8):UInt16:=l.foldl (fun n b=>n + b.toUInt16) 0
theorem sumL_succ {l:List UInt8} {k:Nat} (h:k < l.length):sumL (l.take (k + 1))=sumL (l.take k) + (l.getD k 0).toUInt16:=by
  rw [sumL,List.take_add_one,List.foldl_append,List.getElem?_eq_getElem h,List.getD_eq_getElem?_getD,List.getElem?_eq_getElem h]
  rfl
def layB (g:UInt32) (place:Int) (fl:UInt8) (p:List UInt8):List UInt8:=be4 g++[i8 (place / 2 ^ 8),i8 place,fl,i8 (p.length:Int)]++p++List.replicate (50 - p.length) 0
def lay (g:UInt32) (place:Int) (fl:UInt8) (p:List UInt8):List UInt8:=layB g place fl p++[(sumL (layB g place fl p) >>> UInt16.ofNat 8).toUInt8,(sumL (layB g place fl p)).toUInt8]++be4 g
theorem layB_len {g:UInt32} {place:Int} {fl:UInt8} {p:List UInt8} (h:p.length≤50):(layB g place fl p).length=58:=by
  simp [layB,be4]
  omega
theorem lay_len {g:UInt32} {place:Int} {fl:UInt8} {p:List UInt8} (h:p.length≤50):(lay g place fl p).length=64:=by
  simp [lay,layB_len h,be4]
def need (n:Nat):Nat:=max 1 ((n + 49) / 50)
def secsF (g:UInt32) (fl:UInt8):Nat→UInt8→Int→List UInt8→List (List UInt8)
  | 0,_,_,_=>[]
  | 1,f,place,p=>[lay g place ((f ||| 2) ||| fl) p]
  | n + 2,f,place,p=>lay g place (f ||| fl) (p.take 50)::secsF g fl (n + 1) 0 (place + 1) (p.drop 50)
def secs (g:UInt32) (place:Int) (fl:UInt8) (p:List UInt8):List (List UInt8):=secsF g fl (need p.length) 1 place p
theorem secsF_len (g:UInt32) (fl:UInt8):∀ (n:Nat) (f:UInt8) (place:Int) (p:List UInt8),(secsF g fl n f place p).length=n
  | 0,_,_,_=>rfl
  | 1,_,_,_=>rfl
  | n + 2,f,place,p=>by
    show (secsF g fl (n + 1) 0 (place + 1) (p.drop 50)).length + 1=n + 2
    rw [secsF_len g fl (n + 1)]
theorem secs_len (g:UInt32) (place:Int) (fl:UInt8) (p:List UInt8):(secs g place fl p).length=need p.length:=secsF_len ..
theorem need_drop {p:List UInt8} {n:Nat} (h:need p.length=n + 2):need (p.drop 50).length=n + 1:=by
  rw [List.length_drop]
  unfold need at h ⊢
  omega
theorem need_one {n:Nat}:need n=1 ↔ n≤50:=by unfold need; omega
theorem secsF_64 (g:UInt32) (fl:UInt8):∀ (n:Nat) (f:UInt8) (place:Int) (p:List UInt8),need p.length=n→∀ x∈secsF g fl n f place p,x.length=64
  | 0,_,_,_,_=>fun x hx=>by cases hx
  | 1,f,place,p,h=>fun x hx=>by
    rw [List.mem_singleton.1 hx]
    exact lay_len (need_one.1 h)
  | n + 2,f,place,p,h=>fun x hx=>by
    rcases List.mem_cons.1 hx with rfl | hx
    · exact lay_len (by simp; omega)
    · exact secsF_64 g fl (n + 1) 0 (place + 1) (p.drop 50) (need_drop h) x hx
theorem secs_64 (g:UInt32) (place:Int) (fl:UInt8) (p:List UInt8):∀ x∈secs g place fl p,x.length=64:=secsF_64 _ _ _ _ _ _ rfl
def half (n:Nat) (g:UInt32):Nat:=(g % 2).toNat * (n / 2)
def Sl.writeL (s:Sl) (j:Nat):List (List UInt8)→Int × Sl
  | []=>(0,s)
  | b::t=>if (s.write j b).1=0 then (s.write j b).2.writeL (j + 1) t else s.write j b
def dput (s:Sl) (g:UInt32) (next:Nat) (fl:UInt8) (p:List UInt8):Int × Sl × Nat :=
  if 2048 < p.length then (8,s,next) else
  if (s.n / 2:Int) - next < need p.length then (4,s,next) else
  if (s.writeL (half s.n g + next) (secs g next fl p)).1=0 then (0,(s.writeL (half s.n g + next) (secs g next fl p)).2,next + need p.length) else ((s.writeL (half s.n g + next) (secs g next fl p)).1,(s.writeL (half s.n g + next) (secs g next fl p)).2,next)
def dputs (s:Sl) (g:UInt32) (next:Nat):List (List UInt8)→Int × Sl × Nat
  | []=>(0,s,next)
  | p::t=>if (dput s g next 0 p).1=0 then dputs (dput s g next 0 p).2.1 g (dput s g next 0 p).2.2 t else dput s g next 0 p
def dstart (s:Sl) (g:UInt32) (recs:List (List UInt8)):Bool × Int × Sl × Nat :=
  if (dputs s g 0 recs).1=0 then
    (if (dput (dputs s g 0 recs).2.1 g (dputs s g 0 recs).2.2 4 []).1=0 then (true,(dput (dputs s g 0 recs).2.1 g (dputs s g 0 recs).2.2 4 []).2.1.flush.1,(dput (dputs s g 0 recs).2.1 g (dputs s g 0 recs).2.2 4 []).2.1.flush.2,(dput (dputs s g 0 recs).2.1 g (dputs s g 0 recs).2.2 4 []).2.2)
     else (false,(dput (dputs s g 0 recs).2.1 g (dputs s g 0 recs).2.2 4 []).1,(dput (dputs s g 0 recs).2.1 g (dputs s g 0 recs).2.2 4 []).2.1,(dput (dputs s g 0 recs).2.1 g (dputs s g 0 recs).2.2 4 []).2.2))
  else (false,(dputs s g 0 recs).1,(dputs s g 0 recs).2.1,(dputs s g 0 recs).2.2)
structure Kept (s s':Sl) (m:Nat):Prop where
  ok:s'.Ok
  n:s'.n=s.n
  st:s'.steps≤s.steps + m
  q:s'.q.length≤s.q.length + m
theorem Kept.trans {s s1 s2:Sl} {m k:Nat} (h:Kept s s1 m) (h2:Kept s1 s2 k):Kept s s2 (m + k):=⟨h2.ok,h2.n.trans h.n,by have:=h.st; have:=h2.st; omega,by have:=h.q; have:=h2.q; omega⟩
theorem Kept.mono {s s1:Sl} {m k:Nat} (h:Kept s s1 m) (hk:m≤k):Kept s s1 k:=⟨h.ok,h.n,by have:=h.st; omega,by have:=h.q; omega⟩
theorem write_kept {s:Sl} (hok:s.Ok) {j:Int} {b:List UInt8} (hb:b.length=64):Kept s (s.write j b).2 1:=by
  have h:=Sl.write_ok hok (j:=j) hb
  unfold Sl.write at h ⊢
  split
  · exact ⟨hok,rfl,Nat.le_succ _,Nat.le_succ _⟩
  split
  · exact ⟨hok,rfl,Nat.le_succ _,Nat.le_succ _⟩
  split
  · exact ⟨Sl.off_ok hok,rfl,Nat.le_succ _,Nat.le_succ _⟩
  · rename_i h1 h2 h3
    rw [if_neg h1,if_neg h2,if_neg h3] at h
    exact ⟨h,rfl,Nat.le_refl _,by show (s.q++[_]).length≤_; rw [List.length_append]; exact Nat.le_refl _⟩
theorem writeL_kept:∀ {l:List (List UInt8)} {s:Sl} {j:Nat},s.Ok→(∀ x∈l,x.length=64)→Kept s (s.writeL j l).2 l.length
  | [],s,j,hok,_=>⟨hok,rfl,Nat.le_refl _,Nat.le_refl _⟩
  | b::t,s,j,hok,h=>by
    have h1:=write_kept hok (j:=j) (h b (List.mem_cons_self ..))
    unfold Sl.writeL
    split
    · have h2:=writeL_kept (j:=j + 1) h1.ok (fun x hx=>h x (List.mem_cons_of_mem _ hx))
      exact (h1.trans h2).mono (by simp; omega)
    · exact h1.mono (by simp)
theorem need_le {n:Nat} (h:n≤2048):need n≤41:=by unfold need; omega
theorem dput_kept {s:Sl} {g:UInt32} {next:Nat} {fl:UInt8} {p:List UInt8} (hok:s.Ok):Kept s (dput s g next fl p).2.1 41:=by
  have h1:=writeL_kept (j:=half s.n g + next) hok (secs_64 g next fl p)
  rw [secs_len] at h1
  unfold dput
  split
  · exact ⟨hok,rfl,Nat.le_add_right _ _,Nat.le_add_right _ _⟩
  split
  · exact ⟨hok,rfl,Nat.le_add_right _ _,Nat.le_add_right _ _⟩
  · rename_i h2 h3
    have h4:=need_le (n:=p.length) (by omega)
    split
    · exact h1.mono h4
    · exact h1.mono h4
theorem dput_next {s:Sl} {g:UInt32} {next:Nat} {fl:UInt8} {p:List UInt8} (h:next≤s.n / 2):(dput s g next fl p).2.2≤s.n / 2:=by
  unfold dput
  split
  · exact h
  split
  · exact h
  split
  · show next + need p.length≤_
    omega
  · exact h
end Go.Proofs.Ytkecdcmjkghddaa
end

section
/- The device: what is asked of it; a step with and without power. -/
namespace Go.Proofs.Ytkecdcmjkghddaa
open Go Go.Fw
def hdS (sb:Nat) (qv:Value) (s:Sl):List Value:=[.slice (some ⟨sb,0,none⟩) s.n s.n,qv,I s.fuse,.bool s.down,I s.steps]
def sl (g sb:Nat) (qv:Value) (s:Sl):List Ent:=[.seg g (hdS sb qv s) 72,.seg sb (s.xs.map B) 29,.row qv s.q.length (wrC s.q) 74 65]
structure SlR (w:World) (g sb:Nat) (qv:Value) (s:Sl):Prop where
  hg:w.heap[g]?=some (.cells (hdS sb qv s).toArray 72 (0,0))
  hx:w.heap[sb]?=some (.cells (s.xs.map B).toArray 29 (0,0))
  hq:w.ownsRow 0 74 65 qv s.q.length (wrC s.q)
theorem sl_get {w:World} {g sb:Nat} {qv:Value} {s:Sl} (h:Has 0 w (sl g sb qv s)):SlR w g sb qv s:=⟨h.holds _ (List.mem_of_getElem? (i:=0) rfl),h.holds _ (List.mem_of_getElem? (i:=1) rfl),h.holds _ (List.mem_of_getElem? (i:=2) rfl)⟩
theorem SlR.fr0 {w w':World} {g sb:Nat} {qv:Value} {s:Sl} (h:SlR w g sb qv s) (hf:Fr0 w w'):SlR w' g sb qv s :=
  ⟨(hf.block g (heap_lt h.hg) id).trans h.hg,(hf.block sb (heap_lt h.hx) id).trans h.hx,Ent.loc (.row qv s.q.length (wrC s.q) 74 65) (fun k hk=>hf.block k (ownBlock_row h.hq k hk) id) h.hq⟩
def SlTo (w w':World) (g sb:Nat) (qv:Value) (s s':Sl):Prop:=∃ qv',Has 0 w' (sl g sb qv' s')∧∀ k,(Ent.grp (sl g sb qv' s')).keys k→(Ent.grp (sl g sb qv s)).keys k∨w.heap.size≤k
theorem sec_cells {xs:List UInt8} {j:Nat}:(((xs.map B).drop (0 + j * 64)).take 64)=(sec xs j).map B:=by simp [sec,List.map_take,List.map_drop]
theorem putW_cells (xs:List UInt8) (x:Wr):(xs.map B).take (0 + x.p * 64)++x.b.map B++(xs.map B).drop (0 + x.p * 64 + 64)=(putW xs x).map B:=by simp [putW,List.map_take,List.map_drop]
theorem all64 (b:List UInt8):(b.map B).all (·.oneCell')=true:=all_map_B b
theorem cut0 {ad:Option Addr} {n cap:Nat} {s:Sl} {w:World} {g sb:Nat} (h:SlR w g sb (.slice ad n cap) s):(if cap=0 then ad else ad.map (·.add 0))=ad:=by
  obtain ⟨c2,e⟩:∃ c2,Value.slice ad n cap=.slice ad s.q.length c2:=by
    obtain ⟨ad',cap',e,_⟩:=Rd.sl (Rd.of_row h.hq)
    cases e
    exact ⟨_,rfl⟩
  cases e
  exact owns_cut0 h.hq
theorem sl_up (g sb:Nat) (qv:Value) (s:Sl) (w:World) (hR:SlR w g sb qv s):Ctr Try.prog 36 [.pointer (some ⟨g,0,none⟩)] w (fun _=>False) (fun v _=>v=I s.up):=by
  refine fn_start (N:=11) Try.func36 rfl rfl rfl fun ac hk=>?_
  have hs:=St.start hk w
  refine wp_seq (wp_reg ?_)
  refine s_q hs (c_assign (hs.ev rfl)) rfl fun ac hs=>?_
  refine s_end (then_n (wp_seq (wp_block (wp_seq (wp_reg ?_)))))
  refine s_q hs (c_move (hs.ev rfl)) rfl fun ac hs=>?_
  refine s_q hs (c_eqlNil un23 (hs.ev rfl) (hs.ev rfl)) rfl fun ac hs=>?_
  refine s_q hs (c_assign (hs.ev rfl)) rfl fun ac hs=>?_
  refine s_end ?_
  replace hs:=hs.sub (F':=[(0,_),(2,_),(3,_)]) ⟨rfl,rfl,rfl,trivial⟩
  refine then_n ?_
  refine wp_cond_false (hs.ev rfl) ?_
  refine wp_seq (wp_reg ?_)
  refine s_q hs (c_move (hs.ev rfl)) rfl fun ac hs=>?_
  refine s_q hs (c_nil (hs.ev rfl)) rfl fun ac hs=>?_
  refine s_q hs (c_fld fl72_3 (hs.ev rfl)) rfl fun ac hs=>?_
  refine s_q hs (c_loadS un4 rfl (hs.ev rfl) (hs.old hR.hg (fun h=>h)) rfl) rfl fun ac hs=>?_
  refine s_q hs (c_assign (hs.ev rfl)) rfl fun ac hs=>?_
  refine s_end ?_
  replace hs:=hs.sub (F':=[(2,_),(6,_)]) ⟨rfl,rfl,trivial⟩
  refine then_n ?_
  refine s_cond hs rfl (fun hc=>?_) (fun hc=>?_)
  · try simp only [decide_eq_true_eq,decide_eq_false_iff_not,Bool.not_eq_true',Bool.not_eq_false',Bool.and_eq_true,Bool.or_eq_true,Bool.or_eq_false_iff] at hc
    refine wp_seq (wp_reg ?_)
    refine s_q hs (c_assign (hs.ev rfl)) rfl fun ac hs=>?_
    refine s_end ?_
    replace hs:=hs.sub (F':=[(2,_)]) ⟨rfl,trivial⟩
    refine then_n (wp_ret (blk_r (then_r ?_)))
    refine s_ret hs rfl (.tmp (hs.tmp rfl) .nil) rfl ⟨_,rfl,hs.fr,?_⟩
    rw [Sl.up,if_pos hc]
    rfl
  · try simp only [decide_eq_true_eq,decide_eq_false_iff_not,Bool.not_eq_true',Bool.not_eq_false',Bool.and_eq_true,Bool.or_eq_true,Bool.or_eq_false_iff] at hc
    refine wp_skip (blk_n (then_n (wp_seq (wp_reg ?_))))
    refine s_q hs (c_assign (hs.ev rfl)) rfl fun ac hs=>?_
    refine s_end ?_
    replace hs:=hs.sub (F':=[(2,_)]) ⟨rfl,trivial⟩
    refine then_n (wp_ret ?_)
    refine s_ret hs rfl (.tmp (hs.tmp rfl) .nil) rfl ⟨_,rfl,hs.fr,?_⟩
    rw [Sl.up,if_neg (by rw [hc]; decide)]
    rfl
theorem sl_Sectors (g sb:Nat) (qv:Value) (s:Sl) (w:World) (hR:SlR w g sb qv s):Ctr Try.prog 20 [.pointer (some ⟨g,0,none⟩)] w (fun _=>False) (fun v _=>v=I s.n):=by
  refine fn_start (N:=10) Try.func20 rfl rfl rfl fun ac hk=>?_
  have hs:=St.start hk w
  refine wp_seq (wp_reg ?_)
  refine s_q hs (c_assign (hs.ev rfl)) rfl fun ac hs=>?_
  refine s_end (then_n (wp_seq (wp_seq (wp_reg ?_))))
  refine s_q hs (c_move (hs.ev rfl)) rfl fun ac hs=>?_
  refine s_q hs (c_eqlNil un23 (hs.ev rfl) (hs.ev rfl)) rfl fun ac hs=>?_
  refine s_end ?_
  replace hs:=hs.sub (F':=[(0,_),(2,_),(4,_)]) ⟨rfl,rfl,rfl,trivial⟩
  refine then_n ?_
  refine wp_cond_false (hs.ev rfl) ?_
  refine wp_skip (then_n (wp_seq (wp_reg ?_)))
  refine s_q hs (c_move (hs.ev rfl)) rfl fun ac hs=>?_
  refine s_q hs (c_nil (hs.ev rfl)) rfl fun ac hs=>?_
  refine s_q hs (c_fld fl72_0 (hs.ev rfl)) rfl fun ac hs=>?_
  refine s_q hs (c_loadS un69 rfl (hs.ev rfl) (hs.old hR.hg (fun h=>h)) rfl) rfl fun ac hs=>?_
  refine s_q hs (c_lenS un69 (hs.ev rfl)) rfl fun ac hs=>?_
  refine s_q hs (c_assign (hs.ev rfl)) rfl fun ac hs=>?_
  refine s_end ?_
  replace hs:=hs.sub (F':=[(2,_)]) ⟨rfl,trivial⟩
  refine then_n (wp_ret ?_)
  refine s_ret hs rfl (.tmp (hs.tmp rfl) .nil) rfl ⟨_,rfl,hs.fr,?_⟩
  rfl
theorem sl_power (g sb:Nat) (qv:Value) (s:Sl) (hok:s.Ok) (hst:s.steps≤1000000000) (w:World) (hb:w.heap[g]?=some (.cells (hdS sb qv s).toArray 72 (0,0))):Ctr Try.prog 37 [.pointer (some ⟨g,0,none⟩)] w (fun k=>k=g) (fun v w'=>v=.bool (decide (¬ s.fuse=0))∧w'.heap[g]?=some (.cells (hdS sb qv s.pow).toArray 72 (0,0))):=by
  refine fn_start (N:=30) Try.func37 rfl rfl rfl fun ac hk=>?_
  have hs:=St.own1 hk hb
  refine wp_seq (wp_reg ?_)
  refine s_q hs (c_assign (hs.ev rfl)) rfl fun ac hs=>?_
  refine s_end (then_n (wp_seq (wp_seq (wp_reg ?_))))
  refine s_q hs (c_move (hs.ev rfl)) rfl fun ac hs=>?_
  refine s_q hs (c_nil (hs.ev rfl)) rfl fun ac hs=>?_
  refine s_q hs (c_fld fl72_2 (hs.ev rfl)) rfl fun ac hs=>?_
  refine s_q hs (c_loadS un3 rfl (hs.ev rfl) (hs.seg (i:=0) rfl) rfl) rfl fun ac hs=>?_
  refine s_q hs (c_eqlI (hs.ev rfl) (hs.ev rfl)) rfl fun ac hs=>?_
  refine s_end ?_
  replace hs:=hs.sub (F':=[(0,_),(2,_),(7,_)]) ⟨rfl,rfl,rfl,trivial⟩
  refine then_n ?_
  refine s_cond hs rfl (fun hc=>?_) (fun hc=>?_)
  · try simp only [decide_eq_true_eq,decide_eq_false_iff_not,Bool.not_eq_true',Bool.not_eq_false',Bool.and_eq_true,Bool.or_eq_true,Bool.or_eq_false_iff] at hc
    have hpw:s.pow=s.off:=if_pos hc
    refine wp_seq (wp_reg ?_)
    refine s_q hs (c_move (hs.ev rfl)) rfl fun ac hs=>?_
    refine s_q hs (c_nil (hs.ev rfl)) rfl fun ac hs=>?_
    refine s_q hs (c_fld fl72_3 (hs.ev rfl)) rfl fun ac hs=>?_
    refine s_store (i:=0) hs ty4 rfl rfl rfl rfl rfl rfl (by simp [hdS,Value.cells]) rfl fun ww hs=>?_
    refine s_end ?_
    replace hs:=hs.sub (F':=[(0,_),(2,_)]) ⟨rfl,rfl,trivial⟩
    refine then_n (wp_seq (wp_reg ?_))
    refine s_q hs (c_assign (hs.ev rfl)) rfl fun ac hs=>?_
    refine s_end (then_n (wp_ret (then_r ?_)))
    refine s_ret hs rfl (.tmp (hs.tmp rfl) .nil) rfl ⟨_,rfl,hs.fr,?_⟩
    exact ⟨by rw [decide_eq_false (fun h=>h hc)]; rfl,by rw [hpw]; exact hs.seg (i:=0) rfl⟩
  · try simp only [decide_eq_true_eq,decide_eq_false_iff_not,Bool.not_eq_true',Bool.not_eq_false',Bool.and_eq_true,Bool.or_eq_true,Bool.or_eq_false_iff] at hc
    have hpw:s.pow=s.on:=if_neg hc
    have hf1:=hok.f1
    have hf2:=hok.f2
    refine wp_skip (then_n (wp_seq (wp_seq (wp_reg ?_))))
    refine s_q hs (c_move (hs.ev rfl)) rfl fun ac hs=>?_
    refine s_q hs (c_nil (hs.ev rfl)) rfl fun ac hs=>?_
    refine s_q hs (c_fld fl72_2 (hs.ev rfl)) rfl fun ac hs=>?_
    refine s_q hs (c_loadS un3 rfl (hs.ev rfl) (hs.seg (i:=0) rfl) rfl) rfl fun ac hs=>?_
    refine s_q hs (c_gtrI (hs.ev rfl) (hs.ev rfl)) rfl fun ac hs=>?_
    refine s_end ?_
    replace hs:=hs.sub (F':=[(0,_),(2,_),(15,_)]) ⟨rfl,rfl,rfl,trivial⟩
    refine then_n ?_
    refine s_cond hs rfl (fun hc=>?_) (fun hc=>?_)
    · try simp only [decide_eq_true_eq,decide_eq_false_iff_not,Bool.not_eq_true',Bool.not_eq_false',Bool.and_eq_true,Bool.or_eq_true,Bool.or_eq_false_iff] at hc
      have hfu:(if 0 < s.fuse then s.fuse - 1 else s.fuse)=s.fuse - 1:=if_pos hc
      refine wp_reg ?_
      refine s_q hs (c_move (hs.ev rfl)) rfl fun ac hs=>?_
      refine s_q hs (c_nil (hs.ev rfl)) rfl fun ac hs=>?_
      refine s_q hs (c_fld fl72_2 (hs.ev rfl)) rfl fun ac hs=>?_
      refine s_q hs (c_loadS un3 rfl (hs.ev rfl) (hs.seg (i:=0) rfl) rfl) rfl fun ac hs=>?_
      refine s_q hs (c_subI (hs.ev rfl) (hs.ev rfl) (by omega) (by omega)) rfl fun ac hs=>?_
      refine s_q hs (c_nil (hs.ev rfl)) rfl fun ac hs=>?_
      refine s_q hs (c_fld fl72_2 (hs.ev rfl)) rfl fun ac hs=>?_
      refine s_store (i:=0) hs ty3 rfl rfl rfl rfl rfl rfl (by simp [hdS,Value.cells]) rfl fun ww hs=>?_
      refine s_end ?_
      replace hs:=hs.sub (F':=[(0,_),(2,_)]) ⟨rfl,rfl,trivial⟩
      refine then_n (wp_seq (wp_reg ?_))
      refine s_q hs (c_move (hs.ev rfl)) rfl fun ac hs=>?_
      refine s_q hs (c_nil (hs.ev rfl)) rfl fun ac hs=>?_
      refine s_q hs (c_fld fl72_4 (hs.ev rfl)) rfl fun ac hs=>?_
      refine s_q hs (c_loadS un3 rfl (hs.ev rfl) (hs.seg (i:=0) rfl) rfl) rfl fun ac hs=>?_
      refine s_q hs (c_addI (hs.ev rfl) (hs.ev rfl) (by omega) (by omega)) rfl fun ac hs=>?_
      refine s_q hs (c_nil (hs.ev rfl)) rfl fun ac hs=>?_
      refine s_q hs (c_fld fl72_4 (hs.ev rfl)) rfl fun ac hs=>?_
      refine s_store (i:=0) hs ty3 rfl rfl rfl rfl rfl rfl (by simp [hdS,Value.cells]) rfl fun ww hs=>?_
      refine s_end ?_
      replace hs:=hs.sub (F':=[(2,_)]) ⟨rfl,trivial⟩
      refine then_n (wp_seq (wp_reg ?_))
      refine s_q hs (c_assign (hs.ev rfl)) rfl fun ac hs=>?_
      refine s_end (then_n (wp_ret ?_))
      refine s_ret hs rfl (.tmp (hs.tmp rfl) .nil) rfl ⟨_,rfl,hs.fr,?_⟩
      refine ⟨by rw [decide_eq_true (by omega)]; rfl,?_⟩
      rw [hpw,hdS,Sl.on,hfu]
      exact hs.seg (i:=0) rfl
    · try simp only [decide_eq_true_eq,decide_eq_false_iff_not,Bool.not_eq_true',Bool.not_eq_false',Bool.and_eq_true,Bool.or_eq_true,Bool.or_eq_false_iff] at hc
      have hfu:(if 0 < s.fuse then s.fuse - 1 else s.fuse)=s.fuse:=if_neg hc
      refine wp_skip (then_n (wp_seq (wp_reg ?_)))
      refine s_q hs (c_move (hs.ev rfl)) rfl fun ac hs=>?_
      refine s_q hs (c_nil (hs.ev rfl)) rfl fun ac hs=>?_
      refine s_q hs (c_fld fl72_4 (hs.ev rfl)) rfl fun ac hs=>?_
      refine s_q hs (c_loadS un3 rfl (hs.ev rfl) (hs.seg (i:=0) rfl) rfl) rfl fun ac hs=>?_
      refine s_q hs (c_addI (hs.ev rfl) (hs.ev rfl) (by omega) (by omega)) rfl fun ac hs=>?_
      refine s_q hs (c_nil (hs.ev rfl)) rfl fun ac hs=>?_
      refine s_q hs (c_fld fl72_4 (hs.ev rfl)) rfl fun ac hs=>?_
      refine s_store (i:=0) hs ty3 rfl rfl rfl rfl rfl rfl (by simp [hdS,Value.cells]) rfl fun ww hs=>?_
      refine s_end ?_
      replace hs:=hs.sub (F':=[(2,_)]) ⟨rfl,trivial⟩
      refine then_n (wp_seq (wp_reg ?_))
      refine s_q hs (c_assign (hs.ev rfl)) rfl fun ac hs=>?_
      refine s_end (then_n (wp_ret ?_))
      refine s_ret hs rfl (.tmp (hs.tmp rfl) .nil) rfl ⟨_,rfl,hs.fr,?_⟩
      refine ⟨by rw [decide_eq_true (by omega)]; rfl,?_⟩
      rw [hpw,hdS,Sl.on,hfu]
      exact hs.seg (i:=0) rfl
end Go.Proofs.Ytkecdcmjkghddaa
end

section
/- The device: Write,Flush,Fuse. -/
namespace Go.Proofs.Ytkecdcmjkghddaa
open Go Go.Fw
theorem Sl.up_ne {s:Sl} (h:¬ s.up=0):s.down=true:=by
  unfold Sl.up at h
  split at h
  · assumption
  · exact absurd rfl h
theorem Sl.up_eq {s:Sl} (h:s.up=0):¬ s.down=true:=fun e=>by
  unfold Sl.up at h
  rw [if_pos e] at h
  cases h
theorem St.slTo {N:Nat} {F:List (Nat × Value)} {L:List Ent} {w0 w:World} {a:Act} {g sb:Nat} {qv qv':Value} {s s':Sl} (hs:St N F L (Ent.grp (sl g sb qv s)).keys w0 a w) (hl:(sl g sb qv' s').Sublist L):SlTo w0 w g sb qv s s':=⟨qv',(hs.pick hl).grp⟩
theorem wr_one (x:Wr):x.c.all (·.oneCell')=true:=by
  simp only [Wr.c,List.all_cons,Value.oneCell',Bool.true_and]
  exact all_map_B _
theorem seg_lt {w:World} {g:Nat} {o:Obj} (h:w.heap[g]?=some o):∀ k,k=g→k < w.heap.size:=fun k e=>by rw [e]; exact heap_lt h
theorem sl_Write (g sb:Nat) (qv:Value) (s:Sl) (j:Int) (b:List UInt8) (hb:b.length=64) (hok:s.Ok) (hst:s.steps≤1000000000) (hql:s.q.length≤1000000) (w:World) (hsl:Has 0 w (sl g sb qv s)):Ctr Try.prog 11 [.pointer (some ⟨g,0,none⟩),I j,.agg (b.map B).toArray] w (Ent.grp (sl g sb qv s)).keys (fun v w'=>v=I (s.write j b).1∧SlTo w w' g sb qv s (s.write j b).2):=by
  refine fn_start (N:=41) Try.func11 rfl rfl rfl fun ac hk=>?_
  have hs:=St.startG hk hsl
  refine wp_seq (wp_reg ?_)
  refine s_box hs rfl rfl rfl fun ac ww g5 hs=>?_
  refine s_q hs (c_assign (hs.ev rfl)) rfl fun ac hs=>?_
  refine s_end ?_
  replace hs:=hs.sub (F':=[(0,_),(1,_),(5,_),(6,_)]) ⟨rfl,rfl,rfl,rfl,trivial⟩
  refine then_n (wp_seq (wp_seq (wp_reg ?_)))
  refine s_q hs (c_move (hs.ev rfl)) rfl fun ac hs=>?_
  refine s_call hs fu36 (.cons (hs.ev rfl) .nil) (sl_up g sb qv s _ ⟨hs.seg (i:=1) rfl,hs.seg (i:=2) rfl,hs.get (i:=3) rfl⟩) rfl fun ac ww v9 hf hp hs=>?_
  obtain rfl:=hp
  replace hs:=hs [] (.nil _ _)
  refine s_q hs (c_assign (hs.ev rfl)) rfl fun ac hs=>?_
  refine s_end ?_
  replace hs:=hs.sub (F':=[(0,_),(1,_),(5,_),(6,_),(7,_)]) ⟨rfl,rfl,rfl,rfl,rfl,trivial⟩
  refine then_n (wp_seq (wp_reg ?_))
  refine s_q hs (c_move (hs.ev rfl)) rfl fun ac hs=>?_
  refine s_q hs (c_neqI (hs.ev rfl) (hs.ev rfl)) rfl fun ac hs=>?_
  refine s_end ?_
  replace hs:=hs.sub (F':=[(0,_),(1,_),(5,_),(6,_),(7,_),(11,_)]) ⟨rfl,rfl,rfl,rfl,rfl,rfl,trivial⟩
  refine then_n ?_
  refine s_cond hs rfl (fun hc=>?_) (fun hc=>?_)
  · try simp only [decide_eq_true_eq,decide_eq_false_iff_not,Bool.not_eq_true',Bool.not_eq_false',Bool.and_eq_true,Bool.or_eq_true,Bool.or_eq_false_iff] at hc
    have hd:=Sl.up_ne hc
    refine wp_seq (wp_reg ?_)
    refine s_q hs (c_move (hs.ev rfl)) rfl fun ac hs=>?_
    refine s_q hs (c_assign (hs.ev rfl)) rfl fun ac hs=>?_
    refine s_end ?_
    replace hs:=hs.sub (F':=[(0,_),(1,_),(5,_),(6,_)]) ⟨rfl,rfl,rfl,rfl,trivial⟩
    refine then_n (wp_ret (then_r ?_))
    refine s_ret hs rfl (.tmp (hs.tmp rfl) .nil) rfl ⟨_,rfl,hs.fr,?_⟩
    rw [show s.write j b=(5,s) from if_pos hd,Sl.up,if_pos hd]
    exact ⟨rfl,St.slTo hs (.cons _ (.refl _))⟩
  · try simp only [decide_eq_true_eq,decide_eq_false_iff_not,Bool.not_eq_true',Bool.not_eq_false',Bool.and_eq_true,Bool.or_eq_true,Bool.or_eq_false_iff] at hc
    have hd:=Sl.up_eq (by simpa using hc)
    refine wp_skip (then_n (wp_seq (wp_block (wp_seq (wp_reg ?_)))))
    refine s_q hs (c_move (hs.ev rfl)) rfl fun ac hs=>?_
    refine s_q hs (c_lssI (hs.ev rfl) (hs.ev rfl)) rfl fun ac hs=>?_
    refine s_q hs (c_move (hs.ev rfl)) rfl fun ac hs=>?_
    refine s_g hs rfl rfl (fun hg=>c_move (hs.ev rfl)) rfl fun ac hs=>?_
    refine s_g hs rfl rfl (fun hg=>c_move (hs.ev rfl)) rfl fun ac hs=>?_
    refine s_g hs rfl rfl (fun hg=>c_nil (gev (hs.ev rfl) hg)) rfl fun ac hs=>?_
    refine s_g hs rfl rfl (fun hg=>c_fld fl72_0 (gev (hs.ev rfl) hg)) rfl fun ac hs=>?_
    refine s_g hs rfl rfl (fun hg=>c_loadS un69 rfl (gev (hs.ev rfl) hg) (hs.seg (i:=1) rfl) rfl) rfl fun ac hs=>?_
    refine s_g hs rfl rfl (fun hg=>c_lenS un69 (gev (hs.ev rfl) hg)) rfl fun ac hs=>?_
    refine s_g hs rfl rfl (fun hg=>c_geqI (gev (hs.ev rfl) hg) (gev (hs.ev rfl) hg)) rfl fun ac hs=>?_
    refine s_q hs (c_or (hs.ev rfl) (hs.ev rfl)) rfl fun ac hs=>?_
    refine s_q hs (c_assign (hs.ev rfl)) rfl fun ac hs=>?_
    refine s_end ?_
    replace hs:=hs.sub (F':=[(0,_),(1,_),(5,_),(6,_),(13,_)]) ⟨rfl,rfl,rfl,rfl,rfl,trivial⟩
    refine then_n ?_
    refine s_cond hs rfl (fun hc=>?_) (fun hc=>?_)
    · skip
      have hj:j < 0∨(s.n:Int)≤j:=by simpa using hc
      refine wp_seq (wp_reg ?_)
      refine s_q hs (c_assign (hs.ev rfl)) rfl fun ac hs=>?_
      refine s_end ?_
      replace hs:=hs.sub (F':=[(0,_),(1,_),(5,_),(6,_)]) ⟨rfl,rfl,rfl,rfl,trivial⟩
      refine then_n (wp_ret (blk_r (then_r ?_)))
      refine s_ret hs rfl (.tmp (hs.tmp rfl) .nil) rfl ⟨_,rfl,hs.fr,?_⟩
      rw [show s.write j b=(1,s) from (if_neg hd).trans (if_pos hj)]
      exact ⟨rfl,St.slTo hs (.cons _ (.refl _))⟩
    · skip
      have hj:¬ (j < 0∨(s.n:Int)≤j):=by
        simp at hc
        omega
      obtain ⟨jn,rfl⟩:∃ jn:Nat,j=jn:=⟨j.toNat,by omega⟩
      refine wp_seq (wp_reg ?_)
      refine s_q hs (c_move (hs.ev rfl)) rfl fun ac hs=>?_
      refine s_callM (i:=1) hs fu37 (.cons (hs.ev rfl) .nil) rfl (sl_power g sb qv s hok hst _ (hs.seg (i:=1) rfl)) rfl fun ac ww v27 hf hp hs=>?_
      obtain ⟨rfl,hb'⟩:=hp
      replace hs:=hs (.seg g (hdS sb qv s.pow) 72) hb' (fun k hk=>⟨.inl hk,seg_lt hb' k hk⟩)
      refine s_q hs (c_not (hs.ev rfl)) rfl fun ac hs=>?_
      refine s_q hs (c_assign (hs.ev rfl)) rfl fun ac hs=>?_
      refine s_end ?_
      replace hs:=hs.sub (F':=[(0,_),(1,_),(5,_),(6,_),(25,_)]) ⟨rfl,rfl,rfl,rfl,rfl,trivial⟩
      refine then_n ?_
      refine s_cond hs rfl (fun hc=>?_) (fun hc=>?_)
      · try simp only [decide_eq_true_eq,decide_eq_false_iff_not,Bool.not_eq_true',Bool.not_eq_false',Bool.and_eq_true,Bool.or_eq_true,Bool.or_eq_false_iff] at hc
        have hf0:s.fuse=0:=by simpa using hc
        have hpw:s.pow=s.off:=if_pos hf0
        rw [hpw] at hs
        refine wp_seq (wp_reg ?_)
        refine s_q hs (c_assign (hs.ev rfl)) rfl fun ac hs=>?_
        refine s_end ?_
        replace hs:=hs.sub (F':=[(0,_),(1,_),(5,_),(6,_)]) ⟨rfl,rfl,rfl,rfl,trivial⟩
        refine then_n (wp_ret (blk_r (then_r ?_)))
        refine s_ret hs rfl (.tmp (hs.tmp rfl) .nil) rfl ⟨_,rfl,hs.fr,?_⟩
        rw [show s.write jn b=(5,s.off) from (if_neg hd).trans ((if_neg hj).trans (if_pos hf0))]
        exact ⟨rfl,St.slTo (s':=s.off) hs (.cons _ (.refl _))⟩
      · try simp only [decide_eq_true_eq,decide_eq_false_iff_not,Bool.not_eq_true',Bool.not_eq_false',Bool.and_eq_true,Bool.or_eq_true,Bool.or_eq_false_iff] at hc
        have hf0:¬ s.fuse=0:=by simpa using hc
        have hpw:s.pow=s.on:=if_neg hf0
        rw [hpw] at hs
        refine wp_skip (blk_n (then_n (wp_seq ?_)))
        obtain ⟨qad,qcap,rfl,hqc,hqm⟩:=Rd.sl (Rd.of_row (hs.get (i:=3) rfl))
        refine wp_region_rgX (J:=[0]) pmix 9 (by kernel_rfl) (by kernel_rfl) rfl rfl hs ?_
        simp only [List.take_succ_cons,List.take_zero]
        refine rg_q (fun ac ww h=>c_move (h.ev rfl)) rfl ?_
        refine rg_q (fun ac ww h=>c_move (h.ev rfl)) rfl ?_
        refine rg_q (fun ac ww h=>c_nil (h.ev rfl)) rfl ?_
        refine rg_q (fun ac ww h=>c_fld fl72_1 (h.ev rfl)) rfl ?_
        refine rg_q (fun ac ww h=>c_loadS un70 rfl (h.ev rfl) (h.blk (hs.seg (i:=1) rfl)) rfl) rfl ?_
        refine rg_q (fun ac ww h=>c_move (h.ev rfl)) rfl ?_
        refine rg_q (fun ac ww h=>c_loadW ty29 rfl (h.ev rfl) (h.blk (hs.seg (i:=0) rfl)) (by simp [hb])) rfl ?_
        refine rg_q (fun ac ww h=>c_buildS (zc:=I (jn:Nat)::b.map B) ty74 bp74 (.cons (h.ev rfl) (.cons (h.ev rfl) .nil)) ⟨rfl,by simp [Value.cells,hb],trivial⟩ (by simp [flatCells,Value.cells,hb]) (by simp [flatCells,Value.cells,hb])) rfl ?_
        refine rg_bslice un70 ty74 (fun ac ww h=>(.cons (h.ev rfl) .nil)) rfl (by simp [Value.cells,hb]) (by decide) (show _=Wr.c ⟨jn,b⟩ by simp [flatCells,Value.cells,Wr.c]) rfl ?_
        refine rg_nil fun ac ww L' hf hfe hs hlk=>?_
        simp only [List.drop_succ_cons,List.drop_zero]
        obtain ⟨v37,L37,M37,h37,e37,rfl,rfl⟩:=hfe
        replace hs:=hs.add h37
        obtain ⟨g37,rfl,rfl⟩:=e37
        refine sk_append (i:=4) hs un70 ty74 (by decide) rfl rfl rfl (Rd.of_seg (n:=1) (hs.seg (i:=0) rfl) (Nat.le_refl _) (by decide) (List.take_of_length_le (by simp))) (Wr.c_len (x:=⟨jn,b⟩) (n:=s.n) ⟨hb,by show jn < s.n; omega⟩) (wr_one _) (by unfold maxLen; omega) (by omega) rfl (fun ac ww v38 hf hnil hs=>late_turn rfl rfl (late_nil)) fun ac ww v38 hf hnil hs=>?_
        obtain ⟨ad38,cap38,rfl,_,_⟩:=Rd.sl (Rd.of_row (hs.get (i:=4) rfl))
        refine s_q hs (c_nil (hs.ev rfl)) rfl fun ac hs=>?_
        refine s_q hs (c_fld fl72_1 (hs.ev rfl)) rfl fun ac hs=>?_
        refine s_store (i:=2) hs ty70 rfl rfl rfl rfl rfl rfl (by simp [hdS,Value.cells]) rfl fun ww hs=>?_
        refine s_end ?_
        replace hs:=hs.sub (F':=[(6,_)]) ⟨rfl,trivial⟩
        refine then_n (wp_seq (wp_reg ?_))
        refine s_q hs (c_assign (hs.ev rfl)) rfl fun ac hs=>?_
        refine s_end (then_n (wp_ret ?_))
        refine s_ret hs rfl (.tmp (hs.tmp rfl) .nil) rfl ⟨_,rfl,hs.fr,?_⟩
        rw [show s.write jn b=(0,{ s.on with q:=s.q++[⟨jn,b⟩] }) from (if_neg hd).trans ((if_neg hj).trans (if_neg hf0))]
        exact ⟨rfl,_,((hs.pick (L':=[_,_,_]) (.cons _ (.cons _ (.refl _)))).toL (L':=sl g sb _ { s.on with q:=s.q++[⟨jn,b⟩] }) (by rw [sl,wrC_app,wrC_one,List.length_append]; rfl)).grp⟩
theorem sl_Fuse (g sb:Nat) (qv:Value) (s:Sl) (n:Int) (w:World) (hsl:Has 0 w (sl g sb qv s)):Ctr Try.prog 13 [.pointer (some ⟨g,0,none⟩),I n] w (Ent.grp (sl g sb qv s)).keys (fun v w'=>v=I (s.fus n).1∧SlTo w w' g sb qv s (s.fus n).2):=by
  refine fn_start (N:=16) Try.func13 rfl rfl rfl fun ac hk=>?_
  have hs:=St.startG hk hsl
  refine wp_seq (wp_reg ?_)
  refine s_q hs (c_assign (hs.ev rfl)) rfl fun ac hs=>?_
  refine s_end (then_n (wp_seq (wp_seq (wp_reg ?_))))
  refine s_q hs (c_move (hs.ev rfl)) rfl fun ac hs=>?_
  refine s_call hs fu36 (.cons (hs.ev rfl) .nil) (sl_up g sb qv s _ ⟨hs.seg (i:=0) rfl,hs.seg (i:=1) rfl,hs.get (i:=2) rfl⟩) rfl fun ac ww v7 hf hp hs=>?_
  obtain rfl:=hp
  replace hs:=hs [] (.nil _ _)
  refine s_q hs (c_assign (hs.ev rfl)) rfl fun ac hs=>?_
  refine s_end ?_
  replace hs:=hs.sub (F':=[(0,_),(1,_),(4,_),(5,_)]) ⟨rfl,rfl,rfl,rfl,trivial⟩
  refine then_n (wp_seq (wp_reg ?_))
  refine s_q hs (c_move (hs.ev rfl)) rfl fun ac hs=>?_
  refine s_q hs (c_neqI (hs.ev rfl) (hs.ev rfl)) rfl fun ac hs=>?_
  refine s_end ?_
  replace hs:=hs.sub (F':=[(0,_),(1,_),(4,_),(5,_),(9,_)]) ⟨rfl,rfl,rfl,rfl,rfl,trivial⟩
  refine then_n ?_
  refine s_cond hs rfl (fun hc=>?_) (fun hc=>?_)
  · try simp only [decide_eq_true_eq,decide_eq_false_iff_not,Bool.not_eq_true',Bool.not_eq_false',Bool.and_eq_true,Bool.or_eq_true,Bool.or_eq_false_iff] at hc
    have hd:=Sl.up_ne hc
    refine wp_seq (wp_reg ?_)
    refine s_q hs (c_move (hs.ev rfl)) rfl fun ac hs=>?_
    refine s_q hs (c_assign (hs.ev rfl)) rfl fun ac hs=>?_
    refine s_end ?_
    replace hs:=hs.sub (F':=[(0,_),(1,_),(4,_)]) ⟨rfl,rfl,rfl,trivial⟩
    refine then_n (wp_ret (then_r ?_))
    refine s_ret hs rfl (.tmp (hs.tmp rfl) .nil) rfl ⟨_,rfl,hs.fr,?_⟩
    rw [show s.fus n=(5,s) from if_pos hd,Sl.up,if_pos hd]
    exact ⟨rfl,St.slTo hs (.refl _)⟩
  · try simp only [decide_eq_true_eq,decide_eq_false_iff_not,Bool.not_eq_true',Bool.not_eq_false',Bool.and_eq_true,Bool.or_eq_true,Bool.or_eq_false_iff] at hc
    have hd:=Sl.up_eq (by simpa using hc)
    refine wp_skip (then_n (wp_seq (wp_reg ?_)))
    refine s_q hs (c_move (hs.ev rfl)) rfl fun ac hs=>?_
    refine s_q hs (c_move (hs.ev rfl)) rfl fun ac hs=>?_
    refine s_q hs (c_max (hs.ev rfl) (hs.ev rfl)) rfl fun ac hs=>?_
    refine s_q hs (c_nil (hs.ev rfl)) rfl fun ac hs=>?_
    refine s_q hs (c_fld fl72_2 (hs.ev rfl)) rfl fun ac hs=>?_
    refine s_store (i:=0) hs ty3 rfl rfl rfl rfl rfl rfl (by simp [hdS,Value.cells]) rfl fun ww hs=>?_
    refine s_end ?_
    replace hs:=hs.sub (F':=[(4,_)]) ⟨rfl,trivial⟩
    refine then_n (wp_seq (wp_reg ?_))
    refine s_q hs (c_assign (hs.ev rfl)) rfl fun ac hs=>?_
    refine s_end (then_n (wp_ret ?_))
    refine s_ret hs rfl (.tmp (hs.tmp rfl) .nil) rfl ⟨_,rfl,hs.fr,?_⟩
    rw [show s.fus n=(0,{ s with fuse:=max n (-1) }) from if_neg hd]
    exact ⟨rfl,St.slTo (s':={ s with fuse:=max n (-1) }) hs (.refl _)⟩
theorem sl_Flush (g sb:Nat) (qv:Value) (s:Sl) (hok:s.Ok) (hst:s.steps≤1000000000) (hql:s.q.length≤1000000) (w:World) (hsl:Has 0 w (sl g sb qv s)):Ctr Try.prog 12 [.pointer (some ⟨g,0,none⟩)] w (Ent.grp (sl g sb qv s)).keys (fun v w'=>v=I s.flush.1∧SlTo w w' g sb qv s s.flush.2):=by
  refine fn_start (N:=36) Try.func12 rfl rfl rfl fun ac hk=>?_
  have hs:=St.startG hk hsl
  refine wp_seq (wp_reg ?_)
  refine s_q hs (c_assign (hs.ev rfl)) rfl fun ac hs=>?_
  refine s_end (then_n (wp_seq (wp_seq (wp_reg ?_))))
  refine s_q hs (c_move (hs.ev rfl)) rfl fun ac hs=>?_
  refine s_call hs fu36 (.cons (hs.ev rfl) .nil) (sl_up g sb qv s _ ⟨hs.seg (i:=0) rfl,hs.seg (i:=1) rfl,hs.get (i:=2) rfl⟩) rfl fun ac ww v7 hf hp hs=>?_
  obtain rfl:=hp
  replace hs:=hs [] (.nil _ _)
  refine s_q hs (c_assign (hs.ev rfl)) rfl fun ac hs=>?_
  refine s_end ?_
  replace hs:=hs.sub (F':=[(0,_),(2,_),(3,_)]) ⟨rfl,rfl,rfl,trivial⟩
  refine then_n (wp_seq (wp_reg ?_))
  refine s_q hs (c_move (hs.ev rfl)) rfl fun ac hs=>?_
  refine s_q hs (c_neqI (hs.ev rfl) (hs.ev rfl)) rfl fun ac hs=>?_
  refine s_end ?_
  replace hs:=hs.sub (F':=[(0,_),(2,_),(3,_),(9,_)]) ⟨rfl,rfl,rfl,rfl,trivial⟩
  refine then_n ?_
  refine s_cond hs rfl (fun hc=>?_) (fun hc=>?_)
  · try simp only [decide_eq_true_eq,decide_eq_false_iff_not,Bool.not_eq_true',Bool.not_eq_false',Bool.and_eq_true,Bool.or_eq_true,Bool.or_eq_false_iff] at hc
    have hd:=Sl.up_ne hc
    refine wp_seq (wp_reg ?_)
    refine s_q hs (c_move (hs.ev rfl)) rfl fun ac hs=>?_
    refine s_q hs (c_assign (hs.ev rfl)) rfl fun ac hs=>?_
    refine s_end ?_
    replace hs:=hs.sub (F':=[(0,_),(2,_)]) ⟨rfl,rfl,trivial⟩
    refine then_n (wp_ret (then_r ?_))
    refine s_ret hs rfl (.tmp (hs.tmp rfl) .nil) rfl ⟨_,rfl,hs.fr,?_⟩
    rw [show s.flush=(5,s) from if_pos hd,Sl.up,if_pos hd]
    exact ⟨rfl,St.slTo hs (.refl _)⟩
  · try simp only [decide_eq_true_eq,decide_eq_false_iff_not,Bool.not_eq_true',Bool.not_eq_false',Bool.and_eq_true,Bool.or_eq_true,Bool.or_eq_false_iff] at hc
    have hd:=Sl.up_eq (by simpa using hc)
    refine wp_skip (then_n (wp_seq (wp_seq (wp_reg ?_))))
    refine s_q hs (c_move (hs.ev rfl)) rfl fun ac hs=>?_
    refine s_callM (i:=0) hs fu37 (.cons (hs.ev rfl) .nil) rfl (sl_power g sb qv s hok hst _ (hs.seg (i:=0) rfl)) rfl fun ac ww v12 hf hp hs=>?_
    obtain ⟨rfl,hb'⟩:=hp
    replace hs:=hs (.seg g (hdS sb qv s.pow) 72) hb' (fun k hk=>⟨.inl hk,seg_lt hb' k hk⟩)
    refine s_q hs (c_not (hs.ev rfl)) rfl fun ac hs=>?_
    refine s_end ?_
    replace hs:=hs.sub (F':=[(0,_),(2,_),(13,_)]) ⟨rfl,rfl,rfl,trivial⟩
    refine then_n ?_
    refine s_cond hs rfl (fun hc=>?_) (fun hc=>?_)
    · try simp only [decide_eq_true_eq,decide_eq_false_iff_not,Bool.not_eq_true',Bool.not_eq_false',Bool.and_eq_true,Bool.or_eq_true,Bool.or_eq_false_iff] at hc
      have hf0:s.fuse=0:=by simpa using hc
      have hpw:s.pow=s.off:=if_pos hf0
      rw [hpw] at hs
      refine wp_seq (wp_reg ?_)
      refine s_q hs (c_assign (hs.ev rfl)) rfl fun ac hs=>?_
      refine s_end ?_
      replace hs:=hs.sub (F':=[(0,_),(2,_)]) ⟨rfl,rfl,trivial⟩
      refine then_n (wp_ret (then_r ?_))
      refine s_ret hs rfl (.tmp (hs.tmp rfl) .nil) rfl ⟨_,rfl,hs.fr,?_⟩
      rw [show s.flush=(5,s.off) from (if_neg hd).trans (if_pos hf0)]
      exact ⟨rfl,St.slTo (s':=s.off) hs (.refl _)⟩
    · try simp only [decide_eq_true_eq,decide_eq_false_iff_not,Bool.not_eq_true',Bool.not_eq_false',Bool.and_eq_true,Bool.or_eq_true,Bool.or_eq_false_iff] at hc
      have hf0:¬ s.fuse=0:=by simpa using hc
      have hpw:s.pow=s.on:=if_neg hf0
      rw [hpw] at hs
      refine wp_skip (then_n (wp_seq (wp_seq ?_)))
      obtain ⟨qad,qcap,rfl,hqc,hqm⟩:=Rd.sl (Rd.of_row (hs.get (i:=2) rfl))
      refine wp_reg ?_
      refine s_q hs (c_move (hs.ev rfl)) rfl fun ac hs=>?_
      refine s_q hs (c_nil (hs.ev rfl)) rfl fun ac hs=>?_
      refine s_q hs (c_fld fl72_1 (hs.ev rfl)) rfl fun ac hs=>?_
      refine s_q hs (c_loadS un70 rfl (hs.ev rfl) (hs.seg (i:=0) rfl) rfl) rfl fun ac hs=>?_
      refine s_q hs (c_lenS un70 (hs.ev rfl)) rfl fun ac hs=>?_
      refine s_q hs (c_move (hs.ev rfl)) rfl fun ac hs=>?_
      refine s_end ?_
      replace hs:=hs.sub (F':=[(0,_),(2,_),(17,_),(18,_),(19,_)]) ⟨rfl,rfl,rfl,rfl,rfl,trivial⟩
      refine then_n (wp_block ?_)
      refine s_loop hs (X:=Nat) (fun k=>[(19,I k)]) [(0,_),(2,_),(17,_),(18,_)] (fun k=>[.seg g (hdS sb (.slice qad s.q.length qcap) s.on) 72,.seg sb ((putQ s.xs (s.q.take k)).map B) 29,.row (.slice qad s.q.length qcap) s.q.length (wrC s.q) 74 65]) (fun n k=>k≤s.q.length∧n=s.q.length - k) (_) (0) (⟨Nat.zero_le _,rfl⟩) ⟨rfl,rfl,rfl,rfl,rfl,trivial⟩ rfl ?_
      rintro n k ac ww hok2 hs
      simp only [List.cons_append,List.nil_append] at hs
      obtain ⟨hk,rfl⟩:=hok2
      refine wp_seq (wp_reg ?_)
      refine s_q hs (c_lssI (hs.ev rfl) (hs.ev rfl)) rfl fun ac hs=>?_
      refine s_end (then_n (wp_seq ?_))
      refine s_cond hs rfl (fun hc=>?_) (fun hc=>?_)
      · try simp only [decide_eq_true_eq,decide_eq_false_iff_not,Bool.not_eq_true',Bool.not_eq_false',Bool.and_eq_true,Bool.or_eq_true,Bool.or_eq_false_iff] at hc
        have hkn:k < s.q.length:=by omega
        have hxo:=wr_ok hok.qo hkn
        obtain ⟨qb,qcap2,qcur,he,hqb,_,_,_,hcur⟩:=hs.row_at (i:=2) rfl (by omega)
        cases he
        have hpc:=wr_piece hok.qo hcur hkn
        obtain ⟨x,hx⟩:∃ x,s.q.getD k default=x:=⟨_,rfl⟩
        rw [hx] at hpc hxo
        refine wp_skip (then_n (wp_seq (wp_block (wp_seq (wp_reg ?_)))))
        refine s_q hs (c_idxS (j:=k) un70 ty74 (hs.ev rfl) (hs.ev rfl) (by omega) (by omega)) rfl fun ac hs=>?_
        refine s_q hs (c_loadA ty74 ag74 (hs.ev rfl) hqb hpc (Wr.c_len hxo)) rfl fun ac hs=>?_
        refine s_alloc hs ty74 rfl fun ac ww g5 hs=>?_
        refine s_storeW (i:=0) hs ty74 rfl rfl rfl (Wr.c_len hxo) (wr_one _) (by rfl) fun ww hs=>?_
        refine s_end (then_n ?_)
        refine wp_region_rg pmix 9 (by kernel_rfl) rfl hs ?_
        simp only [List.take_succ_cons,List.take_zero]
        refine rg_q (fun ac ww h=>c_move (h.ev rfl)) rfl ?_
        refine rg_q (fun ac ww h=>c_nil (h.ev rfl)) rfl ?_
        refine rg_q (fun ac ww h=>c_fld fl72_0 (h.ev rfl)) rfl ?_
        refine rg_q (fun ac ww h=>c_loadS un69 rfl (h.ev rfl) (h.blk (hs.seg (i:=1) rfl)) rfl) rfl ?_
        refine rg_q (fun ac ww h=>c_fld fl74_0 (h.ev rfl)) rfl ?_
        refine rg_q (fun ac ww h=>c_loadS un3 rfl (h.ev rfl) (h.blk (hs.seg (i:=0) rfl)) rfl) rfl ?_
        refine rg_q (fun ac ww h=>c_fld fl74_1 (h.ev rfl)) rfl ?_
        refine rg_q (fun ac ww h=>c_loadA ty29 rfl (h.ev rfl) (h.blk (hs.seg (i:=0) rfl)) (show _=x.b.map B from List.take_of_length_le (by simp [Wr.c,hxo.1])) (by simp [hxo.1])) rfl ?_
        refine rg_q (fun ac ww h=>c_idxS (j:=x.p) un69 ty29 (h.ev rfl) (h.ev rfl) rfl hxo.2) rfl ?_
        refine rg_nil fun ac ww L' hf hfe hs=>?_
        simp only [List.drop_succ_cons,List.drop_zero]
        obtain rfl:L'=[]:=hfe
        replace hs:=hs.toL (List.nil_append _)
        refine s_store (i:=2) hs ty29 rfl rfl rfl rfl (by simp [Value.cells,hxo.1]) (all64 _) (by have:=hxo.2; rw [List.length_map,putQ_len hok.xl (take_ok hok.qo)]; omega) (putW_cells _ _) fun ww hs=>?_
        refine s_end (blk_n (then_n (wp_reg ?_)))
        refine s_q hs (c_addI (hs.ev rfl) (hs.ev rfl) (by omega) (by omega)) rfl fun ac hs=>?_
        refine s_q hs (c_move (hs.ev rfl)) rfl fun ac hs=>?_
        refine s_end (then_n ?_)
        replace hs:=hs.pick (L':=[_,_,_]) (.cons _ (.refl _))
        rw [show putW (putQ s.xs (s.q.take k)) x=putQ s.xs (s.q.take (k + 1)) from by rw [putQ_succ hkn,hx]] at hs
        exact ⟨s.q.length - (k + 1),by omega,k + 1,⟨by omega,rfl⟩,St.next hs ⟨rfl,rfl,rfl,rfl,rfl,trivial⟩ rfl⟩
      · try simp only [decide_eq_true_eq,decide_eq_false_iff_not,Bool.not_eq_true',Bool.not_eq_false',Bool.and_eq_true,Bool.or_eq_true,Bool.or_eq_false_iff] at hc
        obtain rfl:k=s.q.length:=by omega
        rw [List.take_length] at hs
        refine wp_exit (then_e (then_e (blk_hit (then_n (wp_seq (wp_reg ?_))))))
        refine s_q hs (c_move (hs.ev rfl)) rfl fun ac hs=>?_
        refine s_q hs (c_nil (hs.ev rfl)) rfl fun ac hs=>?_
        refine s_q hs (c_fld fl72_1 (hs.ev rfl)) rfl fun ac hs=>?_
        refine s_store (i:=0) hs ty70 rfl rfl rfl rfl rfl rfl (by simp [hdS,Value.cells]) rfl fun ww hs=>?_
        refine s_end ?_
        replace hs:=hs.sub (F':=[(2,_)]) ⟨rfl,trivial⟩
        refine then_n (wp_seq (wp_reg ?_))
        refine s_q hs (c_assign (hs.ev rfl)) rfl fun ac hs=>?_
        refine s_end (then_n (wp_ret ?_))
        replace hs:=((hs.nilrow 74 65).pick (L':=[_,_,_]) (.cons_cons _ (.cons_cons _ (.cons_cons _ (.cons _ .slnil))))).perm (L':=[_,_,_]) (List.perm_append_comm (l₁:=[_,_]) (l₂:=[_]))
        refine s_ret hs rfl (.tmp (hs.tmp rfl) .nil) rfl ⟨_,rfl,hs.fr,?_⟩
        rw [show s.flush=(0,{ s.on with xs:=putQ s.xs s.q,q:=[] }) from (if_neg hd).trans (if_neg hf0)]
        exact ⟨rfl,St.slTo (s':={ s.on with xs:=putQ s.xs s.q,q:=[] }) hs (.refl _)⟩
end Go.Proofs.Ytkecdcmjkghddaa
end

section
/- The device: Read,Crash,New; what is asked of no device. -/
namespace Go.Proofs.Ytkecdcmjkghddaa
open Go Go.Fw
theorem tearW_cells (xs:List UInt8) (x:Wr) (t:Nat):xs.take (0 + x.p * 64)++x.b.take t++xs.drop (0 + x.p * 64 + t)=tearW xs x t:=by simp [tearW]
theorem sl_Read (g sb:Nat) (qv:Value) (s:Sl) (j:Int) (hok:s.Ok) (w:World) (hR:SlR w g sb qv s):Ctr Try.prog 15 [.pointer (some ⟨g,0,none⟩),I j] w (fun _=>False) (fun v _=>v=.tuple #[.agg ((s.read j).1.map B).toArray,I (s.read j).2]):=by
  refine fn_start (N:=61) Try.func15 rfl rfl rfl fun ac hk=>?_
  have hs:=St.start hk w
  refine wp_seq (wp_reg ?_)
  refine s_alloc hs ty29 rfl fun ac ww g4 hs=>?_
  refine s_q hs (c_assign (hs.ev rfl)) rfl fun ac hs=>?_
  refine s_end (then_n (wp_seq (wp_seq (wp_reg ?_))))
  refine s_q hs (c_move (hs.ev rfl)) rfl fun ac hs=>?_
  refine s_call hs fu36 (.cons (hs.ev rfl) .nil) (sl_up g sb qv s _ (hR.fr0 hs.fr)) rfl fun ac ww v9 hf hp hs=>?_
  obtain rfl:=hp
  replace hs:=hs [] (.nil _ _)
  refine s_q hs (c_assign (hs.ev rfl)) rfl fun ac hs=>?_
  refine s_end ?_
  replace hs:=hs.sub (F':=[(0,_),(1,_),(4,_),(5,_),(6,_)]) ⟨rfl,rfl,rfl,rfl,rfl,trivial⟩
  refine then_n (wp_seq (wp_reg ?_))
  refine s_q hs (c_move (hs.ev rfl)) rfl fun ac hs=>?_
  refine s_q hs (c_neqI (hs.ev rfl) (hs.ev rfl)) rfl fun ac hs=>?_
  refine s_end ?_
  replace hs:=hs.sub (F':=[(0,_),(1,_),(4,_),(5,_),(6,_),(11,_)]) ⟨rfl,rfl,rfl,rfl,rfl,rfl,trivial⟩
  refine then_n ?_
  refine s_cond hs rfl (fun hc=>?_) (fun hc=>?_)
  · try simp only [decide_eq_true_eq,decide_eq_false_iff_not,Bool.not_eq_true',Bool.not_eq_false',Bool.and_eq_true,Bool.or_eq_true,Bool.or_eq_false_iff] at hc
    have hd:=Sl.up_ne hc
    refine wp_seq (wp_reg ?_)
    refine s_q hs (c_buildA (zc:=zero64.map B) ty29 un29 ty5 .nil (by simp [Value.cells]) (by simp [flatCells,Value.cells]) rfl) rfl fun ac hs=>?_
    refine s_q hs (c_move (hs.ev rfl)) rfl fun ac hs=>?_
    refine s_storeW (i:=0) hs ty29 rfl rfl rfl (by rfl) (by simp [Value.oneCell']) (by simp) fun ww hs=>?_
    refine s_q hs (c_assign (hs.ev rfl)) rfl fun ac hs=>?_
    refine s_end ?_
    replace hs:=hs.sub (F':=[(0,_),(1,_),(4,_),(5,_)]) ⟨rfl,rfl,rfl,rfl,trivial⟩
    refine then_n (wp_ret (then_r ?_))
    refine s_ret hs rfl (.cell (hs.tmp rfl) (run_loadA ty29 rfl (hs.seg (i:=0) rfl) rfl (by rfl)) (.tmp (hs.tmp rfl) .nil)) rfl ⟨_,rfl,hs.fr,?_⟩
    rw [show s.read j=(zero64,5) from if_pos hd,Sl.up,if_pos hd]
    rfl
  · try simp only [decide_eq_true_eq,decide_eq_false_iff_not,Bool.not_eq_true',Bool.not_eq_false',Bool.and_eq_true,Bool.or_eq_true,Bool.or_eq_false_iff] at hc
    have hd:=Sl.up_eq (by simpa using hc)
    refine wp_skip (then_n (wp_seq (wp_seq (wp_reg ?_))))
    refine s_q hs (c_move (hs.ev rfl)) rfl fun ac hs=>?_
    refine s_q hs (c_lssI (hs.ev rfl) (hs.ev rfl)) rfl fun ac hs=>?_
    refine s_q hs (c_move (hs.ev rfl)) rfl fun ac hs=>?_
    refine s_g hs rfl rfl (fun hg=>c_move (hs.ev rfl)) rfl fun ac hs=>?_
    refine s_g hs rfl rfl (fun hg=>c_move (hs.ev rfl)) rfl fun ac hs=>?_
    refine s_g hs rfl rfl (fun hg=>c_nil (gev (hs.ev rfl) hg)) rfl fun ac hs=>?_
    refine s_g hs rfl rfl (fun hg=>c_fld fl72_0 (gev (hs.ev rfl) hg)) rfl fun ac hs=>?_
    refine s_g hs rfl rfl (fun hg=>c_loadS un69 rfl (gev (hs.ev rfl) hg) (hs.old hR.hg (fun h=>h)) rfl) rfl fun ac hs=>?_
    refine s_g hs rfl rfl (fun hg=>c_lenS un69 (gev (hs.ev rfl) hg)) rfl fun ac hs=>?_
    refine s_g hs rfl rfl (fun hg=>c_geqI (gev (hs.ev rfl) hg) (gev (hs.ev rfl) hg)) rfl fun ac hs=>?_
    refine s_q hs (c_or (hs.ev rfl) (hs.ev rfl)) rfl fun ac hs=>?_
    refine s_end ?_
    replace hs:=hs.sub (F':=[(0,_),(1,_),(4,_),(5,_),(24,_)]) ⟨rfl,rfl,rfl,rfl,rfl,trivial⟩
    refine then_n ?_
    refine s_cond hs rfl (fun hc=>?_) (fun hc=>?_)
    · skip
      have hj:j < 0∨(s.n:Int)≤j:=by simpa using hc
      refine wp_seq (wp_reg ?_)
      refine s_q hs (c_buildA (zc:=zero64.map B) ty29 un29 ty5 .nil (by simp [Value.cells]) (by simp [flatCells,Value.cells]) rfl) rfl fun ac hs=>?_
      refine s_storeW (i:=0) hs ty29 rfl rfl rfl (by rfl) (by simp [Value.oneCell']) (by simp) fun ww hs=>?_
      refine s_q hs (c_assign (hs.ev rfl)) rfl fun ac hs=>?_
      refine s_end ?_
      replace hs:=hs.sub (F':=[(0,_),(1,_),(4,_),(5,_)]) ⟨rfl,rfl,rfl,rfl,trivial⟩
      refine then_n (wp_ret (then_r ?_))
      refine s_ret hs rfl (.cell (hs.tmp rfl) (run_loadA ty29 rfl (hs.seg (i:=0) rfl) rfl (by rfl)) (.tmp (hs.tmp rfl) .nil)) rfl ⟨_,rfl,hs.fr,?_⟩
      rw [show s.read j=(zero64,1) from (if_neg hd).trans (if_pos hj)]
      rfl
    · skip
      have hj:¬ (j < 0∨(s.n:Int)≤j):=by
        simp at hc
        omega
      obtain ⟨jn,rfl⟩:∃ jn:Nat,j=jn:=⟨j.toNat,by omega⟩
      have hjn:jn < s.n:=by omega
      obtain ⟨qad,qcap,rfl,hqc,hqm⟩:=Rd.sl (Rd.of_row hR.hq)
      have hnl:=(Rd.of_row hR.hq).le
      refine wp_skip (then_n (wp_seq (wp_seq (wp_reg ?_))))
      refine s_q hs (c_move (hs.ev rfl)) rfl fun ac hs=>?_
      refine s_q hs (c_nil (hs.ev rfl)) rfl fun ac hs=>?_
      refine s_q hs (c_fld fl72_1 (hs.ev rfl)) rfl fun ac hs=>?_
      refine s_q hs (c_loadS un70 rfl (hs.ev rfl) (hs.old hR.hg (fun h=>h)) rfl) rfl fun ac hs=>?_
      refine s_q hs (c_lenS un70 (hs.ev rfl)) rfl fun ac hs=>?_
      refine s_q hs (c_subI (hs.ev rfl) (hs.ev rfl) (by omega) (by omega)) rfl fun ac hs=>?_
      refine s_q hs (c_assign (hs.ev rfl)) rfl fun ac hs=>?_
      refine s_end ?_
      replace hs:=hs.sub (F':=[(0,_),(1,_),(4,_),(5,_),(7,_)]) ⟨rfl,rfl,rfl,rfl,rfl,trivial⟩
      refine then_n (wp_block ?_)
      refine s_loop hs (X:=Nat) (fun k=>[(7,I ((k:Int) - 1))]) [(0,_),(1,_),(4,_)] (fun _=>[_]) (fun n k=>k≤s.q.length∧n=k∧∀ i,k≤i→i < s.q.length→¬ (s.q.getD i default).p=jn) (_) (s.q.length) (⟨Nat.le_refl _,rfl,fun i h1 h2=>by omega⟩) ⟨rfl,rfl,rfl,rfl,trivial⟩ rfl ?_
      rintro n k ac ww hok2 hs
      simp only [List.cons_append,List.nil_append] at hs
      obtain ⟨hk,rfl,hno⟩:=hok2
      refine wp_seq (wp_seq (wp_reg ?_))
      refine s_q hs (c_move (hs.ev rfl)) rfl fun ac hs=>?_
      refine s_q hs (c_geqI (hs.ev rfl) (hs.ev rfl)) rfl fun ac hs=>?_
      refine s_end (then_n ?_)
      refine s_cond hs rfl (fun hc=>?_) (fun hc=>?_)
      · try simp only [decide_eq_true_eq,decide_eq_false_iff_not,Bool.not_eq_true',Bool.not_eq_false',Bool.and_eq_true,Bool.or_eq_true,Bool.or_eq_false_iff] at hc
        obtain ⟨m,rfl⟩:∃ m,n=m + 1:=⟨n - 1,by omega⟩
        have hmn:m < s.q.length:=by omega
        have hxo:=wr_ok hok.qo hmn
        obtain ⟨qb,qcap2,qcur,he,hqb,_,_,hcur⟩:=owns_at hR.hq (by omega)
        have hs9:=hs
        cases he
        replace hs:=hs9
        obtain ⟨x,hx⟩:∃ x,s.q.getD m default=x:=⟨_,rfl⟩
        have hpc:=wr_cell hok.qo hcur hmn
        have hbd:=wr_body hok.qo hcur hmn
        rw [hx] at hpc hbd hxo
        refine wp_skip (then_n (wp_seq (wp_block (wp_seq (wp_reg ?_)))))
        refine s_q hs (c_move (hs.ev rfl)) rfl fun ac hs=>?_
        refine s_q hs (c_nil (hs.ev rfl)) rfl fun ac hs=>?_
        refine s_q hs (c_fld fl72_1 (hs.ev rfl)) rfl fun ac hs=>?_
        refine s_q hs (c_loadS un70 rfl (hs.ev rfl) (hs.old hR.hg (fun h=>h)) rfl) rfl fun ac hs=>?_
        refine s_q hs (c_move (hs.ev rfl)) rfl fun ac hs=>?_
        refine s_q hs (c_idxS (j:=m) un70 ty74 (hs.ev rfl) (hs.ev rfl) (by omega) (by omega)) rfl fun ac hs=>?_
        refine s_q hs (c_fld fl74_0 (hs.ev rfl)) rfl fun ac hs=>?_
        refine s_q hs (c_loadS un3 rfl (hs.ev rfl) (hs.old hqb id) hpc) rfl fun ac hs=>?_
        refine s_q hs (c_move (hs.ev rfl)) rfl fun ac hs=>?_
        refine s_q hs (c_eqlI (hs.ev rfl) (hs.ev rfl)) rfl fun ac hs=>?_
        refine s_end (then_n ?_)
        refine s_cond hs rfl (fun hc=>?_) (fun hc=>?_)
        · try simp only [decide_eq_true_eq,decide_eq_false_iff_not,Bool.not_eq_true',Bool.not_eq_false',Bool.and_eq_true,Bool.or_eq_true,Bool.or_eq_false_iff] at hc
          have heq:x.p=jn:=by omega
          refine wp_seq (wp_reg ?_)
          refine s_q hs (c_move (hs.ev rfl)) rfl fun ac hs=>?_
          refine s_q hs (c_nil (hs.ev rfl)) rfl fun ac hs=>?_
          refine s_q hs (c_fld fl72_1 (hs.ev rfl)) rfl fun ac hs=>?_
          refine s_q hs (c_loadS un70 rfl (hs.ev rfl) (hs.old hR.hg (fun h=>h)) rfl) rfl fun ac hs=>?_
          refine s_q hs (c_move (hs.ev rfl)) rfl fun ac hs=>?_
          refine s_q hs (c_idxS (j:=m) un70 ty74 (hs.ev rfl) (hs.ev rfl) (by omega) (by omega)) rfl fun ac hs=>?_
          refine s_q hs (c_fld fl74_1 (hs.ev rfl)) rfl fun ac hs=>?_
          refine s_q hs (c_loadA ty29 rfl (hs.ev rfl) (hs.old hqb id) hbd (by simp [hxo.1])) rfl fun ac hs=>?_
          refine s_storeW (i:=0) hs ty29 rfl rfl rfl (by simp [hxo.1]) (all64 _) (by rfl) fun ww hs=>?_
          refine s_q hs (c_assign (hs.ev rfl)) rfl fun ac hs=>?_
          refine s_end (then_n (wp_ret (blk_r (then_r (then_r (blk_r (then_r ?_)))))))
          refine s_ret hs rfl (.cell (hs.tmp rfl) (run_loadA ty29 rfl (hs.seg (i:=0) rfl) (List.take_of_length_le (by simp [hxo.1])) (by simp [hxo.1])) (.tmp (hs.tmp rfl) .nil)) rfl ⟨_,rfl,hs.fr,?_⟩
          rw [show s.read jn=(x.b,0) from (if_neg hd).trans ((if_neg hj).trans (by rw [show (jn:Int).toNat=jn from rfl,ofW_hit hmn (by rw [hx]; exact heq) (fun i h1 h2=>hno i h1 h2),hx]))]
          rfl
        · try simp only [decide_eq_true_eq,decide_eq_false_iff_not,Bool.not_eq_true',Bool.not_eq_false',Bool.and_eq_true,Bool.or_eq_true,Bool.or_eq_false_iff] at hc
          have hne:¬ x.p=jn:=by omega
          refine wp_skip (blk_n (then_n (wp_reg ?_)))
          refine s_q hs (c_move (hs.ev rfl)) rfl fun ac hs=>?_
          refine s_q hs (c_subI (hs.ev rfl) (hs.ev rfl) (by omega) (by omega)) rfl fun ac hs=>?_
          refine s_q hs (c_assign (hs.ev rfl)) rfl fun ac hs=>?_
          refine s_end (then_n ?_)
          exact ⟨m,by omega,m,⟨by omega,rfl,fun i h1 h2=>by
              by_cases e:i=m
              · subst e; rw [hx]; exact hne
              · exact hno i (by omega) h2⟩,St.next hs ⟨(show some (I _)=some (I _) by congr 2; omega),rfl,rfl,rfl,trivial⟩ rfl⟩
      · try simp only [decide_eq_true_eq,decide_eq_false_iff_not,Bool.not_eq_true',Bool.not_eq_false',Bool.and_eq_true,Bool.or_eq_true,Bool.or_eq_false_iff] at hc
        obtain rfl:n=0:=by omega
        refine wp_exit (then_e (then_e (blk_hit (then_n (wp_seq (wp_reg ?_))))))
        refine s_q hs (c_move (hs.ev rfl)) rfl fun ac hs=>?_
        refine s_q hs (c_nil (hs.ev rfl)) rfl fun ac hs=>?_
        refine s_q hs (c_fld fl72_0 (hs.ev rfl)) rfl fun ac hs=>?_
        refine s_q hs (c_loadS un69 rfl (hs.ev rfl) (hs.old hR.hg (fun h=>h)) rfl) rfl fun ac hs=>?_
        refine s_q hs (c_move (hs.ev rfl)) rfl fun ac hs=>?_
        refine s_q hs (c_idxS (j:=jn) un69 ty29 (hs.ev rfl) (hs.ev rfl) rfl (by omega)) rfl fun ac hs=>?_
        refine s_q hs (c_loadA ty29 rfl (hs.ev rfl) (hs.old hR.hx (fun h=>h)) sec_cells (by simp [sec_len hok.xl hjn])) rfl fun ac hs=>?_
        refine s_storeW (i:=0) hs ty29 rfl rfl rfl (by simp [sec_len hok.xl hjn]) (all64 _) (by rfl) fun ww hs=>?_
        refine s_q hs (c_assign (hs.ev rfl)) rfl fun ac hs=>?_
        refine s_end ?_
        replace hs:=hs.sub (F':=[(4,_),(5,_)]) ⟨rfl,rfl,trivial⟩
        refine then_n (wp_ret ?_)
        refine s_ret hs rfl (.cell (hs.tmp rfl) (run_loadA ty29 rfl (hs.seg (i:=0) rfl) (List.take_of_length_le (by simp [sec_len hok.xl hjn])) (by simp [sec_len hok.xl hjn])) (.tmp (hs.tmp rfl) .nil)) rfl ⟨_,rfl,hs.fr,?_⟩
        rw [show s.read jn=(sec s.xs jn,0) from (if_neg hd).trans ((if_neg hj).trans (by rw [show (jn:Int).toNat=jn from rfl,ofW_miss (fun i h=>hno i (Nat.zero_le _) h)]))]
        rfl
theorem clamp64 (n:Int):max 0 (min n 64)=(clampN n 64:Int):=clampN_eq n 64
theorem rd_body {w:World} {g t:Nat} {x:Wr} {T:TypeId} (hb:w.heap[g]?=some (.cells x.c.toArray T (0,0))) (hx:x.b.length=64) (ht:t≤64):RdB w (.slice (some ⟨g,0 + 1,none⟩) t 64) (x.b.take t):=by
  have hl:(x.b.take t).length=t:=by simp [hx]; omega
  refine ⟨_,64,by rw [hl],by omega,by decide,(fun h=>by cases h),.inr ⟨g,0 + 1,T,(0,0),x.c.toArray,rfl,hb,?_⟩⟩
  simp [Wr.c,hx,List.map_take]
theorem crash_t {s:Sl} {wr by_:Int} {k:Nat} (hk:clampN wr s.q.length=k) (h:k < s.q.length):(s.crash wr by_).xs=tearW (putQ s.xs (s.q.take k)) (s.q.getD k default) (clampN by_ 64):=by
  subst hk
  simp only [Sl.crash,if_pos h]
theorem crash_f {s:Sl} {wr by_:Int} {k:Nat} (hk:clampN wr s.q.length=k) (h:¬ k < s.q.length):(s.crash wr by_).xs=putQ s.xs (s.q.take k):=by
  subst hk
  simp only [Sl.crash,if_neg h]
theorem sl_Crash (g sb:Nat) (qv:Value) (s:Sl) (wr by_:Int) (hok:s.Ok) (w:World) (hsl:Has 0 w (sl g sb qv s)):Ctr Try.prog 14 [.pointer (some ⟨g,0,none⟩),I wr,I by_] w (Ent.grp (sl g sb qv s)).keys (fun v w'=>v=I 0∧SlTo w w' g sb qv s (s.crash wr by_)):=by
  refine fn_start (N:=81) Try.func14 rfl rfl rfl fun ac hk=>?_
  have hs:=St.startG hk hsl
  obtain ⟨qad,qcap,rfl,hqc,hqm⟩:=Rd.sl (Rd.of_row (hs.get (i:=2) rfl))
  have hnl:=(Rd.of_row (hs.get (i:=2) rfl)).le
  obtain ⟨kk,hkk⟩:∃ kk,clampN wr s.q.length=kk:=⟨_,rfl⟩
  have hkle:kk≤s.q.length:=hkk ▸ clampN_le _ _
  refine wp_seq (wp_reg ?_)
  refine s_q hs (c_assign (hs.ev rfl)) rfl fun ac hs=>?_
  refine s_end (then_n (wp_seq (wp_seq (wp_reg ?_))))
  refine s_q hs (c_move (hs.ev rfl)) rfl fun ac hs=>?_
  refine s_q hs (c_eqlNil un23 (hs.ev rfl) (hs.ev rfl)) rfl fun ac hs=>?_
  refine s_end ?_
  replace hs:=hs.sub (F':=[(0,_),(1,_),(2,_),(6,_),(12,_)]) ⟨rfl,rfl,rfl,rfl,rfl,trivial⟩
  refine then_n ?_
  refine wp_cond_false (hs.ev rfl) ?_
  refine wp_skip (then_n (wp_seq (wp_reg ?_)))
  refine s_q hs (c_move (hs.ev rfl)) rfl fun ac hs=>?_
  refine s_q hs (c_move (hs.ev rfl)) rfl fun ac hs=>?_
  refine s_q hs (c_nil (hs.ev rfl)) rfl fun ac hs=>?_
  refine s_q hs (c_fld fl72_1 (hs.ev rfl)) rfl fun ac hs=>?_
  refine s_q hs (c_loadS un70 rfl (hs.ev rfl) (hs.seg (i:=0) rfl) rfl) rfl fun ac hs=>?_
  refine s_q hs (c_lenS un70 (hs.ev rfl)) rfl fun ac hs=>?_
  refine s_q hs (c_min (hs.ev rfl) (hs.ev rfl)) rfl fun ac hs=>?_
  refine s_q hs (c_to (c_max (hs.ev rfl) (hs.ev rfl)) ((congrArg I ((clampN_eq wr s.q.length).trans (congrArg (fun n:Nat=>(n:Int)) hkk))))) rfl fun ac hs=>?_
  refine s_q hs (c_assign (hs.ev rfl)) rfl fun ac hs=>?_
  refine s_end ?_
  replace hs:=hs.sub (F':=[(0,_),(1,_),(2,_),(6,_)]) ⟨rfl,rfl,rfl,rfl,trivial⟩
  refine then_n (wp_seq (wp_seq (wp_reg ?_)))
  refine s_q hs (c_move (hs.ev rfl)) rfl fun ac hs=>?_
  refine s_q hs (c_nil (hs.ev rfl)) rfl fun ac hs=>?_
  refine s_q hs (c_fld fl72_1 (hs.ev rfl)) rfl fun ac hs=>?_
  refine s_q hs (c_loadS un70 rfl (hs.ev rfl) (hs.seg (i:=0) rfl) rfl) rfl fun ac hs=>?_
  refine s_q hs (c_move (hs.ev rfl)) rfl fun ac hs=>?_
  refine s_q hs (c_to (c_sliceH (j:=kk) un70 ty74 (hs.ev rfl) (hs.ev rfl) (by omega) (by omega)) ((congrArg (fun ad=>Value.slice ad kk qcap) (cut0 ⟨hs.seg (i:=0) rfl,hs.seg (i:=1) rfl,hs.get (i:=2) rfl⟩)))) rfl fun ac hs=>?_
  refine s_q hs (c_lenS un70 (hs.ev rfl)) rfl fun ac hs=>?_
  refine s_q hs (c_move (hs.ev rfl)) rfl fun ac hs=>?_
  refine s_end ?_
  replace hs:=hs.sub (F':=[(0,_),(1,_),(2,_),(6,_),(26,_),(27,_),(28,_)]) ⟨rfl,rfl,rfl,rfl,rfl,rfl,rfl,trivial⟩
  refine then_n (wp_block ?_)
  refine s_loop hs (X:=Nat) (fun k=>[(28,I k)]) [(0,_),(1,_),(2,_),(6,_),(26,_),(27,_)] (fun k=>[.seg g (hdS sb (.slice qad s.q.length qcap) s) 72,.seg sb ((putQ s.xs (s.q.take k)).map B) 29,.row (.slice qad s.q.length qcap) s.q.length (wrC s.q) 74 65]) (fun n k=>k≤kk∧n=kk - k) (_) (0) (⟨Nat.zero_le _,rfl⟩) ⟨rfl,rfl,rfl,rfl,rfl,rfl,rfl,trivial⟩ rfl ?_
  rintro n k ac ww hok2 hs
  simp only [List.cons_append,List.nil_append] at hs
  obtain ⟨hk,rfl⟩:=hok2
  refine wp_seq (wp_reg ?_)
  refine s_q hs (c_lssI (hs.ev rfl) (hs.ev rfl)) rfl fun ac hs=>?_
  refine s_end (then_n (wp_seq ?_))
  refine s_cond hs rfl (fun hc=>?_) (fun hc=>?_)
  · try simp only [decide_eq_true_eq,decide_eq_false_iff_not,Bool.not_eq_true',Bool.not_eq_false',Bool.and_eq_true,Bool.or_eq_true,Bool.or_eq_false_iff] at hc
    have hkn:k < kk:=by omega
    have hkq:k < s.q.length:=by omega
    have hxo:=wr_ok hok.qo hkq
    obtain ⟨qb,qcap2,qcur,he,hqb,_,_,_,hcur⟩:=hs.row_at (i:=2) rfl (by omega)
    have hs9:=hs
    cases he
    replace hs:=hs9
    have hpc:=wr_piece hok.qo hcur hkq
    obtain ⟨x,hx⟩:∃ x,s.q.getD k default=x:=⟨_,rfl⟩
    rw [hx] at hpc hxo
    refine wp_skip (then_n (wp_seq (wp_block (wp_seq (wp_reg ?_)))))
    refine s_q hs (c_idxS (j:=k) un70 ty74 (hs.ev rfl) (hs.ev rfl) (by omega) (by omega)) rfl fun ac hs=>?_
    refine s_q hs (c_loadA ty74 ag74 (hs.ev rfl) hqb hpc (Wr.c_len hxo)) rfl fun ac hs=>?_
    refine s_alloc hs ty74 rfl fun ac ww g8 hs=>?_
    refine s_storeW (i:=0) hs ty74 rfl rfl rfl (Wr.c_len hxo) (wr_one _) (by rfl) fun ww hs=>?_
    refine s_end (then_n ?_)
    refine wp_region_rg pmix 9 (by kernel_rfl) rfl hs ?_
    simp only [List.take_succ_cons,List.take_zero]
    refine rg_q (fun ac ww h=>c_move (h.ev rfl)) rfl ?_
    refine rg_q (fun ac ww h=>c_nil (h.ev rfl)) rfl ?_
    refine rg_q (fun ac ww h=>c_fld fl72_0 (h.ev rfl)) rfl ?_
    refine rg_q (fun ac ww h=>c_loadS un69 rfl (h.ev rfl) (h.blk (hs.seg (i:=1) rfl)) rfl) rfl ?_
    refine rg_q (fun ac ww h=>c_fld fl74_0 (h.ev rfl)) rfl ?_
    refine rg_q (fun ac ww h=>c_loadS un3 rfl (h.ev rfl) (h.blk (hs.seg (i:=0) rfl)) rfl) rfl ?_
    refine rg_q (fun ac ww h=>c_fld fl74_1 (h.ev rfl)) rfl ?_
    refine rg_q (fun ac ww h=>c_loadA ty29 rfl (h.ev rfl) (h.blk (hs.seg (i:=0) rfl)) (show _=x.b.map B from List.take_of_length_le (by simp [Wr.c,hxo.1])) (by simp [hxo.1])) rfl ?_
    refine rg_q (fun ac ww h=>c_idxS (j:=x.p) un69 ty29 (h.ev rfl) (h.ev rfl) rfl hxo.2) rfl ?_
    refine rg_nil fun ac ww L' hf hfe hs=>?_
    simp only [List.drop_succ_cons,List.drop_zero]
    obtain rfl:L'=[]:=hfe
    replace hs:=hs.toL (List.nil_append _)
    refine s_store (i:=2) hs ty29 rfl rfl rfl rfl (by simp [Value.cells,hxo.1]) (all64 _) (by have:=hxo.2; rw [List.length_map,putQ_len hok.xl (take_ok hok.qo)]; omega) (putW_cells _ _) fun ww hs=>?_
    refine s_end (blk_n (then_n (wp_reg ?_)))
    refine s_q hs (c_addI (hs.ev rfl) (hs.ev rfl) (by omega) (by omega)) rfl fun ac hs=>?_
    refine s_q hs (c_move (hs.ev rfl)) rfl fun ac hs=>?_
    refine s_end (then_n ?_)
    replace hs:=hs.pick (L':=[_,_,_]) (.cons _ (.refl _))
    rw [show putW (putQ s.xs (s.q.take k)) x=putQ s.xs (s.q.take (k + 1)) from by rw [putQ_succ hkq,hx]] at hs
    exact ⟨kk - (k + 1),by omega,k + 1,⟨by omega,rfl⟩,St.next hs ⟨rfl,rfl,rfl,rfl,rfl,rfl,rfl,trivial⟩ rfl⟩
  · try simp only [decide_eq_true_eq,decide_eq_false_iff_not,Bool.not_eq_true',Bool.not_eq_false',Bool.and_eq_true,Bool.or_eq_true,Bool.or_eq_false_iff] at hc
    obtain rfl:k=kk:=by omega
    refine wp_exit (then_e (then_e (blk_hit (then_n (wp_seq (wp_seq (wp_reg ?_)))))))
    refine s_q hs (c_move (hs.ev rfl)) rfl fun ac hs=>?_
    refine s_q hs (c_move (hs.ev rfl)) rfl fun ac hs=>?_
    refine s_q hs (c_nil (hs.ev rfl)) rfl fun ac hs=>?_
    refine s_q hs (c_fld fl72_1 (hs.ev rfl)) rfl fun ac hs=>?_
    refine s_q hs (c_loadS un70 rfl (hs.ev rfl) (hs.seg (i:=0) rfl) rfl) rfl fun ac hs=>?_
    refine s_q hs (c_lenS un70 (hs.ev rfl)) rfl fun ac hs=>?_
    refine s_q hs (c_lssI (hs.ev rfl) (hs.ev rfl)) rfl fun ac hs=>?_
    refine s_end ?_
    replace hs:=hs.sub (F':=[(0,_),(1,_),(2,_),(6,_),(48,_)]) ⟨rfl,rfl,rfl,rfl,rfl,trivial⟩
    refine then_n ?_
    refine s_cond hs rfl (fun hc=>?_) (fun hc=>?_)
    · try simp only [decide_eq_true_eq,decide_eq_false_iff_not,Bool.not_eq_true',Bool.not_eq_false',Bool.and_eq_true,Bool.or_eq_true,Bool.or_eq_false_iff] at hc
      have hkl:k < s.q.length:=by omega
      have hxo:=wr_ok hok.qo hkl
      obtain ⟨tt,htt⟩:∃ tt,clampN by_ 64=tt:=⟨_,rfl⟩
      have htl:tt≤64:=htt ▸ clampN_le _ _
      refine wp_seq (wp_reg ?_)
      refine s_q hs (c_move (hs.ev rfl)) rfl fun ac hs=>?_
      refine s_q hs (c_nil (hs.ev rfl)) rfl fun ac hs=>?_
      refine s_q hs (c_fld fl72_1 (hs.ev rfl)) rfl fun ac hs=>?_
      refine s_q hs (c_loadS un70 rfl (hs.ev rfl) (hs.seg (i:=0) rfl) rfl) rfl fun ac hs=>?_
      refine s_q hs (c_move (hs.ev rfl)) rfl fun ac hs=>?_
      obtain ⟨qb,qcap2,qcur,he,hqb,_,_,_,hcur⟩:=hs.row_at (i:=2) rfl (by omega)
      have hs9:=hs
      cases he
      replace hs:=hs9
      have hpc:=wr_piece hok.qo hcur hkl
      obtain ⟨x,hx⟩:∃ x,s.q.getD k default=x:=⟨_,rfl⟩
      rw [hx] at hpc hxo
      refine s_q hs (c_idxS (j:=k) un70 ty74 (hs.ev rfl) (hs.ev rfl) (by omega) (by omega)) rfl fun ac hs=>?_
      refine s_q hs (c_loadA ty74 ag74 (hs.ev rfl) hqb hpc (Wr.c_len hxo)) rfl fun ac hs=>?_
      refine s_alloc hs ty74 rfl fun ac ww g9 hs=>?_
      refine s_storeW (i:=0) hs ty74 rfl rfl rfl (Wr.c_len hxo) (wr_one _) (by rfl) fun ww hs=>?_
      refine s_end ?_
      replace hs:=hs.sub (F':=[(0,_),(2,_),(6,_),(9,_)]) ⟨rfl,rfl,rfl,rfl,trivial⟩
      refine then_n (wp_seq (wp_reg ?_))
      refine s_q hs (c_move (hs.ev rfl)) rfl fun ac hs=>?_
      refine s_q hs (c_min (hs.ev rfl) (hs.ev rfl)) rfl fun ac hs=>?_
      refine s_q hs (c_to (c_max (hs.ev rfl) (hs.ev rfl)) ((congrArg I ((clamp64 by_).trans (congrArg (fun n:Nat=>(n:Int)) htt))))) rfl fun ac hs=>?_
      refine s_q hs (c_assign (hs.ev rfl)) rfl fun ac hs=>?_
      refine s_end ?_
      replace hs:=hs.sub (F':=[(0,_),(6,_),(9,_),(10,_)]) ⟨rfl,rfl,rfl,rfl,trivial⟩
      refine then_n ?_
      refine wp_region_rg pmix 12 (by kernel_rfl) rfl hs ?_
      simp only [List.take_succ_cons,List.take_zero]
      refine rg_q (fun ac ww h=>c_move (h.ev rfl)) rfl ?_
      refine rg_q (fun ac ww h=>c_nil (h.ev rfl)) rfl ?_
      refine rg_q (fun ac ww h=>c_fld fl72_0 (h.ev rfl)) rfl ?_
      refine rg_q (fun ac ww h=>c_loadS un69 rfl (h.ev rfl) (h.blk (hs.seg (i:=1) rfl)) rfl) rfl ?_
      refine rg_q (fun ac ww h=>c_fld fl74_0 (h.ev rfl)) rfl ?_
      refine rg_q (fun ac ww h=>c_loadS un3 rfl (h.ev rfl) (h.blk (hs.seg (i:=0) rfl)) rfl) rfl ?_
      refine rg_q (fun ac ww h=>c_idxS (j:=x.p) un69 ty29 (h.ev rfl) (h.ev rfl) rfl hxo.2) rfl ?_
      refine rg_q (fun ac ww h=>c_move (h.ev rfl)) rfl ?_
      refine rg_q (fun ac ww h=>c_sliceAH (j:=tt) un29 ty5 (h.ev rfl) (h.ev rfl) rfl htl) rfl ?_
      refine rg_q (fun ac ww h=>c_fld fl74_1 (h.ev rfl)) rfl ?_
      refine rg_q (fun ac ww h=>c_move (h.ev rfl)) rfl ?_
      refine rg_q (fun ac ww h=>c_sliceAH (j:=tt) un29 ty5 (h.ev rfl) (h.ev rfl) rfl htl) rfl ?_
      refine rg_nil fun ac ww L' hf hfe hs=>?_
      simp only [List.drop_succ_cons,List.drop_zero]
      obtain rfl:L'=[]:=hfe
      replace hs:=hs.toL (List.nil_append _)
      have hfx:(putQ s.xs (s.q.take k)).length=s.n * 64:=putQ_len hok.xl (take_ok hok.qo)
      have hxp:=hxo.2
      refine s_copyAt (i:=2) (p:=x.b.take tt) hs un38 ty5 rfl rfl rfl (rd_body (hs.seg (i:=0) rfl) hxo.1 htl) (by rw [List.length_take,hxo.1]; omega) (by rw [hfx]; omega) rfl fun ac ww hs=>?_
      replace hs:=hs.pick (L':=[_,_,_]) (.cons _ (.refl _))
      rw [tearW_cells,← hx,← htt,← crash_t hkk hkl] at hs
      refine s_end ?_
      replace hs:=hs.sub (F':=[(0,_),(6,_)]) ⟨rfl,rfl,trivial⟩
      refine then_n (wp_seq (wp_reg ?_))
      refine s_q hs (c_move (hs.ev rfl)) rfl fun ac hs=>?_
      refine s_q hs (c_move (hs.ev rfl)) rfl fun ac hs=>?_
      refine s_q hs (c_move (hs.ev rfl)) rfl fun ac hs=>?_
      refine s_q hs (c_nil (hs.ev rfl)) rfl fun ac hs=>?_
      refine s_q hs (c_fld fl72_1 (hs.ev rfl)) rfl fun ac hs=>?_
      refine s_store (i:=0) hs ty70 rfl rfl rfl rfl rfl rfl (by simp [hdS,Value.cells]) rfl fun ww hs=>?_
      refine s_q hs (c_nil (hs.ev rfl)) rfl fun ac hs=>?_
      refine s_q hs (c_fld fl72_2 (hs.ev rfl)) rfl fun ac hs=>?_
      refine s_store (i:=0) hs ty3 rfl rfl rfl rfl rfl rfl (by simp [hdS,Value.cells]) rfl fun ww hs=>?_
      refine s_q hs (c_nil (hs.ev rfl)) rfl fun ac hs=>?_
      refine s_q hs (c_fld fl72_3 (hs.ev rfl)) rfl fun ac hs=>?_
      refine s_store (i:=0) hs ty4 rfl rfl rfl rfl rfl rfl (by simp [hdS,Value.cells]) rfl fun ww hs=>?_
      refine s_end ?_
      replace hs:=hs.sub (F':=[(6,_)]) ⟨rfl,trivial⟩
      refine then_n (wp_seq (wp_reg ?_))
      refine s_q hs (c_assign (hs.ev rfl)) rfl fun ac hs=>?_
      refine s_end (then_n (wp_ret ?_))
      replace hs:=((hs.nilrow 74 65).pick (L':=[_,_,_]) (.cons_cons _ (.cons_cons _ (.cons_cons _ (.cons _ .slnil))))).perm (L':=[_,_,_]) (List.perm_append_comm (l₁:=[_,_]) (l₂:=[_]))
      refine s_ret hs rfl (.tmp (hs.tmp rfl) .nil) rfl ⟨_,rfl,hs.fr,?_⟩
      exact ⟨rfl,St.slTo (s':=s.crash wr by_) hs (.refl _)⟩
    · try simp only [decide_eq_true_eq,decide_eq_false_iff_not,Bool.not_eq_true',Bool.not_eq_false',Bool.and_eq_true,Bool.or_eq_true,Bool.or_eq_false_iff] at hc
      have hkl:¬ k < s.q.length:=by omega
      rw [← crash_f (by_:=by_) hkk hkl] at hs
      refine wp_skip (then_n (wp_seq (wp_reg ?_)))
      refine s_q hs (c_move (hs.ev rfl)) rfl fun ac hs=>?_
      refine s_q hs (c_move (hs.ev rfl)) rfl fun ac hs=>?_
      refine s_q hs (c_move (hs.ev rfl)) rfl fun ac hs=>?_
      refine s_q hs (c_nil (hs.ev rfl)) rfl fun ac hs=>?_
      refine s_q hs (c_fld fl72_1 (hs.ev rfl)) rfl fun ac hs=>?_
      refine s_store (i:=0) hs ty70 rfl rfl rfl rfl rfl rfl (by simp [hdS,Value.cells]) rfl fun ww hs=>?_
      refine s_q hs (c_nil (hs.ev rfl)) rfl fun ac hs=>?_
      refine s_q hs (c_fld fl72_2 (hs.ev rfl)) rfl fun ac hs=>?_
      refine s_store (i:=0) hs ty3 rfl rfl rfl rfl rfl rfl (by simp [hdS,Value.cells]) rfl fun ww hs=>?_
      refine s_q hs (c_nil (hs.ev rfl)) rfl fun ac hs=>?_
      refine s_q hs (c_fld fl72_3 (hs.ev rfl)) rfl fun ac hs=>?_
      refine s_store (i:=0) hs ty4 rfl rfl rfl rfl rfl rfl (by simp [hdS,Value.cells]) rfl fun ww hs=>?_
      refine s_end ?_
      replace hs:=hs.sub (F':=[(6,_)]) ⟨rfl,trivial⟩
      refine then_n (wp_seq (wp_reg ?_))
      refine s_q hs (c_assign (hs.ev rfl)) rfl fun ac hs=>?_
      refine s_end (then_n (wp_ret ?_))
      replace hs:=((hs.nilrow 74 65).pick (L':=[_,_,_]) (.cons_cons _ (.cons_cons _ (.cons_cons _ (.cons _ .slnil))))).perm (L':=[_,_,_]) (List.perm_append_comm (l₁:=[_,_]) (l₂:=[_]))
      refine s_ret hs rfl (.tmp (hs.tmp rfl) .nil) rfl ⟨_,rfl,hs.fr,?_⟩
      exact ⟨rfl,St.slTo (s':=s.crash wr by_) hs (.refl _)⟩
theorem sl_New (n:Int) (w:World) :Ctr Try.prog 9 [I n] w (fun _=>False) (fun v w'=>if 1≤n∧n≤4096 then ∃ g sb,v=.tuple #[.pointer (some ⟨g,0,none⟩),I 0]∧Has w.heap.size w' (sl g sb (.slice none 0 0) (newS n.toNat)) else v=.tuple #[.pointer none,I 1]):=by
  refine fn_start (N:=14) Try.func9 rfl rfl rfl fun ac hk=>?_
  have hs:=St.start hk w
  refine wp_seq (wp_reg ?_)
  refine s_q hs (c_assign (hs.ev rfl)) rfl fun ac hs=>?_
  refine s_q hs (c_assign (hs.ev rfl)) rfl fun ac hs=>?_
  refine s_end (then_n (wp_seq (wp_seq (wp_reg ?_))))
  refine s_q hs (c_move (hs.ev rfl)) rfl fun ac hs=>?_
  refine s_q hs (c_lssI (hs.ev rfl) (hs.ev rfl)) rfl fun ac hs=>?_
  refine s_q hs (c_move (hs.ev rfl)) rfl fun ac hs=>?_
  refine s_g hs rfl rfl (fun hg=>c_move (hs.ev rfl)) rfl fun ac hs=>?_
  refine s_g hs rfl rfl (fun hg=>c_gtrI (gev (hs.ev rfl) hg) (hs.ev rfl)) rfl fun ac hs=>?_
  refine s_q hs (c_or (hs.ev rfl) (hs.ev rfl)) rfl fun ac hs=>?_
  refine s_end ?_
  replace hs:=hs.sub (F':=[(0,_),(2,_),(3,_),(9,_)]) ⟨rfl,rfl,rfl,rfl,trivial⟩
  refine then_n ?_
  refine s_cond hs rfl (fun hc=>?_) (fun hc=>?_)
  · skip
    have hn:¬ (1≤n∧n≤4096):=by
      simp at hc
      omega
    refine wp_seq (wp_reg ?_)
    refine s_q hs (c_assign (hs.ev rfl)) rfl fun ac hs=>?_
    refine s_q hs (c_assign (hs.ev rfl)) rfl fun ac hs=>?_
    refine s_end ?_
    replace hs:=hs.sub (F':=[(0,_),(2,_),(3,_)]) ⟨rfl,rfl,rfl,trivial⟩
    refine then_n (wp_ret (then_r ?_))
    refine s_ret hs rfl (.tmp (hs.tmp rfl) (.tmp (hs.tmp rfl) .nil)) rfl ⟨_,rfl,hs.fr,?_⟩
    rw [if_neg hn]
    rfl
  · skip
    have hn:1≤n∧n≤4096:=by
      simp at hc
      omega
    obtain ⟨m,rfl⟩:∃ m:Nat,n=m:=⟨n.toNat,by omega⟩
    refine wp_skip (then_n (wp_seq (wp_reg ?_)))
    refine s_q hs (c_move (hs.ev rfl)) rfl fun ac hs=>?_
    refine s_make (n:=m) hs un69 ty29 rfl rfl rfl rfl (by omega) (by unfold maxLen; omega) rfl fun ac ww g11 hs=>?_
    rw [flatZ] at hs
    refine s_q hs (c_buildQ (zc:=[.slice (some ⟨g11,0,none⟩) m m,.slice none 0 0,I (-1),.bool false,I 0]) ty72 bp72 (.cons (hs.ev rfl) (.cons (hs.ev rfl) .nil)) rfl) rfl fun ac hs=>?_
    refine s_box hs rfl rfl rfl fun ac ww g13 hs=>?_
    refine s_q hs (c_assign (hs.ev rfl)) rfl fun ac hs=>?_
    refine s_q hs (c_assign (hs.ev rfl)) rfl fun ac hs=>?_
    refine s_end ?_
    replace hs:=hs.sub (F':=[(2,_),(3,_)]) ⟨rfl,rfl,trivial⟩
    refine then_n (wp_ret ?_)
    replace hs:=(hs.nilrow 74 65).perm (L':=[_,_,_]) (List.perm_append_comm (l₁:=[_,_]) (l₂:=[_]))
    refine s_ret hs rfl (.tmp (hs.tmp rfl) (.tmp (hs.tmp rfl) .nil)) rfl ⟨_,rfl,hs.fr,?_⟩
    rw [if_pos hn]
    exact ⟨g13,g11,rfl,hs.made⟩
end Go.Proofs.Ytkecdcmjkghddaa
end

section
/- The diary's sectors. -/
namespace Go.Proofs.Ytkecdcmjkghddaa
open Go Go.Fw
theorem set4 {l:List UInt8} {o:Nat} {a b c d:UInt8} (h:o + 4≤l.length):(((l.set (o + 0 * 1) a).set (o + 1 * 1) b).set (o + 2 * 1) c).set (o + 3 * 1) d=l.take o++[a,b,c,d]++l.drop (o + 4):=by
  obtain ⟨A,D,hl,hA⟩:∃ A D,l=A++D∧A.length=o:=⟨l.take o,l.drop o,(List.take_append_drop o l).symm,by rw [List.length_take]; omega⟩
  subst hl hA
  rw [List.length_append] at h
  match D,(show 4≤D.length by omega) with
  | [],h=>simp at h
  | [_],h=>simp at h
  | [_,_],h=>simp at h
  | [_,_,_],h=>simp at h
  | b0::b1::b2::b3::C,_ =>
    rw [List.take_left,← List.drop_drop,List.drop_left]
    rw [List.set_append_right _ _ (by omega),List.set_append_right _ _ (by omega),List.set_append_right _ _ (by omega),List.set_append_right _ _ (by omega)]
    rw [show A.length + 0 * 1 - A.length=0 by omega,show A.length + 1 * 1 - A.length=1 by omega,show A.length + 2 * 1 - A.length=2 by omega,show A.length + 3 * 1 - A.length=3 by omega]
    simp
theorem map_setB {l:List UInt8} {i:Nat} (x:UInt8) (hi:i < l.length):(l.map B).take i++[B x]++(l.map B).drop (i + 1)=(l.set i x).map B:=by
  have:=map_set (f:=B) x hi
  simpa using this
theorem di_put32 (b o n cap:Nat) (T:TypeId) (l:List UInt8) (g:UInt32) (hn:4≤n) (hfit:o + 4≤l.length) (w:World) (hb:w.heap[b]?=some (.cells (l.map B).toArray T (0,0))):Ctr Try.prog 54 [.slice (some ⟨b,o,none⟩) n cap,U g] w (fun k=>k=b) (fun v w'=>v=.tuple #[]∧w'.heap[b]?=some (.cells ((l.take o++be4 g++l.drop (o + 4)).map B).toArray T (0,0))):=by
  refine fn_start (N:=23) Try.func54 rfl rfl rfl fun ac hk=>?_
  have hs:=St.own1 hk hb
  refine wp_reg ?_
  refine s_q hs (c_move (hs.ev rfl)) rfl fun ac hs=>?_
  refine s_q hs (c_move (hs.ev rfl)) rfl fun ac hs=>?_
  refine s_q hs (c_move (hs.ev rfl)) rfl fun ac hs=>?_
  refine s_q hs (c_move (hs.ev rfl)) rfl fun ac hs=>?_
  refine s_q hs (c_move (hs.ev rfl)) rfl fun ac hs=>?_
  refine s_q hs (c_shrU (hs.ev rfl) (hs.ev rfl) (by decide)) rfl fun ac hs=>?_
  refine s_q hs (c_cvUB un53 un5 (hs.ev rfl)) rfl fun ac hs=>?_
  refine s_q hs (c_move (hs.ev rfl)) rfl fun ac hs=>?_
  refine s_q hs (c_shrU (hs.ev rfl) (hs.ev rfl) (by decide)) rfl fun ac hs=>?_
  refine s_q hs (c_cvUB un53 un5 (hs.ev rfl)) rfl fun ac hs=>?_
  refine s_q hs (c_move (hs.ev rfl)) rfl fun ac hs=>?_
  refine s_q hs (c_shrU (hs.ev rfl) (hs.ev rfl) (by decide)) rfl fun ac hs=>?_
  refine s_q hs (c_cvUB un53 un5 (hs.ev rfl)) rfl fun ac hs=>?_
  refine s_q hs (c_move (hs.ev rfl)) rfl fun ac hs=>?_
  refine s_q hs (c_cvUB un53 un5 (hs.ev rfl)) rfl fun ac hs=>?_
  refine s_q hs (c_idxS (j:=0) un38 ty5 (hs.ev rfl) (hs.ev rfl) rfl (by omega)) rfl fun ac hs=>?_
  refine s_store (i:=0) hs ty5 rfl rfl rfl rfl rfl rfl (by simp; omega) (map_setB _ (by simp; omega)) fun ww hs=>?_
  refine s_q hs (c_idxS (j:=1) un38 ty5 (hs.ev rfl) (hs.ev rfl) rfl (by omega)) rfl fun ac hs=>?_
  refine s_store (i:=0) hs ty5 rfl rfl rfl rfl rfl rfl (by simp; omega) (map_setB _ (by simp; omega)) fun ww hs=>?_
  refine s_q hs (c_idxS (j:=2) un38 ty5 (hs.ev rfl) (hs.ev rfl) rfl (by omega)) rfl fun ac hs=>?_
  refine s_store (i:=0) hs ty5 rfl rfl rfl rfl rfl rfl (by simp; omega) (map_setB _ (by simp; omega)) fun ww hs=>?_
  refine s_q hs (c_idxS (j:=3) un38 ty5 (hs.ev rfl) (hs.ev rfl) rfl (by omega)) rfl fun ac hs=>?_
  refine s_store (i:=0) hs ty5 rfl rfl rfl rfl rfl rfl (by simp; omega) (map_setB _ (by simp; omega)) fun ww hs=>?_
  refine s_end ?_
  replace hs:=hs.sub (F':=[]) trivial
  refine s_ret_end hs rfl .nil rfl ⟨_,rfl,hs.fr,?_⟩
  refine ⟨rfl,?_⟩
  have h9:=hs.seg (i:=0) rfl
  rw [set4 hfit] at h9
  exact h9
theorem di_get32 (v:Value) (l:List UInt8) (hl:4≤l.length) (w:World) (hR:RdB w v l):Ctr Try.prog 50 [v] w (fun _=>False) (fun v2 _=>v2=U (get4 l)):=by
  obtain ⟨pb,po,pcap,pT,pf,pall,rfl,hpc,hpm,hpb,hps⟩:=RdB.at_ hR (by omega)
  refine fn_start (N:=25) Try.func50 rfl rfl rfl fun ac hk=>?_
  have hs:=St.start hk w
  refine wp_seq (wp_reg ?_)
  refine s_q hs (c_assign (St.ev (v:=U 0) hs rfl)) rfl fun ac hs=>?_
  refine s_end (then_n (wp_seq ?_))
  refine wp_region_rg pmix 23 (by kernel_rfl) rfl hs ?_
  simp only [List.take_succ_cons,List.take_zero]
  refine rg_q (fun ac ww h=>c_move (h.ev rfl)) rfl ?_
  refine rg_q (fun ac ww h=>c_idxS (j:=0) un38 ty5 (h.ev rfl) (h.ev rfl) rfl (by omega)) rfl ?_
  refine rg_q (fun ac ww h=>c_loadS un5 rfl (h.ev rfl) (h.blk (hs.old hpb id)) (seg_get1 (0:UInt8) hps (by omega))) rfl ?_
  refine rg_q (fun ac ww h=>c_cvBU un5 un53 (h.ev rfl)) rfl ?_
  refine rg_q (fun ac ww h=>c_shlU (h.ev rfl) (h.ev rfl) (by decide)) rfl ?_
  refine rg_q (fun ac ww h=>c_move (h.ev rfl)) rfl ?_
  refine rg_q (fun ac ww h=>c_idxS (j:=1) un38 ty5 (h.ev rfl) (h.ev rfl) rfl (by omega)) rfl ?_
  refine rg_q (fun ac ww h=>c_loadS un5 rfl (h.ev rfl) (h.blk (hs.old hpb id)) (seg_get1 (0:UInt8) hps (by omega))) rfl ?_
  refine rg_q (fun ac ww h=>c_cvBU un5 un53 (h.ev rfl)) rfl ?_
  refine rg_q (fun ac ww h=>c_shlU (h.ev rfl) (h.ev rfl) (by decide)) rfl ?_
  refine rg_q (fun ac ww h=>c_orU (h.ev rfl) (h.ev rfl)) rfl ?_
  refine rg_q (fun ac ww h=>c_move (h.ev rfl)) rfl ?_
  refine rg_q (fun ac ww h=>c_idxS (j:=2) un38 ty5 (h.ev rfl) (h.ev rfl) rfl (by omega)) rfl ?_
  refine rg_q (fun ac ww h=>c_loadS un5 rfl (h.ev rfl) (h.blk (hs.old hpb id)) (seg_get1 (0:UInt8) hps (by omega))) rfl ?_
  refine rg_q (fun ac ww h=>c_cvBU un5 un53 (h.ev rfl)) rfl ?_
  refine rg_q (fun ac ww h=>c_shlU (h.ev rfl) (h.ev rfl) (by decide)) rfl ?_
  refine rg_q (fun ac ww h=>c_orU (h.ev rfl) (h.ev rfl)) rfl ?_
  refine rg_q (fun ac ww h=>c_move (h.ev rfl)) rfl ?_
  refine rg_q (fun ac ww h=>c_idxS (j:=3) un38 ty5 (h.ev rfl) (h.ev rfl) rfl (by omega)) rfl ?_
  refine rg_q (fun ac ww h=>c_loadS un5 rfl (h.ev rfl) (h.blk (hs.old hpb id)) (seg_get1 (0:UInt8) hps (by omega))) rfl ?_
  refine rg_q (fun ac ww h=>c_cvBU un5 un53 (h.ev rfl)) rfl ?_
  refine rg_q (fun ac ww h=>c_orU (h.ev rfl) (h.ev rfl)) rfl ?_
  refine rg_q (fun ac ww h=>c_assign (h.ev rfl)) rfl ?_
  refine rg_nil fun ac ww L' hf hfe hs=>?_
  simp only [List.drop_succ_cons,List.drop_zero]
  obtain rfl:L'=[]:=hfe
  replace hs:=hs.toL (List.nil_append _)
  refine s_end ?_
  replace hs:=hs.sub (F':=[(2,_)]) ⟨rfl,trivial⟩
  refine then_n (wp_ret ?_)
  refine s_ret hs rfl (.tmp (hs.tmp rfl) .nil) rfl ⟨_,rfl,hs.fr,?_⟩
  rfl
theorem di_sum (l:List UInt8) (hl:l.length=64) (w:World) :Ctr Try.prog 53 [.agg (l.map B).toArray] w (fun _=>False) (fun v _=>v=W16 (sumL (l.take 58))):=by
  refine fn_start (N:=18) Try.func53 rfl rfl rfl fun ac hk=>?_
  have hs:=St.start hk w
  refine wp_seq (wp_reg ?_)
  refine s_box hs rfl rfl rfl fun ac ww g1 hs=>?_
  refine s_q hs (c_assign (hs.ev rfl)) rfl fun ac hs=>?_
  refine s_end ?_
  replace hs:=hs.sub (F':=[(1,_),(2,_)]) ⟨rfl,rfl,trivial⟩
  refine then_n (wp_seq (wp_reg ?_))
  refine s_q hs (c_assign (hs.ev rfl)) rfl fun ac hs=>?_
  refine s_end (then_n (wp_seq (wp_seq (wp_reg ?_))))
  refine s_q hs (c_sliceAH (j:=58) un29 ty5 (hs.ev rfl) (hs.ev rfl) rfl (by decide)) rfl fun ac hs=>?_
  refine s_q hs (c_lenS un38 (hs.ev rfl)) rfl fun ac hs=>?_
  refine s_q hs (c_move (hs.ev rfl)) rfl fun ac hs=>?_
  refine s_end ?_
  replace hs:=hs.sub (F':=[(2,_),(3,_),(6,_),(7,_),(8,_)]) ⟨rfl,rfl,rfl,rfl,rfl,trivial⟩
  refine then_n (wp_block ?_)
  refine s_loop hs (X:=Nat) (fun k=>[(8,I k),(3,W16 (sumL (l.take k)))]) [(2,_),(6,_),(7,_)] (fun k=>[.seg g1 (l.map B) 29]) (fun n k=>k≤58∧n=58 - k) (_) (0) (⟨Nat.zero_le _,rfl⟩) ⟨rfl,rfl,rfl,rfl,rfl,trivial⟩ rfl ?_
  rintro n k ac ww hok2 hs
  simp only [List.cons_append,List.nil_append] at hs
  obtain ⟨hk,rfl⟩:=hok2
  refine wp_seq (wp_reg ?_)
  refine s_q hs (c_lssI (hs.ev rfl) (hs.ev rfl)) rfl fun ac hs=>?_
  refine s_end (then_n (wp_seq ?_))
  refine s_cond hs rfl (fun hc=>?_) (fun hc=>?_)
  · try simp only [decide_eq_true_eq,decide_eq_false_iff_not,Bool.not_eq_true',Bool.not_eq_false',Bool.and_eq_true,Bool.or_eq_true,Bool.or_eq_false_iff] at hc
    have hk58:k < 58:=by omega
    refine wp_skip (then_n (wp_seq (wp_block (wp_seq (wp_reg ?_)))))
    refine s_q hs (c_idxS (j:=k) un38 ty5 (hs.ev rfl) (hs.ev rfl) (by omega) (by omega)) rfl fun ac hs=>?_
    refine s_q hs (c_loadS un5 rfl (hs.ev rfl) (hs.seg (i:=0) rfl) (map_get (f:=B) (0:UInt8) (by omega))) rfl fun ac hs=>?_
    refine s_q hs (c_assign (hs.ev rfl)) rfl fun ac hs=>?_
    refine s_end (then_n (wp_reg ?_))
    refine s_q hs (c_move (hs.ev rfl)) rfl fun ac hs=>?_
    refine s_q hs (c_move (hs.ev rfl)) rfl fun ac hs=>?_
    refine s_q hs (c_cvBW un5 un100 (hs.ev rfl)) rfl fun ac hs=>?_
    refine s_q hs (c_addW (hs.ev rfl) (hs.ev rfl)) rfl fun ac hs=>?_
    refine s_q hs (c_assign (hs.ev rfl)) rfl fun ac hs=>?_
    refine s_end (blk_n (then_n (wp_reg ?_)))
    refine s_q hs (c_addI (hs.ev rfl) (hs.ev rfl) (by omega) (by omega)) rfl fun ac hs=>?_
    refine s_q hs (c_move (hs.ev rfl)) rfl fun ac hs=>?_
    refine s_end (then_n ?_)
    exact ⟨58 - (k + 1),by omega,k + 1,⟨by omega,rfl⟩,St.next hs ⟨rfl,(by rw [sumL_succ (by omega)]; rfl),rfl,rfl,rfl,trivial⟩ rfl⟩
  · try simp only [decide_eq_true_eq,decide_eq_false_iff_not,Bool.not_eq_true',Bool.not_eq_false',Bool.and_eq_true,Bool.or_eq_true,Bool.or_eq_false_iff] at hc
    obtain rfl:k=58:=by omega
    refine wp_exit (then_e (then_e (blk_hit (then_n (wp_seq (wp_reg ?_))))))
    refine s_q hs (c_move (hs.ev rfl)) rfl fun ac hs=>?_
    refine s_q hs (c_assign (hs.ev rfl)) rfl fun ac hs=>?_
    refine s_end ?_
    replace hs:=hs.sub (F':=[(2,_)]) ⟨rfl,trivial⟩
    refine then_n (wp_ret ?_)
    refine s_ret hs rfl (.tmp (hs.tmp rfl) .nil) rfl ⟨_,rfl,hs.fr,?_⟩
    rfl
theorem lay_cp {g:UInt32} {place:Int} {fl:UInt8} {p:List UInt8} (h:p.length≤50):((be4 g++[i8 (place / 2 ^ 8),i8 place,fl,i8 (p.length:Int)]++List.replicate 56 (0:UInt8)).take 8++p++(be4 g++[i8 (place / 2 ^ 8),i8 place,fl,i8 (p.length:Int)]++List.replicate 56 (0:UInt8)).drop (8 + p.length))=layB g place fl p++List.replicate 6 (0:UInt8):=by
  have h1:(be4 g++[i8 (place / 2 ^ 8),i8 place,fl,i8 (p.length:Int)]++List.replicate 56 (0:UInt8)).take 8=be4 g++[i8 (place / 2 ^ 8),i8 place,fl,i8 (p.length:Int)]:=List.take_left' (by simp [be4])
  have h2:(be4 g++[i8 (place / 2 ^ 8),i8 place,fl,i8 (p.length:Int)]++List.replicate 56 (0:UInt8)).drop (8 + p.length)=List.replicate (56 - p.length) 0:=by
    rw [← List.drop_drop,List.drop_left' (by simp [be4]),List.drop_replicate]
  rw [h1,h2,layB,List.append_assoc (_++p),List.replicate_append_replicate,show 50 - p.length + 6=56 - p.length by omega]
theorem lay_s1 {b:List UInt8} {x:UInt8} (h:b.length=58):((b++List.replicate 6 (0:UInt8)).map B).take (0 + 58 * 1)++[B x]++((b++List.replicate 6 (0:UInt8)).map B).drop (0 + 58 * 1 + 1)=(b++x::List.replicate 5 (0:UInt8)).map B:=by
  rw [← List.map_take,← List.map_drop,List.take_left' (by omega),show 0 + 58 * 1 + 1=58 + 1 by rfl,← List.drop_drop,List.drop_left' h]
  simp
theorem lay_s2 {b:List UInt8} {x y:UInt8} (h:b.length=58):((b++x::List.replicate 5 (0:UInt8)).map B).take (0 + 59 * 1)++[B y]++((b++x::List.replicate 5 (0:UInt8)).map B).drop (0 + 59 * 1 + 1)=(b++[x,y]++List.replicate 4 (0:UInt8)).map B:=by
  have e:b++x::List.replicate 5 (0:UInt8)=(b++[x])++List.replicate 5 (0:UInt8):=by simp
  rw [← List.map_take,← List.map_drop,e,List.take_left' (by simp [h]),show 0 + 59 * 1 + 1=59 + 1 by rfl,← List.drop_drop,List.drop_left' (by simp [h])]
  simp
theorem lay_s3 {b c:List UInt8} {x y:UInt8} (h:b.length=58) (hc:c.length=4):((b++[x,y]++List.replicate 4 (0:UInt8)).take (0 + 60)++c++(b++[x,y]++List.replicate 4 (0:UInt8)).drop (0 + 60 + 4))=b++[x,y]++c:=by
  rw [List.take_left' (by simp [h]),List.drop_of_length_le (by simp [h]),List.append_nil]
theorem di_lay (g:UInt32) (place:Int) (fl:UInt8) (p:List UInt8) (v:Value) (hpl:p.length≤50) (w:World) (hR:RdB w v p):Ctr Try.prog 52 [U g,I place,B fl,v] w (fun _=>False) (fun v2 _=>v2=.agg ((lay g place fl p).map B).toArray):=by
  have hnl:=hR.le
  obtain ⟨vad,vcap,rfl,hvc,hvm⟩:=Rd.sl hR
  refine fn_start (N:=43) Try.func52 rfl rfl rfl fun ac hk=>?_
  have hs:=St.start hk w
  refine wp_seq (wp_reg ?_)
  refine s_alloc hs ty29 rfl fun ac ww g8 hs=>?_
  refine s_end (then_n (wp_seq (wp_reg ?_)))
  refine s_alloc hs ty29 rfl fun ac ww g9 hs=>?_
  refine s_end (then_n (wp_seq (wp_reg ?_)))
  refine s_q hs (c_sliceA un29 ty5 (hs.ev rfl)) rfl fun ac hs=>?_
  refine s_q hs (c_move (hs.ev rfl)) rfl fun ac hs=>?_
  refine s_callM (i:=0) hs fu54 (.cons (hs.ev rfl) (.cons (hs.ev rfl) .nil)) rfl (di_put32 g9 0 64 64 29 zero64 g (by decide) (by decide) _ (hs.seg (i:=0) rfl)) rfl fun ac ww v13 hf hp hs=>?_
  obtain ⟨rfl,hb'⟩:=hp
  replace hs:=hs (.seg g9 ((be4 g++List.replicate 60 (0:UInt8)).map B) 29) hb' (fun k hk=>⟨.inl hk,by obtain rfl:k=g9:=hk; exact heap_lt hb'⟩)
  refine s_end ?_
  replace hs:=hs.sub (F':=[(0,_),(1,_),(2,_),(3,_),(8,_),(9,_)]) ⟨rfl,rfl,rfl,rfl,rfl,rfl,trivial⟩
  refine then_n (wp_seq (wp_reg ?_))
  refine s_q hs (c_move (hs.ev rfl)) rfl fun ac hs=>?_
  refine s_q hs (c_shrI (hs.ev rfl) (hs.ev rfl) (by decide)) rfl fun ac hs=>?_
  refine s_q hs (c_cvIB un3 un5 (hs.ev rfl)) rfl fun ac hs=>?_
  refine s_q hs (c_move (hs.ev rfl)) rfl fun ac hs=>?_
  refine s_q hs (c_cvIB un3 un5 (hs.ev rfl)) rfl fun ac hs=>?_
  refine s_q hs (c_move (hs.ev rfl)) rfl fun ac hs=>?_
  refine s_q hs (c_move (hs.ev rfl)) rfl fun ac hs=>?_
  refine s_q hs (c_lenS un38 (hs.ev rfl)) rfl fun ac hs=>?_
  refine s_q hs (c_cvIB un3 un5 (hs.ev rfl)) rfl fun ac hs=>?_
  refine s_q hs (c_idxA un29 ty5 (hs.ev rfl) (hs.ev rfl) rfl (by decide)) rfl fun ac hs=>?_
  refine s_store (i:=0) hs ty5 rfl rfl rfl rfl rfl rfl (by simp [layB_len hpl,be4]) (show _=(be4 g++[i8 (place / 2 ^ 8)]++List.replicate 59 (0:UInt8)).map B from rfl) fun ww hs=>?_
  refine s_q hs (c_idxA un29 ty5 (hs.ev rfl) (hs.ev rfl) rfl (by decide)) rfl fun ac hs=>?_
  refine s_store (i:=0) hs ty5 rfl rfl rfl rfl rfl rfl (by simp [layB_len hpl,be4]) (show _=(be4 g++[i8 (place / 2 ^ 8),i8 place]++List.replicate 58 (0:UInt8)).map B from rfl) fun ww hs=>?_
  refine s_q hs (c_idxA un29 ty5 (hs.ev rfl) (hs.ev rfl) rfl (by decide)) rfl fun ac hs=>?_
  refine s_store (i:=0) hs ty5 rfl rfl rfl rfl rfl rfl (by simp [layB_len hpl,be4]) (show _=(be4 g++[i8 (place / 2 ^ 8),i8 place,fl]++List.replicate 57 (0:UInt8)).map B from rfl) fun ww hs=>?_
  refine s_q hs (c_idxA un29 ty5 (hs.ev rfl) (hs.ev rfl) rfl (by decide)) rfl fun ac hs=>?_
  refine s_store (i:=0) hs ty5 rfl rfl rfl rfl rfl rfl (by simp [layB_len hpl,be4]) (show _=(be4 g++[i8 (place / 2 ^ 8),i8 place,fl,i8 (p.length:Int)]++List.replicate 56 (0:UInt8)).map B from rfl) fun ww hs=>?_
  refine s_end ?_
  replace hs:=hs.sub (F':=[(0,_),(3,_),(8,_),(9,_)]) ⟨rfl,rfl,rfl,rfl,trivial⟩
  refine then_n (wp_seq (wp_reg ?_))
  refine s_q hs (c_sliceAL (i:=8) un29 ty5 (hs.ev rfl) (hs.ev rfl) rfl (by decide)) rfl fun ac hs=>?_
  refine s_q hs (c_move (hs.ev rfl)) rfl fun ac hs=>?_
  refine s_copyTo (i:=0) hs un38 ty5 rfl rfl rfl (hR.fr0 hs.fr) (by omega) (by simp [be4]) rfl fun ac ww hs=>?_
  rw [show 0 + 8=8 from rfl,lay_cp hpl] at hs
  have hl58:=layB_len (g:=g) (place:=place) (fl:=fl) hpl
  refine s_end ?_
  replace hs:=hs.sub (F':=[(0,_),(8,_),(9,_)]) ⟨rfl,rfl,rfl,trivial⟩
  refine then_n (wp_seq (wp_reg ?_))
  refine s_q hs (c_loadW ty29 rfl (hs.ev rfl) (hs.seg (i:=0) rfl) (by simp [hl58])) rfl fun ac hs=>?_
  refine s_call hs fu53 (.cons (hs.ev rfl) .nil) (di_sum _ (by simp [hl58]) _) rfl fun ac ww v31 hf hp hs=>?_
  rw [show (layB g place fl p++List.replicate 6 (0:UInt8)).take 58=layB g place fl p from List.take_left' hl58] at hp
  obtain rfl:=hp
  replace hs:=hs [] (.nil _ _)
  refine s_q hs (c_assign (hs.ev rfl)) rfl fun ac hs=>?_
  refine s_end ?_
  replace hs:=hs.sub (F':=[(0,_),(8,_),(9,_),(10,_)]) ⟨rfl,rfl,rfl,rfl,trivial⟩
  refine then_n (wp_seq (wp_reg ?_))
  refine s_q hs (c_move (hs.ev rfl)) rfl fun ac hs=>?_
  refine s_q hs (c_shrW (n:=8) (hs.ev rfl) (hs.ev rfl) (by decide)) rfl fun ac hs=>?_
  refine s_q hs (c_cvWB un100 un5 (hs.ev rfl)) rfl fun ac hs=>?_
  refine s_q hs (c_move (hs.ev rfl)) rfl fun ac hs=>?_
  refine s_q hs (c_cvWB un100 un5 (hs.ev rfl)) rfl fun ac hs=>?_
  refine s_q hs (c_idxA un29 ty5 (hs.ev rfl) (hs.ev rfl) rfl (by decide)) rfl fun ac hs=>?_
  refine s_store (i:=0) hs ty5 rfl rfl rfl rfl rfl rfl (by simp [hl58]) (lay_s1 hl58) fun ww hs=>?_
  refine s_q hs (c_idxA un29 ty5 (hs.ev rfl) (hs.ev rfl) rfl (by decide)) rfl fun ac hs=>?_
  refine s_store (i:=0) hs ty5 rfl rfl rfl rfl rfl rfl (by simp [hl58]) (lay_s2 hl58) fun ww hs=>?_
  refine s_end ?_
  replace hs:=hs.sub (F':=[(0,_),(8,_),(9,_)]) ⟨rfl,rfl,rfl,trivial⟩
  refine then_n (wp_seq (wp_reg ?_))
  refine s_q hs (c_sliceAL (i:=60) un29 ty5 (hs.ev rfl) (hs.ev rfl) rfl (by decide)) rfl fun ac hs=>?_
  refine s_q hs (c_move (hs.ev rfl)) rfl fun ac hs=>?_
  refine s_callM (i:=0) hs fu54 (.cons (hs.ev rfl) (.cons (hs.ev rfl) .nil)) rfl (di_put32 g9 (0 + 60) (64 - 60) (64 - 60) 29 _ g (by decide) (by simp [hl58]) _ (hs.seg (i:=0) rfl)) rfl fun ac ww v41 hf hp hs=>?_
  obtain ⟨rfl,hb'⟩:=hp
  rw [lay_s3 hl58 (by rfl)] at hb'
  replace hs:=hs (.seg g9 ((lay g place fl p).map B) 29) hb' (fun k hk=>⟨.inl hk,by obtain rfl:k=g9:=hk; exact heap_lt hb'⟩)
  have hl64:=lay_len (g:=g) (place:=place) (fl:=fl) hpl
  refine s_end ?_
  replace hs:=hs.sub (F':=[(8,_),(9,_)]) ⟨rfl,rfl,trivial⟩
  refine then_n (wp_seq (wp_reg ?_))
  refine s_q hs (c_loadW ty29 rfl (hs.ev rfl) (hs.seg (i:=0) rfl) (by simp [hl64])) rfl fun ac hs=>?_
  refine s_storeW (i:=1) hs ty29 rfl rfl rfl (by simp [hl64]) (all64 _) (by rfl) fun ww hs=>?_
  refine s_end ?_
  replace hs:=hs.sub (F':=[(8,_)]) ⟨rfl,trivial⟩
  refine then_n (wp_ret ?_)
  refine s_ret hs rfl (.cell (hs.tmp rfl) (run_loadA ty29 rfl (hs.seg (i:=1) rfl) (List.take_of_length_le (by simp [hl64])) (by simp [hl64])) .nil) rfl ⟨_,rfl,hs.fr,?_⟩
  rfl
end Go.Proofs.Ytkecdcmjkghddaa
end

section
/- The diary: halves,the sectors of a record. -/
namespace Go.Proofs.Ytkecdcmjkghddaa
open Go Go.Fw
theorem odd01 (g:UInt32):(g % 2).toNat=0∨(g % 2).toNat=1:=by
  have:(g % 2).toNat=g.toNat % 2:=by rw [UInt32.toNat_mod]; rfl
  omega
theorem RdB.mid0 {w:World} {ad:Option Addr} {cap j:Nat} {l:List UInt8} (h:RdB w (.slice ad l.length cap) l) (hj:j≤l.length):RdB w (.slice (if cap=0 then ad else ad.map (·.add 0)) j cap) (l.take j):=h.mid (i:=0) (Nat.zero_le _) hj
theorem lay_cells {g:UInt32} {place:Int} {fl:UInt8} {p:List UInt8} (h:p.length≤50):(Value.agg ((lay g place fl p).map B).toArray).cells.size=64:=by
  show ((lay g place fl p).map B).toArray.size=64
  rw [List.size_toArray,List.length_map,lay_len h]
def diC (g:Nat) (gen:UInt32) (nx:Nat):List Value:=[.pointer (some ⟨g,0,none⟩),U gen,I nx]
theorem di_half (g sb:Nat) (qv:Value) (s:Sl) (gen:UInt32) (hn1:s.n≤4096) (w:World) (hR:SlR w g sb qv s):Ctr Try.prog 44 [.pointer (some ⟨g,0,none⟩),U gen] w (fun _=>False) (fun v _=>v=.tuple #[I (half s.n gen:Nat),I (s.n / 2:Nat)]):=by
  refine fn_start (N:=15) Try.func44 rfl rfl rfl fun ac hk=>?_
  have hs:=St.start hk w
  refine wp_seq (wp_reg ?_)
  refine s_q hs (c_assign (hs.ev rfl)) rfl fun ac hs=>?_
  refine s_q hs (c_assign (hs.ev rfl)) rfl fun ac hs=>?_
  refine s_end (then_n (wp_seq (wp_reg ?_)))
  refine s_q hs (c_move (hs.ev rfl)) rfl fun ac hs=>?_
  refine s_call hs fu20 (.cons (hs.ev rfl) .nil) (sl_Sectors g sb qv s _ (hR.fr0 hs.fr)) rfl fun ac ww v7 hf hp hs=>?_
  obtain rfl:=hp
  replace hs:=hs [] (.nil _ _)
  have hg:=odd01 gen
  refine s_q hs (c_to (c_quoI (hs.ev rfl) (hs.ev rfl) (by omega) (by omega) (by omega)) ((congrArg I (show ((s.n:Int) / 2)=((s.n / 2:Nat):Int) by omega)))) rfl fun ac hs=>?_
  refine s_q hs (c_assign (hs.ev rfl)) rfl fun ac hs=>?_
  refine s_end ?_
  replace hs:=hs.sub (F':=[(1,_),(4,_),(5,_)]) ⟨rfl,rfl,rfl,trivial⟩
  refine then_n (wp_seq (wp_reg ?_))
  refine s_q hs (c_move (hs.ev rfl)) rfl fun ac hs=>?_
  refine s_q hs (c_remU (hs.ev rfl) (St.ev (v:=U 2) hs rfl) (by decide)) rfl fun ac hs=>?_
  refine s_q hs (c_cvUI un53 un3 (hs.ev rfl)) rfl fun ac hs=>?_
  refine s_q hs (c_move (hs.ev rfl)) rfl fun ac hs=>?_
  refine s_q hs (c_to (c_mulI (hs.ev rfl) (hs.ev rfl) (by rcases hg with h9 | h9 <;> rw [h9] <;> omega) (by rcases hg with h9 | h9 <;> rw [h9] <;> omega)) ((congrArg I (Int.natCast_mul _ _).symm))) rfl fun ac hs=>?_
  refine s_q hs (c_move (hs.ev rfl)) rfl fun ac hs=>?_
  refine s_q hs (c_assign (hs.ev rfl)) rfl fun ac hs=>?_
  refine s_q hs (c_assign (hs.ev rfl)) rfl fun ac hs=>?_
  refine s_end ?_
  replace hs:=hs.sub (F':=[(4,_),(5,_)]) ⟨rfl,rfl,trivial⟩
  refine then_n (wp_ret ?_)
  refine s_ret hs rfl (.tmp (hs.tmp rfl) (.tmp (hs.tmp rfl) .nil)) rfl ⟨_,rfl,hs.fr,?_⟩
  rfl
theorem di_Need (n:Int) (h1:n≤9000000000000000000) (w:World) :Ctr Try.prog 34 [I n] w (fun _=>False) (fun v _=>v=I (need n.toNat:Nat)):=by
  refine fn_start (N:=9) Try.func34 rfl rfl rfl fun ac hk=>?_
  have hs:=St.start hk w
  refine wp_seq (wp_reg ?_)
  refine s_q hs (c_assign (hs.ev rfl)) rfl fun ac hs=>?_
  refine s_end (then_n (wp_seq (wp_reg ?_)))
  refine s_q hs (c_move (hs.ev rfl)) rfl fun ac hs=>?_
  refine s_q hs (c_max (hs.ev rfl) (hs.ev rfl)) rfl fun ac hs=>?_
  refine s_q hs (c_addI (hs.ev rfl) (hs.ev rfl) (by omega) (by omega)) rfl fun ac hs=>?_
  refine s_q hs (c_subI (hs.ev rfl) (hs.ev rfl) (by omega) (by omega)) rfl fun ac hs=>?_
  refine s_q hs (c_quoI (hs.ev rfl) (hs.ev rfl) (by omega) (by omega) (by omega)) rfl fun ac hs=>?_
  refine s_q hs (c_to (c_max (hs.ev rfl) (hs.ev rfl)) ((congrArg I (show max (1:Int) ((max n 0 + 50 - 1) / 50)=((need n.toNat:Nat):Int) by unfold need; omega)))) rfl fun ac hs=>?_
  refine s_q hs (c_assign (hs.ev rfl)) rfl fun ac hs=>?_
  refine s_end ?_
  replace hs:=hs.sub (F':=[(2,_)]) ⟨rfl,trivial⟩
  refine then_n (wp_ret ?_)
  refine s_ret hs rfl (.tmp (hs.tmp rfl) .nil) rfl ⟨_,rfl,hs.fr,?_⟩
  rfl
theorem ref15_Need (n:Int) (h0:0 < n) (h1:n≤9000000000000000000) (w:World) :Ctr Try.prog 32 [I n] w (fun _=>False) (fun v _=>v=I (need n.toNat:Nat)):=by
  refine fn_start (N:=13) Try.func32 rfl rfl rfl fun ac hk=>?_
  have hs:=St.start hk w
  refine wp_seq (wp_reg ?_)
  refine s_q hs (c_assign (hs.ev rfl)) rfl fun ac hs=>?_
  refine s_end (then_n (wp_seq (wp_seq (wp_reg ?_))))
  refine s_q hs (c_move (hs.ev rfl)) rfl fun ac hs=>?_
  refine s_q hs (c_leqI (hs.ev rfl) (hs.ev rfl)) rfl fun ac hs=>?_
  refine s_end ?_
  replace hs:=hs.sub (F':=[(0,_),(2,_),(4,_)]) ⟨rfl,rfl,rfl,trivial⟩
  refine then_n ?_
  refine s_cond hs rfl (fun hc=>?_) (fun hc=>?_)
  · try simp only [decide_eq_true_eq,decide_eq_false_iff_not,Bool.not_eq_true',Bool.not_eq_false',Bool.and_eq_true,Bool.or_eq_true,Bool.or_eq_false_iff] at hc
    refine wp_seq (wp_reg ?_)
    refine s_q hs (c_assign (hs.ev rfl)) rfl fun ac hs=>?_
    refine s_end ?_
    replace hs:=hs.sub (F':=[(0,_),(2,_)]) ⟨rfl,rfl,trivial⟩
    refine then_n (wp_ret (then_r ?_))
    refine s_ret hs rfl (.tmp (hs.tmp rfl) .nil) rfl ⟨_,rfl,hs.fr,?_⟩
    show I 1=_
    exact congrArg I (show (1:Int)=((need n.toNat:Nat):Int) by unfold need; omega)
  · try simp only [decide_eq_true_eq,decide_eq_false_iff_not,Bool.not_eq_true',Bool.not_eq_false',Bool.and_eq_true,Bool.or_eq_true,Bool.or_eq_false_iff] at hc
    refine wp_skip (then_n (wp_seq (wp_seq (wp_reg ?_))))
    refine s_q hs (c_move (hs.ev rfl)) rfl fun ac hs=>?_
    refine s_q hs (c_remI (hs.ev rfl) (hs.ev rfl) (by omega) (by omega)) rfl fun ac hs=>?_
    refine s_q hs (c_eqlI (hs.ev rfl) (hs.ev rfl)) rfl fun ac hs=>?_
    refine s_end ?_
    replace hs:=hs.sub (F':=[(0,_),(2,_),(7,_)]) ⟨rfl,rfl,rfl,trivial⟩
    refine then_n ?_
    refine s_cond hs rfl (fun hc=>?_) (fun hc=>?_)
    · try simp only [decide_eq_true_eq,decide_eq_false_iff_not,Bool.not_eq_true',Bool.not_eq_false',Bool.and_eq_true,Bool.or_eq_true,Bool.or_eq_false_iff] at hc
      refine wp_seq (wp_reg ?_)
      refine s_q hs (c_move (hs.ev rfl)) rfl fun ac hs=>?_
      refine s_q hs (c_quoI (hs.ev rfl) (hs.ev rfl) (by omega) (by omega) (by omega)) rfl fun ac hs=>?_
      refine s_q hs (c_assign (hs.ev rfl)) rfl fun ac hs=>?_
      refine s_end ?_
      replace hs:=hs.sub (F':=[(0,_),(2,_)]) ⟨rfl,rfl,trivial⟩
      refine then_n (wp_ret (then_r ?_))
      refine s_ret hs rfl (.tmp (hs.tmp rfl) .nil) rfl ⟨_,rfl,hs.fr,?_⟩
      exact congrArg I (show n / 50=((need n.toNat:Nat):Int) by unfold need; omega)
    · try simp only [decide_eq_true_eq,decide_eq_false_iff_not,Bool.not_eq_true',Bool.not_eq_false',Bool.and_eq_true,Bool.or_eq_true,Bool.or_eq_false_iff] at hc
      refine wp_skip (then_n (wp_seq (wp_reg ?_)))
      refine s_q hs (c_move (hs.ev rfl)) rfl fun ac hs=>?_
      refine s_q hs (c_quoI (hs.ev rfl) (hs.ev rfl) (by omega) (by omega) (by omega)) rfl fun ac hs=>?_
      refine s_q hs (c_addI (hs.ev rfl) (hs.ev rfl) (by omega) (by omega)) rfl fun ac hs=>?_
      refine s_q hs (c_assign (hs.ev rfl)) rfl fun ac hs=>?_
      refine s_end ?_
      replace hs:=hs.sub (F':=[(2,_)]) ⟨rfl,trivial⟩
      refine then_n (wp_ret ?_)
      refine s_ret hs rfl (.tmp (hs.tmp rfl) .nil) rfl ⟨_,rfl,hs.fr,?_⟩
      exact congrArg I (show n / 50 + 1=((need n.toNat:Nat):Int) by unfold need; omega)
theorem di_next (gen be:UInt32) (w:World) :Ctr Try.prog 46 [U gen,U be] w (fun _=>False) (fun v _=>v=U (if gen.toNat < be.toNat then be + 2 else gen + 1)):=by
  refine fn_start (N:=12) Try.func46 rfl rfl rfl fun ac hk=>?_
  have hs:=St.start hk w
  refine wp_seq (wp_reg ?_)
  refine s_q hs (c_assign (St.ev (v:=U 0) hs rfl)) rfl fun ac hs=>?_
  refine s_end (then_n (wp_seq (wp_seq (wp_reg ?_))))
  refine s_q hs (c_move (hs.ev rfl)) rfl fun ac hs=>?_
  refine s_q hs (c_move (hs.ev rfl)) rfl fun ac hs=>?_
  refine s_q hs (c_gtrU (hs.ev rfl) (hs.ev rfl)) rfl fun ac hs=>?_
  refine s_end ?_
  replace hs:=hs.sub (F':=[(0,_),(1,_),(4,_),(7,_)]) ⟨rfl,rfl,rfl,rfl,trivial⟩
  refine then_n ?_
  refine s_cond hs rfl (fun hc=>?_) (fun hc=>?_)
  · try simp only [decide_eq_true_eq,decide_eq_false_iff_not,Bool.not_eq_true',Bool.not_eq_false',Bool.and_eq_true,Bool.or_eq_true,Bool.or_eq_false_iff] at hc
    refine wp_seq (wp_reg ?_)
    refine s_q hs (c_move (hs.ev rfl)) rfl fun ac hs=>?_
    refine s_q hs (c_addU (hs.ev rfl) (St.ev (v:=U 2) hs rfl)) rfl fun ac hs=>?_
    refine s_q hs (c_assign (hs.ev rfl)) rfl fun ac hs=>?_
    refine s_end ?_
    replace hs:=hs.sub (F':=[(0,_),(4,_)]) ⟨rfl,rfl,trivial⟩
    refine then_n (wp_ret (then_r ?_))
    refine s_ret hs rfl (.tmp (hs.tmp rfl) .nil) rfl ⟨_,rfl,hs.fr,?_⟩
    rw [if_pos hc]
    rfl
  · try simp only [decide_eq_true_eq,decide_eq_false_iff_not,Bool.not_eq_true',Bool.not_eq_false',Bool.and_eq_true,Bool.or_eq_true,Bool.or_eq_false_iff] at hc
    refine wp_skip (then_n (wp_seq (wp_reg ?_)))
    refine s_q hs (c_move (hs.ev rfl)) rfl fun ac hs=>?_
    refine s_q hs (c_addU (hs.ev rfl) (St.ev (v:=U 1) hs rfl)) rfl fun ac hs=>?_
    refine s_q hs (c_assign (hs.ev rfl)) rfl fun ac hs=>?_
    refine s_end ?_
    replace hs:=hs.sub (F':=[(4,_)]) ⟨rfl,trivial⟩
    refine then_n (wp_ret ?_)
    refine s_ret hs rfl (.tmp (hs.tmp rfl) .nil) rfl ⟨_,rfl,hs.fr,?_⟩
    rw [if_neg hc]
    rfl
theorem di_Free (dg g sb nx:Nat) (gen:UInt32) (qv:Value) (s:Sl) (hn1:s.n≤4096) (hnx:nx≤s.n / 2) (w:World) (hD:w.heap[dg]?=some (.cells (diC g gen nx).toArray 83 (0,0))) (hR:SlR w g sb qv s):Ctr Try.prog 29 [.pointer (some ⟨dg,0,none⟩)] w (fun _=>False) (fun v _=>v=I (s.n / 2 - nx:Nat)):=by
  refine fn_start (N:=25) Try.func29 rfl rfl rfl fun ac hk=>?_
  have hs:=St.start hk w
  refine wp_seq (wp_reg ?_)
  refine s_q hs (c_assign (hs.ev rfl)) rfl fun ac hs=>?_
  refine s_end (then_n (wp_seq (wp_seq (wp_reg ?_))))
  refine s_q hs (c_move (hs.ev rfl)) rfl fun ac hs=>?_
  refine s_q hs (c_eqlNil un56 (hs.ev rfl) (hs.ev rfl)) rfl fun ac hs=>?_
  refine s_end ?_
  replace hs:=hs.sub (F':=[(0,_),(2,_),(6,_)]) ⟨rfl,rfl,rfl,trivial⟩
  refine then_n ?_
  refine wp_cond_false (hs.ev rfl) ?_
  refine wp_skip (then_n (wp_seq ?_))
  refine wp_region_rg pmix 14 (by kernel_rfl) rfl hs ?_
  simp only [List.take_succ_cons,List.take_zero]
  refine rg_q (fun ac ww h=>c_move (h.ev rfl)) rfl ?_
  refine rg_q (fun ac ww h=>c_nil (h.ev rfl)) rfl ?_
  refine rg_q (fun ac ww h=>c_fld fl83_0 (h.ev rfl)) rfl ?_
  refine rg_q (fun ac ww h=>c_loadS un23 rfl (h.ev rfl) (h.blk (hs.old hD id)) rfl) rfl ?_
  refine rg_q (fun ac ww h=>c_move (h.ev rfl)) rfl ?_
  refine rg_q (fun ac ww h=>c_nil (h.ev rfl)) rfl ?_
  refine rg_q (fun ac ww h=>c_fld fl83_1 (h.ev rfl)) rfl ?_
  refine rg_q (fun ac ww h=>c_loadS un53 rfl (h.ev rfl) (h.blk (hs.old hD id)) rfl) rfl ?_
  refine rg_call fu44 (fun ac ww h=>(.cons (h.ev rfl) (.cons (h.ev rfl) .nil))) (fun ww hf=>di_half g sb qv s gen hn1 _ ((hR.fr0 hs.fr).fr0 hf)) rfl ?_
  refine rg_q (fun ac ww h=>c_move (h.ev rfl)) rfl ?_
  refine rg_q (fun ac ww h=>c_extract (h.ev rfl) rfl) rfl ?_
  refine rg_q (fun ac ww h=>c_extract (h.ev rfl) rfl) rfl ?_
  refine rg_q (fun ac ww h=>c_assign (h.ev rfl)) rfl ?_
  refine rg_q (fun ac ww h=>c_assign (h.ev rfl)) rfl ?_
  refine rg_nil fun ac ww L' hf hfe hs=>?_
  simp only [List.drop_succ_cons,List.drop_zero]
  obtain rfl:L'=[]:=hfe
  replace hs:=hs.toL (List.nil_append _)
  refine s_end ?_
  replace hs:=hs.sub (F':=[(0,_),(2,_),(4,_)]) ⟨rfl,rfl,rfl,trivial⟩
  refine then_n (wp_seq (wp_reg ?_))
  refine s_q hs (c_move (hs.ev rfl)) rfl fun ac hs=>?_
  refine s_q hs (c_move (hs.ev rfl)) rfl fun ac hs=>?_
  refine s_q hs (c_nil (hs.ev rfl)) rfl fun ac hs=>?_
  refine s_q hs (c_fld fl83_2 (hs.ev rfl)) rfl fun ac hs=>?_
  refine s_q hs (c_loadS un3 rfl (hs.ev rfl) (hs.old hD id) rfl) rfl fun ac hs=>?_
  refine s_q hs (c_to (c_subI (hs.ev rfl) (hs.ev rfl) (by omega) (by omega)) ((congrArg I (show ((s.n / 2:Nat):Int) - (nx:Int)=((s.n / 2 - nx:Nat):Int) by omega)))) rfl fun ac hs=>?_
  refine s_q hs (c_assign (hs.ev rfl)) rfl fun ac hs=>?_
  refine s_end ?_
  replace hs:=hs.sub (F':=[(2,_)]) ⟨rfl,trivial⟩
  refine then_n (wp_ret ?_)
  refine s_ret hs rfl (.tmp (hs.tmp rfl) .nil) rfl ⟨_,rfl,hs.fr,?_⟩
  rfl
structure SX where
  i:Nat
  ov:Value
  pv:Value
  f:UInt8
  q:List UInt8
  xs:List UInt8
theorem di_sectors (gen:UInt32) (place:Int) (fl:UInt8) (p:List UInt8) (v:Value) (hpl:p.length≤2048) (hpa:0≤place) (hpb:place≤1000000) (w:World) (hR:RdB w v p):Ctr Try.prog 49 [U gen,I place,B fl,v] w (fun _=>False) (fun v2 w'=>Has w.heap.size w' [.row v2 (need p.length) ((secs gen place fl p).flatten.map B) 29 64]):=by
  refine fn_start (N:=43) Try.func49 rfl rfl rfl fun ac hk=>?_
  have hs:=St.start hk w
  refine wp_seq (wp_reg ?_)
  refine s_q hs (c_assign (hs.ev rfl)) rfl fun ac hs=>?_
  refine s_end (then_n (wp_seq (wp_reg ?_)))
  refine s_q hs (c_assign (hs.ev rfl)) rfl fun ac hs=>?_
  refine s_end ?_
  replace hs:=hs.nilrow 29 64
  refine then_n (wp_seq (wp_reg ?_))
  refine s_q hs (c_assign (St.ev (v:=B 1) hs rfl)) rfl fun ac hs=>?_
  refine s_end (then_n (wp_block ?_))
  refine s_loop hs (X:=SX) (fun z=>[(3,z.pv),(9,z.ov),(10,B z.f)]) [(0,_),(1,_),(2,_)] (fun z=>[.row z.ov z.i (z.xs.map B) 29 64]) (fun n z=>z.xs++(secsF gen fl n z.f (place + (z.i:Nat)) z.q).flatten=(secs gen place fl p).flatten∧need z.q.length=n∧z.i + n=need p.length∧RdB w z.pv z.q∧(z.f=1∨z.f=0)) (need p.length) (⟨0,.slice none 0 0,_,1,p,[]⟩) (⟨by rw [List.nil_append,secs,show (place + ((0:Nat):Int))=place by omega],rfl,Nat.zero_add _,hR,.inl rfl⟩) ⟨rfl,rfl,rfl,rfl,rfl,rfl,trivial⟩ rfl ?_
  rintro n ⟨i,ov,pv,f,q,xs⟩ ac ww hok2 hs
  simp only [List.cons_append,List.nil_append] at hs
  obtain ⟨hx,hn,hi,hq,hfl⟩:=hok2
  replace hx:xs++(secsF gen fl n f (place + (i:Nat)) q).flatten=(secs gen place fl p).flatten:=hx
  replace hn:need q.length=n:=hn
  replace hi:i + n=need p.length:=hi
  replace hq:RdB w pv q:=hq
  replace hfl:f=1∨f=0:=hfl
  have hnq:=hq.le
  have hnd:=need_le hpl
  obtain ⟨pad,pcap,rfl,hpc,hpm⟩:=Rd.sl hq
  refine wp_seq (wp_block (wp_seq (wp_reg ?_)))
  refine s_q hs (c_move (hs.ev rfl)) rfl fun ac hs=>?_
  refine s_q hs (c_lenS un38 (hs.ev rfl)) rfl fun ac hs=>?_
  refine s_q hs (c_min (hs.ev rfl) (hs.ev rfl)) rfl fun ac hs=>?_
  refine s_q hs (c_assign (hs.ev rfl)) rfl fun ac hs=>?_
  refine s_end (then_n (wp_seq (wp_seq (wp_reg ?_))))
  refine s_q hs (c_move (hs.ev rfl)) rfl fun ac hs=>?_
  refine s_q hs (c_move (hs.ev rfl)) rfl fun ac hs=>?_
  refine s_q hs (c_lenS un38 (hs.ev rfl)) rfl fun ac hs=>?_
  refine s_q hs (c_eqlI (hs.ev rfl) (hs.ev rfl)) rfl fun ac hs=>?_
  refine s_end (then_n ?_)
  refine s_cond hs rfl (fun hc=>?_) (fun hc=>?_)
  · try simp only [decide_eq_true_eq,decide_eq_false_iff_not,Bool.not_eq_true',Bool.not_eq_false',Bool.and_eq_true,Bool.or_eq_true,Bool.or_eq_false_iff] at hc
    have hle:q.length≤50:=by omega
    refine wp_reg ?_
    refine s_q hs (c_move (hs.ev rfl)) rfl fun ac hs=>?_
    refine s_q hs (c_orB (hs.ev rfl) (St.ev (v:=B 2) hs rfl)) rfl fun ac hs=>?_
    refine s_q hs (c_assign (hs.ev rfl)) rfl fun ac hs=>?_
    refine s_end (then_n (wp_seq (wp_reg ?_)))
    refine s_q hs (c_move (hs.ev rfl)) rfl fun ac hs=>?_
    refine s_q hs (c_move (hs.ev rfl)) rfl fun ac hs=>?_
    refine s_q hs (c_move (hs.ev rfl)) rfl fun ac hs=>?_
    refine s_q hs (c_move (hs.ev rfl)) rfl fun ac hs=>?_
    refine s_q hs (c_lenR un69 (hs.ev rfl) (Rd.of_row (hs.get (i:=0) rfl))) rfl fun ac hs=>?_
    refine s_q hs (c_addI (hs.ev rfl) (hs.ev rfl) (by omega) (by omega)) rfl fun ac hs=>?_
    refine s_q hs (c_move (hs.ev rfl)) rfl fun ac hs=>?_
    refine s_q hs (c_move (hs.ev rfl)) rfl fun ac hs=>?_
    refine s_q hs (c_orB (hs.ev rfl) (hs.ev rfl)) rfl fun ac hs=>?_
    refine s_q hs (c_move (hs.ev rfl)) rfl fun ac hs=>?_
    refine s_q hs (c_move (hs.ev rfl)) rfl fun ac hs=>?_
    refine s_q hs (c_sliceH (j:=q.length) un38 ty5 (hs.ev rfl) (hs.ev rfl) (by omega) (by omega)) rfl fun ac hs=>?_
    refine s_call hs fu52 (.cons (hs.ev rfl) (.cons (hs.ev rfl) (.cons (hs.ev rfl) (.cons (hs.ev rfl) .nil)))) (di_lay gen (place + (i:Nat)) ((f ||| 2) ||| fl) (q.take q.length) _ (by simp; omega) _ (RdB.mid0 (j:=q.length) (hq.fr0 hs.fr) (by omega))) rfl fun ac ww v33 hf hp hs=>?_
    obtain rfl:=hp
    replace hs:=hs [] (.nil _ _)
    refine s_bslice hs un69 ty29 (.cons (hs.ev rfl) .nil) rfl (fun v hv=>by rw [List.mem_singleton.1 hv]; exact lay_cells (by simp; omega)) (by decide) (show _=(lay gen (place + (i:Nat)) ((f ||| 2) ||| fl) (q.take q.length)).map B by simp [flatCells,Value.cells]) rfl fun ac ww g34 hs=>?_
    refine s_append (i:=1) hs un69 ty29 (by decide) rfl rfl rfl (Rd.of_seg (n:=1) (hs.seg (i:=0) rfl) (Nat.le_refl _) (by decide) (List.take_of_length_le (by simp))) (by rw [List.length_map]; exact lay_len (by simp; omega)) (all64 _) (by unfold maxLen; omega) (by omega) rfl fun ac ww v35 hf hnil hs=>?_
    refine s_q hs (c_assign (hs.ev rfl)) rfl fun ac hs=>?_
    refine s_end (then_n (wp_seq (wp_reg ?_)))
    refine s_q hs (c_move (hs.ev rfl)) rfl fun ac hs=>?_
    refine s_q hs (c_move (hs.ev rfl)) rfl fun ac hs=>?_
    refine s_q hs (c_sliceL (i:=q.length) un38 ty5 (hs.ev rfl) (hs.ev rfl) (by omega) (by omega)) rfl fun ac hs=>?_
    refine s_q hs (c_assign (hs.ev rfl)) rfl fun ac hs=>?_
    refine s_end (then_n (wp_seq (wp_reg ?_)))
    refine s_q hs (c_move (hs.ev rfl)) rfl fun ac hs=>?_
    refine s_q hs (c_andB (hs.ev rfl) (St.ev (v:=B 2) hs rfl)) rfl fun ac hs=>?_
    refine s_q hs (c_tt (c_neqB (hs.ev rfl) (St.ev (v:=B 0) hs rfl)) ((by rcases hfl with h9 | h9 <;> rw [h9] <;> rfl))) rfl fun ac hs=>?_
    refine s_end (then_n ?_)
    refine wp_cond_true (hs.ev rfl) ?_
    refine wp_seq (wp_reg ?_)
    refine s_q hs (c_move (hs.ev rfl)) rfl fun ac hs=>?_
    refine s_q hs (c_assign (hs.ev rfl)) rfl fun ac hs=>?_
    refine s_end (then_n (wp_ret (blk_r (then_r (then_r (blk_r ?_))))))
    obtain rfl:n=1:=hn ▸ need_one.2 hle
    replace hs:=(hs.pick (L':=[_]) (.cons _ (.refl _))).toL (L':=[.row v35 (need p.length) ((secs gen place fl p).flatten.map B) 29 64]) (by rw [← hi,← hx,List.take_of_length_le (Nat.le_refl _),List.map_append,secsF,List.flatten_singleton])
    refine s_ret hs rfl (.tmp (hs.tmp rfl) .nil) rfl ⟨_,rfl,hs.fr,?_⟩
    exact hs.made
  · try simp only [decide_eq_true_eq,decide_eq_false_iff_not,Bool.not_eq_true',Bool.not_eq_false',Bool.and_eq_true,Bool.or_eq_true,Bool.or_eq_false_iff] at hc
    have hle:50 < q.length:=by omega
    refine wp_skip (then_n (wp_seq (wp_reg ?_)))
    refine s_q hs (c_move (hs.ev rfl)) rfl fun ac hs=>?_
    refine s_q hs (c_move (hs.ev rfl)) rfl fun ac hs=>?_
    refine s_q hs (c_move (hs.ev rfl)) rfl fun ac hs=>?_
    refine s_q hs (c_move (hs.ev rfl)) rfl fun ac hs=>?_
    refine s_q hs (c_lenR un69 (hs.ev rfl) (Rd.of_row (hs.get (i:=0) rfl))) rfl fun ac hs=>?_
    refine s_q hs (c_addI (hs.ev rfl) (hs.ev rfl) (by omega) (by omega)) rfl fun ac hs=>?_
    refine s_q hs (c_move (hs.ev rfl)) rfl fun ac hs=>?_
    refine s_q hs (c_move (hs.ev rfl)) rfl fun ac hs=>?_
    refine s_q hs (c_orB (hs.ev rfl) (hs.ev rfl)) rfl fun ac hs=>?_
    refine s_q hs (c_move (hs.ev rfl)) rfl fun ac hs=>?_
    refine s_q hs (c_move (hs.ev rfl)) rfl fun ac hs=>?_
    refine s_q hs (c_sliceH (j:=50) un38 ty5 (hs.ev rfl) (hs.ev rfl) (by omega) (by omega)) rfl fun ac hs=>?_
    refine s_call hs fu52 (.cons (hs.ev rfl) (.cons (hs.ev rfl) (.cons (hs.ev rfl) (.cons (hs.ev rfl) .nil)))) (di_lay gen (place + (i:Nat)) (f ||| fl) (q.take 50) _ (by simp; omega) _ (RdB.mid0 (j:=50) (hq.fr0 hs.fr) (by omega))) rfl fun ac ww v33 hf hp hs=>?_
    obtain rfl:=hp
    replace hs:=hs [] (.nil _ _)
    refine s_bslice hs un69 ty29 (.cons (hs.ev rfl) .nil) rfl (fun v hv=>by rw [List.mem_singleton.1 hv]; exact lay_cells (by simp; omega)) (by decide) (show _=(lay gen (place + (i:Nat)) (f ||| fl) (q.take 50)).map B by simp [flatCells,Value.cells]) rfl fun ac ww g34 hs=>?_
    refine s_append (i:=1) hs un69 ty29 (by decide) rfl rfl rfl (Rd.of_seg (n:=1) (hs.seg (i:=0) rfl) (Nat.le_refl _) (by decide) (List.take_of_length_le (by simp))) (by rw [List.length_map]; exact lay_len (by simp; omega)) (all64 _) (by unfold maxLen; omega) (by omega) rfl fun ac ww v35 hf hnil hs=>?_
    refine s_q hs (c_assign (hs.ev rfl)) rfl fun ac hs=>?_
    refine s_end (then_n (wp_seq (wp_reg ?_)))
    refine s_q hs (c_move (hs.ev rfl)) rfl fun ac hs=>?_
    refine s_q hs (c_move (hs.ev rfl)) rfl fun ac hs=>?_
    refine s_q hs (c_sliceL (i:=50) un38 ty5 (hs.ev rfl) (hs.ev rfl) (by omega) (by omega)) rfl fun ac hs=>?_
    refine s_q hs (c_assign (hs.ev rfl)) rfl fun ac hs=>?_
    refine s_end (then_n (wp_seq (wp_reg ?_)))
    refine s_q hs (c_move (hs.ev rfl)) rfl fun ac hs=>?_
    refine s_q hs (c_andB (hs.ev rfl) (St.ev (v:=B 2) hs rfl)) rfl fun ac hs=>?_
    refine s_q hs (c_ff (c_neqB (hs.ev rfl) (St.ev (v:=B 0) hs rfl)) ((by rcases hfl with h9 | h9 <;> rw [h9] <;> rfl))) rfl fun ac hs=>?_
    refine s_end (then_n ?_)
    refine wp_cond_false (hs.ev rfl) ?_
    refine wp_skip (blk_n (then_n (wp_reg ?_)))
    refine s_q hs (c_assign (St.ev (v:=B 0) hs rfl)) rfl fun ac hs=>?_
    refine s_end (then_n ?_)
    have hq2:=hq.cut (i:=50) (by omega)
    obtain ⟨m,rfl⟩:∃ m,n=m + 2:=⟨n - 2,by have h8:1 < need q.length:=(by unfold need; omega); omega⟩
    have hnd2:=need_drop hn
    have hx2:(xs++lay gen (place + (i:Nat)) (f ||| fl) (q.take 50))++(secsF gen fl (m + 1) 0 (place + ((i + 1:Nat):Int)) (q.drop 50)).flatten=(secs gen place fl p).flatten:=by
      rw [← hx,show (place + ((i + 1:Nat):Int))=place + (i:Nat) + 1 by omega,List.append_assoc]
      rfl
    replace hs:=(hs.pick (L':=[_]) (.cons _ (.refl _))).toL (L':=[.row v35 (i + 1) ((xs++lay gen (place + (i:Nat)) (f ||| fl) (q.take 50)).map B) 29 64]) (by rw [List.map_append])
    exact ⟨m + 1,by omega,⟨i + 1,_,_,0,q.drop 50,xs++lay gen (place + (i:Nat)) (f ||| fl) (q.take 50)⟩,⟨hx2,hnd2,by show i + 1 + (m + 1)=need p.length; omega,hq2,.inr rfl⟩,St.next hs ⟨rfl,rfl,rfl,rfl,rfl,rfl,trivial⟩ rfl⟩
end Go.Proofs.Ytkecdcmjkghddaa
end

section
/- The diary: what writes. -/
namespace Go.Proofs.Ytkecdcmjkghddaa
open Go Go.Fw
def dl (dg g sb:Nat) (qv:Value) (gen:UInt32) (nx:Nat) (s:Sl):List Ent:=[.seg dg (diC g gen nx) 83,Ent.grp (sl g sb qv s)]
theorem dl_sl {w:World} {dg g sb nx:Nat} {qv:Value} {gen:UInt32} {s:Sl} (h:Has 0 w (dl dg g sb qv gen nx s)):Has 0 w (sl g sb qv s):=h.holds _ (List.mem_of_getElem? (i:=1) rfl)
theorem dl_d {w:World} {dg g sb nx:Nat} {qv:Value} {gen:UInt32} {s:Sl} (h:Has 0 w (dl dg g sb qv gen nx s)):w.heap[dg]?=some (.cells (diC g gen nx).toArray 83 (0,0)):=h.holds _ (List.mem_of_getElem? (i:=0) rfl)
def DlTo (w w':World) (M:Nat→Prop) (dg g sb:Nat) (gen:UInt32) (nx:Nat) (s:Sl):Prop:=∃ qv',Has 0 w' (dl dg g sb qv' gen nx s)∧∀ k,(Ent.grp (dl dg g sb qv' gen nx s)).keys k→M k∨w.heap.size≤k
theorem St.dlTo {N:Nat} {F:List (Nat × Value)} {L:List Ent} {M:Nat→Prop} {w0 w:World} {a:Act} {dg g sb nx:Nat} {gen:UInt32} {qv:Value} {s:Sl} (hs:St N F L M w0 a w) (hl:(dl dg g sb qv gen nx s).Sublist L):DlTo w0 w M dg g sb gen nx s:=⟨qv,(hs.pick hl).grp⟩
theorem row_sec {all:List Value} {l:List (List UInt8)} {k:Nat} (h64:∀ x∈l,x.length=64) (h:all.take (l.length * 64)=l.flatten.map B) (hk:k < l.length):(all.drop (0 + k * 64)).take 64=(l.getD k []).map B:=by
  rw [List.map_flatten] at h
  exact fm_row (f:=fun x:List UInt8=>x.map B) (fun x hx=>by rw [List.length_map]; exact h64 x hx) (by rw [h,List.flatMap]) hk
theorem drop_at {l:List (List UInt8)} {i:Nat} (h:i < l.length):l.drop i=l.getD i []::l.drop (i + 1):=by
  rw [List.drop_eq_getElem_cons h,List.getD_eq_getElem?_getD,List.getElem?_eq_getElem h]
  rfl
theorem di_put (dg g sb nx:Nat) (gen:UInt32) (qv:Value) (s:Sl) (fl:UInt8) (p:List UInt8) (pv:Value) (hok:s.Ok) (hst:s.steps≤900000000) (hql:s.q.length≤900000) (hnx:nx≤s.n / 2) (w:World) (hdl:Has 0 w (dl dg g sb qv gen nx s)) (hR:RdB w pv p):Ctr Try.prog 43 [.pointer (some ⟨dg,0,none⟩),pv,B fl] w (Ent.grp (dl dg g sb qv gen nx s)).keys (fun v w'=>v=I (dput s gen nx fl p).1∧DlTo w w' (Ent.grp (dl dg g sb qv gen nx s)).keys dg g sb gen (dput s gen nx fl p).2.2 (dput s gen nx fl p).2.1):=by
  refine fn_start (N:=82) Try.func43 rfl rfl rfl fun ac hk=>?_
  have hs:=St.startG hk hdl
  have hn1:=hok.n1
  refine wp_seq (wp_reg ?_)
  refine s_q hs (c_assign (hs.ev rfl)) rfl fun ac hs=>?_
  refine s_end (then_n (wp_seq (wp_seq (wp_reg ?_))))
  refine s_q hs (c_move (hs.ev rfl)) rfl fun ac hs=>?_
  refine s_q hs (c_lenR un38 (hs.ev rfl) hR) rfl fun ac hs=>?_
  refine s_q hs (c_gtrI (hs.ev rfl) (hs.ev rfl)) rfl fun ac hs=>?_
  refine s_end ?_
  replace hs:=hs.sub (F':=[(0,_),(1,_),(2,_),(6,_),(15,_)]) ⟨rfl,rfl,rfl,rfl,rfl,trivial⟩
  refine then_n ?_
  refine s_cond hs rfl (fun hc=>?_) (fun hc=>?_)
  · try simp only [decide_eq_true_eq,decide_eq_false_iff_not,Bool.not_eq_true',Bool.not_eq_false',Bool.and_eq_true,Bool.or_eq_true,Bool.or_eq_false_iff] at hc
    have hp8:2048 < p.length:=by omega
    refine wp_seq (wp_reg ?_)
    refine s_q hs (c_assign (hs.ev rfl)) rfl fun ac hs=>?_
    refine s_end ?_
    replace hs:=hs.sub (F':=[(0,_),(1,_),(2,_),(6,_)]) ⟨rfl,rfl,rfl,rfl,trivial⟩
    refine then_n (wp_ret (then_r ?_))
    refine s_ret hs rfl (.tmp (hs.tmp rfl) .nil) rfl ⟨_,rfl,hs.fr,?_⟩
    rw [show dput s gen nx fl p=(8,s,nx) from if_pos hp8]
    exact ⟨rfl,St.dlTo hs (.refl _)⟩
  · try simp only [decide_eq_true_eq,decide_eq_false_iff_not,Bool.not_eq_true',Bool.not_eq_false',Bool.and_eq_true,Bool.or_eq_true,Bool.or_eq_false_iff] at hc
    have hp8:¬ 2048 < p.length:=by omega
    have hnd:=need_le (n:=p.length) (by omega)
    have h64:=secs_64 gen nx fl p
    have hsl:=secs_len gen nx fl p
    refine wp_skip (then_n (wp_seq ?_))
    refine wp_region_rg pmix 14 (by kernel_rfl) rfl hs ?_
    simp only [List.take_succ_cons,List.take_zero]
    refine rg_q (fun ac ww h=>c_move (h.ev rfl)) rfl ?_
    refine rg_q (fun ac ww h=>c_nil (h.ev rfl)) rfl ?_
    refine rg_q (fun ac ww h=>c_fld fl83_0 (h.ev rfl)) rfl ?_
    refine rg_q (fun ac ww h=>c_loadS un23 rfl (h.ev rfl) (h.blk (hs.seg (i:=0) rfl)) rfl) rfl ?_
    refine rg_q (fun ac ww h=>c_move (h.ev rfl)) rfl ?_
    refine rg_q (fun ac ww h=>c_nil (h.ev rfl)) rfl ?_
    refine rg_q (fun ac ww h=>c_fld fl83_1 (h.ev rfl)) rfl ?_
    refine rg_q (fun ac ww h=>c_loadS un53 rfl (h.ev rfl) (h.blk (hs.seg (i:=0) rfl)) rfl) rfl ?_
    refine rg_call fu44 (fun ac ww h=>(.cons (h.ev rfl) (.cons (h.ev rfl) .nil))) (fun ww hf=>di_half g sb qv s gen hn1 _ (sl_get ((hs.get (i:=1) rfl:Has 0 _ _).fr0 hf))) rfl ?_
    refine rg_q (fun ac ww h=>c_move (h.ev rfl)) rfl ?_
    refine rg_q (fun ac ww h=>c_extract (h.ev rfl) rfl) rfl ?_
    refine rg_q (fun ac ww h=>c_extract (h.ev rfl) rfl) rfl ?_
    refine rg_q (fun ac ww h=>c_assign (h.ev rfl)) rfl ?_
    refine rg_q (fun ac ww h=>c_assign (h.ev rfl)) rfl ?_
    refine rg_nil fun ac ww L' hf hfe hs=>?_
    simp only [List.drop_succ_cons,List.drop_zero]
    obtain rfl:L'=[]:=hfe
    replace hs:=hs.toL (List.nil_append _)
    refine s_end ?_
    have hf3:=hf
    replace hs:=hs.sub (F':=[(0,_),(1,_),(2,_),(6,_),(7,_),(8,_)]) ⟨rfl,rfl,rfl,rfl,rfl,rfl,trivial⟩
    refine then_n (wp_seq ?_)
    refine wp_region_rg pmix 10 (by kernel_rfl) rfl hs ?_
    simp only [List.take_succ_cons,List.take_zero]
    refine rg_q (fun ac ww h=>c_move (h.ev rfl)) rfl ?_
    refine rg_q (fun ac ww h=>c_nil (h.ev rfl)) rfl ?_
    refine rg_q (fun ac ww h=>c_fld fl83_1 (h.ev rfl)) rfl ?_
    refine rg_q (fun ac ww h=>c_loadS un53 rfl (h.ev rfl) (h.blk (hs.seg (i:=0) rfl)) rfl) rfl ?_
    refine rg_q (fun ac ww h=>c_move (h.ev rfl)) rfl ?_
    refine rg_q (fun ac ww h=>c_nil (h.ev rfl)) rfl ?_
    refine rg_q (fun ac ww h=>c_fld fl83_2 (h.ev rfl)) rfl ?_
    refine rg_q (fun ac ww h=>c_loadS un3 rfl (h.ev rfl) (h.blk (hs.seg (i:=0) rfl)) rfl) rfl ?_
    refine rg_q (fun ac ww h=>c_move (h.ev rfl)) rfl ?_
    refine rg_q (fun ac ww h=>c_move (h.ev rfl)) rfl ?_
    refine rg_nil fun ac ww L' hf hfe hs=>?_
    simp only [List.drop_succ_cons,List.drop_zero]
    obtain rfl:L'=[]:=hfe
    replace hs:=hs.toL (List.nil_append _)
    refine s_call hs fu49 (.cons (hs.ev rfl) (.cons (hs.ev rfl) (.cons (hs.ev rfl) (.cons (hs.ev rfl) .nil)))) (di_sectors gen nx fl p pv (by omega) (by omega) (by omega) _ ((hR.fr0 hf3).fr0 hf)) rfl fun ac ww v38 hf hp hs=>?_
    replace hs:=hs _ hp
    refine s_q hs (c_assign (hs.ev rfl)) rfl fun ac hs=>?_
    refine s_end ?_
    replace hs:=hs.sub (F':=[(0,_),(6,_),(7,_),(8,_),(9,_)]) ⟨rfl,rfl,rfl,rfl,rfl,trivial⟩
    refine then_n (wp_seq (wp_seq (wp_reg ?_)))
    refine s_q hs (c_move (hs.ev rfl)) rfl fun ac hs=>?_
    refine s_q hs (c_lenR un69 (hs.ev rfl) (Rd.of_row (hs.get (i:=0) rfl))) rfl fun ac hs=>?_
    refine s_q hs (c_move (hs.ev rfl)) rfl fun ac hs=>?_
    refine s_q hs (c_move (hs.ev rfl)) rfl fun ac hs=>?_
    refine s_q hs (c_nil (hs.ev rfl)) rfl fun ac hs=>?_
    refine s_q hs (c_fld fl83_2 (hs.ev rfl)) rfl fun ac hs=>?_
    refine s_q hs (c_loadS un3 rfl (hs.ev rfl) (hs.seg (i:=1) rfl) rfl) rfl fun ac hs=>?_
    refine s_q hs (c_subI (hs.ev rfl) (hs.ev rfl) (by omega) (by omega)) rfl fun ac hs=>?_
    refine s_q hs (c_gtrI (hs.ev rfl) (hs.ev rfl)) rfl fun ac hs=>?_
    refine s_end ?_
    replace hs:=hs.sub (F':=[(0,_),(6,_),(7,_),(9,_),(47,_)]) ⟨rfl,rfl,rfl,rfl,rfl,trivial⟩
    refine then_n ?_
    refine s_cond hs rfl (fun hc=>?_) (fun hc=>?_)
    · try simp only [decide_eq_true_eq,decide_eq_false_iff_not,Bool.not_eq_true',Bool.not_eq_false',Bool.and_eq_true,Bool.or_eq_true,Bool.or_eq_false_iff] at hc
      have hfu:(s.n / 2:Int) - nx < need p.length:=by omega
      refine wp_seq (wp_reg ?_)
      refine s_q hs (c_assign (hs.ev rfl)) rfl fun ac hs=>?_
      refine s_end ?_
      replace hs:=hs.sub (F':=[(0,_),(6,_),(7,_),(9,_)]) ⟨rfl,rfl,rfl,rfl,trivial⟩
      refine then_n (wp_ret (then_r ?_))
      refine s_ret hs rfl (.tmp (hs.tmp rfl) .nil) rfl ⟨_,rfl,hs.fr,?_⟩
      rw [show dput s gen nx fl p=(4,s,nx) from (if_neg hp8).trans (if_pos hfu)]
      exact ⟨rfl,St.dlTo hs (.cons _ (.refl _))⟩
    · try simp only [decide_eq_true_eq,decide_eq_false_iff_not,Bool.not_eq_true',Bool.not_eq_false',Bool.and_eq_true,Bool.or_eq_true,Bool.or_eq_false_iff] at hc
      have hfu:¬ (s.n / 2:Int) - nx < need p.length:=by omega
      refine wp_skip (then_n (wp_seq (wp_seq (wp_reg ?_))))
      refine s_q hs (c_move (hs.ev rfl)) rfl fun ac hs=>?_
      refine s_q hs (c_lenR un69 (hs.ev rfl) (Rd.of_row (hs.get (i:=0) rfl))) rfl fun ac hs=>?_
      refine s_q hs (c_move (hs.ev rfl)) rfl fun ac hs=>?_
      refine s_end ?_
      replace hs:=hs.sub (F':=[(0,_),(6,_),(7,_),(9,_),(48,_),(49,_),(50,_)]) ⟨rfl,rfl,rfl,rfl,rfl,rfl,rfl,trivial⟩
      refine then_n (wp_block ?_)
      refine s_loop hs (X:=Nat × Sl × Value) (fun z=>[(50,I z.1)]) [(0,_),(7,_),(9,_),(48,_),(49,_)] (fun z=>[.row v38 (need p.length) ((secs gen nx fl p).flatten.map B) 29 64,.seg dg (diC g gen nx) 83,Ent.grp (sl g sb z.2.2 z.2.1)]) (fun n z=>z.1≤need p.length∧s.writeL (half s.n gen + nx) (secs gen nx fl p)=z.2.1.writeL (half s.n gen + nx + z.1) ((secs gen nx fl p).drop z.1)∧Kept s z.2.1 z.1∧n=need p.length - z.1) (_) ((0,s,qv)) (⟨Nat.zero_le _,rfl,⟨hok,rfl,Nat.le_refl _,Nat.le_refl _⟩,rfl⟩) ⟨rfl,rfl,rfl,rfl,rfl,rfl,trivial⟩ rfl ?_
      rintro n ⟨i,s1,q1⟩ ac ww hok2 hs
      simp only [List.cons_append,List.nil_append] at hs
      obtain ⟨hi,hw1,hk1,rfl⟩:=hok2
      replace hi:i≤need p.length:=hi
      replace hw1:s.writeL (half s.n gen + nx) (secs gen nx fl p)=s1.writeL (half s.n gen + nx + i) ((secs gen nx fl p).drop i):=hw1
      obtain ⟨hok1,hn1b,hst1,hq1⟩:Kept s s1 i:=hk1
      have hk1:Kept s s1 i:=⟨hok1,hn1b,hst1,hq1⟩
      refine wp_seq (wp_reg ?_)
      refine s_q hs (c_lssI (hs.ev rfl) (hs.ev rfl)) rfl fun ac hs=>?_
      refine s_end (then_n (wp_seq ?_))
      refine s_cond hs rfl (fun hc=>?_) (fun hc=>?_)
      · try simp only [decide_eq_true_eq,decide_eq_false_iff_not,Bool.not_eq_true',Bool.not_eq_false',Bool.and_eq_true,Bool.or_eq_true,Bool.or_eq_false_iff] at hc
        have hin:i < need p.length:=by omega
        have hil:i < (secs gen nx fl p).length:=by omega
        obtain ⟨rb,rcap,rcur,rfl,hrb,hrc,hrm,_,hcur⟩:=hs.row_at (i:=0) rfl (by omega)
        rw [← hsl] at hcur
        have hpc:=row_sec h64 hcur hil
        have hdr:=drop_at hil
        have hb64:((secs gen nx fl p).getD i []).length=64:=by rw [List.getD_eq_getElem?_getD,List.getElem?_eq_getElem hil]; exact h64 _ (List.getElem_mem hil)
        obtain ⟨b,hb⟩:∃ b,(secs gen nx fl p).getD i []=b:=⟨_,rfl⟩
        rw [hb] at hpc hdr hb64
        rw [hdr] at hw1
        refine wp_skip (then_n (wp_seq (wp_block (wp_seq (wp_reg ?_)))))
        refine s_q hs (c_move (hs.ev rfl)) rfl fun ac hs=>?_
        refine s_q hs (c_idxS (j:=i) un69 ty29 (hs.ev rfl) (hs.ev rfl) (by omega) (by omega)) rfl fun ac hs=>?_
        refine s_q hs (c_loadA ty29 rfl (hs.ev rfl) hrb hpc (by simp [hb64])) rfl fun ac hs=>?_
        refine s_alloc hs ty29 rfl fun ac ww g11 hs=>?_
        refine s_q hs (c_assign (hs.ev rfl)) rfl fun ac hs=>?_
        refine s_storeW (i:=0) hs ty29 rfl rfl rfl (by simp [hb64]) (all64 _) (by rfl) fun ww hs=>?_
        refine s_end (then_n (wp_seq ?_))
        refine wp_region_rg pmix 13 (by kernel_rfl) rfl hs ?_
        simp only [List.take_succ_cons,List.take_zero]
        refine rg_q (fun ac ww h=>c_move (h.ev rfl)) rfl ?_
        refine rg_q (fun ac ww h=>c_nil (h.ev rfl)) rfl ?_
        refine rg_q (fun ac ww h=>c_fld fl83_0 (h.ev rfl)) rfl ?_
        refine rg_q (fun ac ww h=>c_loadS un23 rfl (h.ev rfl) (h.blk (hs.seg (i:=2) rfl)) rfl) rfl ?_
        refine rg_q (fun ac ww h=>c_move (h.ev rfl)) rfl ?_
        refine rg_q (fun ac ww h=>c_move (h.ev rfl)) rfl ?_
        refine rg_q (fun ac ww h=>c_nil (h.ev rfl)) rfl ?_
        refine rg_q (fun ac ww h=>c_fld fl83_2 (h.ev rfl)) rfl ?_
        refine rg_q (fun ac ww h=>c_loadS un3 rfl (h.ev rfl) (h.blk (hs.seg (i:=2) rfl)) rfl) rfl ?_
        refine rg_q (fun ac ww h=>c_to (c_addI (h.ev rfl) (h.ev rfl) (by have:=odd01 gen; unfold half; rcases this with h9 | h9 <;> rw [h9] <;> omega) (by have:=odd01 gen; unfold half; rcases this with h9 | h9 <;> rw [h9] <;> omega)) ((congrArg I (show _=((half s.n gen + nx:Nat):Int) by omega)))) rfl ?_
        refine rg_q (fun ac ww h=>c_move (h.ev rfl)) rfl ?_
        refine rg_q (fun ac ww h=>c_to (c_addI (h.ev rfl) (h.ev rfl) (by have:=odd01 gen; unfold half; rcases this with h9 | h9 <;> rw [h9] <;> omega) (by have:=odd01 gen; unfold half; rcases this with h9 | h9 <;> rw [h9] <;> omega)) ((congrArg I (show _=((half s.n gen + nx + i:Nat):Int) by omega)))) rfl ?_
        refine rg_q (fun ac ww h=>c_loadW ty29 rfl (h.ev rfl) (h.blk (hs.seg (i:=0) rfl)) (by simp [hb64])) rfl ?_
        refine rg_nil fun ac ww L' hf hfe hs=>?_
        simp only [List.drop_succ_cons,List.drop_zero]
        obtain rfl:L'=[]:=hfe
        replace hs:=hs.toL (List.nil_append _)
        refine s_callM (i:=3) hs fu11 (.cons (hs.ev rfl) (.cons (hs.ev rfl) (.cons (hs.ev rfl) .nil))) rfl (sl_Write g sb q1 s1 ((half s.n gen + nx + i:Nat):Int) b hb64 hok1 (by omega) (by omega) _ (hs.get (i:=3) rfl)) rfl fun ac ww v68 hf hp hs=>?_
        obtain ⟨rfl,qv',h1,h2⟩:=hp
        replace hs:=hs (Ent.grp (sl g sb qv' (s1.write ((half s.n gen + nx + i:Nat):Int) b).2)) h1 (fun k hk=>⟨h2 k hk,grp_lt h1 k hk⟩)
        refine s_q hs (c_assign (hs.ev rfl)) rfl fun ac hs=>?_
        refine s_end (then_n (wp_seq (wp_reg ?_)))
        refine s_q hs (c_move (hs.ev rfl)) rfl fun ac hs=>?_
        refine s_q hs (c_neqI (hs.ev rfl) (hs.ev rfl)) rfl fun ac hs=>?_
        refine s_end (then_n ?_)
        refine s_cond hs rfl (fun hc=>?_) (fun hc=>?_)
        · try simp only [decide_eq_true_eq,decide_eq_false_iff_not,Bool.not_eq_true',Bool.not_eq_false',Bool.and_eq_true,Bool.or_eq_true,Bool.or_eq_false_iff] at hc
          have hne:¬ (s1.write ((half s.n gen + nx + i:Nat):Int) b).1=0:=by simpa using hc
          replace hw1:s.writeL (half s.n gen + nx) (secs gen nx fl p)=s1.write ((half s.n gen + nx + i:Nat):Int) b:=hw1.trans (by rw [Sl.writeL,if_neg hne])
          refine wp_seq (wp_reg ?_)
          refine s_q hs (c_move (hs.ev rfl)) rfl fun ac hs=>?_
          refine s_q hs (c_assign (hs.ev rfl)) rfl fun ac hs=>?_
          refine s_end (then_n (wp_ret (blk_r (then_r (then_r (blk_r (then_r ?_)))))))
          refine s_ret hs rfl (.tmp (hs.tmp rfl) .nil) rfl ⟨_,rfl,hs.fr,?_⟩
          rw [show dput s gen nx fl p=((s.writeL (half s.n gen + nx) (secs gen nx fl p)).1,(s.writeL (half s.n gen + nx) (secs gen nx fl p)).2,nx) from (if_neg hp8).trans ((if_neg hfu).trans (if_neg (by rw [hw1]; exact hne))),hw1]
          exact ⟨rfl,St.dlTo hs (.cons _ (.cons _ (.refl _)))⟩
        · try simp only [decide_eq_true_eq,decide_eq_false_iff_not,Bool.not_eq_true',Bool.not_eq_false',Bool.and_eq_true,Bool.or_eq_true,Bool.or_eq_false_iff] at hc
          have heq:(s1.write ((half s.n gen + nx + i:Nat):Int) b).1=0:=by simpa using hc
          have hw2:s.writeL (half s.n gen + nx) (secs gen nx fl p)=(s1.write ((half s.n gen + nx + i:Nat):Int) b).2.writeL (half s.n gen + nx + (i + 1)) ((secs gen nx fl p).drop (i + 1)):=hw1.trans (by rw [Sl.writeL,if_pos heq]; rfl)
          have hk2:Kept s (s1.write ((half s.n gen + nx + i:Nat):Int) b).2 (i + 1):=hk1.trans (write_kept hok1 hb64)
          refine wp_skip (blk_n (then_n (wp_reg ?_)))
          refine s_q hs (c_addI (hs.ev rfl) (hs.ev rfl) (by omega) (by omega)) rfl fun ac hs=>?_
          refine s_q hs (c_move (hs.ev rfl)) rfl fun ac hs=>?_
          refine s_end (then_n ?_)
          replace hs:=hs.pick (L':=[_,_,_]) (.cons _ (.refl _))
          exact ⟨need p.length - (i + 1),by omega,(i + 1,_,_),⟨by show i + 1≤_; omega,hw2,hk2,rfl⟩,St.next hs ⟨rfl,rfl,rfl,rfl,rfl,rfl,trivial⟩ rfl⟩
      · try simp only [decide_eq_true_eq,decide_eq_false_iff_not,Bool.not_eq_true',Bool.not_eq_false',Bool.and_eq_true,Bool.or_eq_true,Bool.or_eq_false_iff] at hc
        obtain rfl:i=need p.length:=by omega
        rw [List.drop_of_length_le (by omega)] at hw1
        replace hw1:s.writeL (half s.n gen + nx) (secs gen nx fl p)=(0,s1):=hw1
        refine wp_exit (then_e (then_e (blk_hit (then_n (wp_seq (wp_reg ?_))))))
        refine s_q hs (c_move (hs.ev rfl)) rfl fun ac hs=>?_
        refine s_q hs (c_nil (hs.ev rfl)) rfl fun ac hs=>?_
        refine s_q hs (c_fld fl83_2 (hs.ev rfl)) rfl fun ac hs=>?_
        refine s_q hs (c_loadS un3 rfl (hs.ev rfl) (hs.seg (i:=1) rfl) rfl) rfl fun ac hs=>?_
        refine s_q hs (c_move (hs.ev rfl)) rfl fun ac hs=>?_
        refine s_q hs (c_lenR un69 (hs.ev rfl) (Rd.of_row (hs.get (i:=0) rfl))) rfl fun ac hs=>?_
        refine s_q hs (c_to (c_addI (hs.ev rfl) (hs.ev rfl) (by omega) (by omega)) ((congrArg I (show _=((nx + need p.length:Nat):Int) by omega)))) rfl fun ac hs=>?_
        refine s_q hs (c_nil (hs.ev rfl)) rfl fun ac hs=>?_
        refine s_q hs (c_fld fl83_2 (hs.ev rfl)) rfl fun ac hs=>?_
        refine s_store (i:=1) hs ty3 rfl rfl rfl rfl rfl rfl (by simp [diC,Value.cells]) (show _=diC g gen (nx + need p.length) from rfl) fun ww hs=>?_
        refine s_end ?_
        replace hs:=hs.sub (F':=[]) trivial
        refine then_n (wp_seq (wp_reg ?_))
        refine s_q hs (c_assign (hs.ev rfl)) rfl fun ac hs=>?_
        refine s_end (then_n (wp_ret ?_))
        refine s_ret hs rfl (.tmp (hs.tmp rfl) .nil) rfl ⟨_,rfl,hs.fr,?_⟩
        rw [show dput s gen nx fl p=(0,(s.writeL (half s.n gen + nx) (secs gen nx fl p)).2,nx + need p.length) from (if_neg hp8).trans ((if_neg hfu).trans (if_pos (by rw [hw1]))),hw1]
        exact ⟨rfl,St.dlTo hs (.cons _ (.refl _))⟩
theorem di_Append (dg g sb nx:Nat) (gen:UInt32) (qv:Value) (s:Sl) (p:List UInt8) (pv:Value) (hok:s.Ok) (hst:s.steps≤900000000) (hql:s.q.length≤900000) (hnx:nx≤s.n / 2) (w:World) (hdl:Has 0 w (dl dg g sb qv gen nx s)) (hR:RdB w pv p):Ctr Try.prog 27 [.pointer (some ⟨dg,0,none⟩),pv] w (Ent.grp (dl dg g sb qv gen nx s)).keys (fun v w'=>v=I (dput s gen nx 0 p).1∧DlTo w w' (Ent.grp (dl dg g sb qv gen nx s)).keys dg g sb gen (dput s gen nx 0 p).2.2 (dput s gen nx 0 p).2.1):=by
  refine fn_start (N:=10) Try.func27 rfl rfl rfl fun ac hk=>?_
  have hs:=St.grpn (A:=dl dg g sb qv gen nx s) (L:=[]) (St.startG hk hdl)
  refine wp_seq (wp_reg ?_)
  refine s_q hs (c_assign (hs.ev rfl)) rfl fun ac hs=>?_
  refine s_end (then_n (wp_seq (wp_seq (wp_reg ?_))))
  refine s_q hs (c_move (hs.ev rfl)) rfl fun ac hs=>?_
  refine s_q hs (c_eqlNil un56 (hs.ev rfl) (hs.ev rfl)) rfl fun ac hs=>?_
  refine s_end ?_
  replace hs:=hs.sub (F':=[(0,_),(1,_),(4,_),(6,_)]) ⟨rfl,rfl,rfl,rfl,trivial⟩
  refine then_n ?_
  refine wp_cond_false (hs.ev rfl) ?_
  refine wp_skip (then_n (wp_seq (wp_reg ?_)))
  refine s_q hs (c_move (hs.ev rfl)) rfl fun ac hs=>?_
  refine s_q hs (c_move (hs.ev rfl)) rfl fun ac hs=>?_
  refine s_callM (i:=0) hs fu43 (.cons (hs.ev rfl) (.cons (hs.ev rfl) (.cons (hs.ev rfl) .nil))) rfl (di_put dg g sb nx gen qv s 0 p pv hok hst hql hnx _ (hs.get (i:=0) rfl) hR) rfl fun ac ww v9 hf hp hs=>?_
  obtain ⟨rfl,qv',h1,h2⟩:=hp
  replace hs:=hs (Ent.grp (dl dg g sb qv' gen (dput s gen nx 0 p).2.2 (dput s gen nx 0 p).2.1)) h1 (fun k hk=>⟨h2 k hk,grp_lt h1 k hk⟩)
  refine s_q hs (c_assign (hs.ev rfl)) rfl fun ac hs=>?_
  refine s_end ?_
  replace hs:=hs.sub (F':=[(4,_)]) ⟨rfl,trivial⟩
  refine then_n (wp_ret ?_)
  refine s_ret hs rfl (.tmp (hs.tmp rfl) .nil) rfl ⟨_,rfl,hs.fr,?_⟩
  exact ⟨rfl,St.dlTo hs.ungrp (.refl _)⟩
theorem di_Flush (dg g sb nx:Nat) (gen:UInt32) (qv:Value) (s:Sl) (hok:s.Ok) (hst:s.steps≤900000000) (hql:s.q.length≤900000) (w:World) (hdl:Has 0 w (dl dg g sb qv gen nx s)):Ctr Try.prog 28 [.pointer (some ⟨dg,0,none⟩)] w (Ent.grp (dl dg g sb qv gen nx s)).keys (fun v w'=>v=I s.flush.1∧DlTo w w' (Ent.grp (dl dg g sb qv gen nx s)).keys dg g sb gen nx s.flush.2):=by
  refine fn_start (N:=10) Try.func28 rfl rfl rfl fun ac hk=>?_
  have hs:=St.startG hk hdl
  refine wp_seq (wp_reg ?_)
  refine s_q hs (c_assign (hs.ev rfl)) rfl fun ac hs=>?_
  refine s_end (then_n (wp_seq (wp_seq (wp_reg ?_))))
  refine s_q hs (c_move (hs.ev rfl)) rfl fun ac hs=>?_
  refine s_q hs (c_eqlNil un56 (hs.ev rfl) (hs.ev rfl)) rfl fun ac hs=>?_
  refine s_end ?_
  replace hs:=hs.sub (F':=[(0,_),(2,_),(4,_)]) ⟨rfl,rfl,rfl,trivial⟩
  refine then_n ?_
  refine wp_cond_false (hs.ev rfl) ?_
  refine wp_skip (then_n (wp_seq (wp_reg ?_)))
  refine s_q hs (c_move (hs.ev rfl)) rfl fun ac hs=>?_
  refine s_q hs (c_nil (hs.ev rfl)) rfl fun ac hs=>?_
  refine s_q hs (c_fld fl83_0 (hs.ev rfl)) rfl fun ac hs=>?_
  refine s_q hs (c_loadS un23 rfl (hs.ev rfl) (hs.seg (i:=0) rfl) rfl) rfl fun ac hs=>?_
  refine s_callM (i:=1) hs fu12 (.cons (hs.ev rfl) .nil) rfl (sl_Flush g sb qv s hok (by omega) (by omega) _ (hs.get (i:=1) rfl)) rfl fun ac ww v9 hf hp hs=>?_
  obtain ⟨rfl,qv',h1,h2⟩:=hp
  replace hs:=hs (Ent.grp (sl g sb qv' s.flush.2)) h1 (fun k hk=>⟨h2 k hk,grp_lt h1 k hk⟩)
  refine s_q hs (c_assign (hs.ev rfl)) rfl fun ac hs=>?_
  refine s_end ?_
  replace hs:=hs.sub (F':=[(2,_)]) ⟨rfl,trivial⟩
  refine then_n (wp_ret ?_)
  refine s_ret hs rfl (.tmp (hs.tmp rfl) .nil) rfl ⟨_,rfl,hs.fr,?_⟩
  exact ⟨rfl,St.dlTo hs (.refl _)⟩
end Go.Proofs.Ytkecdcmjkghddaa
end

section
/- Stores into the elements of a slice that may grow,its length by name. -/
namespace Go.Fw
open Go
section
variable {P:Program} {ops:Array Oper} {Q:Exit→Act→World→Prop} {rest:List Oper} {N:Nat} {F F':List (Nat × Value)} {L L':List Ent} {M:Nat→Prop} {w0 w:World} {a:Act}
variable {d:Tmp} {op:Op} {ty:TypeId} {pos:String} {aft:Array Edge} {x y z:Operand} {t u:TypeId}
end
theorem RdB.nil (w:World):RdB w (.slice none 0 0) []:=⟨none,0,rfl,Nat.le_refl _,Nat.zero_le _,fun _=>rfl,.inl rfl⟩
end Go.Fw
end

section
/- The diary: Start; awake; nil ones. -/
namespace Go.Proofs.Ytkecdcmjkghddaa
open Go Go.Fw
theorem dput_le {s:Sl} {g:UInt32} {next:Nat} {fl:UInt8} {p:List UInt8} (hok:s.Ok) (h:next≤s.n / 2):(dput s g next fl p).2.2≤(dput s g next fl p).2.1.n / 2:=by
  rw [(dput_kept hok).n]
  exact dput_next h
theorem dputs_cons {s:Sl} {g:UInt32} {next:Nat} {p:List UInt8} {t:List (List UInt8)} (h:(dput s g next 0 p).1=0):dputs s g next (p::t)=dputs (dput s g next 0 p).2.1 g (dput s g next 0 p).2.2 t:=by rw [dputs,if_pos h]
theorem dputs_stop {s:Sl} {g:UInt32} {next:Nat} {p:List UInt8} {t:List (List UInt8)} (h:¬ (dput s g next 0 p).1=0):dputs s g next (p::t)=dput s g next 0 p:=by rw [dputs,if_neg h]
theorem rec_at {ps:List (Value × List UInt8)} {i:Nat} (h:i < ps.length):(ps.map (·.2)).drop i=(ps.getD i (.nilIface,[])).2::(ps.map (·.2)).drop (i + 1):=by
  rw [List.drop_eq_getElem_cons (by simpa using h),List.getD_eq_getElem?_getD,List.getElem?_eq_getElem h]
  simp
def dptr (b:Bool) (dg:Nat):Value:=if b=true then .pointer (some ⟨dg,0,none⟩) else .pointer none
theorem di_Start (g sb:Nat) (gen:UInt32) (qv:Value) (s:Sl) (ps:List (Value × List UInt8)) (rv:Value) (hok:s.Ok) (hn2:2≤s.n) (hg0:¬ gen=0) (hlen:ps.length≤1000000) (hst:s.steps≤800000000) (hql:s.q.length≤800000) (hqs:s.q.length + 41 * ps.length≤800000) (w:World) (hsl:Has 0 w (sl g sb qv s)) (hR:∀ w',Fr (Ent.grp (sl g sb qv s)).keys w w'→RdP w' rv ps):Ctr Try.prog 26 [.pointer (some ⟨g,0,none⟩),U gen,rv] w (Ent.grp (sl g sb qv s)).keys (fun v w'=>∃ dg,v=.tuple #[dptr (dstart s gen (ps.map (·.2))).1 dg,I (dstart s gen (ps.map (·.2))).2.1]∧DlTo w w' (Ent.grp (sl g sb qv s)).keys dg g sb gen (dstart s gen (ps.map (·.2))).2.2.2 (dstart s gen (ps.map (·.2))).2.2.1):=by
  refine fn_start (N:=49) Try.func26 rfl rfl rfl fun ac hk=>?_
  have hs:=St.startG hk hsl
  replace hs:=St.grpn (A:=sl g sb qv s) (L:=[]) hs
  refine wp_seq (wp_reg ?_)
  refine s_q hs (c_assign (hs.ev rfl)) rfl fun ac hs=>?_
  refine s_q hs (c_assign (hs.ev rfl)) rfl fun ac hs=>?_
  refine s_end (then_n (wp_seq (wp_block (wp_seq (wp_reg ?_)))))
  refine s_q hs (c_move (hs.ev rfl)) rfl fun ac hs=>?_
  refine s_q hs (c_eqlNil un23 (hs.ev rfl) (hs.ev rfl)) rfl fun ac hs=>?_
  refine s_q hs (c_assign (hs.ev rfl)) rfl fun ac hs=>?_
  refine s_end ?_
  replace hs:=hs.sub (F':=[(0,_),(1,_),(2,_),(6,_),(7,_),(13,_)]) ⟨rfl,rfl,rfl,rfl,rfl,rfl,trivial⟩
  refine then_n ?_
  refine wp_cond_false (hs.ev rfl) ?_
  refine wp_seq (wp_reg ?_)
  refine s_q hs (c_move (hs.ev rfl)) rfl fun ac hs=>?_
  refine s_call hs fu20 (.cons (hs.ev rfl) .nil) (sl_Sectors g sb qv s _ (sl_get (hs.get (i:=0) rfl))) rfl fun ac ww v18 hf hp hs=>?_
  obtain rfl:=hp
  replace hs:=hs [] (.nil _ _)
  refine s_q hs (c_lssI (hs.ev rfl) (hs.ev rfl)) rfl fun ac hs=>?_
  refine s_q hs (c_move (hs.ev rfl)) rfl fun ac hs=>?_
  refine s_g hs rfl rfl (fun hg=>c_move (hs.ev rfl)) rfl fun ac hs=>?_
  refine s_g hs rfl rfl (fun hg=>c_eqlU (gev (hs.ev rfl) hg) (St.ev (v:=U 0) hs rfl)) rfl fun ac hs=>?_
  refine s_q hs (c_ff (c_or (hs.ev rfl) (hs.ev rfl)) ((by simp; exact ⟨by omega,hg0⟩))) rfl fun ac hs=>?_
  refine s_q hs (c_assign (hs.ev rfl)) rfl fun ac hs=>?_
  refine s_end ?_
  replace hs:=hs.sub (F':=[(0,_),(1,_),(2,_),(6,_),(7,_),(16,_)]) ⟨rfl,rfl,rfl,rfl,rfl,rfl,trivial⟩
  refine then_n ?_
  refine wp_cond_false (hs.ev rfl) ?_
  refine wp_skip (blk_n (then_n (wp_seq (wp_reg ?_))))
  refine s_q hs (c_move (hs.ev rfl)) rfl fun ac hs=>?_
  refine s_q hs (c_move (hs.ev rfl)) rfl fun ac hs=>?_
  refine s_q hs (c_buildS (zc:=diC g gen 0) ty83 bp83 (.cons (hs.ev rfl) (.cons (hs.ev rfl) .nil)) ⟨rfl,rfl,trivial⟩ (by simp [flatCells,Value.cells]) rfl) rfl fun ac hs=>?_
  refine s_box hs rfl rfl rfl fun ac ww g27 hs=>?_
  refine s_q hs (c_assign (hs.ev rfl)) rfl fun ac hs=>?_
  refine s_end ?_
  replace hs:=St.grpn (A:=dl g27 g sb qv gen 0 s) (L:=[]) hs
  replace hs:=hs.sub (F':=[(0,_),(2,_),(6,_),(7,_),(8,_)]) ⟨rfl,rfl,rfl,rfl,rfl,trivial⟩
  refine then_n (wp_seq (wp_seq (wp_reg ?_)))
  refine s_q hs (c_move (hs.ev rfl)) rfl fun ac hs=>?_
  refine s_q hs (c_lenR un51 (hs.ev rfl) (hR _ hs.fr).1) rfl fun ac hs=>?_
  refine s_q hs (c_move (hs.ev rfl)) rfl fun ac hs=>?_
  refine s_end ?_
  replace hs:=hs.sub (F':=[(0,_),(6,_),(7,_),(8,_),(28,_),(29,_),(30,_)]) ⟨rfl,rfl,rfl,rfl,rfl,rfl,rfl,trivial⟩
  refine then_n (wp_block ?_)
  have hRP:=hR _ hs.fr
  obtain ⟨rad,rcap,rfl,hrc,hrm⟩:=RdP.sl hRP
  refine s_loop hs (X:=Nat × Sl × Nat × Value) (fun z=>[(30,I z.1)]) [(0,_),(8,_),(28,_),(29,_)] (fun z=>[Ent.grp (dl g27 g sb z.2.2.2 gen z.2.2.1 z.2.1)]) (fun n z=>z.1≤ps.length∧dputs s gen 0 (ps.map (·.2))=dputs z.2.1 gen z.2.2.1 ((ps.map (·.2)).drop z.1)∧Kept s z.2.1 (41 * z.1)∧z.2.2.1≤z.2.1.n / 2∧n=ps.length - z.1) (_) ((0,s,0,qv)) (⟨Nat.zero_le _,rfl,⟨hok,rfl,Nat.le_refl _,Nat.le_refl _⟩,Nat.zero_le _,rfl⟩) ⟨rfl,rfl,rfl,rfl,rfl,trivial⟩ rfl ?_
  rintro n ⟨i,s1,n1,q1⟩ ac ww hok2 hs
  simp only [List.cons_append,List.nil_append] at hs
  obtain ⟨hi,hw1,hk1,hx1,rfl⟩:=hok2
  replace hi:i≤ps.length:=hi
  replace hw1:dputs s gen 0 (ps.map (·.2))=dputs s1 gen n1 ((ps.map (·.2)).drop i):=hw1
  replace hk1:Kept s s1 (41 * i):=hk1
  replace hx1:n1≤s1.n / 2:=hx1
  have hst1:=hk1.st
  have hql1:=hk1.q
  refine wp_seq (wp_reg ?_)
  refine s_q hs (c_lssI (hs.ev rfl) (hs.ev rfl)) rfl fun ac hs=>?_
  refine s_end (then_n (wp_seq ?_))
  refine s_cond hs rfl (fun hc=>?_) (fun hc=>?_)
  · try simp only [decide_eq_true_eq,decide_eq_false_iff_not,Bool.not_eq_true',Bool.not_eq_false',Bool.and_eq_true,Bool.or_eq_true,Bool.or_eq_false_iff] at hc
    have hip:i < ps.length:=by omega
    have hRP1:=hR _ hs.fr
    obtain ⟨rb,ro,rT,rf,rall,rfl,hrb,hps⟩:=RdP.at' hRP1 (by omega)
    have hpi:=RdP.get hRP1 hip
    have hdr:=rec_at hip
    obtain ⟨pi,hpe⟩:∃ x,ps.getD i (.nilIface,[])=x:=⟨_,rfl⟩
    have hps2:=seg_get1 (f:=fun q:Value × List UInt8=>q.1) (i:=i) (.nilIface,[]) hps hip
    rw [hpe] at hpi hdr hps2
    rw [hdr] at hw1
    refine wp_skip (then_n (wp_seq (wp_block (wp_seq (wp_reg ?_)))))
    refine s_q hs (c_idxS (j:=i) un51 ty38 (hs.ev rfl) (hs.ev rfl) (by omega) (by omega)) rfl fun ac hs=>?_
    refine s_q hs (c_loadS un38 rfl (hs.ev rfl) hrb hps2) rfl fun ac hs=>?_
    refine s_q hs (c_assign (hs.ev rfl)) rfl fun ac hs=>?_
    refine s_end (then_n (wp_seq (wp_reg ?_)))
    refine s_q hs (c_move (hs.ev rfl)) rfl fun ac hs=>?_
    refine s_q hs (c_move (hs.ev rfl)) rfl fun ac hs=>?_
    refine s_callM (i:=0) hs fu43 (.cons (hs.ev rfl) (.cons (hs.ev rfl) (.cons (hs.ev rfl) .nil))) rfl (di_put g27 g sb n1 gen q1 s1 0 pi.2 pi.1 hk1.ok (by omega) (by omega) hx1 _ (hs.get (i:=0) rfl) hpi) rfl fun ac ww v36 hf hp hs=>?_
    obtain ⟨rfl,qv',h1,h2⟩:=hp
    replace hs:=hs (Ent.grp (dl g27 g sb qv' gen (dput s1 gen n1 0 pi.2).2.2 (dput s1 gen n1 0 pi.2).2.1)) h1 (fun k hk=>⟨h2 k hk,grp_lt h1 k hk⟩)
    refine s_q hs (c_assign (hs.ev rfl)) rfl fun ac hs=>?_
    refine s_end (then_n (wp_seq (wp_reg ?_)))
    refine s_q hs (c_move (hs.ev rfl)) rfl fun ac hs=>?_
    refine s_q hs (c_neqI (hs.ev rfl) (hs.ev rfl)) rfl fun ac hs=>?_
    refine s_end (then_n ?_)
    refine s_cond hs rfl (fun hc=>?_) (fun hc=>?_)
    · try simp only [decide_eq_true_eq,decide_eq_false_iff_not,Bool.not_eq_true',Bool.not_eq_false',Bool.and_eq_true,Bool.or_eq_true,Bool.or_eq_false_iff] at hc
      have hne:¬ (dput s1 gen n1 0 pi.2).1=0:=by simpa using hc
      rw [dputs_stop hne] at hw1
      refine wp_seq (wp_reg ?_)
      refine s_q hs (c_move (hs.ev rfl)) rfl fun ac hs=>?_
      refine s_q hs (c_assign (hs.ev rfl)) rfl fun ac hs=>?_
      refine s_q hs (c_assign (hs.ev rfl)) rfl fun ac hs=>?_
      refine s_end (then_n (wp_ret (blk_r (then_r (then_r (blk_r (then_r ?_)))))))
      refine s_ret hs rfl (.tmp (hs.tmp rfl) (.tmp (hs.tmp rfl) .nil)) rfl ⟨_,rfl,hs.fr,?_⟩
      rw [show dstart s gen (ps.map (·.2))=(false,(dputs s gen 0 (ps.map (·.2))).1,(dputs s gen 0 (ps.map (·.2))).2.1,(dputs s gen 0 (ps.map (·.2))).2.2) from if_neg (by rw [hw1]; exact hne),hw1]
      exact ⟨g27,rfl,St.dlTo hs.ungrp (.refl _)⟩
    · try simp only [decide_eq_true_eq,decide_eq_false_iff_not,Bool.not_eq_true',Bool.not_eq_false',Bool.and_eq_true,Bool.or_eq_true,Bool.or_eq_false_iff] at hc
      have heq:(dput s1 gen n1 0 pi.2).1=0:=by simpa using hc
      have hw2:=hw1.trans (dputs_cons heq)
      have hk2:Kept s (dput s1 gen n1 0 pi.2).2.1 (41 * (i + 1)):=(hk1.trans (dput_kept hk1.ok)).mono (by omega)
      refine wp_skip (blk_n (then_n (wp_reg ?_)))
      refine s_q hs (c_addI (hs.ev rfl) (hs.ev rfl) (by omega) (by omega)) rfl fun ac hs=>?_
      refine s_q hs (c_move (hs.ev rfl)) rfl fun ac hs=>?_
      refine s_end (then_n ?_)
      exact ⟨ps.length - (i + 1),by omega,(i + 1,_,_,_),⟨by show i + 1≤_; omega,hw2,hk2,dput_le hk1.ok hx1,rfl⟩,St.next hs ⟨rfl,rfl,rfl,rfl,rfl,trivial⟩ rfl⟩
  · try simp only [decide_eq_true_eq,decide_eq_false_iff_not,Bool.not_eq_true',Bool.not_eq_false',Bool.and_eq_true,Bool.or_eq_true,Bool.or_eq_false_iff] at hc
    obtain rfl:i=ps.length:=by omega
    rw [List.drop_of_length_le (by simp)] at hw1
    replace hw1:dputs s gen 0 (ps.map (·.2))=(0,s1,n1):=hw1
    refine wp_exit (then_e (then_e (blk_hit (then_n (wp_seq (wp_seq (wp_reg ?_)))))))
    refine s_q hs (c_move (hs.ev rfl)) rfl fun ac hs=>?_
    refine s_callM (i:=0) hs fu43 (.cons (hs.ev rfl) (.cons (hs.ev rfl) (.cons (hs.ev rfl) .nil))) rfl (di_put g27 g sb n1 gen q1 s1 4 [] (.slice none 0 0) hk1.ok (by omega) (by omega) hx1 _ (hs.get (i:=0) rfl) (RdB.nil _)) rfl fun ac ww v42 hf hp hs=>?_
    obtain ⟨rfl,qv',h1,h2⟩:=hp
    replace hs:=hs (Ent.grp (dl g27 g sb qv' gen (dput s1 gen n1 4 []).2.2 (dput s1 gen n1 4 []).2.1)) h1 (fun k hk=>⟨h2 k hk,grp_lt h1 k hk⟩)
    have hk3:=dput_kept (g:=gen) (next:=n1) (fl:=4) (p:=[]) hk1.ok
    have hst3:=hk3.st
    have hql3:=hk3.q
    refine s_q hs (c_assign (hs.ev rfl)) rfl fun ac hs=>?_
    refine s_end ?_
    replace hs:=hs.sub (F':=[(0,_),(8,_),(12,_)]) ⟨rfl,rfl,rfl,trivial⟩
    refine then_n (wp_seq (wp_reg ?_))
    refine s_q hs (c_move (hs.ev rfl)) rfl fun ac hs=>?_
    refine s_q hs (c_neqI (hs.ev rfl) (hs.ev rfl)) rfl fun ac hs=>?_
    refine s_end ?_
    replace hs:=hs.sub (F':=[(0,_),(8,_),(12,_),(44,_)]) ⟨rfl,rfl,rfl,rfl,trivial⟩
    refine then_n ?_
    refine s_cond hs rfl (fun hc=>?_) (fun hc=>?_)
    · try simp only [decide_eq_true_eq,decide_eq_false_iff_not,Bool.not_eq_true',Bool.not_eq_false',Bool.and_eq_true,Bool.or_eq_true,Bool.or_eq_false_iff] at hc
      have hne:¬ (dput s1 gen n1 4 []).1=0:=by simpa using hc
      refine wp_seq (wp_reg ?_)
      refine s_q hs (c_move (hs.ev rfl)) rfl fun ac hs=>?_
      refine s_q hs (c_assign (hs.ev rfl)) rfl fun ac hs=>?_
      refine s_q hs (c_assign (hs.ev rfl)) rfl fun ac hs=>?_
      refine s_end ?_
      replace hs:=hs.sub (F':=[(0,_),(6,_),(7,_),(8,_)]) ⟨rfl,rfl,rfl,rfl,trivial⟩
      refine then_n (wp_ret (then_r ?_))
      refine s_ret hs rfl (.tmp (hs.tmp rfl) (.tmp (hs.tmp rfl) .nil)) rfl ⟨_,rfl,hs.fr,?_⟩
      rw [show dstart s gen (ps.map (·.2))=(false,(dput s1 gen n1 4 []).1,(dput s1 gen n1 4 []).2.1,(dput s1 gen n1 4 []).2.2) from (if_pos (by rw [hw1])).trans (by rw [hw1]; exact if_neg hne)]
      exact ⟨g27,rfl,St.dlTo hs.ungrp (.refl _)⟩
    · try simp only [decide_eq_true_eq,decide_eq_false_iff_not,Bool.not_eq_true',Bool.not_eq_false',Bool.and_eq_true,Bool.or_eq_true,Bool.or_eq_false_iff] at hc
      have heq:(dput s1 gen n1 4 []).1=0:=by simpa using hc
      replace hs:=hs.ungrp
      refine wp_skip (then_n (wp_seq (wp_reg ?_)))
      refine s_q hs (c_move (hs.ev rfl)) rfl fun ac hs=>?_
      refine s_q hs (c_move (hs.ev rfl)) rfl fun ac hs=>?_
      refine s_callM (i:=1) hs fu12 (.cons (hs.ev rfl) .nil) rfl (sl_Flush g sb qv' (dput s1 gen n1 4 []).2.1 hk3.ok (by omega) (by omega) _ (hs.get (i:=1) rfl)) rfl fun ac ww v48 hf hp hs=>?_
      obtain ⟨rfl,qv',h1,h2⟩:=hp
      replace hs:=hs (Ent.grp (sl g sb qv' (dput s1 gen n1 4 []).2.1.flush.2)) h1 (fun k hk=>⟨h2 k hk,grp_lt h1 k hk⟩)
      refine s_q hs (c_assign (hs.ev rfl)) rfl fun ac hs=>?_
      refine s_q hs (c_assign (hs.ev rfl)) rfl fun ac hs=>?_
      refine s_end ?_
      replace hs:=hs.sub (F':=[(6,_),(7,_)]) ⟨rfl,rfl,trivial⟩
      refine then_n (wp_ret ?_)
      refine s_ret hs rfl (.tmp (hs.tmp rfl) (.tmp (hs.tmp rfl) .nil)) rfl ⟨_,rfl,hs.fr,?_⟩
      rw [show dstart s gen (ps.map (·.2))=(true,(dput s1 gen n1 4 []).2.1.flush.1,(dput s1 gen n1 4 []).2.1.flush.2,(dput s1 gen n1 4 []).2.2) from (if_pos (by rw [hw1])).trans (by rw [hw1]; exact if_pos heq)]
      exact ⟨g27,rfl,St.dlTo hs (.refl _)⟩
def dw1:=dstart (newS 8) 1 []
theorem dw1_ok:dw1.2.2.1.Ok:=Sl.flush_ok (dput_kept (s:=newS 8) (g:=1) (next:=0) (fl:=4) (p:=[]) (newS_ok (by decide))).ok
theorem dw1_e:dw1.1=true∧dw1.2.1=0∧dw1.2.2.2=1∧dw1.2.2.1.n=8:=by decide +kernel
theorem dw1_r:((dw1.2.2.1.read 4).2=0)∧(dw1.2.2.1.read 4).1.getD 3 0=1∧(dw1.2.2.1.read 4).1.getD 6 0=7∧(dw1.2.2.1.read 4).1.length=64:=by decide +kernel
theorem RdP.noneS (w:World):RdP w (.slice none 0 0) []:=⟨⟨none,0,rfl,Nat.le_refl _,Nat.zero_le _,fun _=>rfl,.inl rfl⟩,fun _ h=>by cases h⟩
theorem getB {l:List UInt8} {i:Nat} (h:i < l.length):(l.map B).toArray.toList[0 + i * 1]?=some (B (l.getD i 0)):=by
  rw [show 0 + i * 1=i by omega]
  simp [h]
theorem di_awake  (w:World) :Ctr Try.prog 24 [] w (fun _=>False) (fun v _=>v=.bool true):=by
  refine fn_start (N:=50) Try.func24 rfl rfl rfl fun ac hk=>?_
  have hs:=St.start hk w
  refine wp_seq (wp_reg ?_)
  refine s_q hs (c_assign (hs.ev rfl)) rfl fun ac hs=>?_
  refine s_end (then_n (wp_seq (wp_reg ?_)))
  refine s_call hs fu9 (.cons (hs.ev rfl) .nil) (sl_New 8 _) rfl fun ac ww v8 hf hp hs=>?_
  rw [if_pos (by decide)] at hp
  obtain ⟨g,sb,rfl,hh⟩:=hp
  replace hs:=hs _ (Has.grp' hh)
  refine s_q hs (c_move (hs.ev rfl)) rfl fun ac hs=>?_
  refine s_q hs (c_extract (hs.ev rfl) rfl) rfl fun ac hs=>?_
  refine s_q hs (c_extract (hs.ev rfl) rfl) rfl fun ac hs=>?_
  refine s_q hs (c_assign (hs.ev rfl)) rfl fun ac hs=>?_
  refine s_q hs (c_assign (hs.ev rfl)) rfl fun ac hs=>?_
  refine s_end ?_
  replace hs:=hs.sub (F':=[(0,_),(1,_)]) ⟨rfl,rfl,trivial⟩
  refine then_n (wp_seq (wp_reg ?_))
  refine s_q hs (c_move (hs.ev rfl)) rfl fun ac hs=>?_
  refine s_callM (i:=0) hs fu26 (.cons (hs.ev rfl) (.cons (hs.ev rfl) (.cons (hs.ev rfl) .nil))) rfl (di_Start g sb 1 _ (newS 8) [] _ (newS_ok (by decide)) (by decide) (by decide) (by decide) (by decide) (by decide) (by decide) _ (hs.get (i:=0) rfl) (fun _ _=>RdP.noneS _)) rfl fun ac ww v13 hf hp hs=>?_
  obtain ⟨dg,rfl,qv',h1,h2⟩:=hp
  replace hs:=(hs (Ent.grp (dl dg g sb qv' 1 _ _)) h1 (fun k hk=>⟨h2 k hk,grp_lt h1 k hk⟩)).toL (L':=[Ent.grp (dl dg g sb qv' 1 1 dw1.2.2.1)]) (by rw [← dw1_e.2.2.1]; rfl)
  have hn8:=dw1_e.2.2.2
  refine s_q hs (c_move (hs.ev rfl)) rfl fun ac hs=>?_
  refine s_q hs (c_extract (hs.ev rfl) (show _=some (Value.pointer (some ⟨dg,0,none⟩)) from congrArg some (congrArg (fun b=>dptr b dg) dw1_e.1))) rfl fun ac hs=>?_
  refine s_q hs (c_extract (hs.ev rfl) (show _=some (I 0) from congrArg (fun n:Int=>some (I n)) dw1_e.2.1)) rfl fun ac hs=>?_
  refine s_q hs (c_assign (hs.ev rfl)) rfl fun ac hs=>?_
  refine s_q hs (c_assign (hs.ev rfl)) rfl fun ac hs=>?_
  refine s_end ?_
  replace hs:=hs.sub (F':=[(0,_),(1,_),(3,_),(4,_)]) ⟨rfl,rfl,rfl,rfl,trivial⟩
  refine then_n (wp_seq (wp_reg ?_))
  refine s_q hs (c_move (hs.ev rfl)) rfl fun ac hs=>?_
  refine s_call hs fu15 (.cons (hs.ev rfl) (.cons (hs.ev rfl) .nil)) (sl_Read g sb qv' dw1.2.2.1 4 dw1_ok _ (sl_get (dl_sl (hs.get (i:=0) rfl)))) rfl fun ac ww v18 hf hp hs=>?_
  rw [dw1_r.1] at hp
  obtain rfl:=hp
  replace hs:=hs [] (.nil _ _)
  obtain ⟨-,hr3,hr6,hrl⟩:=dw1_r
  refine s_q hs (c_move (hs.ev rfl)) rfl fun ac hs=>?_
  refine s_q hs (c_extract (hs.ev rfl) rfl) rfl fun ac hs=>?_
  refine s_q hs (c_extract (hs.ev rfl) rfl) rfl fun ac hs=>?_
  refine s_alloc hs ty29 rfl fun ac ww g5 hs=>?_
  refine s_storeW (i:=0) hs ty29 rfl rfl rfl (by simp [hrl]) (all64 _) (by rfl) fun ww hs=>?_
  refine s_q hs (c_assign (hs.ev rfl)) rfl fun ac hs=>?_
  refine s_end ?_
  replace hs:=hs.sub (F':=[(0,_),(3,_),(4,_),(5,_),(6,_)]) ⟨rfl,rfl,rfl,rfl,rfl,trivial⟩
  refine then_n (wp_seq (wp_reg ?_))
  refine s_q hs (c_move (hs.ev rfl)) rfl fun ac hs=>?_
  refine s_q hs (c_neqNil un56 (hs.ev rfl) (hs.ev rfl)) rfl fun ac hs=>?_
  refine s_q hs (c_move (hs.ev rfl)) rfl fun ac hs=>?_
  refine s_yes hs rfl rfl ?_
  refine s_q hs (c_move (hs.ev rfl)) rfl fun ac hs=>?_
  refine s_yes hs rfl rfl ?_
  refine s_q hs (c_eqlI (hs.ev rfl) (hs.ev rfl)) rfl fun ac hs=>?_
  refine s_q hs (c_pick (hs.ev rfl) (hs.ev rfl) (hs.ev rfl)) rfl fun ac hs=>?_
  refine s_q hs (c_move (hs.ev rfl)) rfl fun ac hs=>?_
  refine s_yes hs rfl rfl ?_
  refine s_q hs (c_move (hs.ev rfl)) rfl fun ac hs=>?_
  refine s_yes hs rfl rfl ?_
  refine s_q hs (c_eqlI (hs.ev rfl) (hs.ev rfl)) rfl fun ac hs=>?_
  refine s_q hs (c_pick (hs.ev rfl) (hs.ev rfl) (hs.ev rfl)) rfl fun ac hs=>?_
  refine s_q hs (c_move (hs.ev rfl)) rfl fun ac hs=>?_
  refine s_yes hs rfl rfl ?_
  refine s_q hs (c_idxA (j:=3) un29 ty5 (hs.ev rfl) (hs.ev rfl) rfl (by decide)) rfl fun ac hs=>?_
  refine s_yes hs rfl rfl ?_
  refine s_q hs (c_loadS un5 rfl (hs.ev rfl) (hs.seg (i:=0) rfl) ((getB (by omega)).trans (congrArg (fun b:UInt8=>some (B b)) hr3))) rfl fun ac hs=>?_
  refine s_yes hs rfl rfl ?_
  refine s_q hs (c_eqlB (hs.ev rfl) (St.ev (v:=B 1) hs rfl)) rfl fun ac hs=>?_
  refine s_q hs (c_pick (hs.ev rfl) (hs.ev rfl) (hs.ev rfl)) rfl fun ac hs=>?_
  refine s_q hs (c_move (hs.ev rfl)) rfl fun ac hs=>?_
  refine s_yes hs rfl rfl ?_
  refine s_q hs (c_idxA (j:=6) un29 ty5 (hs.ev rfl) (hs.ev rfl) rfl (by decide)) rfl fun ac hs=>?_
  refine s_yes hs rfl rfl ?_
  refine s_q hs (c_loadS un5 rfl (hs.ev rfl) (hs.seg (i:=0) rfl) ((getB (by omega)).trans (congrArg (fun b:UInt8=>some (B b)) hr6))) rfl fun ac hs=>?_
  refine s_yes hs rfl rfl ?_
  refine s_q hs (c_eqlB (hs.ev rfl) (St.ev (v:=B 7) hs rfl)) rfl fun ac hs=>?_
  refine s_q hs (c_pick (hs.ev rfl) (hs.ev rfl) (hs.ev rfl)) rfl fun ac hs=>?_
  refine s_q hs (c_move (hs.ev rfl)) rfl fun ac hs=>?_
  refine s_yes hs rfl rfl ?_
  refine s_q hs (c_move (hs.ev rfl)) rfl fun ac hs=>?_
  refine s_yes hs rfl rfl ?_
  refine s_call hs fu29 (.cons (hs.ev rfl) .nil) (di_Free dg g sb 1 1 qv' dw1.2.2.1 (by rw [hn8]; decide) (by rw [hn8]; decide) _ (dl_d (hs.get (i:=1) rfl)) (sl_get (dl_sl (hs.get (i:=1) rfl)))) rfl fun ac ww v43 hf hp hs=>?_
  rw [hn8] at hp
  obtain rfl:=hp
  replace hs:=hs [] (.nil _ _)
  refine s_yes hs rfl rfl ?_
  refine s_q hs (c_eqlI (hs.ev rfl) (hs.ev rfl)) rfl fun ac hs=>?_
  refine s_q hs (c_pick (hs.ev rfl) (hs.ev rfl) (hs.ev rfl)) rfl fun ac hs=>?_
  refine s_q hs (c_move (hs.ev rfl)) rfl fun ac hs=>?_
  refine s_yes hs rfl rfl ?_
  refine s_call hs fu34 (.cons (hs.ev rfl) .nil) (di_Need 51 (by decide) _) rfl fun ac ww v47 hf hp hs=>?_
  obtain rfl:=hp
  replace hs:=hs [] (.nil _ _)
  refine s_yes hs rfl rfl ?_
  refine s_q hs (c_eqlI (hs.ev rfl) (hs.ev rfl)) rfl fun ac hs=>?_
  refine s_q hs (c_pick (hs.ev rfl) (hs.ev rfl) (hs.ev rfl)) rfl fun ac hs=>?_
  refine s_q hs (c_assign (hs.ev rfl)) rfl fun ac hs=>?_
  refine s_end ?_
  replace hs:=hs.sub (F':=[(0,_)]) ⟨rfl,trivial⟩
  refine then_n (wp_ret ?_)
  refine s_ret hs rfl (.tmp (hs.tmp rfl) .nil) rfl ⟨_,rfl,hs.fr,?_⟩
  rfl
end Go.Proofs.Ytkecdcmjkghddaa
end
