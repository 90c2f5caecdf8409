/- Own texts of this seat,laid together for one claim (with what its proof uses alone). -/
import Derived.Test.YtkecdcmjkghddaaSlpKa
set_option linter.unusedSimpArgs false
set_option linter.unusedVariables false
set_option maxRecDepth 100000
set_option maxHeartbeats 4000000
section
/- Regions that draw their order and hold one call that turns what was there,once: as Fw43,but that the call is known to find all as it was. -/
namespace Go.FwO
open Go
open Go.Fw hiding factsC factsE addC addE fresh DV Links factsC_src factsE_src RC Meets Ob RG Inv
open Go.FwK (FrK DV addC addE fresh factsC factsE factsC_src factsE_src Has.newK DV.ok_stable Links)
structure RC (Fk:World→World→Prop) (c:Nat) (N:Nat) (Fc:List (Nat × Value)) (Fe:Fes) (o:Oper) (B1:Nat) (w1:World) (a:Act) (w:World):Prop where
  know:Know N Fc a
  fr:Fk w1 w
  fr0:o.dst=some c→Fr0 w1 w
  ents:∀ n E,lookE Fe n=some E→(tmpsOf o).any (Nat.beq n)=true→∃ v L',a.tmps[n]?=some v∧E v L' w∧Has B1 w L'
def Meets {Fk:World→World→Prop} (c:Nat) (o:Oper) (D:DV Fk) (w:World) (v:Value) (w':World):Prop:=∃ L',D.ok v L' w'∧Fk w w'∧(o.dst ≠ some c→Fr0 w w')∧Has w.heap.size w' L'
def Ob {Fk:World→World→Prop} (c:Nat) (P:Program) (ops:Array Oper) (N:Nat) (B1:Nat) (w1:World) (Fc:List (Nat × Value)) (Fe:Fes) (o:Oper) (D:DV Fk):Prop :=
  ((wantedAs ops Fc o=some true∧∀ a w,RC Fk c N Fc Fe o B1 w1 a w→Yl P (Meets c o D w) ((execOp a.eval o).run P w))∨(wantedAs ops Fc o=some false∧D=.c undef)) ∧
  (needQ o=true→∃ v,∀ a w,RC Fk c N Fc Fe o B1 w1 a w→(execOp a.eval o).run P w=.ok (.value v) w)
def RG (Fk:World→World→Prop) (c:Nat) (P:Program) (ops:Array Oper) (N B1:Nat) (w1:World) (K:List (Nat × Value)→Fes→Prop):List (Nat × Value)→Fes→List Oper→Prop
  | Fc,Fe,[]=>K Fc Fe
  | Fc,Fe,o::rest=>∃ (d:Nat) (D:DV Fk),o.dst=some d∧Ob c P ops N B1 w1 Fc Fe o D∧fresh Fc Fe d D∧RG Fk c P ops N B1 w1 K (addC Fc d D) (addE Fe d D) rest
theorem RG.parts {Fk:World→World→Prop} {c:Nat} {P:Program} {opsA:Array Oper} {N B1:Nat} {w1:World} {K:List (Nat × Value)→Fes→Prop} (Fc0:List (Nat × Value)):∀ (rest pre:List Oper) (Ds:List (DV Fk)),pre.length=Ds.length →
    RG Fk c P opsA N B1 w1 K (factsC (pre++rest) Ds Fc0 pre.length) (factsE (pre++rest) Ds pre.length) rest →
    ∃ Ds':List (DV Fk),(Ds++Ds').length=(pre++rest).length∧K (factsC (pre++rest) (Ds++Ds') Fc0 (pre++rest).length) (factsE (pre++rest) (Ds++Ds') (pre++rest).length) ∧
      ∀ i o,pre.length≤i→(pre++rest)[i]?=some o→∃ (d:Nat) (D:DV Fk),o.dst=some d∧(Ds++Ds')[i]?=some D∧Ob c P opsA N B1 w1 (factsC (pre++rest) (Ds++Ds') Fc0 i) (factsE (pre++rest) (Ds++Ds') i) o D ∧
        fresh (factsC (pre++rest) (Ds++Ds') Fc0 i) (factsE (pre++rest) (Ds++Ds') i) d D
  | [],pre,Ds,hl,h=>by
    refine ⟨[],by simp [hl],?_,fun i o hi ho=>?_⟩
    · simpa [RG] using h
    · simp at ho
      have:=(List.getElem?_eq_some_iff.1 ho).1
      omega
  | o::rest,pre,Ds,hl,h=>by
    obtain ⟨d,D,hd,hob,hfr,hk⟩:=h
    have ext:∀ (X Y:List (DV Fk)) (i:Nat),i≤X.length→factsC (pre++o::rest) (X++Y) Fc0 i=factsC (pre++o::rest) X Fc0 i∧factsE (pre++o::rest) (X++Y) i=factsE (pre++o::rest) X i:=by
      intro X Y i
      induction i with
      | zero=>intro _; exact ⟨rfl,rfl⟩
      | succ i ih =>
        intro hi
        have h1:=ih (by omega)
        have h2:(X++Y)[i]?=X[i]?:=List.getElem?_append_left (by omega)
        simp only [factsC,factsE,h2,h1.1,h1.2]
        exact ⟨trivial,trivial⟩
    have hget:(pre++o::rest)[pre.length]?=some o:=by simp
    have e1:=ext Ds [D] pre.length (by omega)
    have hDget:(Ds++[D])[pre.length]?=some D:=by rw [hl]; simp
    have hc:factsC (pre++o::rest) (Ds++[D]) Fc0 (pre.length + 1)=addC (factsC (pre++o::rest) Ds Fc0 pre.length) d D:=by
      simp only [factsC,hget,hDget,hd,e1.1]
    have he:factsE (pre++o::rest) (Ds++[D]) (pre.length + 1)=addE (factsE (pre++o::rest) Ds pre.length) d D:=by
      simp only [factsE,hget,hDget,hd,e1.2]
    have heq:pre++o::rest=(pre++[o])++rest:=by simp
    have hk':RG Fk c P opsA N B1 w1 K (factsC ((pre++[o])++rest) (Ds++[D]) Fc0 (pre++[o]).length) (factsE ((pre++[o])++rest) (Ds++[D]) (pre++[o]).length) rest:=by
      rw [← heq,show (pre++[o]).length=pre.length + 1 by simp,hc,he]
      exact hk
    obtain ⟨Ds',hl',hK',hall⟩:=RG.parts Fc0 rest (pre++[o]) (Ds++[D]) (by simp [hl]) hk'
    rw [← heq] at hl' hK' hall
    rw [List.append_assoc] at hl' hK' hall
    refine ⟨[D]++Ds',hl',hK',fun i o' hi ho'=>?_⟩
    by_cases hip:i=pre.length
    · subst hip
      rw [hget] at ho'
      obtain rfl:=Option.some.inj ho'
      have e2:=ext Ds ([D]++Ds') pre.length (by omega)
      refine ⟨d,D,hd,?_,?_,?_⟩
      · rw [List.getElem?_append_right (by omega)]
        simp [hl]
      · rw [e2.1,e2.2]; exact hob
      · rw [e2.1,e2.2]; exact hfr
    · exact hall i o' (by simp; omega) ho'
section
variable {c:Nat} {P:Program} {l:List Oper} {n N B1:Nat} {w1:World} {Fc0:List (Nat × Value)} {Fk:World→World→Prop} {Ds:List (DV Fk)} {Q:Exit→Act→World→Prop} {late:List Nat}
/-! the head: any order -/
structure Inv {Fk:World→World→Prop} (c:Nat) (l:List Oper) (n N B1:Nat) (w1:World) (Fc0:List (Nat × Value)) (Ds:List (DV Fk)) (vals:Nat→Value) (ents:Nat→List Ent) (listed:Array Bool) (a:Act) (w:World):Prop where
  size:listed.size=l.length
  know:a.tmps.size=N∧a.defers=[]
  done:∀ j d D,j < n→listed.getD j false=true→dstAt l.toArray j=some d→Ds[j]?=some D→a.tmps[d]?=some (vals j)∧D.ok (vals j) (ents j) w
  base:∀ s v,Fw.look Fc0 s=some v→(∀ j,j < n→listed.getD j false=true→dstAt l.toArray j ≠ some s)→a.tmps[s]?=some v
  has:Has B1 w ((List.range n).flatMap fun j=>if listed.getD j false=true then ents j else [])
  fr:Fk w1 w
  fr0:(∀ j,j < n→listed.getD j false=true→dstAt l.toArray j ≠ some c)→Fr0 w1 w
  tail:∀ t,n≤t→listed.getD t false=false
  closed:∀ j o,l[j]?=some o→listed.getD j false=true→∀ e∈o.after,Region.binds .any e=true→listed.getD e.on false=true
  links:∀ j o s,j < n→l[j]?=some o→listed.getD j false=true→opnd o=some s→safeB l.toArray n j s=true→LinkV o (a.tmps.getD s undef) (vals j)
theorem Inv.step0 (hF:FrK Fk B1) {vals:Nat→Value} {ents:Nat→List Ent} {listed:Array Bool} {a:Act} {w:World} {i:Nat} {o:Oper} (hok:RgOk l.toArray n late) (hl:Ds.length=n)
    (hparts:∀ i o,i < n→l[i]?=some o→∃ (d:Nat) (D:DV Fk),o.dst=some d∧Ds[i]?=some D∧Ob c P l.toArray N B1 w1 (factsC (l.take n) Ds Fc0 i) (factsE (l.take n) Ds i) o D∧fresh (factsC (l.take n) Ds Fc0 i) (factsE (l.take n) Ds i) d D)
    (hN:∀ i o d,i < n→l[i]?=some o→o.dst=some d→d < N) (hB:B1≤w1.heap.size)
    (inv:Inv c l n N B1 w1 Fc0 Ds vals ents listed a w) (hi:i < n) (hr:i∈Region.ready .any l.toArray listed)
    (hol:l[i]?=some o) :
    (Region.wanted o (yielded l.toArray a.tmps)=true∧Yl P (fun v w'=>∃ L',Inv c l n N B1 w1 Fc0 Ds (fun j=>if j=i then v else vals j) (fun j=>if j=i then L' else ents j) (listed.setIfInBounds i true) (a.put o.dst v) w') ((execOp a.eval o).run P w)∧(needQ o=true→∃ v,(execOp a.eval o).run P w=.ok (.value v) w)) ∨
    (Region.wanted o (yielded l.toArray a.tmps)=false∧Inv c l n N B1 w1 Fc0 Ds (fun j=>if j=i then undef else vals j) (fun j=>if j=i then [] else ents j) (listed.setIfInBounds i true) (a.put o.dst undef) w):=by
  obtain ⟨hun,o',ho,hall⟩:=mem_ready.1 hr
  have hil:i < l.length:=by have:=hok.le; simp at this; omega
  have hol':l[i]?=some o':=by simpa using ho
  rw [hol] at hol'
  obtain rfl:=Option.some.inj hol'
  have hunf:listed.getD i false=false:=by rw [← getD_both_iff (by rw [inv.size]; exact hil)]; exact hun
  obtain ⟨d,D,hd,hD,hob,hfr⟩:=hparts i o hi hol
  have hdi:dstAt l.toArray i=some d:=by simp [dstAt,hol,hd]
  -- the slots, as the text has them
  have hds:∃ ds:Nat→Nat,∀ j,j < n→dstAt l.toArray j=some (ds j):=by
    refine ⟨fun j=>(dstAt l.toArray j).getD 0,fun j hj=>?_⟩
    have hjl:j < l.length:=by have:=hok.le; simp at this; omega
    obtain ⟨d',hd'⟩:=hok.dst j l[j] (by simp [hjl]) hj
    simp [dstAt,hjl,hd']
  obtain ⟨ds,hds⟩:=hds
  have htake:(l.take n).length=n:=by have:=hok.le; simp at this; simp [this]
  have hds':∀ j o,(l.take n)[j]?=some o→o.dst=some (ds j):=by
    intro j o' hj
    have hjn:j < n:=by have:=(List.getElem?_eq_some_iff.1 hj).1; omega
    rw [List.getElem?_take_of_lt hjn] at hj
    have:=hds j hjn
    simpa [dstAt,hj] using this
  have hfr':∀ j o D,(l.take n)[j]?=some o→Ds[j]?=some D→fresh (factsC (l.take n) Ds Fc0 j) (factsE (l.take n) Ds j) (ds j) D:=by
    intro j o' D' hj hDj
    have hjn:j < n:=by have:=(List.getElem?_eq_some_iff.1 hj).1; omega
    have hj':=hj
    rw [List.getElem?_take_of_lt hjn] at hj'
    obtain ⟨d2,D2,h1,h2,_,h4⟩:=hparts j o' hjn hj'
    rw [hDj] at h2
    obtain rfl:=Option.some.inj h2
    have:=hds' j o' hj
    rw [h1] at this
    obtain rfl:=Option.some.inj this
    exact h4
  have listed_of:∀ j s,j < n→j ≠ i→s∈looks l.toArray o→dstAt l.toArray j=some s→(j < i∧listed.getD j false=true)∨(i < j∧listed.getD j false=false):=by
    intro j s hj hne hs hdj
    rcases hok.use i o s j ho hi hs hj hne hdj with ⟨h1,h2⟩ | ⟨h1,oj,h2,h3⟩
    · obtain ⟨e,he,hb,hon⟩:=waits_spec h2
      exact .inl ⟨h1,hon ▸ hall e he hb⟩
    · refine .inr ⟨h1,?_⟩
      obtain ⟨e,he,hb,hon⟩:=waits_spec h3
      cases hj2:listed.getD j false with
      | false=>rfl
      | true =>
        have:=inv.closed j oj (by simpa using h2) hj2 e he hb
        rw [hon,hunf] at this
        cases this
  have valueC:∀ s v,s∈looks l.toArray o→Fw.look (factsC (l.take n) Ds Fc0 i) s=some v→a.tmps[s]?=some v:=by
    intro s v hs hv
    rcases factsC_src (Fc0:=Fc0) hds' (by rw [hl,htake]) hfr' i (by omega) s v hv with ⟨j,hj,h1,h2⟩ | ⟨h1,h2⟩
    · have hjn:j < n:=by omega
      rcases listed_of j s hjn (by omega) hs (by rw [hds j hjn,h1]) with ⟨_,h3⟩ | ⟨h3,_⟩
      · obtain ⟨h4,h5⟩:=inv.done j s _ hjn h3 (by rw [hds j hjn,h1]) h2
        rw [h4,h5.1]
      · omega
    · refine inv.base s v h1 fun j hjn hj2 hdj=>?_
      by_cases hji:j=i
      · subst hji; rw [hunf] at hj2; cases hj2
      · rcases listed_of j s hjn hji hs hdj with ⟨h3,_⟩ | ⟨_,h3⟩
        · rw [hds j hjn] at hdj
          exact h2 j h3 (Option.some.inj hdj)
        · rw [h3] at hj2; cases hj2
  have hwant:∀ b,wantedAs l.toArray (factsC (l.take n) Ds Fc0 i) o=some b→Region.wanted o (yielded l.toArray a.tmps)=b:=by
    intro b hb
    unfold wantedAs at hb
    unfold Region.wanted
    cases hg:o.guard with
    | none=>rw [hg] at hb; simpa using hb
    | some gw =>
      obtain ⟨j,wt⟩:=gw
      rw [hg] at hb
      dsimp only at hb ⊢
      cases hs:(l.toArray[j]?).bind (·.dst) with
      | none=>rw [hs] at hb; simp at hb
      | some s =>
        rw [hs] at hb
        simp only [Option.bind_some] at hb
        cases hv:Fw.look (factsC (l.take n) Ds Fc0 i) s with
        | none=>rw [hv] at hb; simp at hb
        | some v =>
          rw [hv] at hb
          have h5:=valueC s _ (List.mem_append_right _ (by rw [hg]; dsimp only; rw [hs]; simp)) hv
          unfold yielded
          rw [hs]
          simp only [Option.bind_some,h5]
          cases v with
          | bool c =>
            simp at hb
            rw [← hb]
            cases c <;> cases wt <;> rfl
          | _ =>
            simp at hb
            subst hb
            rfl
  have next:∀ v L' w',D.ok v L' w'→Fk w w'→(o.dst ≠ some c→Fr0 w w')→Has w.heap.size w' L'→(∀ s,opnd o=some s→LinkV o (a.tmps.getD s undef) v)→Inv c l n N B1 w1 Fc0 Ds (fun j=>if j=i then v else vals j) (fun j=>if j=i then L' else ents j) (listed.setIfInBounds i true) (a.put (some d) v) w':=by
    intro v L' w' hv hf hf0 hn hlk
    have hdN:=hN i o d hi hol hd
    refine ⟨by simpa using inv.size,⟨by simpa [Act.put] using inv.know.1,inv.know.2⟩,fun j dj Dj hj hlj hdj hDj=>?_,fun s u hu hne=>?_,?_,hF.trans inv.fr hf,fun hx=>(inv.fr0 fun j hj hlj=>hx j hj (by rw [getD_set_ne false (show i ≠ j from fun e=>by subst e; rw [hunf] at hlj; cases hlj)]; exact hlj)).trans0 (hf0 fun e=>hx i hi (by simp [show i < listed.size by rw [inv.size]; exact hil]) (hdi.trans (hd.symm.trans e))),fun t ht=>?_,fun j oj hj hlj e he hb=>?_,fun j oj s hj hlj hlst hos hsf=>?_⟩
    · by_cases hji:j=i
      · subst hji
        rw [hdi] at hdj
        obtain rfl:=Option.some.inj hdj
        rw [hD] at hDj
        obtain rfl:=Option.some.inj hDj
        refine ⟨?_,by simpa using hv⟩
        simp [Act.put,inv.know.1,hdN]
      · rw [getD_set_ne false (Ne.symm hji)] at hlj
        obtain ⟨h1,h2⟩:=inv.done j dj Dj hj hlj hdj hDj
        have hne:d ≠ dj:=fun e=>hji (hok.uniq j i d hj hi (by rw [hdj,e]) hdi)
        refine ⟨?_,by simpa [hji] using DV.ok_stable hf h2⟩
        simp only [Act.put,if_neg hji]
        rw [Array.getElem?_setIfInBounds,if_neg hne]
        exact h1
    · have hsd:d ≠ s:=fun e=>hne i hi (by simp [show i < listed.size by rw [inv.size]; exact hil]) (by rw [hdi,e])
      simp only [Act.put]
      rw [Array.getElem?_setIfInBounds,if_neg hsd]
      refine inv.base s u hu fun j hj hlj=>?_
      by_cases hji:j=i
      · subst hji; rw [hunf] at hlj; cases hlj
      · exact hne j hj (by rw [getD_set_ne false (Ne.symm hji)]; exact hlj)
    · have hp:=flatMap_set_perm (fun j=>if listed.getD j false=true then ents j else []) (fun j=>if (listed.setIfInBounds i true).getD j false=true then (if j=i then L' else ents j) else []) i L'
        (by simp only [hunf]; simp) (by simp [show i < listed.size by rw [inv.size]; exact hil]) (fun j hji=>by simp only [getD_set_ne false (Ne.symm hji),if_neg hji]) (List.range n) List.nodup_range (List.mem_range.2 hi)
      exact (Has.newK (hF.has inv.has hf) inv.has (Nat.le_trans hB (hF.size inv.fr)) hn).perm hp
    · rw [getD_set_ne false (by omega)]
      exact inv.tail t ht
    · by_cases hji:j=i
      · subst hji
        rw [hol] at hj
        obtain rfl:=Option.some.inj hj
        have hlt:=hok.back j o ho e he hb
        rw [getD_set_ne false (by omega)]
        exact hall e he hb
      · rw [getD_set_ne false (Ne.symm hji)] at hlj
        have h9:=inv.closed j oj hj hlj e he hb
        by_cases hei:i=e.on
        · rw [← hei,hunf] at h9; cases h9
        · rw [getD_set_ne false hei]; exact h9
    · have hsi:d=s→i < j:=fun e=>by
        have h1:=List.all_eq_true.1 hsf i (List.mem_range.2 hi)
        rw [hdi,e] at h1
        simpa [Nat.blt_eq] using h1
      by_cases hji:j=i
      · subst hji
        rw [hol] at hlj
        obtain rfl:=Option.some.inj hlj
        have hne:d ≠ s:=fun e=>absurd (hsi e) (by omega)
        rw [getD_put hne]
        simpa using hlk s hos
      · rw [getD_set_ne false (Ne.symm hji)] at hlst
        have hne:d ≠ s:=fun e=>by
          have hlt:=hsi e
          rcases hok.use j oj s i (by simpa using hlj) hj (opnd_looks hos) hi (Ne.symm hji) (by rw [hdi,e]) with ⟨_,h2⟩ | ⟨h2,_⟩
          · obtain ⟨e2,he2,hb2,hon⟩:=waits_spec h2
            have:=inv.closed j oj hlj hlst e2 he2 hb2
            rw [hon,hunf] at this
            cases this
          · omega
        rw [getD_put hne]
        simp only [if_neg hji]
        exact inv.links j oj s hj hlj hlst hos hsf
  obtain ⟨hob,hqt⟩:=hob
  rcases hob with ⟨hw,hy⟩ | ⟨hw,rfl⟩
  · refine .inl ⟨hwant true hw,?_⟩
    -- a frame that has the text's facts, and that the operation cannot tell from this one
    obtain ⟨a',hsz,hdf,ha1,ha2⟩:∃ a':Act,a'.tmps.size=N∧a'.defers=[]∧(∀ s v,Fw.look (factsC (l.take n) Ds Fc0 i) s=some v→a'.tmps[s]?=some v)∧(∀ s,s∈tmpsOf o→a'.tmps[s]?=a.tmps[s]?):=by
      have hlk:∀ s v,Fw.look (factsC (l.take n) Ds Fc0 i) s=some v→s < N:=by
        intro s v hv
        rcases factsC_src (Fc0:=Fc0) hds' (by rw [hl,htake]) hfr' i (by omega) s v hv with ⟨j,hj,h1,h2⟩ | ⟨h1,h2⟩
        · have hjl:j < l.length:=by omega
          exact hN j l[j] s (by omega) (by simp [hjl]) (by have:=hds j (by omega); rw [h1] at this; simpa [dstAt,hjl] using this)
        · by_cases hex:∃ j,j < n∧dstAt l.toArray j=some s
          · obtain ⟨j,hj,hdj⟩:=hex
            have hjl:j < l.length:=by have:=hok.le; simp at this; omega
            exact hN j l[j] s hj (by simp [hjl]) (by simpa [dstAt,hjl] using hdj)
          · have:=inv.base s v h1 (fun j hj _ hdj=>hex ⟨j,hj,hdj⟩)
            have:=(Array.getElem?_eq_some_iff.1 this).1
            rw [inv.know.1] at this
            exact this
      refine ⟨⟨Array.ofFn (n:=N) fun s=>if (tmpsOf o).any (Nat.beq s.1)=true then a.tmps.getD s.1 undef else (Fw.look (factsC (l.take n) Ds Fc0 i) s.1).getD (a.tmps.getD s.1 undef),[]⟩,by simp,rfl,fun s v hv=>?_,fun s hs=>?_⟩
      · have hsN:=hlk s v hv
        simp only [Array.getElem?_ofFn,hsN,dif_pos]
        by_cases hu:(tmpsOf o).any (Nat.beq s)=true
        · rw [if_pos hu]
          have hmem:s∈tmpsOf o:=by
            obtain ⟨x,hx,hb⟩:=List.any_eq_true.1 hu
            rw [Nat.eq_of_beq_eq_true hb]; exact hx
          have:=valueC s v (List.mem_append_left _ hmem) hv
          simp [this]
        · rw [if_neg hu,hv]; rfl
      · have hu:(tmpsOf o).any (Nat.beq s)=true:=List.any_eq_true.2 ⟨s,hs,by simp⟩
        by_cases hsN:s < N
        · simp only [Array.getElem?_ofFn,hsN,dif_pos]
          rw [if_pos hu]
          have:s < a.tmps.size:=by rw [inv.know.1]; exact hsN
          simp [this]
        · simp only [Array.getElem?_ofFn,hsN]
          rw [Array.getElem?_eq_none (by rw [inv.know.1]; omega)]
          simp
    have hev:execOp a.eval o=execOp a'.eval o:=by
      refine execOp_congr o (not_select (hok.sel i o ho)) fun x hx=>?_
      cases x with
      | tmp s =>
        have:=ha2 s (mem_tmpsOf hx)
        simp only [Act.eval,Array.getD_eq_getD_getElem?,this]
      | _=>rfl
    have hrc:RC Fk c N (factsC (l.take n) Ds Fc0 i) (factsE (l.take n) Ds i) o B1 w1 a' w:=by
      refine ⟨⟨hsz,hdf,ha1⟩,inv.fr,fun e=>inv.fr0 fun j hj hlj hdj=>(by
        have hji:=hok.uniq j i d hj hi (hdj.trans (e.symm.trans hd)) hdi
        subst hji
        rw [hunf] at hlj
        cases hlj),fun s E hE hu=>?_⟩
      have hmem:s∈tmpsOf o:=by
        obtain ⟨x,hx,hb⟩:=List.any_eq_true.1 hu
        rw [Nat.eq_of_beq_eq_true hb]; exact hx
      obtain ⟨j,hj,h1,_,h2⟩:=factsE_src hds' (by rw [hl,htake]) i (by omega) s E hE
      have hjn:j < n:=by omega
      rcases listed_of j s hjn (by omega) (List.mem_append_left _ hmem) (by rw [hds j hjn,h1]) with ⟨_,h3⟩ | ⟨h3,_⟩
      · obtain ⟨h4,h5⟩:=inv.done j s _ hjn h3 (by rw [hds j hjn,h1]) h2
        have hsub:=sublist_flatMap (fun j=>if listed.getD j false=true then ents j else []) j (List.range n) (List.mem_range.2 hjn)
        simp only [h3,if_true] at hsub
        exact ⟨vals j,ents j,by rw [ha2 s hmem]; exact h4,h5,inv.has.pick hsub⟩
      · omega
    have hyl:=hy a' w hrc
    rw [← hev] at hyl
    have hyl2:Yl P (fun v w'=>Meets c o D w v w'∧∀ s,opnd o=some s→LinkV o (a.tmps.getD s undef) v) ((execOp a.eval o).run P w):=by
      cases ho2:opnd o with
      | none=>exact hyl.mono fun v w' h=>⟨h,fun s hs=>by cases hs⟩
      | some s=>exact (yl_link ho2 hyl).mono fun v w' h=>⟨h.1,fun s' hs'=>by cases hs'; exact h.2⟩
    exact ⟨hyl2.mono fun v w' ⟨⟨L',h1,h2,h20,h3⟩,h4⟩=>⟨L',by rw [hd]; exact next v L' w' h1 h2 h20 h3 h4⟩,fun hq=>by
      obtain ⟨v,hv⟩:=hqt hq
      exact ⟨v,by rw [hev]; exact hv a' w hrc⟩⟩
  · refine .inr ⟨hwant false hw,?_⟩
    rw [hd]
    exact next undef [] w ⟨rfl,rfl⟩ (hF.of0 (.refl _ _)) (fun _=>.refl _ _) (.nil _ _) fun s hs=>by
      unfold wantedAs at hw
      rw [opnd_guard hs] at hw
      cases hw
theorem Inv.step (hF:FrK Fk B1) {vals:Nat→Value} {ents:Nat→List Ent} {listed:Array Bool} {a:Act} {w:World} {i:Nat} {K:Act→World→Prop} (hok:RgOk l.toArray n late) (hl:Ds.length=n)
    (hparts:∀ i o,i < n→l[i]?=some o→∃ (d:Nat) (D:DV Fk),o.dst=some d∧Ds[i]?=some D∧Ob c P l.toArray N B1 w1 (factsC (l.take n) Ds Fc0 i) (factsE (l.take n) Ds i) o D∧fresh (factsC (l.take n) Ds Fc0 i) (factsE (l.take n) Ds i) d D)
    (hN:∀ i o d,i < n→l[i]?=some o→o.dst=some d→d < N) (hB:B1≤w1.heap.size)
    (inv:Inv c l n N B1 w1 Fc0 Ds vals ents listed a w) (hi:i < n) (hr:i∈Region.ready .any l.toArray listed)
    (k:∀ v L' a' w',Inv c l n N B1 w1 Fc0 Ds (fun j=>if j=i then v else vals j) (fun j=>if j=i then L' else ents j) (listed.setIfInBounds i true) a' w'→K a' w'):wpOp P l.toArray Q i K a w:=by
  obtain ⟨hun,o,ho,hall⟩:=mem_ready.1 hr
  have hol:l[i]?=some o:=by simpa using ho
  unfold wpOp
  rw [ho]
  dsimp only
  rcases inv.step0 hF hok hl hparts hN hB hi hr hol with ⟨hw,hy,_⟩ | ⟨hw,h⟩
  · rw [if_pos hw]
    left
    exact wp_of_yl hy fun v w' ⟨L',h⟩=>k v L' _ _ h
  · rw [hw]
    simp only [Bool.false_eq_true,if_false]
    exact k undef [] _ _ h
end
section
variable {c:Nat} {P:Program} {l:List Oper} {n N B1:Nat} {w1:World} {Fc0:List (Nat × Value)} {Fk:World→World→Prop} {Ds:List (DV Fk)} {Q:Exit→Act→World→Prop} {late:List Nat}
theorem wpAny_head (hF:FrK Fk B1) (hok:RgOk l.toArray n []) (hl:Ds.length=n)
    (hparts:∀ i o,i < n→l[i]?=some o→∃ (d:Nat) (D:DV Fk),o.dst=some d∧Ds[i]?=some D∧Ob c P l.toArray N B1 w1 (factsC (l.take n) Ds Fc0 i) (factsE (l.take n) Ds i) o D∧fresh (factsC (l.take n) Ds Fc0 i) (factsE (l.take n) Ds i) d D)
    (hN:∀ i o d,i < n→l[i]?=some o→o.dst=some d→d < N) (hB:B1≤w1.heap.size)
    (fin:∀ vals ents listed a w,Inv c l n N B1 w1 Fc0 Ds vals ents listed a w→(∀ j,j < n→listed.getD j false=true)→wpList P l.toArray Q (l.drop n) a w) :
    ∀ (m:Nat) (U:List Nat) (vals:Nat→Value) (ents:Nat→List Ent) (listed:Array Bool) (a:Act) (w:World),U.length=m→U.Nodup→(∀ j,j∈U ↔ j < l.length∧listed.getD j false=false) →
      Inv c l n N B1 w1 Fc0 Ds vals ents listed a w→wpAny P .any l.toArray Q m listed a w:=by
  intro m
  induction m with
  | zero =>
    intro U vals ents listed a w hU hnd hmem inv
    have hU0:U=[]:=List.eq_nil_of_length_eq_zero hU
    subst hU0
    have hall:∀ j,j < l.length→listed.getD j false=true:=fun j hj=>by
      cases hx:listed.getD j false with
      | true=>rfl
      | false=>have:=(hmem j).2 ⟨hj,hx⟩; simp at this
    have hn:n=l.length:=by
      have h1:=hok.le
      simp at h1
      by_cases e:n < l.length
      · have:=inv.tail n (Nat.le_refl _); rw [hall n e] at this; cases this
      · omega
    have h:=fin vals ents listed a w inv (fun j hj=>hall j (by omega))
    refine wpAny_tail hok 0 l.length listed a w (by omega) (by omega) inv.size (fun j hj=>?_) (by rw [← hn]; exact h)
    rw [getD_both_iff (by rw [inv.size]; exact hj),hall j hj]
    simp [hj]
  | succ m ih =>
    intro U vals ents listed a w hU hnd hmem inv
    by_cases hall:∀ j,j < n→listed.getD j false=true
    · have h:=fin vals ents listed a w inv hall
      have hle:=hok.le
      simp at hle
      have hcount:m + 1=l.length - n:=by
        rw [← hU]
        have:U.Perm ((List.range (l.length - n)).map (· + n)):=by
          refine (List.perm_ext_iff_of_nodup hnd ?_).2 fun j=>?_
          · exact List.Pairwise.map (R:=(· ≠ ·)) (S:=(· ≠ ·)) (· + n) (fun x y h=>by simp; exact h) List.nodup_range
          · rw [hmem]
            simp only [List.mem_map,List.mem_range]
            constructor
            · rintro ⟨h1,h2⟩
              refine ⟨j - n,?_,?_⟩
              · by_cases e:j < n
                · rw [hall j e] at h2; cases h2
                · omega
              · by_cases e:j < n
                · rw [hall j e] at h2; cases h2
                · omega
            · rintro ⟨x,h1,rfl⟩
              exact ⟨by omega,inv.tail _ (by omega)⟩
        rw [this.length_eq]; simp
      refine wpAny_tail hok (m + 1) n listed a w (by omega) (Nat.le_refl _) inv.size (fun j hj=>?_) h
      rw [getD_both_iff (by rw [inv.size]; exact hj)]
      by_cases e:j < n
      · rw [hall j e]; simp [e]
      · rw [inv.tail j (by omega)]; simp [e]
    · obtain ⟨j0,hj0,hl0⟩:∃ j,j < n∧listed.getD j false=false:=by
        apply Classical.byContradiction
        intro hn
        apply hall
        intro j hj
        cases hx:listed.getD j false with
        | true=>rfl
        | false=>exact absurd ⟨j,hj,hx⟩ hn
      have hle:=hok.le
      simp at hle
      refine ⟨fun h0=>?_,fun i hi=>?_⟩
      · obtain ⟨i,hi⟩:=exists_ready hok inv.size j0 (by omega) hl0
        rw [h0] at hi; cases hi
      · have hin:i < n:=by
          apply Classical.byContradiction
          intro hge
          obtain ⟨_,o,ho,hall2⟩:=mem_ready.1 hi
          have key:=anc_closed (ops:=l.toArray) (S:=fun j=>listed.getD j false=true) (fun i' o' hi' hs' e he hb=>inv.closed i' o' (by simpa using hi') hs' e he hb) 24 o j0 (fun e he hb=>hall2 e he hb) ((hok.tail i o ho (by omega) j0 (by omega)).resolve_left fun h=>by cases h)
          rw [hl0] at key
          cases key
        have hil:i < l.length:=by omega
        have hiU:i∈U:=(hmem i).2 ⟨hil,by
          have h1:=(mem_ready.1 hi).1
          rw [getD_both_iff (by rw [inv.size]; exact hil)] at h1
          exact h1⟩
        refine inv.step hF hok hl hparts hN hB hin hi fun v L' a' w' inv'=>?_
        refine ih (U.erase i) _ _ _ _ _ ?_ (hnd.erase i) (fun j=>?_) inv'
        · rw [List.length_erase_of_mem hiU,hU]; simp
        · rw [hnd.mem_erase_iff,hmem]
          by_cases e:j=i
          · subst e
            simp [show j < listed.size by rw [inv.size]; exact hil]
          · rw [getD_set_ne false (Ne.symm e)]
            simp [e]
theorem RG.mono {Fk:World→World→Prop} {c:Nat} {P:Program} {ops:Array Oper} {K K':List (Nat × Value)→Fes→Prop} (hm:∀ Fc Fe,K Fc Fe→K' Fc Fe):∀ (rest:List Oper) (Fc:List (Nat × Value)) (Fe:Fes),RG Fk c P ops N B1 w1 K Fc Fe rest→RG Fk c P ops N B1 w1 K' Fc Fe rest
  | [],Fc,Fe,h=>hm Fc Fe h
  | o::rest,Fc,Fe,⟨d,D,h1,h2,h3,h4⟩=>⟨d,D,h1,h2,h3,RG.mono hm rest _ _ h4⟩
theorem any_rgO {F:List (Nat × Value)} {w:World} {a:Act} (hF:FrK Fk w.heap.size) (n:Nat) (hB:rgB l.toArray n=true) (hd:dstB (l.take n) N=true) (hs:Know N F a)
    (h:RG Fk c P l.toArray N w.heap.size w (fun Fc Fe=>∀ a' w' L',Fk w w'→FeOk Fe a' w' L'→Know N Fc a'→Has w.heap.size w' L'→Links l n a'→wpList P l.toArray Q (l.drop n) a' w') F [] (l.take n)) :
    RegAny P Q l a w:=by
  have hok:RgOk l.toArray n []:=rgB_spec hB
  have hle:=hok.le
  simp at hle
  have htl:(l.take n).length=n:=by simp [hle]
  obtain ⟨Ds,hlen,hK,hparts⟩:=RG.parts F (l.take n) [] [] rfl h
  simp only [List.nil_append,htl] at hlen hK hparts
  have hget:∀ i o,i < n→l[i]?=some o→(l.take n)[i]?=some o:=fun i o hi ho=>by rw [List.getElem?_take_of_lt hi]; exact ho
  have hparts':∀ i o,i < n→l[i]?=some o→∃ (d:Nat) (D:DV Fk),o.dst=some d∧Ds[i]?=some D∧Ob c P l.toArray N w.heap.size w (factsC (l.take n) Ds F i) (factsE (l.take n) Ds i) o D∧fresh (factsC (l.take n) Ds F i) (factsE (l.take n) Ds i) d D :=
    fun i o hi ho=>hparts i o (by simp) (hget i o hi ho)
  have hN:∀ i o d,i < n→l[i]?=some o→o.dst=some d→d < N:=fun i o d hi ho hod=>by
    have:=List.all_eq_true.1 hd o (List.mem_of_getElem? (hget i o hi ho))
    rw [hod] at this
    exact lt_of_blt this
  unfold RegAny
  have hdr:Fk w { w with drawn:=w.drawn + 1 }:=hF.of0 (Fr.drew w)
  have hU:((List.range l.length).length=l.toArray.size):=by simp
  refine wpAny_head hF (w1:=w) (B1:=w.heap.size) (Ds:=Ds) (Fc0:=F) hok (by omega) hparts' hN (Nat.le_refl _) ?_ _ (List.range l.length) (fun _=>undef) (fun _=>[]) _ _ _ hU List.nodup_range ?_ ?_
  · intro vals ents listed a' w' inv hall
    have hds:∃ ds:Nat→Nat,∀ j o,(l.take n)[j]?=some o→o.dst=some (ds j):=by
      refine ⟨fun j=>(dstAt l.toArray j).getD 0,fun j o hj=>?_⟩
      have hjn:j < n:=by have:=(List.getElem?_eq_some_iff.1 hj).1; omega
      rw [List.getElem?_take_of_lt hjn] at hj
      obtain ⟨d',hd'⟩:=hok.dst j o (by simpa using hj) hjn
      simp [dstAt,hj,hd']
    obtain ⟨ds,hds⟩:=hds
    have hdsA:∀ j,j < n→dstAt l.toArray j=some (ds j):=fun j hj=>by
      have hjl:j < l.length:=by omega
      have:=hds j l[j] (by rw [List.getElem?_take_of_lt hj]; simp [hjl])
      simp [dstAt,hjl,this]
    have hfr':∀ j o D,(l.take n)[j]?=some o→Ds[j]?=some D→fresh (factsC (l.take n) Ds F j) (factsE (l.take n) Ds j) (ds j) D:=by
      intro j o' D' hj hDj
      have hjn:j < n:=by have:=(List.getElem?_eq_some_iff.1 hj).1; omega
      have hj':=hj
      rw [List.getElem?_take_of_lt hjn] at hj'
      obtain ⟨d2,D2,h1,h2,_,h4⟩:=hparts' j o' hjn hj'
      rw [hDj] at h2
      obtain rfl:=Option.some.inj h2
      have:=hds j o' hj
      rw [h1] at this
      obtain rfl:=Option.some.inj this
      exact h4
    have hknow:Know N (factsC (l.take n) Ds F n) a':=by
      refine ⟨inv.know.1,inv.know.2,fun s v hv=>?_⟩
      rcases factsC_src (Fc0:=F) hds (by omega) hfr' n (by omega) s v hv with ⟨j,hj,h1,h2⟩ | ⟨h1,h2⟩
      · obtain ⟨h4,h5⟩:=inv.done j s _ hj (hall j hj) (by rw [hdsA j hj,h1]) h2
        rw [h4,h5.1]
      · exact inv.base s v h1 fun j hj _ hdj=>by
          rw [hdsA j hj] at hdj
          exact h2 j hj (Option.some.inj hdj)
    have hfe:∀ i,i≤n→∃ L'',FeOk (factsE (l.take n) Ds i) a' w' L''∧L''.Perm ((List.range i).flatMap ents):=by
      intro i
      induction i with
      | zero=>intro _; exact ⟨[],rfl,by simp⟩
      | succ i ih =>
        intro hi
        obtain ⟨L'',h1,h2⟩:=ih (by omega)
        have hil:i < (l.take n).length:=by omega
        have ho:(l.take n)[i]?=some (l.take n)[i]:=List.getElem?_eq_getElem hil
        have hD:Ds[i]?=some (Ds[i]'(by omega)):=List.getElem?_eq_getElem (by omega)
        have hdi:=hds i _ ho
        obtain ⟨h4,h5⟩:=inv.done i (ds i) _ (by omega) (hall i (by omega)) (hdsA i (by omega)) hD
        simp only [factsE,ho,hD,hdi,List.range_succ,List.flatMap_append]
        generalize Ds[i]'(by omega)=D at *
        cases D with
        | c u=>exact ⟨L'',h1,by simp [h5.2]; exact h2⟩
        | e E st =>
          refine ⟨ents i++L'',⟨vals i,ents i,L'',h4,h5,h1,rfl⟩,?_⟩
          simp only [List.flatMap_cons,List.flatMap_nil,List.append_nil]
          exact (List.Perm.append_left _ h2).trans List.perm_append_comm
    obtain ⟨L'',hf1,hf2⟩:=hfe n (Nat.le_refl _)
    have hhas:Has w.heap.size w' L'':=by
      have:(List.range n).flatMap (fun j=>if listed.getD j false=true then ents j else [])=(List.range n).flatMap ents:=flatMap_same _ _ _ fun j hj=>by rw [if_pos (hall j (List.mem_range.1 hj))]
      have hh:=inv.has
      rw [this] at hh
      exact hh.perm hf2
    refine hK a' w' L'' inv.fr hf1 hknow hhas fun j oj dj s hj hoj hdj hos hsf=>?_
    obtain ⟨d2,D2,h1,h2,_,_⟩:=hparts' j oj hj hoj
    rw [hdj] at h1
    obtain rfl:=Option.some.inj h1
    exact ⟨vals j,(inv.done j dj D2 hj (hall j hj) (by simp [dstAt,hoj,hdj]) h2).1,inv.links j oj s hj hoj (hall j hj) hos hsf⟩
  · intro j
    simp
    intro hj
    simp [Array.getElem?_replicate,hj]
  · refine ⟨by simp,⟨hs.size,hs.defers⟩,fun j d D hj hl'=>?_,fun s v hv _=>hs.at_ s v hv,?_,hdr,fun _=>Fr.drew w,fun t _=>?_,fun j o _ hl'=>?_,fun j o s _ _ hl'=>?_⟩
    · simp [Array.getElem?_replicate] at hl'
      split at hl' <;> simp at hl'
    · have:∀ r:List Nat,r.flatMap (fun j=>if (Array.replicate l.toArray.size false).getD j false=true then ([]:List Ent) else [])=[]:=fun r=>by induction r with | nil=>rfl | cons x t ih=>simp
      rw [this]
      exact .nil _ _
    · simp [Array.getElem?_replicate]
      split <;> simp
    · simp [Array.getElem?_replicate] at hl'
      split at hl' <;> simp at hl'
    · simp [Array.getElem?_replicate] at hl'
      split at hl' <;> simp at hl'
end
end Go.FwO
end

section
/- The steps of such regions. -/
namespace Go.FwO
open Go Go.Fw
section
variable {cc:Nat} {P:Program} {l:List Oper} {n N:Nat} {Q:Exit→Act→World→Prop} {Fk:World→World→Prop}
theorem wp_region_rgO {id:Nat} {F:List (Nat × Value)} {w:World} {a:Act} (hm:P.follows .mixedOrders=true) (hF:FwK.FrK Fk w.heap.size) (n:Nat) (hB:rgB l.toArray n=true) (hd:dstB (l.take n) N=true) (hs:Know N F a)
    (h:RG Fk cc P l.toArray N w.heap.size w (fun Fc Fe=>∀ a' w' L',Fk w w'→FeOk Fe a' w' L'→Know N Fc a'→Has w.heap.size w' L'→FwK.Links l n a'→wpList P l.toArray Q (l.drop n) a' w') F [] (l.take n)) :
    (Code.region id l.toArray true).wp P Q a w:=wp_region_any hm (any_rgO hF n hB hd hs h)
end
section
variable {cc:Nat} {P:Program} {ops:Array Oper} {N B1:Nat} {w1:World} {Fk:World→World→Prop} {K:List (Nat × Value)→Fes→Prop} {Fc:List (Nat × Value)} {Fe:Fes} {rest:List Oper}
variable {d:Tmp} {op:Op} {ty:TypeId} {pos:String} {aft:Array Edge} {x y z:Operand} {t u:TypeId}
theorem RC.ev {o:Oper} {a:Act} {w:World} {x:Operand} {v:Value} (h:RC Fk cc N Fc Fe o B1 w1 a w) (hx:ev Fc x=some v):a.eval x=v:=h.know.eval hx
theorem rg_nil (h:K Fc Fe):RG Fk cc P ops N B1 w1 K Fc Fe []:=h
theorem rg_q (hK:FwK.FrK Fk B1) {v:Value} (h:∀ a w,RC Fk cc N Fc Fe ⟨some d,op,ty,pos,aft,none⟩ B1 w1 a w→(execOp a.eval ⟨some d,op,ty,pos,aft,none⟩).run P w=.ok (.value v) w) (hE:lookE Fe d=none)
    (k:RG Fk cc P ops N B1 w1 K ((d,v)::Fc) Fe rest):RG Fk cc P ops N B1 w1 K Fc Fe (⟨some d,op,ty,pos,aft,none⟩::rest) :=
  ⟨d,.c v,rfl,⟨.inl ⟨rfl,fun a w hc=>by rw [h a w hc]; exact ⟨[],⟨rfl,rfl⟩,hK.of0 (.refl _ _),(fun _=>.refl _ _),.nil _ _⟩⟩,fun _=>⟨v,h⟩⟩,hE,k⟩
theorem rg_yes (hK:FwK.FrK Fk B1) {v:Value} {j s:Nat} {b:Bool} (hj:(ops[j]?).bind (·.dst)=some s) (hb:Fw.look Fc s=some (.bool b))
    (h:∀ a w,RC Fk cc N Fc Fe ⟨some d,op,ty,pos,aft,some (j,b)⟩ B1 w1 a w→(execOp a.eval ⟨some d,op,ty,pos,aft,some (j,b)⟩).run P w=.ok (.value v) w) (hE:lookE Fe d=none)
    (k:RG Fk cc P ops N B1 w1 K ((d,v)::Fc) Fe rest):RG Fk cc P ops N B1 w1 K Fc Fe (⟨some d,op,ty,pos,aft,some (j,b)⟩::rest) :=
  ⟨d,.c v,rfl,⟨.inl ⟨by simp [wantedAs,hj,hb],fun a w hc=>by rw [h a w hc]; exact ⟨[],⟨rfl,rfl⟩,hK.of0 (.refl _ _),(fun _=>.refl _ _),.nil _ _⟩⟩,fun h=>by cases h⟩,hE,k⟩
theorem rg_e (hK:FwK.FrK Fk B1) (E:Value→List Ent→World→Prop) (st:∀ v L w w',Fk w w'→E v L w→E v L w')
    (h:∀ a w,RC Fk cc N Fc Fe ⟨some d,op,ty,pos,aft,none⟩ B1 w1 a w→Yl P (fun v w'=>∃ L',E v L' w'∧Fr0 w w'∧Has w.heap.size w' L') ((execOp a.eval ⟨some d,op,ty,pos,aft,none⟩).run P w)) (hC:Fw.look Fc d=none)
    (k:RG Fk cc P ops N B1 w1 K Fc ((d,E)::Fe) rest) (hq:needQ ⟨some d,op,ty,pos,aft,none⟩=false:=by rfl):RG Fk cc P ops N B1 w1 K Fc Fe (⟨some d,op,ty,pos,aft,none⟩::rest) :=
  ⟨d,.e E st,rfl,⟨.inl ⟨rfl,fun a w hc=>(h a w hc).mono fun v w' ⟨L',h1,h2,h3⟩=>⟨L',h1,hK.of0 h2,fun _=>h2,h3⟩⟩,fun h=>by rw [hq] at h; cases h⟩,hC,k⟩
theorem rg_bslice (hK:FwK.FrK Fk B1) {E:TypeId} {ed:TypeDesc} {s bytes n:Nat} {z zs:List Value} {ps:Array (Nat × Operand)} {vs:List Value} (hu:P.underlying t=some (.slice E)) (hE:Ty P E ed s bytes z)
    (hps:∀ a w,RC Fk cc N Fc Fe ⟨some d,.buildSlice t n ps,ty,pos,aft,none⟩ B1 w1 a w→Evp a 0 ps.toList vs) (hn:vs.length=n) (hv:∀ v∈vs,v.cells.size=s) (hsmall:n * s≤16777216) (hz:flatCells vs=zs) (hC:Fw.look Fc d=none)
    (k:RG Fk cc P ops N B1 w1 K Fc ((d,fun v L _=>∃ g,v=.slice (some ⟨g,0,none⟩) n n∧L=[.seg g zs E])::Fe) rest):RG Fk cc P ops N B1 w1 K Fc Fe (⟨some d,.buildSlice t n ps,ty,pos,aft,none⟩::rest) :=
  rg_e hK _ (fun _ _ _ _ _ h=>h) (fun a w hc=>by rw [c_bslice hu hE (hps a w hc) hn hv hsmall,hz]; exact ⟨_,⟨_,rfl,rfl⟩,(.alloc _ _),has_alloc⟩) hC k
theorem rg_call (hK:FwK.FrK Fk B1) {f:FuncId} {args:Array Operand} {vs:List Value} {tys:Array TypeId} {c:Value} (hF:Fun P f)
    (hargs:∀ a w,RC Fk cc N Fc Fe ⟨some d,.call { callee:=.value (.func f),args:=args,argTypes:=tys },ty,pos,aft,none⟩ B1 w1 a w→Evs a args.toList vs)
    (hc:∀ w,Fk w1 w→Ctr P f vs w (fun _=>False) fun v _=>v=c) (hE:lookE Fe d=none)
    (k:RG Fk cc P ops N B1 w1 K ((d,c)::Fc) Fe rest):RG Fk cc P ops N B1 w1 K Fc Fe (⟨some d,.call { callee:=.value (.func f),args:=args,argTypes:=tys },ty,pos,aft,none⟩::rest) :=
  ⟨d,.c c,rfl,⟨.inl ⟨rfl,fun a w h=>by
    rw [run_call hF (hargs a w h)]
    exact Calls.mono (hc w h.fr) fun e w' ⟨v,he,hf,hv⟩=>⟨v,he,[],⟨hv,rfl⟩,hK.of0 hf,(fun _=>hf),.nil _ _⟩⟩,fun h=>by cases h⟩,hE,k⟩
end
section
variable {cc:Nat} {P:Program} {ops:Array Oper} {N B1:Nat} {w1:World} {Fk:World→World→Prop} {K:List (Nat × Value)→Fes→Prop} {Fc:List (Nat × Value)} {Fe:Fes} {rest:List Oper}
variable {d:Tmp} {op:Op} {ty:TypeId} {pos:String} {aft:Array Edge} {x y z:Operand} {t u:TypeId}
theorem rg_strip {j s:Nat} {b:Bool} (hj:(ops[j]?).bind (·.dst)=some s) (hb:Fw.look Fc s=some (.bool b)) (k:RG Fk cc P ops N B1 w1 K Fc Fe (⟨some d,op,ty,pos,aft,none⟩::rest)) :
    RG Fk cc P ops N B1 w1 K Fc Fe (⟨some d,op,ty,pos,aft,some (j,b)⟩::rest):=by
  obtain ⟨d',D,h1,h2,h3,h4⟩:=k
  refine ⟨d',D,h1,?_,h3,h4⟩
  refine ⟨?_,fun h=>by cases h⟩
  rcases h2.1 with ⟨_,h⟩ | ⟨h,_⟩
  · exact .inl ⟨by simp [wantedAs,hj,hb],fun a w hc=>h a w ⟨hc.know,hc.fr,hc.fr0,hc.ents⟩⟩
  · simp [wantedAs] at h
end
section
variable {cc:Nat} {P:Program} {ops:Array Oper} {N B1:Nat} {w1:World} {Fk:World→World→Prop} {K:List (Nat × Value)→Fes→Prop} {Fc:List (Nat × Value)} {Fe:Fes} {rest:List Oper}
variable {d:Tmp} {op:Op} {ty:TypeId} {pos:String} {aft:Array Edge} {x y z:Operand} {t u:TypeId}
end
def KeepB (kp:Obj→Bool) (a b:World):Prop:=∀ (g:Nat) (x:Obj),a.heap[g]?=some x→kp x=true→b.heap[g]?=some x
abbrev FkO (M:Nat→Prop) (kp:Obj→Bool) (R:World→World→Prop):World→World→Prop:=fun a b=>Fr M a b∧KeepB kp a b∧R a b
section
variable {cc:Nat} {N B1:Nat} {w1:World} {M:Nat→Prop} {kp:Obj→Bool} {R:World→World→Prop} {Fc:List (Nat × Value)} {Fe:Fes}
theorem RC.blk {o:Oper} {a:Act} {w:World} {g:Nat} {x:Obj} (h:RC (FkO M kp R) cc N Fc Fe o B1 w1 a w) (hb:w1.heap[g]?=some x) (hk:kp x=true:=by rfl):w.heap[g]?=some x:=h.fr.2.1 g x hb hk
end
end Go.FwO
end

section
/- Frames put together again; a block owned once more; openings of []int. -/
namespace Go.Fw
section
open Go
variable {N:Nat} {F F0:List (Nat × Value)} {L L0:List Ent} {M:Nat→Prop} {w0 w1 w:World} {a a0:Act}
theorem St.own1 {g:Nat} {cs:List Value} {T:TypeId} (h:Know N F a) (hb:w.heap[g]?=some (.cells cs.toArray T (0,0))):St N F [.seg g cs T] (fun k=>k=g) w a w :=
  ⟨h,⟨fun e he=>by simp only [List.mem_singleton] at he; subst he; exact hb,List.pairwise_singleton _ _,fun e he k hk=>by
    simp only [List.mem_singleton] at he
    subst he
    have hk:k=g:=hk
    subst hk
    exact heap_lt hb,fun _ _ _ _=>Nat.zero_le _⟩,fun e he k hk=>by
    simp only [List.mem_singleton] at he
    subst he
    exact .inr hk,Fr.refl _ _⟩
end
section
open Go Go.ChangeShapes Go.WideShapes Go.ChangeAt Go.RowKit
variable {H:Type} {enc:TypeId × Value→H} {P:Program} {w:World} {base:Nat} {spare:Nat→Bool} {held:Bool} {fuel:Nat} {t e u:TypeId} {cs:List Value} {x:DataW H × List MemPlace} {v:Value} {d:DataW H} {ps:List MemPlace} {r:Reach} {b0:Nat}
end
end Go.Fw
end

section
/- Structs of which some fields alone are given. -/
namespace Go.Fw
open Go
inductive EvQ (a:Act):List (Nat × Operand)→List (Nat × Value)→Prop
  | nil:EvQ a [] []
  | cons {k:Nat} {x:Operand} {v:Value} {xs:List (Nat × Operand)} {vs:List (Nat × Value)} (h:a.eval x=v) (t:EvQ a xs vs):EvQ a ((k,x)::xs) ((k,v)::vs)
theorem EvQ.map {a:Act} {xs:List (Nat × Operand)} {vs:List (Nat × Value)} (h:EvQ a xs vs):(xs.map fun p=>(p.1,a.eval p.2))=vs:=by
  induction h with
  | nil=>rfl
  | cons h _ ih=>rw [List.map_cons,ih,h]
section
variable {P:Program} {a:Act} {w:World} {d:Option Tmp} {ty:TypeId} {pos:String} {aft:Array Edge} {g:Option (Nat × Bool)} {t:TypeId}
theorem c_buildQ {bytes sz:Nat} {td:TypeDesc} {zs zc:List Value} {pl:Array (Nat × Nat)} {ps:Array (Nat × Operand)} {qs:List (Nat × Value)} (hT:Ty P t td sz bytes zs) (hB:BP P t pl)
    (hps:EvQ a ps.toList qs) (hf:Instr.fill (fun i=>pl[i]?) zs.toArray qs=some zc.toArray) :
    (execOp a.eval ⟨d,.build t ps,ty,pos,aft,g⟩).run P w=.ok (.value (.agg zc.toArray)) w:=by
  obtain ⟨v,hzv,hzc⟩:=hT.zero (w:=w)
  obtain ⟨hb1,hb2⟩:=hB
  have hb3:=hb2 w
  simp only [bind_pure_comp] at hb3
  simp [execOp,Instr.build,hzv,hzc,run_underlying hb1,hb3,hps.map,hf]
end
section
variable {P:Program} {ops:Array Oper} {Q:Exit→Act→World→Prop} {rest:List Oper} {N:Nat} {F F':List (Nat × Value)} {L L':List Ent} {M:Nat→Prop} {w0 w:World} {a:Act}
variable {d:Tmp} {op:Op} {ty:TypeId} {pos:String} {aft:Array Edge} {x y z:Operand} {t u:TypeId}
end
section
variable {P:Program} {ops:Array Oper} {N B1:Nat} {w1:World} {K:List (Nat × Value)→Fes→Prop} {Fc:List (Nat × Value)} {Fe:Fes} {rest:List Oper}
variable {d:Tmp} {op:Op} {ty:TypeId} {pos:String} {aft:Array Edge}
end
end Go.Fw
end

section
/- Copying into the midst of a block; numbers of sixteen bits; what an owned slice's head is. -/
namespace Go.Fw
open Go
section
variable {P:Program} {ops:Array Oper} {Q:Exit→Act→World→Prop} {rest:List Oper} {N:Nat} {F F':List (Nat × Value)} {L L':List Ent} {M:Nat→Prop} {w0 w:World} {a:Act}
variable {d:Tmp} {op:Op} {ty:TypeId} {pos:String} {aft:Array Edge} {x y z:Operand} {t u:TypeId}
theorem s_copyAt {i g o n c:Nat} {l p:List UInt8} {T dT sT E:TypeId} {ed:TypeDesc} {zs:List Value} {v:Value} (hs:St N F L M w0 a w) (hu:P.underlying dT=some (.slice E)) (hE:Ty P E ed 1 1 zs)
    (hx:ev F x=some (.slice (some ⟨g,o,none⟩) n c)) (hy:ev F y=some v) (hi:L[i]?=some (.seg g (l.map B) T)) (hr:RdB w v p) (hp:p.length=n) (hn:o + n≤l.length) (hd:Nat.blt d N=true)
    (k:∀ a w,St N ((d,I (n:Nat))::F) (L.set i (.seg g ((l.take o++p++l.drop (o + n)).map B) T)) M w0 a w→wpList P ops Q rest a w) :
    wpList P ops Q (⟨some d,.call { callee:=.builtin .copy,args:=#[x,y],argTypes:=#[dT,sT] },ty,pos,aft,none⟩::rest) a w:=by
  subst hp
  have hg:=hs.seg hi
  obtain ⟨inf,hi1,hi2,_⟩:=hE.info
  have hsz:(P.info? E).map (·.size)=some 1:=by rw [hi1]; simp [hi2]
  have key:∃ w',(Builtin.copy_ #[dT,sT] ty #[.slice (some ⟨g,o,none⟩) p.length c,v]).run P w=.ok (I (p.length:Nat)) w'∧Fr (·=g) w w' ∧
      w'.heap[g]?=some (.cells ((l.take o++p++l.drop (o + p.length)).map B).toArray T (0,0)):=by
    rcases hr.src with ⟨rfl,h2,_⟩ | ⟨ad,cap,rfl,hc⟩
    · refine ⟨w,?_,.refl _ _,?_⟩
      · rw [run_copy_nil P w dT sT ty E _ _ _ hu (by rw [hsz]; rfl)]
        simp [h2,goInt]
      · have hp:p=[]:=List.eq_nil_of_length_eq_zero h2
        subst hp
        simpa using hg
    · have hlen:(p.map B).length=Nat.min p.length p.length:=by simp
      have hrun:=run_copy_row (P:=P) w dT sT ty E g o p.length c ad p.length cap (l.map B).toArray T (p.map B) hu hsz hg hlen (fun j v hj=>hc j v hj) (by simp; omega) (by intro v hv; obtain ⟨b,_,rfl⟩:=List.mem_map.1 hv; rfl)
      have hres:((l.map B).toArray.toList.take o++p.map B++(l.map B).toArray.toList.drop (o + (p.map B).length))=(l.take o++p++l.drop (o + p.length)).map B:=by
        simp
      rw [hres,List.length_map] at hrun
      exact ⟨_,hrun,.setRow _ _ _,setRow_heap w g _ _ T (0,0) hg⟩
  obtain ⟨w',hrun,hf,hg'⟩:=key
  have hrun':(execOp a.eval ⟨some d,.call { callee:=.builtin .copy,args:=#[x,y],argTypes:=#[dT,sT] },ty,pos,aft,none⟩).run P w=.ok (.value (I (p.length:Nat))) w':=by
    simp [execOp,resolve,invoke,builtin,hs.ev hx,hs.ev hy,hrun]
  refine wpList_plain rfl fun K hK=>upon_value hrun' (hK _ _ (k _ _ ?_))
  refine (hs.mod (e':=.seg g ((l.take o++p++l.drop (o + p.length)).map B) T) hi hf hg' fun k hk=>⟨.inl hk,?_⟩).put (lt_of_blt hd) _
  obtain rfl:k=g:=hk
  exact heap_lt hg'
end
/-! numbers of sixteen bits -/
section
variable {P:Program} {a:Act} {w:World} {d:Option Tmp} {ty:TypeId} {pos:String} {aft:Array Edge} {g:Option (Nat × Bool)} {x y z:Operand} {t u:TypeId} {p q:UInt16}
end
theorem owns_cut0 {w:World} {n cap sz:Nat} {ad:Option Addr} {T:TypeId} {xs:List Value} (h:w.ownsRow 0 T sz (.slice ad n cap) n xs):(if cap=0 then ad else ad.map (·.add 0))=ad:=by
  obtain ⟨h1,h2⟩:=h
  rcases h2 with ⟨h3,_⟩ | ⟨g,cap',cur,h3,_⟩
  · cases h3; rfl
  · cases h3
    split <;> rfl
end Go.Fw
end

section
/- The device: what its calls come to,in plain words. -/
namespace Go.Proofs.Ytkecdcmjkghddaa
open Go Go.Fw
structure Wr where
  p:Nat
  b:List UInt8
  deriving Inhabited
def Wr.c (x:Wr):List Value:=I x.p::x.b.map B
def wrC (q:List Wr):List Value:=q.flatMap Wr.c
def Wr.Ok (n:Nat) (x:Wr):Prop:=x.b.length=64∧x.p < n
theorem Wr.c_len {n:Nat} {x:Wr} (h:x.Ok n):x.c.length=65:=by simp [Wr.c,h.1]
theorem wr_at {q:List Wr} {k:Nat} (h:k < q.length):q.getD k default=q[k]:=by simp [List.getD_eq_getElem?_getD,h]
theorem wr_ok {n:Nat} {q:List Wr} (hq:∀ x∈q,x.Ok n) {k:Nat} (h:k < q.length):(q.getD k default).Ok n:=by
  rw [wr_at h]; exact hq _ (List.getElem_mem h)
theorem wrC_app (q r:List Wr):wrC (q++r)=wrC q++wrC r:=by simp [wrC]
theorem wrC_one (x:Wr):wrC [x]=x.c:=by simp [wrC]
theorem wrC_piece {n:Nat}:∀ {q:List Wr} {k:Nat},(∀ x∈q,x.Ok n)→k < q.length→((wrC q).drop (k * 65)).take 65=(q.getD k default).c
  | [],k,_,h=>absurd h (by simp)
  | x::q,0,h,_=>by
    have h2:=Wr.c_len (h x (List.mem_cons_self ..))
    simp [wrC,h2]
  | x::q,k + 1,h,hk=>by
    have h1:=wrC_piece (n:=n) (k:=k) (fun y hy=>h y (List.mem_cons_of_mem _ hy)) (show k < q.length by simpa using hk)
    have h2:=Wr.c_len (h x (List.mem_cons_self ..))
    rw [show (k + 1) * 65=x.c.length + k * 65 by omega]
    show (List.take 65 (List.drop (x.c.length + k * 65) (x.c++wrC q)))=_
    rw [← List.drop_drop,List.drop_left,h1]
    rfl
theorem wr_piece {n:Nat} {all:List Value} {k:Nat} {q:List Wr} (hq:∀ x∈q,x.Ok n) (h:all.take (q.length * 65)=wrC q) (hk:k < q.length):(all.drop (0 + k * 65)).take 65=(q.getD k default).c:=by
  have h2:((all.take (q.length * 65)).drop (k * 65)).take 65=((wrC q).drop (k * 65)).take 65:=by rw [h]
  rw [List.drop_take,List.take_take,Nat.min_eq_left (by omega),wrC_piece hq hk] at h2
  rw [Nat.zero_add,h2]
theorem wr_cell {n:Nat} {all:List Value} {k:Nat} {q:List Wr} (hq:∀ x∈q,x.Ok n) (h:all.take (q.length * 65)=wrC q) (hk:k < q.length):all[0 + k * 65 + 0]?=some (I (q.getD k default).p):=by
  have h1:=wr_piece hq h hk
  have h2:=congrArg (fun l:List Value=>l[0]?) h1
  simp only [List.getElem?_take,List.getElem?_drop] at h2
  simpa [Wr.c] using h2
theorem wr_body {n:Nat} {all:List Value} {k:Nat} {q:List Wr} (hq:∀ x∈q,x.Ok n) (h:all.take (q.length * 65)=wrC q) (hk:k < q.length):(all.drop (0 + k * 65 + 1)).take 64=(q.getD k default).b.map B:=by
  have h1:=wr_piece hq h hk
  have h2:=congrArg (fun l:List Value=>l.drop 1) h1
  simp only [List.drop_take,List.drop_drop] at h2
  simpa [Wr.c] using h2
def putW (xs:List UInt8) (x:Wr):List UInt8:=xs.take (x.p * 64)++x.b++xs.drop (x.p * 64 + 64)
def putQ (xs:List UInt8) (q:List Wr):List UInt8:=q.foldl putW xs
def tearW (xs:List UInt8) (x:Wr) (t:Nat):List UInt8:=xs.take (x.p * 64)++x.b.take t++xs.drop (x.p * 64 + t)
def sec (xs:List UInt8) (j:Nat):List UInt8:=(xs.drop (j * 64)).take 64
theorem putW_len {n:Nat} {xs:List UInt8} {x:Wr} (hx:xs.length=n * 64) (h:x.Ok n):(putW xs x).length=n * 64:=by
  obtain ⟨h1,h2⟩:=h
  have:x.p * 64 + 64≤n * 64:=by omega
  simp [putW,h1,hx]
  omega
theorem tearW_len {n t:Nat} {xs:List UInt8} {x:Wr} (hx:xs.length=n * 64) (h:x.Ok n) (ht:t≤64):(tearW xs x t).length=n * 64:=by
  obtain ⟨h1,h2⟩:=h
  have:x.p * 64 + 64≤n * 64:=by omega
  simp [tearW,h1,hx]
  omega
theorem putQ_len {n:Nat}:∀ {q:List Wr} {xs:List UInt8},xs.length=n * 64→(∀ x∈q,x.Ok n)→(putQ xs q).length=n * 64
  | [],xs,hx,_=>hx
  | x::q,xs,hx,h=>putQ_len (q:=q) (putW_len hx (h x (List.mem_cons_self ..))) fun y hy=>h y (List.mem_cons_of_mem _ hy)
theorem putQ_succ {xs:List UInt8} {q:List Wr} {k:Nat} (h:k < q.length):putQ xs (q.take (k + 1))=putW (putQ xs (q.take k)) (q.getD k default):=by
  rw [putQ,putQ,List.take_add_one,List.foldl_append,wr_at h,List.getElem?_eq_getElem h]
  rfl
theorem take_ok {n k:Nat} {q:List Wr} (h:∀ x∈q,x.Ok n):∀ x∈q.take k,x.Ok n:=fun x hx=>h x (List.mem_of_mem_take hx)
theorem sec_len {n j:Nat} {xs:List UInt8} (hx:xs.length=n * 64) (h:j < n):(sec xs j).length=64:=by
  have:j * 64 + 64≤n * 64:=by omega
  simp [sec,hx]
  omega
theorem sec_tear {n t j:Nat} {xs:List UInt8} {x:Wr} (hx:xs.length=n * 64) (h:x.Ok n) (ht:t≤64) (hj:j < n):sec (tearW xs x t) j=if j=x.p then x.b.take t++(sec xs j).drop t else sec xs j:=by
  obtain ⟨h1,h2⟩:=h
  have a1:x.p * 64 + 64≤n * 64:=by omega
  have a2:j * 64 + 64≤n * 64:=by omega
  unfold sec tearW
  split
  · rename_i e
    subst e
    rw [List.append_assoc,List.drop_left' (by simp; omega),List.take_append,List.take_of_length_le (by simp; omega)]
    simp only [List.length_take,h1,Nat.min_eq_left ht,List.drop_take,List.drop_drop]
  · rename_i e
    apply List.ext_getElem?
    intro i
    simp only [List.getElem?_take,List.getElem?_drop,List.getElem?_append,List.length_append,List.length_take,hx,h1]
    by_cases hi:i < 64
    · rw [if_pos hi,if_pos hi,Nat.min_eq_left (show x.p * 64≤n * 64 by omega),Nat.min_eq_left ht]
      by_cases c1:j * 64 + i < x.p * 64
      · rw [if_pos (by omega),if_pos c1,if_pos (by omega)]
      · rw [if_neg (by omega),show x.p * 64 + t + (j * 64 + i - (x.p * 64 + t))=j * 64 + i by omega]
    · rw [if_neg hi,if_neg hi]
theorem tear_full {xs:List UInt8} {x:Wr} {n:Nat} (h:x.Ok n):tearW xs x 64=putW xs x:=by
  unfold tearW putW
  rw [show x.b.take 64=x.b from List.take_of_length_le (by rw [h.1]; omega)]
theorem sec_put {n j:Nat} {xs:List UInt8} {x:Wr} (hx:xs.length=n * 64) (h:x.Ok n) (hj:j < n):sec (putW xs x) j=if j=x.p then x.b else sec xs j:=by
  rw [← tear_full h,sec_tear hx h (Nat.le_refl _) hj,List.take_of_length_le (by rw [h.1]; omega)]
  split
  · rw [List.drop_of_length_le (by rw [sec_len hx hj]; omega),List.append_nil]
  · rfl
def ofW (q:List Wr) (j:Nat) (first:List UInt8):List UInt8:=q.foldl (fun f x=>if x.p=j then x.b else f) first
theorem ofW_app (q r:List Wr) (j:Nat) (f:List UInt8):ofW (q++r) j f=ofW r j (ofW q j f):=List.foldl_append ..
theorem ofW_succ {q:List Wr} {k j:Nat} {f:List UInt8} (h:k < q.length):ofW (q.take (k + 1)) j f=if (q.getD k default).p=j then (q.getD k default).b else ofW (q.take k) j f:=by
  rw [ofW,List.take_add_one,List.foldl_append,wr_at h,List.getElem?_eq_getElem h]
  rfl
theorem ofW_len {n j:Nat}:∀ {q:List Wr} {f:List UInt8},f.length=64→(∀ x∈q,x.Ok n)→(ofW q j f).length=64
  | [],f,hf,_=>hf
  | x::q,f,hf,h=>by
    refine ofW_len (q:=q) (n:=n) (f:=if x.p=j then x.b else f) ?_ (fun y hy=>h y (List.mem_cons_of_mem _ hy))
    split
    · exact (h x (List.mem_cons_self ..)).1
    · exact hf
theorem ofW_none {j:Nat}:∀ {q:List Wr} {f:List UInt8},(∀ x∈q,¬ x.p=j)→ofW q j f=f
  | [],_,_=>rfl
  | x::q,f,h=>by
    simp only [ofW,List.foldl_cons,if_neg (h x (List.mem_cons_self ..))]
    exact ofW_none (q:=q) fun y hy=>h y (List.mem_cons_of_mem _ hy)
theorem ofW_hit {j k:Nat} {q:List Wr} {f:List UInt8} (hk:k < q.length) (he:(q.getD k default).p=j) (hn:∀ i,k < i→i < q.length→¬ (q.getD i default).p=j):ofW q j f=(q.getD k default).b:=by
  rw [← List.take_append_drop (k + 1) q,ofW_app,ofW_none (q:=q.drop (k + 1)),ofW_succ hk,if_pos he]
  · rw [List.take_append_drop]
  · intro x hx
    obtain ⟨i,hi,rfl⟩:=List.getElem_of_mem hx
    simp only [List.length_drop] at hi
    have:=hn (k + 1 + i) (by omega) (by omega)
    rw [wr_at (by omega)] at this
    simpa using this
theorem ofW_miss {j:Nat} {q:List Wr} {f:List UInt8} (hn:∀ i,i < q.length→¬ (q.getD i default).p=j):ofW q j f=f :=
  ofW_none fun x hx=>by
    obtain ⟨i,hi,rfl⟩:=List.getElem_of_mem hx
    have:=hn i hi
    rwa [wr_at hi] at this
structure Sl where
  n:Nat
  xs:List UInt8
  q:List Wr
  fuse:Int
  down:Bool
  steps:Nat
  deriving Inhabited
structure Sl.Ok (s:Sl):Prop where
  n1:s.n≤4096
  xl:s.xs.length=s.n * 64
  qo:∀ x∈s.q,x.Ok s.n
  f1:-1≤s.fuse
  f2:s.fuse≤9223372036854775807
def newS (n:Nat):Sl:=⟨n,List.replicate (n * 64) 0,[],-1,false,0⟩
def Sl.up (s:Sl):Int:=if s.down=true then 5 else 0
def Sl.off (s:Sl):Sl:={ s with down:=true }
def Sl.on (s:Sl):Sl:={ s with fuse:=if 0 < s.fuse then s.fuse - 1 else s.fuse,steps:=s.steps + 1 }
def Sl.pow (s:Sl):Sl:=if s.fuse=0 then s.off else s.on
def Sl.write (s:Sl) (j:Int) (b:List UInt8):Int × Sl :=
  if s.down=true then (5,s) else if j < 0∨s.n≤j then (1,s) else if s.fuse=0 then (5,s.off) else (0,{ s.on with q:=s.q++[⟨j.toNat,b⟩] })
def Sl.flush (s:Sl):Int × Sl:=if s.down=true then (5,s) else if s.fuse=0 then (5,s.off) else (0,{ s.on with xs:=putQ s.xs s.q,q:=[] })
def Sl.fus (s:Sl) (n:Int):Int × Sl:=if s.down=true then (5,s) else (0,{ s with fuse:=max n (-1) })
def zero64:List UInt8:=List.replicate 64 0
def Sl.read (s:Sl) (j:Int):List UInt8 × Int:=if s.down=true then (zero64,5) else if j < 0∨s.n≤j then (zero64,1) else (ofW s.q j.toNat (sec s.xs j.toNat),0)
def clampN (n:Int) (m:Nat):Nat:=min n.toNat m
def Sl.crash (s:Sl) (wr by_:Int):Sl :=
  { s with xs:=(if clampN wr s.q.length < s.q.length then tearW (putQ s.xs (s.q.take (clampN wr s.q.length))) (s.q.getD (clampN wr s.q.length) default) (clampN by_ 64) else putQ s.xs (s.q.take (clampN wr s.q.length))),q:=[],fuse:=-1,down:=false }
theorem clampN_eq (n:Int) (m:Nat):max 0 (min n (m:Int))=(clampN n m:Int):=by unfold clampN; omega
theorem clampN_le (n:Int) (m:Nat):clampN n m≤m:=by unfold clampN; omega
theorem newS_ok {n:Nat} (h:n≤4096):(newS n).Ok:=⟨h,by simp [newS],fun x hx=>(by cases hx),(by show (-1:Int)≤-1; decide),(by show (-1:Int)≤_; decide)⟩
theorem Sl.on_ok {s:Sl} (h:s.Ok):s.on.Ok:=⟨h.n1,h.xl,h.qo,by
  have:=h.f1
  simp only [Sl.on]
  split <;> omega,by
  have:=h.f2
  simp only [Sl.on]
  split <;> omega⟩
theorem Sl.off_ok {s:Sl} (h:s.Ok):s.off.Ok:=⟨h.n1,h.xl,h.qo,h.f1,h.f2⟩
theorem Sl.write_ok {s:Sl} (h:s.Ok) {j:Int} {b:List UInt8} (hb:b.length=64):(s.write j b).2.Ok:=by
  unfold Sl.write
  split
  · exact h
  split
  · exact h
  split
  · exact Sl.off_ok h
  · obtain ⟨h1,h2,h3,h4,h5⟩:=Sl.on_ok h
    refine ⟨h1,h2,fun x hx=>?_,h4,h5⟩
    rcases List.mem_append.1 hx with hx | hx
    · exact h.qo x hx
    · obtain rfl:=List.mem_singleton.1 hx
      refine ⟨hb,?_⟩
      show j.toNat < s.n
      omega
theorem Sl.flush_ok {s:Sl} (h:s.Ok):s.flush.2.Ok:=by
  unfold Sl.flush
  split
  · exact h
  split
  · exact Sl.off_ok h
  · obtain ⟨h1,h2,h3,h4,h5⟩:=Sl.on_ok h
    exact ⟨h1,putQ_len h.xl h.qo,fun x hx=>(by cases hx),h4,h5⟩
theorem Sl.fus_ok {s:Sl} (h:s.Ok) {n:Int} (hn:n≤9223372036854775807):(s.fus n).2.Ok:=by
  unfold Sl.fus
  split
  · exact h
  · refine ⟨h.n1,h.xl,h.qo,?_,?_⟩
    · show -1≤max n (-1); omega
    · show max n (-1)≤_; omega
theorem Sl.crash_ok {s:Sl} (h:s.Ok) (wr by_:Int):(s.crash wr by_).Ok:=by
  refine ⟨h.n1,?_,fun x hx=>(by cases hx),(by show (-1:Int)≤-1; decide),(by show (-1:Int)≤_; decide)⟩
  show (if _ then _ else _:List UInt8).length=s.n * 64
  have h1:=putQ_len h.xl (take_ok (k:=clampN wr s.q.length) h.qo)
  split
  · rename_i hk
    exact tearW_len h1 (wr_ok h.qo hk) (clampN_le _ _)
  · exact h1
end Go.Proofs.Ytkecdcmjkghddaa
end

section
/- The device: what is asked of it; a step with and without power. -/
namespace Go.Proofs.Ytkecdcmjkghddaa
open Go Go.Fw
def hdS (sb:Nat) (qv:Value) (s:Sl):List Value:=[.slice (some ⟨sb,0,none⟩) s.n s.n,qv,I s.fuse,.bool s.down,I s.steps]
def sl (g sb:Nat) (qv:Value) (s:Sl):List Ent:=[.seg g (hdS sb qv s) 72,.seg sb (s.xs.map B) 29,.row qv s.q.length (wrC s.q) 74 65]
structure SlR (w:World) (g sb:Nat) (qv:Value) (s:Sl):Prop where
  hg:w.heap[g]?=some (.cells (hdS sb qv s).toArray 72 (0,0))
  hx:w.heap[sb]?=some (.cells (s.xs.map B).toArray 29 (0,0))
  hq:w.ownsRow 0 74 65 qv s.q.length (wrC s.q)
theorem sl_get {w:World} {g sb:Nat} {qv:Value} {s:Sl} (h:Has 0 w (sl g sb qv s)):SlR w g sb qv s:=⟨h.holds _ (List.mem_of_getElem? (i:=0) rfl),h.holds _ (List.mem_of_getElem? (i:=1) rfl),h.holds _ (List.mem_of_getElem? (i:=2) rfl)⟩
theorem SlR.fr0 {w w':World} {g sb:Nat} {qv:Value} {s:Sl} (h:SlR w g sb qv s) (hf:Fr0 w w'):SlR w' g sb qv s :=
  ⟨(hf.block g (heap_lt h.hg) id).trans h.hg,(hf.block sb (heap_lt h.hx) id).trans h.hx,Ent.loc (.row qv s.q.length (wrC s.q) 74 65) (fun k hk=>hf.block k (ownBlock_row h.hq k hk) id) h.hq⟩
def SlTo (w w':World) (g sb:Nat) (qv:Value) (s s':Sl):Prop:=∃ qv',Has 0 w' (sl g sb qv' s')∧∀ k,(Ent.grp (sl g sb qv' s')).keys k→(Ent.grp (sl g sb qv s)).keys k∨w.heap.size≤k
theorem sec_cells {xs:List UInt8} {j:Nat}:(((xs.map B).drop (0 + j * 64)).take 64)=(sec xs j).map B:=by simp [sec,List.map_take,List.map_drop]
theorem putW_cells (xs:List UInt8) (x:Wr):(xs.map B).take (0 + x.p * 64)++x.b.map B++(xs.map B).drop (0 + x.p * 64 + 64)=(putW xs x).map B:=by simp [putW,List.map_take,List.map_drop]
theorem all64 (b:List UInt8):(b.map B).all (·.oneCell')=true:=all_map_B b
theorem cut0 {ad:Option Addr} {n cap:Nat} {s:Sl} {w:World} {g sb:Nat} (h:SlR w g sb (.slice ad n cap) s):(if cap=0 then ad else ad.map (·.add 0))=ad:=by
  obtain ⟨c2,e⟩:∃ c2,Value.slice ad n cap=.slice ad s.q.length c2:=by
    obtain ⟨ad',cap',e,_⟩:=Rd.sl (Rd.of_row h.hq)
    cases e
    exact ⟨_,rfl⟩
  cases e
  exact owns_cut0 h.hq
theorem sl_up (g sb:Nat) (qv:Value) (s:Sl) (w:World) (hR:SlR w g sb qv s):Ctr Try.prog 36 [.pointer (some ⟨g,0,none⟩)] w (fun _=>False) (fun v _=>v=I s.up):=by
  refine fn_start (N:=11) Try.func36 rfl rfl rfl fun ac hk=>?_
  have hs:=St.start hk w
  refine wp_seq (wp_reg ?_)
  refine s_q hs (c_assign (hs.ev rfl)) rfl fun ac hs=>?_
  refine s_end (then_n (wp_seq (wp_block (wp_seq (wp_reg ?_)))))
  refine s_q hs (c_move (hs.ev rfl)) rfl fun ac hs=>?_
  refine s_q hs (c_eqlNil un23 (hs.ev rfl) (hs.ev rfl)) rfl fun ac hs=>?_
  refine s_q hs (c_assign (hs.ev rfl)) rfl fun ac hs=>?_
  refine s_end ?_
  replace hs:=hs.sub (F':=[(0,_),(2,_),(3,_)]) ⟨rfl,rfl,rfl,trivial⟩
  refine then_n ?_
  refine wp_cond_false (hs.ev rfl) ?_
  refine wp_seq (wp_reg ?_)
  refine s_q hs (c_move (hs.ev rfl)) rfl fun ac hs=>?_
  refine s_q hs (c_nil (hs.ev rfl)) rfl fun ac hs=>?_
  refine s_q hs (c_fld fl72_3 (hs.ev rfl)) rfl fun ac hs=>?_
  refine s_q hs (c_loadS un4 rfl (hs.ev rfl) (hs.old hR.hg (fun h=>h)) rfl) rfl fun ac hs=>?_
  refine s_q hs (c_assign (hs.ev rfl)) rfl fun ac hs=>?_
  refine s_end ?_
  replace hs:=hs.sub (F':=[(2,_),(6,_)]) ⟨rfl,rfl,trivial⟩
  refine then_n ?_
  refine s_cond hs rfl (fun hc=>?_) (fun hc=>?_)
  · try simp only [decide_eq_true_eq,decide_eq_false_iff_not,Bool.not_eq_true',Bool.not_eq_false',Bool.and_eq_true,Bool.or_eq_true,Bool.or_eq_false_iff] at hc
    refine wp_seq (wp_reg ?_)
    refine s_q hs (c_assign (hs.ev rfl)) rfl fun ac hs=>?_
    refine s_end ?_
    replace hs:=hs.sub (F':=[(2,_)]) ⟨rfl,trivial⟩
    refine then_n (wp_ret (blk_r (then_r ?_)))
    refine s_ret hs rfl (.tmp (hs.tmp rfl) .nil) rfl ⟨_,rfl,hs.fr,?_⟩
    rw [Sl.up,if_pos hc]
    rfl
  · try simp only [decide_eq_true_eq,decide_eq_false_iff_not,Bool.not_eq_true',Bool.not_eq_false',Bool.and_eq_true,Bool.or_eq_true,Bool.or_eq_false_iff] at hc
    refine wp_skip (blk_n (then_n (wp_seq (wp_reg ?_))))
    refine s_q hs (c_assign (hs.ev rfl)) rfl fun ac hs=>?_
    refine s_end ?_
    replace hs:=hs.sub (F':=[(2,_)]) ⟨rfl,trivial⟩
    refine then_n (wp_ret ?_)
    refine s_ret hs rfl (.tmp (hs.tmp rfl) .nil) rfl ⟨_,rfl,hs.fr,?_⟩
    rw [Sl.up,if_neg (by rw [hc]; decide)]
    rfl
theorem sl_Sectors (g sb:Nat) (qv:Value) (s:Sl) (w:World) (hR:SlR w g sb qv s):Ctr Try.prog 20 [.pointer (some ⟨g,0,none⟩)] w (fun _=>False) (fun v _=>v=I s.n):=by
  refine fn_start (N:=10) Try.func20 rfl rfl rfl fun ac hk=>?_
  have hs:=St.start hk w
  refine wp_seq (wp_reg ?_)
  refine s_q hs (c_assign (hs.ev rfl)) rfl fun ac hs=>?_
  refine s_end (then_n (wp_seq (wp_seq (wp_reg ?_))))
  refine s_q hs (c_move (hs.ev rfl)) rfl fun ac hs=>?_
  refine s_q hs (c_eqlNil un23 (hs.ev rfl) (hs.ev rfl)) rfl fun ac hs=>?_
  refine s_end ?_
  replace hs:=hs.sub (F':=[(0,_),(2,_),(4,_)]) ⟨rfl,rfl,rfl,trivial⟩
  refine then_n ?_
  refine wp_cond_false (hs.ev rfl) ?_
  refine wp_skip (then_n (wp_seq (wp_reg ?_)))
  refine s_q hs (c_move (hs.ev rfl)) rfl fun ac hs=>?_
  refine s_q hs (c_nil (hs.ev rfl)) rfl fun ac hs=>?_
  refine s_q hs (c_fld fl72_0 (hs.ev rfl)) rfl fun ac hs=>?_
  refine s_q hs (c_loadS un69 rfl (hs.ev rfl) (hs.old hR.hg (fun h=>h)) rfl) rfl fun ac hs=>?_
  refine s_q hs (c_lenS un69 (hs.ev rfl)) rfl fun ac hs=>?_
  refine s_q hs (c_assign (hs.ev rfl)) rfl fun ac hs=>?_
  refine s_end ?_
  replace hs:=hs.sub (F':=[(2,_)]) ⟨rfl,trivial⟩
  refine then_n (wp_ret ?_)
  refine s_ret hs rfl (.tmp (hs.tmp rfl) .nil) rfl ⟨_,rfl,hs.fr,?_⟩
  rfl
theorem sl_Loose (g sb:Nat) (qv:Value) (s:Sl) (w:World) (hR:SlR w g sb qv s):Ctr Try.prog 21 [.pointer (some ⟨g,0,none⟩)] w (fun _=>False) (fun v _=>v=I s.q.length):=by
  refine fn_start (N:=10) Try.func21 rfl rfl rfl fun ac hk=>?_
  have hs:=St.start hk w
  refine wp_seq (wp_reg ?_)
  refine s_q hs (c_assign (hs.ev rfl)) rfl fun ac hs=>?_
  refine s_end (then_n (wp_seq (wp_seq (wp_reg ?_))))
  refine s_q hs (c_move (hs.ev rfl)) rfl fun ac hs=>?_
  refine s_q hs (c_eqlNil un23 (hs.ev rfl) (hs.ev rfl)) rfl fun ac hs=>?_
  refine s_end ?_
  replace hs:=hs.sub (F':=[(0,_),(2,_),(4,_)]) ⟨rfl,rfl,rfl,trivial⟩
  refine then_n ?_
  refine wp_cond_false (hs.ev rfl) ?_
  refine wp_skip (then_n (wp_seq (wp_reg ?_)))
  refine s_q hs (c_move (hs.ev rfl)) rfl fun ac hs=>?_
  refine s_q hs (c_nil (hs.ev rfl)) rfl fun ac hs=>?_
  refine s_q hs (c_fld fl72_1 (hs.ev rfl)) rfl fun ac hs=>?_
  refine s_q hs (c_loadS un70 rfl (hs.ev rfl) (hs.old hR.hg (fun h=>h)) rfl) rfl fun ac hs=>?_
  refine s_q hs (c_lenR un70 (hs.ev rfl) (Rd.of_row hR.hq |>.fr0 hs.fr)) rfl fun ac hs=>?_
  refine s_q hs (c_assign (hs.ev rfl)) rfl fun ac hs=>?_
  refine s_end ?_
  replace hs:=hs.sub (F':=[(2,_)]) ⟨rfl,trivial⟩
  refine then_n (wp_ret ?_)
  refine s_ret hs rfl (.tmp (hs.tmp rfl) .nil) rfl ⟨_,rfl,hs.fr,?_⟩
  rfl
theorem sl_Steps (g sb:Nat) (qv:Value) (s:Sl) (w:World) (hR:SlR w g sb qv s):Ctr Try.prog 22 [.pointer (some ⟨g,0,none⟩)] w (fun _=>False) (fun v _=>v=I s.steps):=by
  refine fn_start (N:=9) Try.func22 rfl rfl rfl fun ac hk=>?_
  have hs:=St.start hk w
  refine wp_seq (wp_reg ?_)
  refine s_q hs (c_assign (hs.ev rfl)) rfl fun ac hs=>?_
  refine s_end (then_n (wp_seq (wp_seq (wp_reg ?_))))
  refine s_q hs (c_move (hs.ev rfl)) rfl fun ac hs=>?_
  refine s_q hs (c_eqlNil un23 (hs.ev rfl) (hs.ev rfl)) rfl fun ac hs=>?_
  refine s_end ?_
  replace hs:=hs.sub (F':=[(0,_),(2,_),(4,_)]) ⟨rfl,rfl,rfl,trivial⟩
  refine then_n ?_
  refine wp_cond_false (hs.ev rfl) ?_
  refine wp_skip (then_n (wp_seq (wp_reg ?_)))
  refine s_q hs (c_move (hs.ev rfl)) rfl fun ac hs=>?_
  refine s_q hs (c_nil (hs.ev rfl)) rfl fun ac hs=>?_
  refine s_q hs (c_fld fl72_4 (hs.ev rfl)) rfl fun ac hs=>?_
  refine s_q hs (c_loadS un3 rfl (hs.ev rfl) (hs.old hR.hg (fun h=>h)) rfl) rfl fun ac hs=>?_
  refine s_q hs (c_assign (hs.ev rfl)) rfl fun ac hs=>?_
  refine s_end ?_
  replace hs:=hs.sub (F':=[(2,_)]) ⟨rfl,trivial⟩
  refine then_n (wp_ret ?_)
  refine s_ret hs rfl (.tmp (hs.tmp rfl) .nil) rfl ⟨_,rfl,hs.fr,?_⟩
  rfl
theorem sl_Down (g sb:Nat) (qv:Value) (s:Sl) (w:World) (hR:SlR w g sb qv s):Ctr Try.prog 23 [.pointer (some ⟨g,0,none⟩)] w (fun _=>False) (fun v _=>v=.bool s.down):=by
  refine fn_start (N:=11) Try.func23 rfl rfl rfl fun ac hk=>?_
  have hs:=St.start hk w
  refine wp_seq (wp_reg ?_)
  refine s_q hs (c_assign (hs.ev rfl)) rfl fun ac hs=>?_
  refine s_end (then_n (wp_seq (wp_reg ?_)))
  refine s_q hs (c_move (hs.ev rfl)) rfl fun ac hs=>?_
  refine s_q hs (c_neqNil un23 (hs.ev rfl) (hs.ev rfl)) rfl fun ac hs=>?_
  refine s_q hs (c_move (hs.ev rfl)) rfl fun ac hs=>?_
  refine s_yes hs rfl rfl ?_
  refine s_q hs (c_move (hs.ev rfl)) rfl fun ac hs=>?_
  refine s_yes hs rfl rfl ?_
  refine s_q hs (c_nil (hs.ev rfl)) rfl fun ac hs=>?_
  refine s_yes hs rfl rfl ?_
  refine s_q hs (c_fld fl72_3 (hs.ev rfl)) rfl fun ac hs=>?_
  refine s_yes hs rfl rfl ?_
  refine s_q hs (c_loadS un4 rfl (hs.ev rfl) (hs.old hR.hg (fun h=>h)) rfl) rfl fun ac hs=>?_
  refine s_q hs (c_pick (hs.ev rfl) (hs.ev rfl) (hs.ev rfl)) rfl fun ac hs=>?_
  refine s_q hs (c_assign (hs.ev rfl)) rfl fun ac hs=>?_
  refine s_end ?_
  replace hs:=hs.sub (F':=[(2,_)]) ⟨rfl,trivial⟩
  refine then_n (wp_ret ?_)
  refine s_ret hs rfl (.tmp (hs.tmp rfl) .nil) rfl ⟨_,rfl,hs.fr,?_⟩
  rfl
theorem sl_power (g sb:Nat) (qv:Value) (s:Sl) (hok:s.Ok) (hst:s.steps≤1000000000) (w:World) (hb:w.heap[g]?=some (.cells (hdS sb qv s).toArray 72 (0,0))):Ctr Try.prog 37 [.pointer (some ⟨g,0,none⟩)] w (fun k=>k=g) (fun v w'=>v=.bool (decide (¬ s.fuse=0))∧w'.heap[g]?=some (.cells (hdS sb qv s.pow).toArray 72 (0,0))):=by
  refine fn_start (N:=30) Try.func37 rfl rfl rfl fun ac hk=>?_
  have hs:=St.own1 hk hb
  refine wp_seq (wp_reg ?_)
  refine s_q hs (c_assign (hs.ev rfl)) rfl fun ac hs=>?_
  refine s_end (then_n (wp_seq (wp_seq (wp_reg ?_))))
  refine s_q hs (c_move (hs.ev rfl)) rfl fun ac hs=>?_
  refine s_q hs (c_nil (hs.ev rfl)) rfl fun ac hs=>?_
  refine s_q hs (c_fld fl72_2 (hs.ev rfl)) rfl fun ac hs=>?_
  refine s_q hs (c_loadS un3 rfl (hs.ev rfl) (hs.seg (i:=0) rfl) rfl) rfl fun ac hs=>?_
  refine s_q hs (c_eqlI (hs.ev rfl) (hs.ev rfl)) rfl fun ac hs=>?_
  refine s_end ?_
  replace hs:=hs.sub (F':=[(0,_),(2,_),(7,_)]) ⟨rfl,rfl,rfl,trivial⟩
  refine then_n ?_
  refine s_cond hs rfl (fun hc=>?_) (fun hc=>?_)
  · try simp only [decide_eq_true_eq,decide_eq_false_iff_not,Bool.not_eq_true',Bool.not_eq_false',Bool.and_eq_true,Bool.or_eq_true,Bool.or_eq_false_iff] at hc
    have hpw:s.pow=s.off:=if_pos hc
    refine wp_seq (wp_reg ?_)
    refine s_q hs (c_move (hs.ev rfl)) rfl fun ac hs=>?_
    refine s_q hs (c_nil (hs.ev rfl)) rfl fun ac hs=>?_
    refine s_q hs (c_fld fl72_3 (hs.ev rfl)) rfl fun ac hs=>?_
    refine s_store (i:=0) hs ty4 rfl rfl rfl rfl rfl rfl (by simp [hdS,Value.cells]) rfl fun ww hs=>?_
    refine s_end ?_
    replace hs:=hs.sub (F':=[(0,_),(2,_)]) ⟨rfl,rfl,trivial⟩
    refine then_n (wp_seq (wp_reg ?_))
    refine s_q hs (c_assign (hs.ev rfl)) rfl fun ac hs=>?_
    refine s_end (then_n (wp_ret (then_r ?_)))
    refine s_ret hs rfl (.tmp (hs.tmp rfl) .nil) rfl ⟨_,rfl,hs.fr,?_⟩
    exact ⟨by rw [decide_eq_false (fun h=>h hc)]; rfl,by rw [hpw]; exact hs.seg (i:=0) rfl⟩
  · try simp only [decide_eq_true_eq,decide_eq_false_iff_not,Bool.not_eq_true',Bool.not_eq_false',Bool.and_eq_true,Bool.or_eq_true,Bool.or_eq_false_iff] at hc
    have hpw:s.pow=s.on:=if_neg hc
    have hf1:=hok.f1
    have hf2:=hok.f2
    refine wp_skip (then_n (wp_seq (wp_seq (wp_reg ?_))))
    refine s_q hs (c_move (hs.ev rfl)) rfl fun ac hs=>?_
    refine s_q hs (c_nil (hs.ev rfl)) rfl fun ac hs=>?_
    refine s_q hs (c_fld fl72_2 (hs.ev rfl)) rfl fun ac hs=>?_
    refine s_q hs (c_loadS un3 rfl (hs.ev rfl) (hs.seg (i:=0) rfl) rfl) rfl fun ac hs=>?_
    refine s_q hs (c_gtrI (hs.ev rfl) (hs.ev rfl)) rfl fun ac hs=>?_
    refine s_end ?_
    replace hs:=hs.sub (F':=[(0,_),(2,_),(15,_)]) ⟨rfl,rfl,rfl,trivial⟩
    refine then_n ?_
    refine s_cond hs rfl (fun hc=>?_) (fun hc=>?_)
    · try simp only [decide_eq_true_eq,decide_eq_false_iff_not,Bool.not_eq_true',Bool.not_eq_false',Bool.and_eq_true,Bool.or_eq_true,Bool.or_eq_false_iff] at hc
      have hfu:(if 0 < s.fuse then s.fuse - 1 else s.fuse)=s.fuse - 1:=if_pos hc
      refine wp_reg ?_
      refine s_q hs (c_move (hs.ev rfl)) rfl fun ac hs=>?_
      refine s_q hs (c_nil (hs.ev rfl)) rfl fun ac hs=>?_
      refine s_q hs (c_fld fl72_2 (hs.ev rfl)) rfl fun ac hs=>?_
      refine s_q hs (c_loadS un3 rfl (hs.ev rfl) (hs.seg (i:=0) rfl) rfl) rfl fun ac hs=>?_
      refine s_q hs (c_subI (hs.ev rfl) (hs.ev rfl) (by omega) (by omega)) rfl fun ac hs=>?_
      refine s_q hs (c_nil (hs.ev rfl)) rfl fun ac hs=>?_
      refine s_q hs (c_fld fl72_2 (hs.ev rfl)) rfl fun ac hs=>?_
      refine s_store (i:=0) hs ty3 rfl rfl rfl rfl rfl rfl (by simp [hdS,Value.cells]) rfl fun ww hs=>?_
      refine s_end ?_
      replace hs:=hs.sub (F':=[(0,_),(2,_)]) ⟨rfl,rfl,trivial⟩
      refine then_n (wp_seq (wp_reg ?_))
      refine s_q hs (c_move (hs.ev rfl)) rfl fun ac hs=>?_
      refine s_q hs (c_nil (hs.ev rfl)) rfl fun ac hs=>?_
      refine s_q hs (c_fld fl72_4 (hs.ev rfl)) rfl fun ac hs=>?_
      refine s_q hs (c_loadS un3 rfl (hs.ev rfl) (hs.seg (i:=0) rfl) rfl) rfl fun ac hs=>?_
      refine s_q hs (c_addI (hs.ev rfl) (hs.ev rfl) (by omega) (by omega)) rfl fun ac hs=>?_
      refine s_q hs (c_nil (hs.ev rfl)) rfl fun ac hs=>?_
      refine s_q hs (c_fld fl72_4 (hs.ev rfl)) rfl fun ac hs=>?_
      refine s_store (i:=0) hs ty3 rfl rfl rfl rfl rfl rfl (by simp [hdS,Value.cells]) rfl fun ww hs=>?_
      refine s_end ?_
      replace hs:=hs.sub (F':=[(2,_)]) ⟨rfl,trivial⟩
      refine then_n (wp_seq (wp_reg ?_))
      refine s_q hs (c_assign (hs.ev rfl)) rfl fun ac hs=>?_
      refine s_end (then_n (wp_ret ?_))
      refine s_ret hs rfl (.tmp (hs.tmp rfl) .nil) rfl ⟨_,rfl,hs.fr,?_⟩
      refine ⟨by rw [decide_eq_true (by omega)]; rfl,?_⟩
      rw [hpw,hdS,Sl.on,hfu]
      exact hs.seg (i:=0) rfl
    · try simp only [decide_eq_true_eq,decide_eq_false_iff_not,Bool.not_eq_true',Bool.not_eq_false',Bool.and_eq_true,Bool.or_eq_true,Bool.or_eq_false_iff] at hc
      have hfu:(if 0 < s.fuse then s.fuse - 1 else s.fuse)=s.fuse:=if_neg hc
      refine wp_skip (then_n (wp_seq (wp_reg ?_)))
      refine s_q hs (c_move (hs.ev rfl)) rfl fun ac hs=>?_
      refine s_q hs (c_nil (hs.ev rfl)) rfl fun ac hs=>?_
      refine s_q hs (c_fld fl72_4 (hs.ev rfl)) rfl fun ac hs=>?_
      refine s_q hs (c_loadS un3 rfl (hs.ev rfl) (hs.seg (i:=0) rfl) rfl) rfl fun ac hs=>?_
      refine s_q hs (c_addI (hs.ev rfl) (hs.ev rfl) (by omega) (by omega)) rfl fun ac hs=>?_
      refine s_q hs (c_nil (hs.ev rfl)) rfl fun ac hs=>?_
      refine s_q hs (c_fld fl72_4 (hs.ev rfl)) rfl fun ac hs=>?_
      refine s_store (i:=0) hs ty3 rfl rfl rfl rfl rfl rfl (by simp [hdS,Value.cells]) rfl fun ww hs=>?_
      refine s_end ?_
      replace hs:=hs.sub (F':=[(2,_)]) ⟨rfl,trivial⟩
      refine then_n (wp_seq (wp_reg ?_))
      refine s_q hs (c_assign (hs.ev rfl)) rfl fun ac hs=>?_
      refine s_end (then_n (wp_ret ?_))
      refine s_ret hs rfl (.tmp (hs.tmp rfl) .nil) rfl ⟨_,rfl,hs.fr,?_⟩
      refine ⟨by rw [decide_eq_true (by omega)]; rfl,?_⟩
      rw [hpw,hdS,Sl.on,hfu]
      exact hs.seg (i:=0) rfl
end Go.Proofs.Ytkecdcmjkghddaa
end

section
/- The device: Write,Flush,Fuse. -/
namespace Go.Proofs.Ytkecdcmjkghddaa
open Go Go.Fw
theorem Sl.up_ne {s:Sl} (h:¬ s.up=0):s.down=true:=by
  unfold Sl.up at h
  split at h
  · assumption
  · exact absurd rfl h
theorem Sl.up_eq {s:Sl} (h:s.up=0):¬ s.down=true:=fun e=>by
  unfold Sl.up at h
  rw [if_pos e] at h
  cases h
theorem St.slTo {N:Nat} {F:List (Nat × Value)} {L:List Ent} {w0 w:World} {a:Act} {g sb:Nat} {qv qv':Value} {s s':Sl} (hs:St N F L (Ent.grp (sl g sb qv s)).keys w0 a w) (hl:(sl g sb qv' s').Sublist L):SlTo w0 w g sb qv s s':=⟨qv',(hs.pick hl).grp⟩
theorem wr_one (x:Wr):x.c.all (·.oneCell')=true:=by
  simp only [Wr.c,List.all_cons,Value.oneCell',Bool.true_and]
  exact all_map_B _
theorem seg_lt {w:World} {g:Nat} {o:Obj} (h:w.heap[g]?=some o):∀ k,k=g→k < w.heap.size:=fun k e=>by rw [e]; exact heap_lt h
theorem sl_Write (g sb:Nat) (qv:Value) (s:Sl) (j:Int) (b:List UInt8) (hb:b.length=64) (hok:s.Ok) (hst:s.steps≤1000000000) (hql:s.q.length≤1000000) (w:World) (hsl:Has 0 w (sl g sb qv s)):Ctr Try.prog 11 [.pointer (some ⟨g,0,none⟩),I j,.agg (b.map B).toArray] w (Ent.grp (sl g sb qv s)).keys (fun v w'=>v=I (s.write j b).1∧SlTo w w' g sb qv s (s.write j b).2):=by
  refine fn_start (N:=41) Try.func11 rfl rfl rfl fun ac hk=>?_
  have hs:=St.startG hk hsl
  refine wp_seq (wp_reg ?_)
  refine s_box hs rfl rfl rfl fun ac ww g5 hs=>?_
  refine s_q hs (c_assign (hs.ev rfl)) rfl fun ac hs=>?_
  refine s_end ?_
  replace hs:=hs.sub (F':=[(0,_),(1,_),(5,_),(6,_)]) ⟨rfl,rfl,rfl,rfl,trivial⟩
  refine then_n (wp_seq (wp_seq (wp_reg ?_)))
  refine s_q hs (c_move (hs.ev rfl)) rfl fun ac hs=>?_
  refine s_call hs fu36 (.cons (hs.ev rfl) .nil) (sl_up g sb qv s _ ⟨hs.seg (i:=1) rfl,hs.seg (i:=2) rfl,hs.get (i:=3) rfl⟩) rfl fun ac ww v9 hf hp hs=>?_
  obtain rfl:=hp
  replace hs:=hs [] (.nil _ _)
  refine s_q hs (c_assign (hs.ev rfl)) rfl fun ac hs=>?_
  refine s_end ?_
  replace hs:=hs.sub (F':=[(0,_),(1,_),(5,_),(6,_),(7,_)]) ⟨rfl,rfl,rfl,rfl,rfl,trivial⟩
  refine then_n (wp_seq (wp_reg ?_))
  refine s_q hs (c_move (hs.ev rfl)) rfl fun ac hs=>?_
  refine s_q hs (c_neqI (hs.ev rfl) (hs.ev rfl)) rfl fun ac hs=>?_
  refine s_end ?_
  replace hs:=hs.sub (F':=[(0,_),(1,_),(5,_),(6,_),(7,_),(11,_)]) ⟨rfl,rfl,rfl,rfl,rfl,rfl,trivial⟩
  refine then_n ?_
  refine s_cond hs rfl (fun hc=>?_) (fun hc=>?_)
  · try simp only [decide_eq_true_eq,decide_eq_false_iff_not,Bool.not_eq_true',Bool.not_eq_false',Bool.and_eq_true,Bool.or_eq_true,Bool.or_eq_false_iff] at hc
    have hd:=Sl.up_ne hc
    refine wp_seq (wp_reg ?_)
    refine s_q hs (c_move (hs.ev rfl)) rfl fun ac hs=>?_
    refine s_q hs (c_assign (hs.ev rfl)) rfl fun ac hs=>?_
    refine s_end ?_
    replace hs:=hs.sub (F':=[(0,_),(1,_),(5,_),(6,_)]) ⟨rfl,rfl,rfl,rfl,trivial⟩
    refine then_n (wp_ret (then_r ?_))
    refine s_ret hs rfl (.tmp (hs.tmp rfl) .nil) rfl ⟨_,rfl,hs.fr,?_⟩
    rw [show s.write j b=(5,s) from if_pos hd,Sl.up,if_pos hd]
    exact ⟨rfl,St.slTo hs (.cons _ (.refl _))⟩
  · try simp only [decide_eq_true_eq,decide_eq_false_iff_not,Bool.not_eq_true',Bool.not_eq_false',Bool.and_eq_true,Bool.or_eq_true,Bool.or_eq_false_iff] at hc
    have hd:=Sl.up_eq (by simpa using hc)
    refine wp_skip (then_n (wp_seq (wp_block (wp_seq (wp_reg ?_)))))
    refine s_q hs (c_move (hs.ev rfl)) rfl fun ac hs=>?_
    refine s_q hs (c_lssI (hs.ev rfl) (hs.ev rfl)) rfl fun ac hs=>?_
    refine s_q hs (c_move (hs.ev rfl)) rfl fun ac hs=>?_
    refine s_g hs rfl rfl (fun hg=>c_move (hs.ev rfl)) rfl fun ac hs=>?_
    refine s_g hs rfl rfl (fun hg=>c_move (hs.ev rfl)) rfl fun ac hs=>?_
    refine s_g hs rfl rfl (fun hg=>c_nil (gev (hs.ev rfl) hg)) rfl fun ac hs=>?_
    refine s_g hs rfl rfl (fun hg=>c_fld fl72_0 (gev (hs.ev rfl) hg)) rfl fun ac hs=>?_
    refine s_g hs rfl rfl (fun hg=>c_loadS un69 rfl (gev (hs.ev rfl) hg) (hs.seg (i:=1) rfl) rfl) rfl fun ac hs=>?_
    refine s_g hs rfl rfl (fun hg=>c_lenS un69 (gev (hs.ev rfl) hg)) rfl fun ac hs=>?_
    refine s_g hs rfl rfl (fun hg=>c_geqI (gev (hs.ev rfl) hg) (gev (hs.ev rfl) hg)) rfl fun ac hs=>?_
    refine s_q hs (c_or (hs.ev rfl) (hs.ev rfl)) rfl fun ac hs=>?_
    refine s_q hs (c_assign (hs.ev rfl)) rfl fun ac hs=>?_
    refine s_end ?_
    replace hs:=hs.sub (F':=[(0,_),(1,_),(5,_),(6,_),(13,_)]) ⟨rfl,rfl,rfl,rfl,rfl,trivial⟩
    refine then_n ?_
    refine s_cond hs rfl (fun hc=>?_) (fun hc=>?_)
    · skip
      have hj:j < 0∨(s.n:Int)≤j:=by simpa using hc
      refine wp_seq (wp_reg ?_)
      refine s_q hs (c_assign (hs.ev rfl)) rfl fun ac hs=>?_
      refine s_end ?_
      replace hs:=hs.sub (F':=[(0,_),(1,_),(5,_),(6,_)]) ⟨rfl,rfl,rfl,rfl,trivial⟩
      refine then_n (wp_ret (blk_r (then_r ?_)))
      refine s_ret hs rfl (.tmp (hs.tmp rfl) .nil) rfl ⟨_,rfl,hs.fr,?_⟩
      rw [show s.write j b=(1,s) from (if_neg hd).trans (if_pos hj)]
      exact ⟨rfl,St.slTo hs (.cons _ (.refl _))⟩
    · skip
      have hj:¬ (j < 0∨(s.n:Int)≤j):=by
        simp at hc
        omega
      obtain ⟨jn,rfl⟩:∃ jn:Nat,j=jn:=⟨j.toNat,by omega⟩
      refine wp_seq (wp_reg ?_)
      refine s_q hs (c_move (hs.ev rfl)) rfl fun ac hs=>?_
      refine s_callM (i:=1) hs fu37 (.cons (hs.ev rfl) .nil) rfl (sl_power g sb qv s hok hst _ (hs.seg (i:=1) rfl)) rfl fun ac ww v27 hf hp hs=>?_
      obtain ⟨rfl,hb'⟩:=hp
      replace hs:=hs (.seg g (hdS sb qv s.pow) 72) hb' (fun k hk=>⟨.inl hk,seg_lt hb' k hk⟩)
      refine s_q hs (c_not (hs.ev rfl)) rfl fun ac hs=>?_
      refine s_q hs (c_assign (hs.ev rfl)) rfl fun ac hs=>?_
      refine s_end ?_
      replace hs:=hs.sub (F':=[(0,_),(1,_),(5,_),(6,_),(25,_)]) ⟨rfl,rfl,rfl,rfl,rfl,trivial⟩
      refine then_n ?_
      refine s_cond hs rfl (fun hc=>?_) (fun hc=>?_)
      · try simp only [decide_eq_true_eq,decide_eq_false_iff_not,Bool.not_eq_true',Bool.not_eq_false',Bool.and_eq_true,Bool.or_eq_true,Bool.or_eq_false_iff] at hc
        have hf0:s.fuse=0:=by simpa using hc
        have hpw:s.pow=s.off:=if_pos hf0
        rw [hpw] at hs
        refine wp_seq (wp_reg ?_)
        refine s_q hs (c_assign (hs.ev rfl)) rfl fun ac hs=>?_
        refine s_end ?_
        replace hs:=hs.sub (F':=[(0,_),(1,_),(5,_),(6,_)]) ⟨rfl,rfl,rfl,rfl,trivial⟩
        refine then_n (wp_ret (blk_r (then_r ?_)))
        refine s_ret hs rfl (.tmp (hs.tmp rfl) .nil) rfl ⟨_,rfl,hs.fr,?_⟩
        rw [show s.write jn b=(5,s.off) from (if_neg hd).trans ((if_neg hj).trans (if_pos hf0))]
        exact ⟨rfl,St.slTo (s':=s.off) hs (.cons _ (.refl _))⟩
      · try simp only [decide_eq_true_eq,decide_eq_false_iff_not,Bool.not_eq_true',Bool.not_eq_false',Bool.and_eq_true,Bool.or_eq_true,Bool.or_eq_false_iff] at hc
        have hf0:¬ s.fuse=0:=by simpa using hc
        have hpw:s.pow=s.on:=if_neg hf0
        rw [hpw] at hs
        refine wp_skip (blk_n (then_n (wp_seq ?_)))
        obtain ⟨qad,qcap,rfl,hqc,hqm⟩:=Rd.sl (Rd.of_row (hs.get (i:=3) rfl))
        refine wp_region_rgX (J:=[0]) pmix 9 (by kernel_rfl) (by kernel_rfl) rfl rfl hs ?_
        simp only [List.take_succ_cons,List.take_zero]
        refine rg_q (fun ac ww h=>c_move (h.ev rfl)) rfl ?_
        refine rg_q (fun ac ww h=>c_move (h.ev rfl)) rfl ?_
        refine rg_q (fun ac ww h=>c_nil (h.ev rfl)) rfl ?_
        refine rg_q (fun ac ww h=>c_fld fl72_1 (h.ev rfl)) rfl ?_
        refine rg_q (fun ac ww h=>c_loadS un70 rfl (h.ev rfl) (h.blk (hs.seg (i:=1) rfl)) rfl) rfl ?_
        refine rg_q (fun ac ww h=>c_move (h.ev rfl)) rfl ?_
        refine rg_q (fun ac ww h=>c_loadW ty29 rfl (h.ev rfl) (h.blk (hs.seg (i:=0) rfl)) (by simp [hb])) rfl ?_
        refine rg_q (fun ac ww h=>c_buildS (zc:=I (jn:Nat)::b.map B) ty74 bp74 (.cons (h.ev rfl) (.cons (h.ev rfl) .nil)) ⟨rfl,by simp [Value.cells,hb],trivial⟩ (by simp [flatCells,Value.cells,hb]) (by simp [flatCells,Value.cells,hb])) rfl ?_
        refine rg_bslice un70 ty74 (fun ac ww h=>(.cons (h.ev rfl) .nil)) rfl (by simp [Value.cells,hb]) (by decide) (show _=Wr.c ⟨jn,b⟩ by simp [flatCells,Value.cells,Wr.c]) rfl ?_
        refine rg_nil fun ac ww L' hf hfe hs hlk=>?_
        simp only [List.drop_succ_cons,List.drop_zero]
        obtain ⟨v37,L37,M37,h37,e37,rfl,rfl⟩:=hfe
        replace hs:=hs.add h37
        obtain ⟨g37,rfl,rfl⟩:=e37
        refine sk_append (i:=4) hs un70 ty74 (by decide) rfl rfl rfl (Rd.of_seg (n:=1) (hs.seg (i:=0) rfl) (Nat.le_refl _) (by decide) (List.take_of_length_le (by simp))) (Wr.c_len (x:=⟨jn,b⟩) (n:=s.n) ⟨hb,by show jn < s.n; omega⟩) (wr_one _) (by unfold maxLen; omega) (by omega) rfl (fun ac ww v38 hf hnil hs=>late_turn rfl rfl (late_nil)) fun ac ww v38 hf hnil hs=>?_
        obtain ⟨ad38,cap38,rfl,_,_⟩:=Rd.sl (Rd.of_row (hs.get (i:=4) rfl))
        refine s_q hs (c_nil (hs.ev rfl)) rfl fun ac hs=>?_
        refine s_q hs (c_fld fl72_1 (hs.ev rfl)) rfl fun ac hs=>?_
        refine s_store (i:=2) hs ty70 rfl rfl rfl rfl rfl rfl (by simp [hdS,Value.cells]) rfl fun ww hs=>?_
        refine s_end ?_
        replace hs:=hs.sub (F':=[(6,_)]) ⟨rfl,trivial⟩
        refine then_n (wp_seq (wp_reg ?_))
        refine s_q hs (c_assign (hs.ev rfl)) rfl fun ac hs=>?_
        refine s_end (then_n (wp_ret ?_))
        refine s_ret hs rfl (.tmp (hs.tmp rfl) .nil) rfl ⟨_,rfl,hs.fr,?_⟩
        rw [show s.write jn b=(0,{ s.on with q:=s.q++[⟨jn,b⟩] }) from (if_neg hd).trans ((if_neg hj).trans (if_neg hf0))]
        exact ⟨rfl,_,((hs.pick (L':=[_,_,_]) (.cons _ (.cons _ (.refl _)))).toL (L':=sl g sb _ { s.on with q:=s.q++[⟨jn,b⟩] }) (by rw [sl,wrC_app,wrC_one,List.length_append]; rfl)).grp⟩
theorem sl_Fuse (g sb:Nat) (qv:Value) (s:Sl) (n:Int) (w:World) (hsl:Has 0 w (sl g sb qv s)):Ctr Try.prog 13 [.pointer (some ⟨g,0,none⟩),I n] w (Ent.grp (sl g sb qv s)).keys (fun v w'=>v=I (s.fus n).1∧SlTo w w' g sb qv s (s.fus n).2):=by
  refine fn_start (N:=16) Try.func13 rfl rfl rfl fun ac hk=>?_
  have hs:=St.startG hk hsl
  refine wp_seq (wp_reg ?_)
  refine s_q hs (c_assign (hs.ev rfl)) rfl fun ac hs=>?_
  refine s_end (then_n (wp_seq (wp_seq (wp_reg ?_))))
  refine s_q hs (c_move (hs.ev rfl)) rfl fun ac hs=>?_
  refine s_call hs fu36 (.cons (hs.ev rfl) .nil) (sl_up g sb qv s _ ⟨hs.seg (i:=0) rfl,hs.seg (i:=1) rfl,hs.get (i:=2) rfl⟩) rfl fun ac ww v7 hf hp hs=>?_
  obtain rfl:=hp
  replace hs:=hs [] (.nil _ _)
  refine s_q hs (c_assign (hs.ev rfl)) rfl fun ac hs=>?_
  refine s_end ?_
  replace hs:=hs.sub (F':=[(0,_),(1,_),(4,_),(5,_)]) ⟨rfl,rfl,rfl,rfl,trivial⟩
  refine then_n (wp_seq (wp_reg ?_))
  refine s_q hs (c_move (hs.ev rfl)) rfl fun ac hs=>?_
  refine s_q hs (c_neqI (hs.ev rfl) (hs.ev rfl)) rfl fun ac hs=>?_
  refine s_end ?_
  replace hs:=hs.sub (F':=[(0,_),(1,_),(4,_),(5,_),(9,_)]) ⟨rfl,rfl,rfl,rfl,rfl,trivial⟩
  refine then_n ?_
  refine s_cond hs rfl (fun hc=>?_) (fun hc=>?_)
  · try simp only [decide_eq_true_eq,decide_eq_false_iff_not,Bool.not_eq_true',Bool.not_eq_false',Bool.and_eq_true,Bool.or_eq_true,Bool.or_eq_false_iff] at hc
    have hd:=Sl.up_ne hc
    refine wp_seq (wp_reg ?_)
    refine s_q hs (c_move (hs.ev rfl)) rfl fun ac hs=>?_
    refine s_q hs (c_assign (hs.ev rfl)) rfl fun ac hs=>?_
    refine s_end ?_
    replace hs:=hs.sub (F':=[(0,_),(1,_),(4,_)]) ⟨rfl,rfl,rfl,trivial⟩
    refine then_n (wp_ret (then_r ?_))
    refine s_ret hs rfl (.tmp (hs.tmp rfl) .nil) rfl ⟨_,rfl,hs.fr,?_⟩
    rw [show s.fus n=(5,s) from if_pos hd,Sl.up,if_pos hd]
    exact ⟨rfl,St.slTo hs (.refl _)⟩
  · try simp only [decide_eq_true_eq,decide_eq_false_iff_not,Bool.not_eq_true',Bool.not_eq_false',Bool.and_eq_true,Bool.or_eq_true,Bool.or_eq_false_iff] at hc
    have hd:=Sl.up_eq (by simpa using hc)
    refine wp_skip (then_n (wp_seq (wp_reg ?_)))
    refine s_q hs (c_move (hs.ev rfl)) rfl fun ac hs=>?_
    refine s_q hs (c_move (hs.ev rfl)) rfl fun ac hs=>?_
    refine s_q hs (c_max (hs.ev rfl) (hs.ev rfl)) rfl fun ac hs=>?_
    refine s_q hs (c_nil (hs.ev rfl)) rfl fun ac hs=>?_
    refine s_q hs (c_fld fl72_2 (hs.ev rfl)) rfl fun ac hs=>?_
    refine s_store (i:=0) hs ty3 rfl rfl rfl rfl rfl rfl (by simp [hdS,Value.cells]) rfl fun ww hs=>?_
    refine s_end ?_
    replace hs:=hs.sub (F':=[(4,_)]) ⟨rfl,trivial⟩
    refine then_n (wp_seq (wp_reg ?_))
    refine s_q hs (c_assign (hs.ev rfl)) rfl fun ac hs=>?_
    refine s_end (then_n (wp_ret ?_))
    refine s_ret hs rfl (.tmp (hs.tmp rfl) .nil) rfl ⟨_,rfl,hs.fr,?_⟩
    rw [show s.fus n=(0,{ s with fuse:=max n (-1) }) from if_neg hd]
    exact ⟨rfl,St.slTo (s':={ s with fuse:=max n (-1) }) hs (.refl _)⟩
theorem sl_Flush (g sb:Nat) (qv:Value) (s:Sl) (hok:s.Ok) (hst:s.steps≤1000000000) (hql:s.q.length≤1000000) (w:World) (hsl:Has 0 w (sl g sb qv s)):Ctr Try.prog 12 [.pointer (some ⟨g,0,none⟩)] w (Ent.grp (sl g sb qv s)).keys (fun v w'=>v=I s.flush.1∧SlTo w w' g sb qv s s.flush.2):=by
  refine fn_start (N:=36) Try.func12 rfl rfl rfl fun ac hk=>?_
  have hs:=St.startG hk hsl
  refine wp_seq (wp_reg ?_)
  refine s_q hs (c_assign (hs.ev rfl)) rfl fun ac hs=>?_
  refine s_end (then_n (wp_seq (wp_seq (wp_reg ?_))))
  refine s_q hs (c_move (hs.ev rfl)) rfl fun ac hs=>?_
  refine s_call hs fu36 (.cons (hs.ev rfl) .nil) (sl_up g sb qv s _ ⟨hs.seg (i:=0) rfl,hs.seg (i:=1) rfl,hs.get (i:=2) rfl⟩) rfl fun ac ww v7 hf hp hs=>?_
  obtain rfl:=hp
  replace hs:=hs [] (.nil _ _)
  refine s_q hs (c_assign (hs.ev rfl)) rfl fun ac hs=>?_
  refine s_end ?_
  replace hs:=hs.sub (F':=[(0,_),(2,_),(3,_)]) ⟨rfl,rfl,rfl,trivial⟩
  refine then_n (wp_seq (wp_reg ?_))
  refine s_q hs (c_move (hs.ev rfl)) rfl fun ac hs=>?_
  refine s_q hs (c_neqI (hs.ev rfl) (hs.ev rfl)) rfl fun ac hs=>?_
  refine s_end ?_
  replace hs:=hs.sub (F':=[(0,_),(2,_),(3,_),(9,_)]) ⟨rfl,rfl,rfl,rfl,trivial⟩
  refine then_n ?_
  refine s_cond hs rfl (fun hc=>?_) (fun hc=>?_)
  · try simp only [decide_eq_true_eq,decide_eq_false_iff_not,Bool.not_eq_true',Bool.not_eq_false',Bool.and_eq_true,Bool.or_eq_true,Bool.or_eq_false_iff] at hc
    have hd:=Sl.up_ne hc
    refine wp_seq (wp_reg ?_)
    refine s_q hs (c_move (hs.ev rfl)) rfl fun ac hs=>?_
    refine s_q hs (c_assign (hs.ev rfl)) rfl fun ac hs=>?_
    refine s_end ?_
    replace hs:=hs.sub (F':=[(0,_),(2,_)]) ⟨rfl,rfl,trivial⟩
    refine then_n (wp_ret (then_r ?_))
    refine s_ret hs rfl (.tmp (hs.tmp rfl) .nil) rfl ⟨_,rfl,hs.fr,?_⟩
    rw [show s.flush=(5,s) from if_pos hd,Sl.up,if_pos hd]
    exact ⟨rfl,St.slTo hs (.refl _)⟩
  · try simp only [decide_eq_true_eq,decide_eq_false_iff_not,Bool.not_eq_true',Bool.not_eq_false',Bool.and_eq_true,Bool.or_eq_true,Bool.or_eq_false_iff] at hc
    have hd:=Sl.up_eq (by simpa using hc)
    refine wp_skip (then_n (wp_seq (wp_seq (wp_reg ?_))))
    refine s_q hs (c_move (hs.ev rfl)) rfl fun ac hs=>?_
    refine s_callM (i:=0) hs fu37 (.cons (hs.ev rfl) .nil) rfl (sl_power g sb qv s hok hst _ (hs.seg (i:=0) rfl)) rfl fun ac ww v12 hf hp hs=>?_
    obtain ⟨rfl,hb'⟩:=hp
    replace hs:=hs (.seg g (hdS sb qv s.pow) 72) hb' (fun k hk=>⟨.inl hk,seg_lt hb' k hk⟩)
    refine s_q hs (c_not (hs.ev rfl)) rfl fun ac hs=>?_
    refine s_end ?_
    replace hs:=hs.sub (F':=[(0,_),(2,_),(13,_)]) ⟨rfl,rfl,rfl,trivial⟩
    refine then_n ?_
    refine s_cond hs rfl (fun hc=>?_) (fun hc=>?_)
    · try simp only [decide_eq_true_eq,decide_eq_false_iff_not,Bool.not_eq_true',Bool.not_eq_false',Bool.and_eq_true,Bool.or_eq_true,Bool.or_eq_false_iff] at hc
      have hf0:s.fuse=0:=by simpa using hc
      have hpw:s.pow=s.off:=if_pos hf0
      rw [hpw] at hs
      refine wp_seq (wp_reg ?_)
      refine s_q hs (c_assign (hs.ev rfl)) rfl fun ac hs=>?_
      refine s_end ?_
      replace hs:=hs.sub (F':=[(0,_),(2,_)]) ⟨rfl,rfl,trivial⟩
      refine then_n (wp_ret (then_r ?_))
      refine s_ret hs rfl (.tmp (hs.tmp rfl) .nil) rfl ⟨_,rfl,hs.fr,?_⟩
      rw [show s.flush=(5,s.off) from (if_neg hd).trans (if_pos hf0)]
      exact ⟨rfl,St.slTo (s':=s.off) hs (.refl _)⟩
    · try simp only [decide_eq_true_eq,decide_eq_false_iff_not,Bool.not_eq_true',Bool.not_eq_false',Bool.and_eq_true,Bool.or_eq_true,Bool.or_eq_false_iff] at hc
      have hf0:¬ s.fuse=0:=by simpa using hc
      have hpw:s.pow=s.on:=if_neg hf0
      rw [hpw] at hs
      refine wp_skip (then_n (wp_seq (wp_seq ?_)))
      obtain ⟨qad,qcap,rfl,hqc,hqm⟩:=Rd.sl (Rd.of_row (hs.get (i:=2) rfl))
      refine wp_reg ?_
      refine s_q hs (c_move (hs.ev rfl)) rfl fun ac hs=>?_
      refine s_q hs (c_nil (hs.ev rfl)) rfl fun ac hs=>?_
      refine s_q hs (c_fld fl72_1 (hs.ev rfl)) rfl fun ac hs=>?_
      refine s_q hs (c_loadS un70 rfl (hs.ev rfl) (hs.seg (i:=0) rfl) rfl) rfl fun ac hs=>?_
      refine s_q hs (c_lenS un70 (hs.ev rfl)) rfl fun ac hs=>?_
      refine s_q hs (c_move (hs.ev rfl)) rfl fun ac hs=>?_
      refine s_end ?_
      replace hs:=hs.sub (F':=[(0,_),(2,_),(17,_),(18,_),(19,_)]) ⟨rfl,rfl,rfl,rfl,rfl,trivial⟩
      refine then_n (wp_block ?_)
      refine s_loop hs (X:=Nat) (fun k=>[(19,I k)]) [(0,_),(2,_),(17,_),(18,_)] (fun k=>[.seg g (hdS sb (.slice qad s.q.length qcap) s.on) 72,.seg sb ((putQ s.xs (s.q.take k)).map B) 29,.row (.slice qad s.q.length qcap) s.q.length (wrC s.q) 74 65]) (fun n k=>k≤s.q.length∧n=s.q.length - k) (_) (0) (⟨Nat.zero_le _,rfl⟩) ⟨rfl,rfl,rfl,rfl,rfl,trivial⟩ rfl ?_
      rintro n k ac ww hok2 hs
      simp only [List.cons_append,List.nil_append] at hs
      obtain ⟨hk,rfl⟩:=hok2
      refine wp_seq (wp_reg ?_)
      refine s_q hs (c_lssI (hs.ev rfl) (hs.ev rfl)) rfl fun ac hs=>?_
      refine s_end (then_n (wp_seq ?_))
      refine s_cond hs rfl (fun hc=>?_) (fun hc=>?_)
      · try simp only [decide_eq_true_eq,decide_eq_false_iff_not,Bool.not_eq_true',Bool.not_eq_false',Bool.and_eq_true,Bool.or_eq_true,Bool.or_eq_false_iff] at hc
        have hkn:k < s.q.length:=by omega
        have hxo:=wr_ok hok.qo hkn
        obtain ⟨qb,qcap2,qcur,he,hqb,_,_,_,hcur⟩:=hs.row_at (i:=2) rfl (by omega)
        cases he
        have hpc:=wr_piece hok.qo hcur hkn
        obtain ⟨x,hx⟩:∃ x,s.q.getD k default=x:=⟨_,rfl⟩
        rw [hx] at hpc hxo
        refine wp_skip (then_n (wp_seq (wp_block (wp_seq (wp_reg ?_)))))
        refine s_q hs (c_idxS (j:=k) un70 ty74 (hs.ev rfl) (hs.ev rfl) (by omega) (by omega)) rfl fun ac hs=>?_
        refine s_q hs (c_loadA ty74 ag74 (hs.ev rfl) hqb hpc (Wr.c_len hxo)) rfl fun ac hs=>?_
        refine s_alloc hs ty74 rfl fun ac ww g5 hs=>?_
        refine s_storeW (i:=0) hs ty74 rfl rfl rfl (Wr.c_len hxo) (wr_one _) (by rfl) fun ww hs=>?_
        refine s_end (then_n ?_)
        refine wp_region_rg pmix 9 (by kernel_rfl) rfl hs ?_
        simp only [List.take_succ_cons,List.take_zero]
        refine rg_q (fun ac ww h=>c_move (h.ev rfl)) rfl ?_
        refine rg_q (fun ac ww h=>c_nil (h.ev rfl)) rfl ?_
        refine rg_q (fun ac ww h=>c_fld fl72_0 (h.ev rfl)) rfl ?_
        refine rg_q (fun ac ww h=>c_loadS un69 rfl (h.ev rfl) (h.blk (hs.seg (i:=1) rfl)) rfl) rfl ?_
        refine rg_q (fun ac ww h=>c_fld fl74_0 (h.ev rfl)) rfl ?_
        refine rg_q (fun ac ww h=>c_loadS un3 rfl (h.ev rfl) (h.blk (hs.seg (i:=0) rfl)) rfl) rfl ?_
        refine rg_q (fun ac ww h=>c_fld fl74_1 (h.ev rfl)) rfl ?_
        refine rg_q (fun ac ww h=>c_loadA ty29 rfl (h.ev rfl) (h.blk (hs.seg (i:=0) rfl)) (show _=x.b.map B from List.take_of_length_le (by simp [Wr.c,hxo.1])) (by simp [hxo.1])) rfl ?_
        refine rg_q (fun ac ww h=>c_idxS (j:=x.p) un69 ty29 (h.ev rfl) (h.ev rfl) rfl hxo.2) rfl ?_
        refine rg_nil fun ac ww L' hf hfe hs=>?_
        simp only [List.drop_succ_cons,List.drop_zero]
        obtain rfl:L'=[]:=hfe
        replace hs:=hs.toL (List.nil_append _)
        refine s_store (i:=2) hs ty29 rfl rfl rfl rfl (by simp [Value.cells,hxo.1]) (all64 _) (by have:=hxo.2; rw [List.length_map,putQ_len hok.xl (take_ok hok.qo)]; omega) (putW_cells _ _) fun ww hs=>?_
        refine s_end (blk_n (then_n (wp_reg ?_)))
        refine s_q hs (c_addI (hs.ev rfl) (hs.ev rfl) (by omega) (by omega)) rfl fun ac hs=>?_
        refine s_q hs (c_move (hs.ev rfl)) rfl fun ac hs=>?_
        refine s_end (then_n ?_)
        replace hs:=hs.pick (L':=[_,_,_]) (.cons _ (.refl _))
        rw [show putW (putQ s.xs (s.q.take k)) x=putQ s.xs (s.q.take (k + 1)) from by rw [putQ_succ hkn,hx]] at hs
        exact ⟨s.q.length - (k + 1),by omega,k + 1,⟨by omega,rfl⟩,St.next hs ⟨rfl,rfl,rfl,rfl,rfl,trivial⟩ rfl⟩
      · try simp only [decide_eq_true_eq,decide_eq_false_iff_not,Bool.not_eq_true',Bool.not_eq_false',Bool.and_eq_true,Bool.or_eq_true,Bool.or_eq_false_iff] at hc
        obtain rfl:k=s.q.length:=by omega
        rw [List.take_length] at hs
        refine wp_exit (then_e (then_e (blk_hit (then_n (wp_seq (wp_reg ?_))))))
        refine s_q hs (c_move (hs.ev rfl)) rfl fun ac hs=>?_
        refine s_q hs (c_nil (hs.ev rfl)) rfl fun ac hs=>?_
        refine s_q hs (c_fld fl72_1 (hs.ev rfl)) rfl fun ac hs=>?_
        refine s_store (i:=0) hs ty70 rfl rfl rfl rfl rfl rfl (by simp [hdS,Value.cells]) rfl fun ww hs=>?_
        refine s_end ?_
        replace hs:=hs.sub (F':=[(2,_)]) ⟨rfl,trivial⟩
        refine then_n (wp_seq (wp_reg ?_))
        refine s_q hs (c_assign (hs.ev rfl)) rfl fun ac hs=>?_
        refine s_end (then_n (wp_ret ?_))
        replace hs:=((hs.nilrow 74 65).pick (L':=[_,_,_]) (.cons_cons _ (.cons_cons _ (.cons_cons _ (.cons _ .slnil))))).perm (L':=[_,_,_]) (List.perm_append_comm (l₁:=[_,_]) (l₂:=[_]))
        refine s_ret hs rfl (.tmp (hs.tmp rfl) .nil) rfl ⟨_,rfl,hs.fr,?_⟩
        rw [show s.flush=(0,{ s.on with xs:=putQ s.xs s.q,q:=[] }) from (if_neg hd).trans (if_neg hf0)]
        exact ⟨rfl,St.slTo (s':={ s.on with xs:=putQ s.xs s.q,q:=[] }) hs (.refl _)⟩
end Go.Proofs.Ytkecdcmjkghddaa
end

section
/- The device: Read,Crash,New; what is asked of no device. -/
namespace Go.Proofs.Ytkecdcmjkghddaa
open Go Go.Fw
theorem tearW_cells (xs:List UInt8) (x:Wr) (t:Nat):xs.take (0 + x.p * 64)++x.b.take t++xs.drop (0 + x.p * 64 + t)=tearW xs x t:=by simp [tearW]
theorem sl_Read (g sb:Nat) (qv:Value) (s:Sl) (j:Int) (hok:s.Ok) (w:World) (hR:SlR w g sb qv s):Ctr Try.prog 15 [.pointer (some ⟨g,0,none⟩),I j] w (fun _=>False) (fun v _=>v=.tuple #[.agg ((s.read j).1.map B).toArray,I (s.read j).2]):=by
  refine fn_start (N:=61) Try.func15 rfl rfl rfl fun ac hk=>?_
  have hs:=St.start hk w
  refine wp_seq (wp_reg ?_)
  refine s_alloc hs ty29 rfl fun ac ww g4 hs=>?_
  refine s_q hs (c_assign (hs.ev rfl)) rfl fun ac hs=>?_
  refine s_end (then_n (wp_seq (wp_seq (wp_reg ?_))))
  refine s_q hs (c_move (hs.ev rfl)) rfl fun ac hs=>?_
  refine s_call hs fu36 (.cons (hs.ev rfl) .nil) (sl_up g sb qv s _ (hR.fr0 hs.fr)) rfl fun ac ww v9 hf hp hs=>?_
  obtain rfl:=hp
  replace hs:=hs [] (.nil _ _)
  refine s_q hs (c_assign (hs.ev rfl)) rfl fun ac hs=>?_
  refine s_end ?_
  replace hs:=hs.sub (F':=[(0,_),(1,_),(4,_),(5,_),(6,_)]) ⟨rfl,rfl,rfl,rfl,rfl,trivial⟩
  refine then_n (wp_seq (wp_reg ?_))
  refine s_q hs (c_move (hs.ev rfl)) rfl fun ac hs=>?_
  refine s_q hs (c_neqI (hs.ev rfl) (hs.ev rfl)) rfl fun ac hs=>?_
  refine s_end ?_
  replace hs:=hs.sub (F':=[(0,_),(1,_),(4,_),(5,_),(6,_),(11,_)]) ⟨rfl,rfl,rfl,rfl,rfl,rfl,trivial⟩
  refine then_n ?_
  refine s_cond hs rfl (fun hc=>?_) (fun hc=>?_)
  · try simp only [decide_eq_true_eq,decide_eq_false_iff_not,Bool.not_eq_true',Bool.not_eq_false',Bool.and_eq_true,Bool.or_eq_true,Bool.or_eq_false_iff] at hc
    have hd:=Sl.up_ne hc
    refine wp_seq (wp_reg ?_)
    refine s_q hs (c_buildA (zc:=zero64.map B) ty29 un29 ty5 .nil (by simp [Value.cells]) (by simp [flatCells,Value.cells]) rfl) rfl fun ac hs=>?_
    refine s_q hs (c_move (hs.ev rfl)) rfl fun ac hs=>?_
    refine s_storeW (i:=0) hs ty29 rfl rfl rfl (by rfl) (by simp [Value.oneCell']) (by simp) fun ww hs=>?_
    refine s_q hs (c_assign (hs.ev rfl)) rfl fun ac hs=>?_
    refine s_end ?_
    replace hs:=hs.sub (F':=[(0,_),(1,_),(4,_),(5,_)]) ⟨rfl,rfl,rfl,rfl,trivial⟩
    refine then_n (wp_ret (then_r ?_))
    refine s_ret hs rfl (.cell (hs.tmp rfl) (run_loadA ty29 rfl (hs.seg (i:=0) rfl) rfl (by rfl)) (.tmp (hs.tmp rfl) .nil)) rfl ⟨_,rfl,hs.fr,?_⟩
    rw [show s.read j=(zero64,5) from if_pos hd,Sl.up,if_pos hd]
    rfl
  · try simp only [decide_eq_true_eq,decide_eq_false_iff_not,Bool.not_eq_true',Bool.not_eq_false',Bool.and_eq_true,Bool.or_eq_true,Bool.or_eq_false_iff] at hc
    have hd:=Sl.up_eq (by simpa using hc)
    refine wp_skip (then_n (wp_seq (wp_seq (wp_reg ?_))))
    refine s_q hs (c_move (hs.ev rfl)) rfl fun ac hs=>?_
    refine s_q hs (c_lssI (hs.ev rfl) (hs.ev rfl)) rfl fun ac hs=>?_
    refine s_q hs (c_move (hs.ev rfl)) rfl fun ac hs=>?_
    refine s_g hs rfl rfl (fun hg=>c_move (hs.ev rfl)) rfl fun ac hs=>?_
    refine s_g hs rfl rfl (fun hg=>c_move (hs.ev rfl)) rfl fun ac hs=>?_
    refine s_g hs rfl rfl (fun hg=>c_nil (gev (hs.ev rfl) hg)) rfl fun ac hs=>?_
    refine s_g hs rfl rfl (fun hg=>c_fld fl72_0 (gev (hs.ev rfl) hg)) rfl fun ac hs=>?_
    refine s_g hs rfl rfl (fun hg=>c_loadS un69 rfl (gev (hs.ev rfl) hg) (hs.old hR.hg (fun h=>h)) rfl) rfl fun ac hs=>?_
    refine s_g hs rfl rfl (fun hg=>c_lenS un69 (gev (hs.ev rfl) hg)) rfl fun ac hs=>?_
    refine s_g hs rfl rfl (fun hg=>c_geqI (gev (hs.ev rfl) hg) (gev (hs.ev rfl) hg)) rfl fun ac hs=>?_
    refine s_q hs (c_or (hs.ev rfl) (hs.ev rfl)) rfl fun ac hs=>?_
    refine s_end ?_
    replace hs:=hs.sub (F':=[(0,_),(1,_),(4,_),(5,_),(24,_)]) ⟨rfl,rfl,rfl,rfl,rfl,trivial⟩
    refine then_n ?_
    refine s_cond hs rfl (fun hc=>?_) (fun hc=>?_)
    · skip
      have hj:j < 0∨(s.n:Int)≤j:=by simpa using hc
      refine wp_seq (wp_reg ?_)
      refine s_q hs (c_buildA (zc:=zero64.map B) ty29 un29 ty5 .nil (by simp [Value.cells]) (by simp [flatCells,Value.cells]) rfl) rfl fun ac hs=>?_
      refine s_storeW (i:=0) hs ty29 rfl rfl rfl (by rfl) (by simp [Value.oneCell']) (by simp) fun ww hs=>?_
      refine s_q hs (c_assign (hs.ev rfl)) rfl fun ac hs=>?_
      refine s_end ?_
      replace hs:=hs.sub (F':=[(0,_),(1,_),(4,_),(5,_)]) ⟨rfl,rfl,rfl,rfl,trivial⟩
      refine then_n (wp_ret (then_r ?_))
      refine s_ret hs rfl (.cell (hs.tmp rfl) (run_loadA ty29 rfl (hs.seg (i:=0) rfl) rfl (by rfl)) (.tmp (hs.tmp rfl) .nil)) rfl ⟨_,rfl,hs.fr,?_⟩
      rw [show s.read j=(zero64,1) from (if_neg hd).trans (if_pos hj)]
      rfl
    · skip
      have hj:¬ (j < 0∨(s.n:Int)≤j):=by
        simp at hc
        omega
      obtain ⟨jn,rfl⟩:∃ jn:Nat,j=jn:=⟨j.toNat,by omega⟩
      have hjn:jn < s.n:=by omega
      obtain ⟨qad,qcap,rfl,hqc,hqm⟩:=Rd.sl (Rd.of_row hR.hq)
      have hnl:=(Rd.of_row hR.hq).le
      refine wp_skip (then_n (wp_seq (wp_seq (wp_reg ?_))))
      refine s_q hs (c_move (hs.ev rfl)) rfl fun ac hs=>?_
      refine s_q hs (c_nil (hs.ev rfl)) rfl fun ac hs=>?_
      refine s_q hs (c_fld fl72_1 (hs.ev rfl)) rfl fun ac hs=>?_
      refine s_q hs (c_loadS un70 rfl (hs.ev rfl) (hs.old hR.hg (fun h=>h)) rfl) rfl fun ac hs=>?_
      refine s_q hs (c_lenS un70 (hs.ev rfl)) rfl fun ac hs=>?_
      refine s_q hs (c_subI (hs.ev rfl) (hs.ev rfl) (by omega) (by omega)) rfl fun ac hs=>?_
      refine s_q hs (c_assign (hs.ev rfl)) rfl fun ac hs=>?_
      refine s_end ?_
      replace hs:=hs.sub (F':=[(0,_),(1,_),(4,_),(5,_),(7,_)]) ⟨rfl,rfl,rfl,rfl,rfl,trivial⟩
      refine then_n (wp_block ?_)
      refine s_loop hs (X:=Nat) (fun k=>[(7,I ((k:Int) - 1))]) [(0,_),(1,_),(4,_)] (fun _=>[_]) (fun n k=>k≤s.q.length∧n=k∧∀ i,k≤i→i < s.q.length→¬ (s.q.getD i default).p=jn) (_) (s.q.length) (⟨Nat.le_refl _,rfl,fun i h1 h2=>by omega⟩) ⟨rfl,rfl,rfl,rfl,trivial⟩ rfl ?_
      rintro n k ac ww hok2 hs
      simp only [List.cons_append,List.nil_append] at hs
      obtain ⟨hk,rfl,hno⟩:=hok2
      refine wp_seq (wp_seq (wp_reg ?_))
      refine s_q hs (c_move (hs.ev rfl)) rfl fun ac hs=>?_
      refine s_q hs (c_geqI (hs.ev rfl) (hs.ev rfl)) rfl fun ac hs=>?_
      refine s_end (then_n ?_)
      refine s_cond hs rfl (fun hc=>?_) (fun hc=>?_)
      · try simp only [decide_eq_true_eq,decide_eq_false_iff_not,Bool.not_eq_true',Bool.not_eq_false',Bool.and_eq_true,Bool.or_eq_true,Bool.or_eq_false_iff] at hc
        obtain ⟨m,rfl⟩:∃ m,n=m + 1:=⟨n - 1,by omega⟩
        have hmn:m < s.q.length:=by omega
        have hxo:=wr_ok hok.qo hmn
        obtain ⟨qb,qcap2,qcur,he,hqb,_,_,hcur⟩:=owns_at hR.hq (by omega)
        have hs9:=hs
        cases he
        replace hs:=hs9
        obtain ⟨x,hx⟩:∃ x,s.q.getD m default=x:=⟨_,rfl⟩
        have hpc:=wr_cell hok.qo hcur hmn
        have hbd:=wr_body hok.qo hcur hmn
        rw [hx] at hpc hbd hxo
        refine wp_skip (then_n (wp_seq (wp_block (wp_seq (wp_reg ?_)))))
        refine s_q hs (c_move (hs.ev rfl)) rfl fun ac hs=>?_
        refine s_q hs (c_nil (hs.ev rfl)) rfl fun ac hs=>?_
        refine s_q hs (c_fld fl72_1 (hs.ev rfl)) rfl fun ac hs=>?_
        refine s_q hs (c_loadS un70 rfl (hs.ev rfl) (hs.old hR.hg (fun h=>h)) rfl) rfl fun ac hs=>?_
        refine s_q hs (c_move (hs.ev rfl)) rfl fun ac hs=>?_
        refine s_q hs (c_idxS (j:=m) un70 ty74 (hs.ev rfl) (hs.ev rfl) (by omega) (by omega)) rfl fun ac hs=>?_
        refine s_q hs (c_fld fl74_0 (hs.ev rfl)) rfl fun ac hs=>?_
        refine s_q hs (c_loadS un3 rfl (hs.ev rfl) (hs.old hqb id) hpc) rfl fun ac hs=>?_
        refine s_q hs (c_move (hs.ev rfl)) rfl fun ac hs=>?_
        refine s_q hs (c_eqlI (hs.ev rfl) (hs.ev rfl)) rfl fun ac hs=>?_
        refine s_end (then_n ?_)
        refine s_cond hs rfl (fun hc=>?_) (fun hc=>?_)
        · try simp only [decide_eq_true_eq,decide_eq_false_iff_not,Bool.not_eq_true',Bool.not_eq_false',Bool.and_eq_true,Bool.or_eq_true,Bool.or_eq_false_iff] at hc
          have heq:x.p=jn:=by omega
          refine wp_seq (wp_reg ?_)
          refine s_q hs (c_move (hs.ev rfl)) rfl fun ac hs=>?_
          refine s_q hs (c_nil (hs.ev rfl)) rfl fun ac hs=>?_
          refine s_q hs (c_fld fl72_1 (hs.ev rfl)) rfl fun ac hs=>?_
          refine s_q hs (c_loadS un70 rfl (hs.ev rfl) (hs.old hR.hg (fun h=>h)) rfl) rfl fun ac hs=>?_
          refine s_q hs (c_move (hs.ev rfl)) rfl fun ac hs=>?_
          refine s_q hs (c_idxS (j:=m) un70 ty74 (hs.ev rfl) (hs.ev rfl) (by omega) (by omega)) rfl fun ac hs=>?_
          refine s_q hs (c_fld fl74_1 (hs.ev rfl)) rfl fun ac hs=>?_
          refine s_q hs (c_loadA ty29 rfl (hs.ev rfl) (hs.old hqb id) hbd (by simp [hxo.1])) rfl fun ac hs=>?_
          refine s_storeW (i:=0) hs ty29 rfl rfl rfl (by simp [hxo.1]) (all64 _) (by rfl) fun ww hs=>?_
          refine s_q hs (c_assign (hs.ev rfl)) rfl fun ac hs=>?_
          refine s_end (then_n (wp_ret (blk_r (then_r (then_r (blk_r (then_r ?_)))))))
          refine s_ret hs rfl (.cell (hs.tmp rfl) (run_loadA ty29 rfl (hs.seg (i:=0) rfl) (List.take_of_length_le (by simp [hxo.1])) (by simp [hxo.1])) (.tmp (hs.tmp rfl) .nil)) rfl ⟨_,rfl,hs.fr,?_⟩
          rw [show s.read jn=(x.b,0) from (if_neg hd).trans ((if_neg hj).trans (by rw [show (jn:Int).toNat=jn from rfl,ofW_hit hmn (by rw [hx]; exact heq) (fun i h1 h2=>hno i h1 h2),hx]))]
          rfl
        · try simp only [decide_eq_true_eq,decide_eq_false_iff_not,Bool.not_eq_true',Bool.not_eq_false',Bool.and_eq_true,Bool.or_eq_true,Bool.or_eq_false_iff] at hc
          have hne:¬ x.p=jn:=by omega
          refine wp_skip (blk_n (then_n (wp_reg ?_)))
          refine s_q hs (c_move (hs.ev rfl)) rfl fun ac hs=>?_
          refine s_q hs (c_subI (hs.ev rfl) (hs.ev rfl) (by omega) (by omega)) rfl fun ac hs=>?_
          refine s_q hs (c_assign (hs.ev rfl)) rfl fun ac hs=>?_
          refine s_end (then_n ?_)
          exact ⟨m,by omega,m,⟨by omega,rfl,fun i h1 h2=>by
              by_cases e:i=m
              · subst e; rw [hx]; exact hne
              · exact hno i (by omega) h2⟩,St.next hs ⟨(show some (I _)=some (I _) by congr 2; omega),rfl,rfl,rfl,trivial⟩ rfl⟩
      · try simp only [decide_eq_true_eq,decide_eq_false_iff_not,Bool.not_eq_true',Bool.not_eq_false',Bool.and_eq_true,Bool.or_eq_true,Bool.or_eq_false_iff] at hc
        obtain rfl:n=0:=by omega
        refine wp_exit (then_e (then_e (blk_hit (then_n (wp_seq (wp_reg ?_))))))
        refine s_q hs (c_move (hs.ev rfl)) rfl fun ac hs=>?_
        refine s_q hs (c_nil (hs.ev rfl)) rfl fun ac hs=>?_
        refine s_q hs (c_fld fl72_0 (hs.ev rfl)) rfl fun ac hs=>?_
        refine s_q hs (c_loadS un69 rfl (hs.ev rfl) (hs.old hR.hg (fun h=>h)) rfl) rfl fun ac hs=>?_
        refine s_q hs (c_move (hs.ev rfl)) rfl fun ac hs=>?_
        refine s_q hs (c_idxS (j:=jn) un69 ty29 (hs.ev rfl) (hs.ev rfl) rfl (by omega)) rfl fun ac hs=>?_
        refine s_q hs (c_loadA ty29 rfl (hs.ev rfl) (hs.old hR.hx (fun h=>h)) sec_cells (by simp [sec_len hok.xl hjn])) rfl fun ac hs=>?_
        refine s_storeW (i:=0) hs ty29 rfl rfl rfl (by simp [sec_len hok.xl hjn]) (all64 _) (by rfl) fun ww hs=>?_
        refine s_q hs (c_assign (hs.ev rfl)) rfl fun ac hs=>?_
        refine s_end ?_
        replace hs:=hs.sub (F':=[(4,_),(5,_)]) ⟨rfl,rfl,trivial⟩
        refine then_n (wp_ret ?_)
        refine s_ret hs rfl (.cell (hs.tmp rfl) (run_loadA ty29 rfl (hs.seg (i:=0) rfl) (List.take_of_length_le (by simp [sec_len hok.xl hjn])) (by simp [sec_len hok.xl hjn])) (.tmp (hs.tmp rfl) .nil)) rfl ⟨_,rfl,hs.fr,?_⟩
        rw [show s.read jn=(sec s.xs jn,0) from (if_neg hd).trans ((if_neg hj).trans (by rw [show (jn:Int).toNat=jn from rfl,ofW_miss (fun i h=>hno i (Nat.zero_le _) h)]))]
        rfl
theorem clamp64 (n:Int):max 0 (min n 64)=(clampN n 64:Int):=clampN_eq n 64
theorem rd_body {w:World} {g t:Nat} {x:Wr} {T:TypeId} (hb:w.heap[g]?=some (.cells x.c.toArray T (0,0))) (hx:x.b.length=64) (ht:t≤64):RdB w (.slice (some ⟨g,0 + 1,none⟩) t 64) (x.b.take t):=by
  have hl:(x.b.take t).length=t:=by simp [hx]; omega
  refine ⟨_,64,by rw [hl],by omega,by decide,(fun h=>by cases h),.inr ⟨g,0 + 1,T,(0,0),x.c.toArray,rfl,hb,?_⟩⟩
  simp [Wr.c,hx,List.map_take]
theorem crash_t {s:Sl} {wr by_:Int} {k:Nat} (hk:clampN wr s.q.length=k) (h:k < s.q.length):(s.crash wr by_).xs=tearW (putQ s.xs (s.q.take k)) (s.q.getD k default) (clampN by_ 64):=by
  subst hk
  simp only [Sl.crash,if_pos h]
theorem crash_f {s:Sl} {wr by_:Int} {k:Nat} (hk:clampN wr s.q.length=k) (h:¬ k < s.q.length):(s.crash wr by_).xs=putQ s.xs (s.q.take k):=by
  subst hk
  simp only [Sl.crash,if_neg h]
theorem sl_Crash (g sb:Nat) (qv:Value) (s:Sl) (wr by_:Int) (hok:s.Ok) (w:World) (hsl:Has 0 w (sl g sb qv s)):Ctr Try.prog 14 [.pointer (some ⟨g,0,none⟩),I wr,I by_] w (Ent.grp (sl g sb qv s)).keys (fun v w'=>v=I 0∧SlTo w w' g sb qv s (s.crash wr by_)):=by
  refine fn_start (N:=81) Try.func14 rfl rfl rfl fun ac hk=>?_
  have hs:=St.startG hk hsl
  obtain ⟨qad,qcap,rfl,hqc,hqm⟩:=Rd.sl (Rd.of_row (hs.get (i:=2) rfl))
  have hnl:=(Rd.of_row (hs.get (i:=2) rfl)).le
  obtain ⟨kk,hkk⟩:∃ kk,clampN wr s.q.length=kk:=⟨_,rfl⟩
  have hkle:kk≤s.q.length:=hkk ▸ clampN_le _ _
  refine wp_seq (wp_reg ?_)
  refine s_q hs (c_assign (hs.ev rfl)) rfl fun ac hs=>?_
  refine s_end (then_n (wp_seq (wp_seq (wp_reg ?_))))
  refine s_q hs (c_move (hs.ev rfl)) rfl fun ac hs=>?_
  refine s_q hs (c_eqlNil un23 (hs.ev rfl) (hs.ev rfl)) rfl fun ac hs=>?_
  refine s_end ?_
  replace hs:=hs.sub (F':=[(0,_),(1,_),(2,_),(6,_),(12,_)]) ⟨rfl,rfl,rfl,rfl,rfl,trivial⟩
  refine then_n ?_
  refine wp_cond_false (hs.ev rfl) ?_
  refine wp_skip (then_n (wp_seq (wp_reg ?_)))
  refine s_q hs (c_move (hs.ev rfl)) rfl fun ac hs=>?_
  refine s_q hs (c_move (hs.ev rfl)) rfl fun ac hs=>?_
  refine s_q hs (c_nil (hs.ev rfl)) rfl fun ac hs=>?_
  refine s_q hs (c_fld fl72_1 (hs.ev rfl)) rfl fun ac hs=>?_
  refine s_q hs (c_loadS un70 rfl (hs.ev rfl) (hs.seg (i:=0) rfl) rfl) rfl fun ac hs=>?_
  refine s_q hs (c_lenS un70 (hs.ev rfl)) rfl fun ac hs=>?_
  refine s_q hs (c_min (hs.ev rfl) (hs.ev rfl)) rfl fun ac hs=>?_
  refine s_q hs (c_to (c_max (hs.ev rfl) (hs.ev rfl)) ((congrArg I ((clampN_eq wr s.q.length).trans (congrArg (fun n:Nat=>(n:Int)) hkk))))) rfl fun ac hs=>?_
  refine s_q hs (c_assign (hs.ev rfl)) rfl fun ac hs=>?_
  refine s_end ?_
  replace hs:=hs.sub (F':=[(0,_),(1,_),(2,_),(6,_)]) ⟨rfl,rfl,rfl,rfl,trivial⟩
  refine then_n (wp_seq (wp_seq (wp_reg ?_)))
  refine s_q hs (c_move (hs.ev rfl)) rfl fun ac hs=>?_
  refine s_q hs (c_nil (hs.ev rfl)) rfl fun ac hs=>?_
  refine s_q hs (c_fld fl72_1 (hs.ev rfl)) rfl fun ac hs=>?_
  refine s_q hs (c_loadS un70 rfl (hs.ev rfl) (hs.seg (i:=0) rfl) rfl) rfl fun ac hs=>?_
  refine s_q hs (c_move (hs.ev rfl)) rfl fun ac hs=>?_
  refine s_q hs (c_to (c_sliceH (j:=kk) un70 ty74 (hs.ev rfl) (hs.ev rfl) (by omega) (by omega)) ((congrArg (fun ad=>Value.slice ad kk qcap) (cut0 ⟨hs.seg (i:=0) rfl,hs.seg (i:=1) rfl,hs.get (i:=2) rfl⟩)))) rfl fun ac hs=>?_
  refine s_q hs (c_lenS un70 (hs.ev rfl)) rfl fun ac hs=>?_
  refine s_q hs (c_move (hs.ev rfl)) rfl fun ac hs=>?_
  refine s_end ?_
  replace hs:=hs.sub (F':=[(0,_),(1,_),(2,_),(6,_),(26,_),(27,_),(28,_)]) ⟨rfl,rfl,rfl,rfl,rfl,rfl,rfl,trivial⟩
  refine then_n (wp_block ?_)
  refine s_loop hs (X:=Nat) (fun k=>[(28,I k)]) [(0,_),(1,_),(2,_),(6,_),(26,_),(27,_)] (fun k=>[.seg g (hdS sb (.slice qad s.q.length qcap) s) 72,.seg sb ((putQ s.xs (s.q.take k)).map B) 29,.row (.slice qad s.q.length qcap) s.q.length (wrC s.q) 74 65]) (fun n k=>k≤kk∧n=kk - k) (_) (0) (⟨Nat.zero_le _,rfl⟩) ⟨rfl,rfl,rfl,rfl,rfl,rfl,rfl,trivial⟩ rfl ?_
  rintro n k ac ww hok2 hs
  simp only [List.cons_append,List.nil_append] at hs
  obtain ⟨hk,rfl⟩:=hok2
  refine wp_seq (wp_reg ?_)
  refine s_q hs (c_lssI (hs.ev rfl) (hs.ev rfl)) rfl fun ac hs=>?_
  refine s_end (then_n (wp_seq ?_))
  refine s_cond hs rfl (fun hc=>?_) (fun hc=>?_)
  · try simp only [decide_eq_true_eq,decide_eq_false_iff_not,Bool.not_eq_true',Bool.not_eq_false',Bool.and_eq_true,Bool.or_eq_true,Bool.or_eq_false_iff] at hc
    have hkn:k < kk:=by omega
    have hkq:k < s.q.length:=by omega
    have hxo:=wr_ok hok.qo hkq
    obtain ⟨qb,qcap2,qcur,he,hqb,_,_,_,hcur⟩:=hs.row_at (i:=2) rfl (by omega)
    have hs9:=hs
    cases he
    replace hs:=hs9
    have hpc:=wr_piece hok.qo hcur hkq
    obtain ⟨x,hx⟩:∃ x,s.q.getD k default=x:=⟨_,rfl⟩
    rw [hx] at hpc hxo
    refine wp_skip (then_n (wp_seq (wp_block (wp_seq (wp_reg ?_)))))
    refine s_q hs (c_idxS (j:=k) un70 ty74 (hs.ev rfl) (hs.ev rfl) (by omega) (by omega)) rfl fun ac hs=>?_
    refine s_q hs (c_loadA ty74 ag74 (hs.ev rfl) hqb hpc (Wr.c_len hxo)) rfl fun ac hs=>?_
    refine s_alloc hs ty74 rfl fun ac ww g8 hs=>?_
    refine s_storeW (i:=0) hs ty74 rfl rfl rfl (Wr.c_len hxo) (wr_one _) (by rfl) fun ww hs=>?_
    refine s_end (then_n ?_)
    refine wp_region_rg pmix 9 (by kernel_rfl) rfl hs ?_
    simp only [List.take_succ_cons,List.take_zero]
    refine rg_q (fun ac ww h=>c_move (h.ev rfl)) rfl ?_
    refine rg_q (fun ac ww h=>c_nil (h.ev rfl)) rfl ?_
    refine rg_q (fun ac ww h=>c_fld fl72_0 (h.ev rfl)) rfl ?_
    refine rg_q (fun ac ww h=>c_loadS un69 rfl (h.ev rfl) (h.blk (hs.seg (i:=1) rfl)) rfl) rfl ?_
    refine rg_q (fun ac ww h=>c_fld fl74_0 (h.ev rfl)) rfl ?_
    refine rg_q (fun ac ww h=>c_loadS un3 rfl (h.ev rfl) (h.blk (hs.seg (i:=0) rfl)) rfl) rfl ?_
    refine rg_q (fun ac ww h=>c_fld fl74_1 (h.ev rfl)) rfl ?_
    refine rg_q (fun ac ww h=>c_loadA ty29 rfl (h.ev rfl) (h.blk (hs.seg (i:=0) rfl)) (show _=x.b.map B from List.take_of_length_le (by simp [Wr.c,hxo.1])) (by simp [hxo.1])) rfl ?_
    refine rg_q (fun ac ww h=>c_idxS (j:=x.p) un69 ty29 (h.ev rfl) (h.ev rfl) rfl hxo.2) rfl ?_
    refine rg_nil fun ac ww L' hf hfe hs=>?_
    simp only [List.drop_succ_cons,List.drop_zero]
    obtain rfl:L'=[]:=hfe
    replace hs:=hs.toL (List.nil_append _)
    refine s_store (i:=2) hs ty29 rfl rfl rfl rfl (by simp [Value.cells,hxo.1]) (all64 _) (by have:=hxo.2; rw [List.length_map,putQ_len hok.xl (take_ok hok.qo)]; omega) (putW_cells _ _) fun ww hs=>?_
    refine s_end (blk_n (then_n (wp_reg ?_)))
    refine s_q hs (c_addI (hs.ev rfl) (hs.ev rfl) (by omega) (by omega)) rfl fun ac hs=>?_
    refine s_q hs (c_move (hs.ev rfl)) rfl fun ac hs=>?_
    refine s_end (then_n ?_)
    replace hs:=hs.pick (L':=[_,_,_]) (.cons _ (.refl _))
    rw [show putW (putQ s.xs (s.q.take k)) x=putQ s.xs (s.q.take (k + 1)) from by rw [putQ_succ hkq,hx]] at hs
    exact ⟨kk - (k + 1),by omega,k + 1,⟨by omega,rfl⟩,St.next hs ⟨rfl,rfl,rfl,rfl,rfl,rfl,rfl,trivial⟩ rfl⟩
  · try simp only [decide_eq_true_eq,decide_eq_false_iff_not,Bool.not_eq_true',Bool.not_eq_false',Bool.and_eq_true,Bool.or_eq_true,Bool.or_eq_false_iff] at hc
    obtain rfl:k=kk:=by omega
    refine wp_exit (then_e (then_e (blk_hit (then_n (wp_seq (wp_seq (wp_reg ?_)))))))
    refine s_q hs (c_move (hs.ev rfl)) rfl fun ac hs=>?_
    refine s_q hs (c_move (hs.ev rfl)) rfl fun ac hs=>?_
    refine s_q hs (c_nil (hs.ev rfl)) rfl fun ac hs=>?_
    refine s_q hs (c_fld fl72_1 (hs.ev rfl)) rfl fun ac hs=>?_
    refine s_q hs (c_loadS un70 rfl (hs.ev rfl) (hs.seg (i:=0) rfl) rfl) rfl fun ac hs=>?_
    refine s_q hs (c_lenS un70 (hs.ev rfl)) rfl fun ac hs=>?_
    refine s_q hs (c_lssI (hs.ev rfl) (hs.ev rfl)) rfl fun ac hs=>?_
    refine s_end ?_
    replace hs:=hs.sub (F':=[(0,_),(1,_),(2,_),(6,_),(48,_)]) ⟨rfl,rfl,rfl,rfl,rfl,trivial⟩
    refine then_n ?_
    refine s_cond hs rfl (fun hc=>?_) (fun hc=>?_)
    · try simp only [decide_eq_true_eq,decide_eq_false_iff_not,Bool.not_eq_true',Bool.not_eq_false',Bool.and_eq_true,Bool.or_eq_true,Bool.or_eq_false_iff] at hc
      have hkl:k < s.q.length:=by omega
      have hxo:=wr_ok hok.qo hkl
      obtain ⟨tt,htt⟩:∃ tt,clampN by_ 64=tt:=⟨_,rfl⟩
      have htl:tt≤64:=htt ▸ clampN_le _ _
      refine wp_seq (wp_reg ?_)
      refine s_q hs (c_move (hs.ev rfl)) rfl fun ac hs=>?_
      refine s_q hs (c_nil (hs.ev rfl)) rfl fun ac hs=>?_
      refine s_q hs (c_fld fl72_1 (hs.ev rfl)) rfl fun ac hs=>?_
      refine s_q hs (c_loadS un70 rfl (hs.ev rfl) (hs.seg (i:=0) rfl) rfl) rfl fun ac hs=>?_
      refine s_q hs (c_move (hs.ev rfl)) rfl fun ac hs=>?_
      obtain ⟨qb,qcap2,qcur,he,hqb,_,_,_,hcur⟩:=hs.row_at (i:=2) rfl (by omega)
      have hs9:=hs
      cases he
      replace hs:=hs9
      have hpc:=wr_piece hok.qo hcur hkl
      obtain ⟨x,hx⟩:∃ x,s.q.getD k default=x:=⟨_,rfl⟩
      rw [hx] at hpc hxo
      refine s_q hs (c_idxS (j:=k) un70 ty74 (hs.ev rfl) (hs.ev rfl) (by omega) (by omega)) rfl fun ac hs=>?_
      refine s_q hs (c_loadA ty74 ag74 (hs.ev rfl) hqb hpc (Wr.c_len hxo)) rfl fun ac hs=>?_
      refine s_alloc hs ty74 rfl fun ac ww g9 hs=>?_
      refine s_storeW (i:=0) hs ty74 rfl rfl rfl (Wr.c_len hxo) (wr_one _) (by rfl) fun ww hs=>?_
      refine s_end ?_
      replace hs:=hs.sub (F':=[(0,_),(2,_),(6,_),(9,_)]) ⟨rfl,rfl,rfl,rfl,trivial⟩
      refine then_n (wp_seq (wp_reg ?_))
      refine s_q hs (c_move (hs.ev rfl)) rfl fun ac hs=>?_
      refine s_q hs (c_min (hs.ev rfl) (hs.ev rfl)) rfl fun ac hs=>?_
      refine s_q hs (c_to (c_max (hs.ev rfl) (hs.ev rfl)) ((congrArg I ((clamp64 by_).trans (congrArg (fun n:Nat=>(n:Int)) htt))))) rfl fun ac hs=>?_
      refine s_q hs (c_assign (hs.ev rfl)) rfl fun ac hs=>?_
      refine s_end ?_
      replace hs:=hs.sub (F':=[(0,_),(6,_),(9,_),(10,_)]) ⟨rfl,rfl,rfl,rfl,trivial⟩
      refine then_n ?_
      refine wp_region_rg pmix 12 (by kernel_rfl) rfl hs ?_
      simp only [List.take_succ_cons,List.take_zero]
      refine rg_q (fun ac ww h=>c_move (h.ev rfl)) rfl ?_
      refine rg_q (fun ac ww h=>c_nil (h.ev rfl)) rfl ?_
      refine rg_q (fun ac ww h=>c_fld fl72_0 (h.ev rfl)) rfl ?_
      refine rg_q (fun ac ww h=>c_loadS un69 rfl (h.ev rfl) (h.blk (hs.seg (i:=1) rfl)) rfl) rfl ?_
      refine rg_q (fun ac ww h=>c_fld fl74_0 (h.ev rfl)) rfl ?_
      refine rg_q (fun ac ww h=>c_loadS un3 rfl (h.ev rfl) (h.blk (hs.seg (i:=0) rfl)) rfl) rfl ?_
      refine rg_q (fun ac ww h=>c_idxS (j:=x.p) un69 ty29 (h.ev rfl) (h.ev rfl) rfl hxo.2) rfl ?_
      refine rg_q (fun ac ww h=>c_move (h.ev rfl)) rfl ?_
      refine rg_q (fun ac ww h=>c_sliceAH (j:=tt) un29 ty5 (h.ev rfl) (h.ev rfl) rfl htl) rfl ?_
      refine rg_q (fun ac ww h=>c_fld fl74_1 (h.ev rfl)) rfl ?_
      refine rg_q (fun ac ww h=>c_move (h.ev rfl)) rfl ?_
      refine rg_q (fun ac ww h=>c_sliceAH (j:=tt) un29 ty5 (h.ev rfl) (h.ev rfl) rfl htl) rfl ?_
      refine rg_nil fun ac ww L' hf hfe hs=>?_
      simp only [List.drop_succ_cons,List.drop_zero]
      obtain rfl:L'=[]:=hfe
      replace hs:=hs.toL (List.nil_append _)
      have hfx:(putQ s.xs (s.q.take k)).length=s.n * 64:=putQ_len hok.xl (take_ok hok.qo)
      have hxp:=hxo.2
      refine s_copyAt (i:=2) (p:=x.b.take tt) hs un38 ty5 rfl rfl rfl (rd_body (hs.seg (i:=0) rfl) hxo.1 htl) (by rw [List.length_take,hxo.1]; omega) (by rw [hfx]; omega) rfl fun ac ww hs=>?_
      replace hs:=hs.pick (L':=[_,_,_]) (.cons _ (.refl _))
      rw [tearW_cells,← hx,← htt,← crash_t hkk hkl] at hs
      refine s_end ?_
      replace hs:=hs.sub (F':=[(0,_),(6,_)]) ⟨rfl,rfl,trivial⟩
      refine then_n (wp_seq (wp_reg ?_))
      refine s_q hs (c_move (hs.ev rfl)) rfl fun ac hs=>?_
      refine s_q hs (c_move (hs.ev rfl)) rfl fun ac hs=>?_
      refine s_q hs (c_move (hs.ev rfl)) rfl fun ac hs=>?_
      refine s_q hs (c_nil (hs.ev rfl)) rfl fun ac hs=>?_
      refine s_q hs (c_fld fl72_1 (hs.ev rfl)) rfl fun ac hs=>?_
      refine s_store (i:=0) hs ty70 rfl rfl rfl rfl rfl rfl (by simp [hdS,Value.cells]) rfl fun ww hs=>?_
      refine s_q hs (c_nil (hs.ev rfl)) rfl fun ac hs=>?_
      refine s_q hs (c_fld fl72_2 (hs.ev rfl)) rfl fun ac hs=>?_
      refine s_store (i:=0) hs ty3 rfl rfl rfl rfl rfl rfl (by simp [hdS,Value.cells]) rfl fun ww hs=>?_
      refine s_q hs (c_nil (hs.ev rfl)) rfl fun ac hs=>?_
      refine s_q hs (c_fld fl72_3 (hs.ev rfl)) rfl fun ac hs=>?_
      refine s_store (i:=0) hs ty4 rfl rfl rfl rfl rfl rfl (by simp [hdS,Value.cells]) rfl fun ww hs=>?_
      refine s_end ?_
      replace hs:=hs.sub (F':=[(6,_)]) ⟨rfl,trivial⟩
      refine then_n (wp_seq (wp_reg ?_))
      refine s_q hs (c_assign (hs.ev rfl)) rfl fun ac hs=>?_
      refine s_end (then_n (wp_ret ?_))
      replace hs:=((hs.nilrow 74 65).pick (L':=[_,_,_]) (.cons_cons _ (.cons_cons _ (.cons_cons _ (.cons _ .slnil))))).perm (L':=[_,_,_]) (List.perm_append_comm (l₁:=[_,_]) (l₂:=[_]))
      refine s_ret hs rfl (.tmp (hs.tmp rfl) .nil) rfl ⟨_,rfl,hs.fr,?_⟩
      exact ⟨rfl,St.slTo (s':=s.crash wr by_) hs (.refl _)⟩
    · try simp only [decide_eq_true_eq,decide_eq_false_iff_not,Bool.not_eq_true',Bool.not_eq_false',Bool.and_eq_true,Bool.or_eq_true,Bool.or_eq_false_iff] at hc
      have hkl:¬ k < s.q.length:=by omega
      rw [← crash_f (by_:=by_) hkk hkl] at hs
      refine wp_skip (then_n (wp_seq (wp_reg ?_)))
      refine s_q hs (c_move (hs.ev rfl)) rfl fun ac hs=>?_
      refine s_q hs (c_move (hs.ev rfl)) rfl fun ac hs=>?_
      refine s_q hs (c_move (hs.ev rfl)) rfl fun ac hs=>?_
      refine s_q hs (c_nil (hs.ev rfl)) rfl fun ac hs=>?_
      refine s_q hs (c_fld fl72_1 (hs.ev rfl)) rfl fun ac hs=>?_
      refine s_store (i:=0) hs ty70 rfl rfl rfl rfl rfl rfl (by simp [hdS,Value.cells]) rfl fun ww hs=>?_
      refine s_q hs (c_nil (hs.ev rfl)) rfl fun ac hs=>?_
      refine s_q hs (c_fld fl72_2 (hs.ev rfl)) rfl fun ac hs=>?_
      refine s_store (i:=0) hs ty3 rfl rfl rfl rfl rfl rfl (by simp [hdS,Value.cells]) rfl fun ww hs=>?_
      refine s_q hs (c_nil (hs.ev rfl)) rfl fun ac hs=>?_
      refine s_q hs (c_fld fl72_3 (hs.ev rfl)) rfl fun ac hs=>?_
      refine s_store (i:=0) hs ty4 rfl rfl rfl rfl rfl rfl (by simp [hdS,Value.cells]) rfl fun ww hs=>?_
      refine s_end ?_
      replace hs:=hs.sub (F':=[(6,_)]) ⟨rfl,trivial⟩
      refine then_n (wp_seq (wp_reg ?_))
      refine s_q hs (c_assign (hs.ev rfl)) rfl fun ac hs=>?_
      refine s_end (then_n (wp_ret ?_))
      replace hs:=((hs.nilrow 74 65).pick (L':=[_,_,_]) (.cons_cons _ (.cons_cons _ (.cons_cons _ (.cons _ .slnil))))).perm (L':=[_,_,_]) (List.perm_append_comm (l₁:=[_,_]) (l₂:=[_]))
      refine s_ret hs rfl (.tmp (hs.tmp rfl) .nil) rfl ⟨_,rfl,hs.fr,?_⟩
      exact ⟨rfl,St.slTo (s':=s.crash wr by_) hs (.refl _)⟩
theorem sl_New (n:Int) (w:World) :Ctr Try.prog 9 [I n] w (fun _=>False) (fun v w'=>if 1≤n∧n≤4096 then ∃ g sb,v=.tuple #[.pointer (some ⟨g,0,none⟩),I 0]∧Has w.heap.size w' (sl g sb (.slice none 0 0) (newS n.toNat)) else v=.tuple #[.pointer none,I 1]):=by
  refine fn_start (N:=14) Try.func9 rfl rfl rfl fun ac hk=>?_
  have hs:=St.start hk w
  refine wp_seq (wp_reg ?_)
  refine s_q hs (c_assign (hs.ev rfl)) rfl fun ac hs=>?_
  refine s_q hs (c_assign (hs.ev rfl)) rfl fun ac hs=>?_
  refine s_end (then_n (wp_seq (wp_seq (wp_reg ?_))))
  refine s_q hs (c_move (hs.ev rfl)) rfl fun ac hs=>?_
  refine s_q hs (c_lssI (hs.ev rfl) (hs.ev rfl)) rfl fun ac hs=>?_
  refine s_q hs (c_move (hs.ev rfl)) rfl fun ac hs=>?_
  refine s_g hs rfl rfl (fun hg=>c_move (hs.ev rfl)) rfl fun ac hs=>?_
  refine s_g hs rfl rfl (fun hg=>c_gtrI (gev (hs.ev rfl) hg) (hs.ev rfl)) rfl fun ac hs=>?_
  refine s_q hs (c_or (hs.ev rfl) (hs.ev rfl)) rfl fun ac hs=>?_
  refine s_end ?_
  replace hs:=hs.sub (F':=[(0,_),(2,_),(3,_),(9,_)]) ⟨rfl,rfl,rfl,rfl,trivial⟩
  refine then_n ?_
  refine s_cond hs rfl (fun hc=>?_) (fun hc=>?_)
  · skip
    have hn:¬ (1≤n∧n≤4096):=by
      simp at hc
      omega
    refine wp_seq (wp_reg ?_)
    refine s_q hs (c_assign (hs.ev rfl)) rfl fun ac hs=>?_
    refine s_q hs (c_assign (hs.ev rfl)) rfl fun ac hs=>?_
    refine s_end ?_
    replace hs:=hs.sub (F':=[(0,_),(2,_),(3,_)]) ⟨rfl,rfl,rfl,trivial⟩
    refine then_n (wp_ret (then_r ?_))
    refine s_ret hs rfl (.tmp (hs.tmp rfl) (.tmp (hs.tmp rfl) .nil)) rfl ⟨_,rfl,hs.fr,?_⟩
    rw [if_neg hn]
    rfl
  · skip
    have hn:1≤n∧n≤4096:=by
      simp at hc
      omega
    obtain ⟨m,rfl⟩:∃ m:Nat,n=m:=⟨n.toNat,by omega⟩
    refine wp_skip (then_n (wp_seq (wp_reg ?_)))
    refine s_q hs (c_move (hs.ev rfl)) rfl fun ac hs=>?_
    refine s_make (n:=m) hs un69 ty29 rfl rfl rfl rfl (by omega) (by unfold maxLen; omega) rfl fun ac ww g11 hs=>?_
    rw [flatZ] at hs
    refine s_q hs (c_buildQ (zc:=[.slice (some ⟨g11,0,none⟩) m m,.slice none 0 0,I (-1),.bool false,I 0]) ty72 bp72 (.cons (hs.ev rfl) (.cons (hs.ev rfl) .nil)) rfl) rfl fun ac hs=>?_
    refine s_box hs rfl rfl rfl fun ac ww g13 hs=>?_
    refine s_q hs (c_assign (hs.ev rfl)) rfl fun ac hs=>?_
    refine s_q hs (c_assign (hs.ev rfl)) rfl fun ac hs=>?_
    refine s_end ?_
    replace hs:=hs.sub (F':=[(2,_),(3,_)]) ⟨rfl,rfl,trivial⟩
    refine then_n (wp_ret ?_)
    replace hs:=(hs.nilrow 74 65).perm (L':=[_,_,_]) (List.perm_append_comm (l₁:=[_,_]) (l₂:=[_]))
    refine s_ret hs rfl (.tmp (hs.tmp rfl) (.tmp (hs.tmp rfl) .nil)) rfl ⟨_,rfl,hs.fr,?_⟩
    rw [if_pos hn]
    exact ⟨g13,g11,rfl,hs.made⟩
end Go.Proofs.Ytkecdcmjkghddaa
end

section
/- The device awake; no device. -/
namespace Go.Proofs.Ytkecdcmjkghddaa
open Go Go.Fw
def awA:List UInt8:=97::List.replicate 63 0
def awB:List UInt8:=98::98::98::98::List.replicate 60 0
def awC:List UInt8:=98::98::98::List.replicate 61 0
def aw0:Sl:=newS 2
def aw1:Sl:=(aw0.write 0 awA).2
def aw2:Sl:=(aw1.write 1 awB).2
def aw3:Sl:=aw2.crash 1 3
theorem aw0_ok:aw0.Ok:=newS_ok (by decide)
theorem aw1_ok:aw1.Ok:=Sl.write_ok aw0_ok (by rfl)
theorem aw2_ok:aw2.Ok:=Sl.write_ok aw1_ok (by rfl)
theorem aw3_ok:aw3.Ok:=Sl.crash_ok aw2_ok _ _
theorem aw_r0:aw3.read 0=(awA,0):=by decide +kernel
theorem aw_r1:aw3.read 1=(awC,0):=by decide +kernel
theorem sl_awake  (w:World) :Ctr Try.prog 10 [] w (fun _=>False) (fun v _=>v=.bool true):=by
  refine fn_start (N:=51) Try.func10 rfl rfl rfl fun ac hk=>?_
  have hs:=St.start hk w
  refine wp_seq (wp_reg ?_)
  refine s_q hs (c_assign (hs.ev rfl)) rfl fun ac hs=>?_
  refine s_end (then_n (wp_seq (wp_reg ?_)))
  refine s_call hs fu9 (.cons (hs.ev rfl) .nil) (sl_New 2 _) rfl fun ac ww v8 hf hp hs=>?_
  rw [if_pos (by decide)] at hp
  obtain ⟨g,sb,rfl,hh⟩:=hp
  replace hs:=hs _ (Has.grp' hh)
  refine s_q hs (c_move (hs.ev rfl)) rfl fun ac hs=>?_
  refine s_q hs (c_extract (hs.ev rfl) rfl) rfl fun ac hs=>?_
  refine s_q hs (c_extract (hs.ev rfl) rfl) rfl fun ac hs=>?_
  refine s_q hs (c_assign (hs.ev rfl)) rfl fun ac hs=>?_
  refine s_q hs (c_assign (hs.ev rfl)) rfl fun ac hs=>?_
  refine s_end ?_
  replace hs:=hs.sub (F':=[(0,_),(1,_),(2,_)]) ⟨rfl,rfl,rfl,trivial⟩
  refine then_n (wp_seq (wp_seq (wp_reg ?_)))
  refine s_q hs (c_move (hs.ev rfl)) rfl fun ac hs=>?_
  refine s_q hs (c_eqlNil un23 (hs.ev rfl) (hs.ev rfl)) rfl fun ac hs=>?_
  refine s_q hs (c_move (hs.ev rfl)) rfl fun ac hs=>?_
  refine s_yes hs rfl rfl ?_
  refine s_q hs (c_move (hs.ev rfl)) rfl fun ac hs=>?_
  refine s_yes hs rfl rfl ?_
  refine s_q hs (c_neqI (hs.ev rfl) (hs.ev rfl)) rfl fun ac hs=>?_
  refine s_q hs (c_pick (hs.ev rfl) (hs.ev rfl) (hs.ev rfl)) rfl fun ac hs=>?_
  refine s_end ?_
  replace hs:=hs.sub (F':=[(0,_),(1,_),(16,_)]) ⟨rfl,rfl,rfl,trivial⟩
  refine then_n ?_
  refine wp_cond_false (hs.ev rfl) ?_
  refine wp_skip (then_n (wp_seq (wp_reg ?_)))
  refine s_q hs (c_move (hs.ev rfl)) rfl fun ac hs=>?_
  refine s_q hs (c_buildA (zc:=awA.map B) ty29 un29 ty5 (.cons (St.ev (v:=B 97) hs rfl) .nil) (by simp [Value.cells]) (by simp [flatCells,Value.cells]) (by rfl)) rfl fun ac hs=>?_
  refine s_callM (i:=0) hs fu11 (.cons (hs.ev rfl) (.cons (hs.ev rfl) (.cons (hs.ev rfl) .nil))) rfl (sl_Write g sb _ aw0 0 awA (by rfl) aw0_ok (by decide) (by decide) _ (hs.get (i:=0) rfl)) rfl fun ac ww v19 hf hp hs=>?_
  obtain ⟨rfl,qv',h1,h2⟩:=hp
  replace hs:=hs (Ent.grp (sl g sb qv' aw1)) h1 (fun k hk=>⟨h2 k hk,grp_lt h1 k hk⟩)
  refine s_end ?_
  replace hs:=hs.sub (F':=[(0,_),(1,_)]) ⟨rfl,rfl,trivial⟩
  refine then_n (wp_seq (wp_reg ?_))
  refine s_q hs (c_move (hs.ev rfl)) rfl fun ac hs=>?_
  refine s_q hs (c_buildA (zc:=awB.map B) ty29 un29 ty5 (.cons (St.ev (v:=B 98) hs rfl) (.cons (St.ev (v:=B 98) hs rfl) (.cons (St.ev (v:=B 98) hs rfl) (.cons (St.ev (v:=B 98) hs rfl) .nil)))) (by simp [Value.cells]) (by simp [flatCells,Value.cells]) (by rfl)) rfl fun ac hs=>?_
  refine s_callM (i:=0) hs fu11 (.cons (hs.ev rfl) (.cons (hs.ev rfl) (.cons (hs.ev rfl) .nil))) rfl (sl_Write g sb _ aw1 1 awB (by rfl) aw1_ok (by decide +kernel) (by decide +kernel) _ (hs.get (i:=0) rfl)) rfl fun ac ww v22 hf hp hs=>?_
  obtain ⟨rfl,qv',h1,h2⟩:=hp
  replace hs:=hs (Ent.grp (sl g sb qv' aw2)) h1 (fun k hk=>⟨h2 k hk,grp_lt h1 k hk⟩)
  refine s_end ?_
  replace hs:=hs.sub (F':=[(0,_),(1,_)]) ⟨rfl,rfl,trivial⟩
  refine then_n (wp_seq (wp_reg ?_))
  refine s_q hs (c_move (hs.ev rfl)) rfl fun ac hs=>?_
  refine s_callM (i:=0) hs fu14 (.cons (hs.ev rfl) (.cons (hs.ev rfl) (.cons (hs.ev rfl) .nil))) rfl (sl_Crash g sb _ aw2 1 3 aw2_ok _ (hs.get (i:=0) rfl)) rfl fun ac ww v24 hf hp hs=>?_
  obtain ⟨rfl,qv',h1,h2⟩:=hp
  replace hs:=hs (Ent.grp (sl g sb qv' aw3)) h1 (fun k hk=>⟨h2 k hk,grp_lt h1 k hk⟩)
  refine s_end ?_
  replace hs:=hs.sub (F':=[(0,_),(1,_)]) ⟨rfl,rfl,trivial⟩
  refine then_n (wp_seq (wp_reg ?_))
  refine s_q hs (c_move (hs.ev rfl)) rfl fun ac hs=>?_
  refine s_call hs fu15 (.cons (hs.ev rfl) (.cons (hs.ev rfl) .nil)) (sl_Read g sb _ aw3 0 aw3_ok _ (sl_get (hs.get (i:=0) rfl))) rfl fun ac ww v27 hf hp hs=>?_
  rw [aw_r0] at hp
  obtain rfl:=hp
  replace hs:=hs [] (.nil _ _)
  refine s_q hs (c_move (hs.ev rfl)) rfl fun ac hs=>?_
  refine s_q hs (c_extract (hs.ev rfl) rfl) rfl fun ac hs=>?_
  refine s_q hs (c_extract (hs.ev rfl) rfl) rfl fun ac hs=>?_
  refine s_alloc hs ty29 rfl fun ac ww g3 hs=>?_
  refine s_storeW (i:=0) hs ty29 rfl rfl rfl (by rfl) (by rfl) (by rfl) fun ww hs=>?_
  refine s_q hs (c_assign (hs.ev rfl)) rfl fun ac hs=>?_
  refine s_end ?_
  replace hs:=hs.sub (F':=[(0,_),(1,_),(3,_),(4,_)]) ⟨rfl,rfl,rfl,rfl,trivial⟩
  refine then_n (wp_seq (wp_reg ?_))
  refine s_q hs (c_move (hs.ev rfl)) rfl fun ac hs=>?_
  refine s_call hs fu15 (.cons (hs.ev rfl) (.cons (hs.ev rfl) .nil)) (sl_Read g sb _ aw3 1 aw3_ok _ (sl_get (hs.get (i:=1) rfl))) rfl fun ac ww v32 hf hp hs=>?_
  rw [aw_r1] at hp
  obtain rfl:=hp
  replace hs:=hs [] (.nil _ _)
  refine s_q hs (c_move (hs.ev rfl)) rfl fun ac hs=>?_
  refine s_q hs (c_extract (hs.ev rfl) rfl) rfl fun ac hs=>?_
  refine s_q hs (c_extract (hs.ev rfl) rfl) rfl fun ac hs=>?_
  refine s_alloc hs ty29 rfl fun ac ww g5 hs=>?_
  refine s_storeW (i:=0) hs ty29 rfl rfl rfl (by rfl) (by rfl) (by rfl) fun ww hs=>?_
  refine s_q hs (c_assign (hs.ev rfl)) rfl fun ac hs=>?_
  refine s_end ?_
  replace hs:=hs.sub (F':=[(0,_),(3,_),(4,_),(5,_),(6,_)]) ⟨rfl,rfl,rfl,rfl,rfl,trivial⟩
  refine then_n (wp_seq (wp_reg ?_))
  refine s_q hs (c_move (hs.ev rfl)) rfl fun ac hs=>?_
  refine s_q hs (c_eqlI (hs.ev rfl) (hs.ev rfl)) rfl fun ac hs=>?_
  refine s_q hs (c_move (hs.ev rfl)) rfl fun ac hs=>?_
  refine s_yes hs rfl rfl ?_
  refine s_q hs (c_move (hs.ev rfl)) rfl fun ac hs=>?_
  refine s_yes hs rfl rfl ?_
  refine s_q hs (c_eqlI (hs.ev rfl) (hs.ev rfl)) rfl fun ac hs=>?_
  refine s_q hs (c_pick (hs.ev rfl) (hs.ev rfl) (hs.ev rfl)) rfl fun ac hs=>?_
  refine s_q hs (c_move (hs.ev rfl)) rfl fun ac hs=>?_
  refine s_yes hs rfl rfl ?_
  refine s_q hs (c_idxA un29 ty5 (hs.ev rfl) (hs.ev rfl) rfl (by decide)) rfl fun ac hs=>?_
  refine s_yes hs rfl rfl ?_
  refine s_q hs (c_loadS un5 rfl (hs.ev rfl) (hs.seg (i:=1) rfl) rfl) rfl fun ac hs=>?_
  refine s_yes hs rfl rfl ?_
  refine s_q hs (c_eqlB (hs.ev rfl) (St.ev (v:=B 97) hs rfl)) rfl fun ac hs=>?_
  refine s_q hs (c_pick (hs.ev rfl) (hs.ev rfl) (hs.ev rfl)) rfl fun ac hs=>?_
  refine s_q hs (c_move (hs.ev rfl)) rfl fun ac hs=>?_
  refine s_yes hs rfl rfl ?_
  refine s_q hs (c_loadW ty29 rfl (hs.ev rfl) (hs.seg (i:=0) rfl) (by rfl)) rfl fun ac hs=>?_
  refine s_yes hs rfl rfl ?_
  refine s_q hs (c_buildA (zc:=awC.map B) ty29 un29 ty5 (.cons (St.ev (v:=B 98) hs rfl) (.cons (St.ev (v:=B 98) hs rfl) (.cons (St.ev (v:=B 98) hs rfl) .nil))) (by simp [Value.cells]) (by simp [flatCells,Value.cells]) (by rfl)) rfl fun ac hs=>?_
  refine s_yes hs rfl rfl ?_
  refine s_q hs (c_tt (c_eqlAB un29 ty5 eg29 (hs.ev rfl) (hs.ev rfl) (by rfl) (by rfl)) ((by rfl))) rfl fun ac hs=>?_
  refine s_q hs (c_pick (hs.ev rfl) (hs.ev rfl) (hs.ev rfl)) rfl fun ac hs=>?_
  refine s_q hs (c_assign (hs.ev rfl)) rfl fun ac hs=>?_
  refine s_end ?_
  replace hs:=hs.sub (F':=[(0,_)]) ⟨rfl,trivial⟩
  refine then_n (wp_ret ?_)
  refine s_ret hs rfl (.tmp (hs.tmp rfl) .nil) rfl ⟨_,rfl,hs.fr,?_⟩
  rfl
end Go.Proofs.Ytkecdcmjkghddaa
end

section
/- Openings of structs of ints and bytes; things taken apart; a region with one call that turns something: what it leaves is told. -/
namespace Go.Fw
open Go Go.ChangeShapes Go.WideShapes Go.ChangeAt Go.RowKit
section
variable {H:Type} {enc:TypeId × Value→H} {P:Program} {w:World} {base:Nat} {spare:Nat→Bool} {held:Bool} {fuel:Nat} {t e u:TypeId} {cs:List Value} {x:DataW H × List MemPlace} {v:Value} {d:DataW H} {ps:List MemPlace} {r:Reach} {b0:Nat}
theorem cut_at {α:Type} (l:List α) (a b:Nat):l.drop a=(l.drop a).take b++l.drop (a + b):=by rw [← List.drop_drop,List.take_append_drop]
theorem trodI {f:Field} {y:DataW H × List MemPlace} (h0:P.underlying f.type=some (.int .i64)) (c0:P.cellsOf f.type=1) {o:Nat} (o0:f.offset=o) (h:DataW.trod enc P w base spare held fuel f.type ((cs.drop f.offset).take (P.cellsOf f.type))=some y) :
    ∃ n:Int,(cs.drop o).take 1=[I n]∧-9223372036854775808≤n∧n≤9223372036854775807:=by
  rw [o0,c0] at h
  obtain ⟨z,hz,_,hw⟩:=DataW.trod_int h0 h
  exact ⟨z,hz,bounds_i64 hw⟩
theorem trodIIIA {m:Nat} {f0 f1 f2 f3:Field} (ht:P.underlying t=some (.struct #[f0,f1,f2,f3])) (h0:P.underlying f0.type=some (.int .i64)) (h1:P.underlying f1.type=some (.int .i64)) (h2:P.underlying f2.type=some (.int .i64)) (h3:P.underlying f3.type=some (.array m u)) (hu:P.underlying u=some (.int .u8))
    (o0:f0.offset=0) (o1:f1.offset=1) (o2:f2.offset=2) (o3:f3.offset=3) (c0:P.cellsOf f0.type=1) (c1:P.cellsOf f1.type=1) (c2:P.cellsOf f2.type=1) (c3:P.cellsOf f3.type=m) (hcu:P.cellsOf u=1) (ct:P.cellsOf t=3 + m)
    (h:DataW.trod enc P w base spare held fuel t cs=some x) :
    ∃ (k a n:Int) (l:List UInt8),cs=I k::I a::I n::l.map B∧l.length=m∧(-9223372036854775808≤k∧k≤9223372036854775807)∧(-9223372036854775808≤a∧a≤9223372036854775807)∧(-9223372036854775808≤n∧n≤9223372036854775807):=by
  obtain ⟨y0,y1,y2,y3,n,_,hl,hy0,hy1,hy2,hy3⟩:=Go.Joins.trod_struct4 ht h
  obtain ⟨z0,e0,b0⟩:=trodI h0 c0 o0 hy0
  obtain ⟨z1,e1,b1⟩:=trodI h1 c1 o1 hy1
  obtain ⟨z2,e2,b2⟩:=trodI h2 c2 o2 hy2
  rw [o3,c3] at hy3
  obtain ⟨l,hll,he3⟩:=trodBs h3 hu hcu c3 hy3
  refine ⟨z0,z1,z2,l,?_,hll,b0,b1,b2⟩
  have hd:cs.drop (3 + m)=[]:=List.drop_of_length_le (by omega)
  have:=cut_at cs 0 1
  rw [e0,cut_at cs (0 + 1) 1,e1,cut_at cs (0 + 1 + 1) 1,e2,cut_at cs (0 + 1 + 1 + 1) m,he3,hd] at this
  simpa using this
end
/-! rows of anything,piece by piece -/
theorem fm_len {α:Type} {f:α→List Value} {m:Nat}:∀ {l:List α},(∀ x∈l,(f x).length=m)→(l.flatMap f).length=l.length * m
  | [],_=>by simp
  | x::l,h=>by
    rw [List.flatMap_cons,List.length_append,fm_len (l:=l) (fun y hy=>h y (List.mem_cons_of_mem _ hy)),h x (List.mem_cons_self ..),List.length_cons,Nat.succ_mul,Nat.add_comm]
section
variable {α:Type} [Inhabited α] {f:α→List Value} {m:Nat}
theorem getD_lt {l:List α} {k:Nat} (h:k < l.length):l.getD k default=l[k]:=by simp [List.getD_eq_getElem?_getD,h]
theorem getD_mem {l:List α} {k:Nat} (h:k < l.length):l.getD k default∈l:=by rw [getD_lt h]; exact List.getElem_mem h
theorem fm_piece:∀ {l:List α} {k:Nat},(∀ x∈l,(f x).length=m)→k < l.length→((l.flatMap f).drop (k * m)).take m=f (l.getD k default)
  | [],k,_,h=>absurd h (by simp)
  | x::l,0,h,_=>by
    rw [List.flatMap_cons,Nat.zero_mul,List.drop_zero]
    exact List.take_left' (h x (List.mem_cons_self ..))
  | x::l,k + 1,h,hk=>by
    rw [List.flatMap_cons,Nat.succ_mul,Nat.add_comm,← List.drop_drop,List.drop_left' (h x (List.mem_cons_self ..)),fm_piece (fun y hy=>h y (List.mem_cons_of_mem _ hy)) (show k < l.length by simpa using hk)]
    rfl
theorem Rd.fm_at {w:World} {ad:Option Addr} {cap:Nat} {l:List α} (hm:0 < m) (hl:∀ x∈l,(f x).length=m) (h:Rd w (.slice ad l.length cap) l.length (l.flatMap f)) (hn:0 < l.length) :
    ∃ b o T fr all,ad=some ⟨b,o,none⟩∧w.heap[b]?=some (.cells all T fr)∧∀ k,k < l.length→(all.toList.drop (o + k * m)).take m=f (l.getD k default):=by
  obtain ⟨b,o,cap',T,fr,all,e,_,_,hb,hc⟩:=Rd.at_ h (by
    intro e
    have:=congrArg List.length e
    rw [fm_len hl] at this
    have h2:1 * 1≤l.length * m:=Nat.mul_le_mul hn hm
    simp only [List.length_nil] at this
    omega)
  cases e
  refine ⟨b,o,T,fr,all,rfl,hb,fun k hk=>?_⟩
  have hle:(k + 1) * m≤l.length * m:=Nat.mul_le_mul_right _ (by omega)
  rw [Nat.succ_mul] at hle
  have h2:(((all.toList.drop o).take (l.flatMap f).length).drop (k * m)).take m=((l.flatMap f).drop (k * m)).take m:=by rw [hc]
  rw [fm_len hl,List.drop_take,List.take_take,Nat.min_eq_left (by omega),List.drop_drop,fm_piece hl hk] at h2
  exact h2
end
end Go.Fw
namespace Go.Fw
open Go
section
variable {N:Nat} {F F':List (Nat × Value)} {L L' A:List Ent} {M:Nat→Prop} {w0 w w':World} {a a':Act}
theorem St.ungrp (h:St N F (.grp A::L) M w0 a w):St N F (A++L) M w0 a w:=by
  have hA:Has 0 w A:=h.has.holds _ (List.mem_cons_self ..)
  have hc:=List.pairwise_cons.1 h.has.apart
  refine ⟨h.know,⟨fun e he=>?_,?_,fun e he k hk=>?_,fun _ _ _ _=>Nat.zero_le _⟩,fun e he k hk=>?_,h.fr⟩
  · rcases List.mem_append.1 he with he | he
    · exact hA.holds e he
    · exact h.has.holds e (List.mem_cons_of_mem _ he)
  · exact List.pairwise_append.2 ⟨hA.apart,hc.2,fun x hx y hy k h1 h2=>hc.1 y hy k ⟨x,hx,h1⟩ h2⟩
  · rcases List.mem_append.1 he with he | he
    · exact hA.lt e he k hk
    · exact h.has.lt e (List.mem_cons_of_mem _ he) k hk
  · rcases List.mem_append.1 he with he | he
    · exact h.own _ (List.mem_cons_self ..) k ⟨e,he,hk⟩
    · exact h.own e (List.mem_cons_of_mem _ he) k hk
theorem St.oneMod {i:Nat} {e e':Ent} (hs:St N F L M w0 a w) (hkn:Know N F' a') (hi:L[i]?=some e) (hf:Fr e.keys w w') (he':e'.holds w') (hk:∀ k,e'.keys k→(e.keys k∨w.heap.size≤k)∧k < w'.heap.size):St N F' (L.set i e') M w0 a' w':=by
  have h:=hs.mod hi hf he' hk
  exact ⟨hkn,h.has,h.own,h.fr⟩
theorem St.segM {i j g:Nat} {e:Ent} {cs:List Value} {T:TypeId} (hs:St N F L M w0 a w) (hi:L[i]?=some (.seg g cs T)) (hj:L[j]?=some e) (hij:i ≠ j) (hf:Fr e.keys w w'):w'.heap[g]?=some (.cells cs.toArray T (0,0)):=by
  have hg:=hs.seg hi
  exact (hf.block g (heap_lt hg) (fun h2=>apart_at hs.has.apart hi hj hij g rfl h2)).trans hg
end
end Go.Fw
namespace Go.FwO
open Go Go.Fw
section
variable {cc:Nat} {P:Program} {ops:Array Oper} {N B1:Nat} {w1:World} {Fk:World→World→Prop} {K:List (Nat × Value)→Fes→Prop} {Fc:List (Nat × Value)} {Fe:Fes} {rest:List Oper}
variable {d:Tmp} {op:Op} {ty:TypeId} {pos:String} {aft:Array Edge} {x y z:Operand} {t u:TypeId}
theorem rg_callOneZ (hK:FwK.FrK Fk B1) {f:FuncId} {args:Array Operand} {vs:List Value} {tys:Array TypeId} (C:Value→Prop) (Z:World→Prop) (st:∀ w w',Fk w w'→Z w→Z w') (hF:Fun P f)
    (hargs:∀ a w,RC Fk d N Fc Fe ⟨some d,.call { callee:=.value (.func f),args:=args,argTypes:=tys },ty,pos,aft,none⟩ B1 w1 a w→Evs a args.toList vs)
    (hc:∀ w,Fr0 w1 w→Calls P f vs.toArray w fun e w'=>∃ v,e=.returned v∧Fk w w'∧C v∧Z w') (hE:Fw.look Fc d=none)
    (k:RG Fk d P ops N B1 w1 K Fc ((d,fun v L w=>(C v∧L=[])∧Z w)::Fe) rest):RG Fk d P ops N B1 w1 K Fc Fe (⟨some d,.call { callee:=.value (.func f),args:=args,argTypes:=tys },ty,pos,aft,none⟩::rest) :=
  ⟨d,.e (fun v L w=>(C v∧L=[])∧Z w) (fun v L w w' hf h=>⟨h.1,st w w' hf h.2⟩),rfl,⟨.inl ⟨rfl,fun a w h=>by
    rw [run_call hF (hargs a w h)]
    exact Calls.mono (hc w (h.fr0 rfl)) fun e w' ⟨v,he,hf,hv,hz⟩=>⟨v,he,[],⟨⟨hv,rfl⟩,hz⟩,hf,(fun h=>absurd rfl h),.nil _ _⟩⟩,fun h=>by cases h⟩,hE,k⟩
end
theorem frZ {M:Nat→Prop} {Z:World→Prop} {B1:Nat} (hM:∀ k,M k→k < B1) (h0:∀ a b,Fr0 a b→Z a→Z b):FwK.FrK (fun a b=>Fr M a b∧(Z a→Z b)) B1 :=
  ⟨fun h k=>⟨h.1.trans k.1 (fun _ _ h=>h),fun z=>k.2 (h.2 z)⟩,fun h=>⟨h.mono (fun _ _ h=>h.elim),h0 _ _ h⟩,fun h=>h.1.size,fun h k=>h.same k.1.size fun e he i hi=>k.1.block i (h.lt e he i hi) (fun hm=>by
    have h1:=hM i hm
    have h2:=h.ge e he i hi
    omega)⟩
end Go.FwO
end

section
/- SlateLasts: what lasts behind a crash. -/
namespace Go.Proofs.Ytkecdcmjkghddaa
open Go Go.Fw
structure O14 where
  k:Int
  a:Int
  n:Int
  b:List UInt8
  deriving Inhabited
def O14.c (o:O14):List Value:=I o.k::I o.a::I o.n::o.b.map B
theorem O14.len {o:O14} (h:o.b.length=64):o.c.length=67:=by simp [O14.c,h]
theorem O14.one (o:O14):o.c.all (·.oneCell')=true:=by
  simp only [O14.c,List.all_cons,Value.oneCell',Bool.true_and]
  exact all_map_B _
theorem O14.body {o:O14} (h:o.b.length=64):(o.c.toArray.toList.drop (0 + 3)).take 64=o.b.map B:=List.take_of_length_le (by simp [O14.c,h])
end Go.Proofs.Ytkecdcmjkghddaa
end

section
/- The document's device: what is read. -/
namespace Go.Proofs.Ytkecdcmjkghddaa
open Go Go.Fw
def hdR (v1 v2:Value) (s:Sl):List Value:=[I s.n,v1,v2,I s.fuse,.bool s.down,I s.steps]
def rs (h:Nat) (v1 v2:Value) (s:Sl) (su:List Wr):List Ent:=[.seg h (hdR v1 v2 s) 77,.row v1 su.length (wrC su) 94 65,.row v2 s.q.length (wrC s.q) 94 65]
structure RsR (w:World) (h:Nat) (v1 v2:Value) (s:Sl) (su:List Wr):Prop where
  hg:w.heap[h]?=some (.cells (hdR v1 v2 s).toArray 77 (0,0))
  h1:w.ownsRow 0 94 65 v1 su.length (wrC su)
  h2:w.ownsRow 0 94 65 v2 s.q.length (wrC s.q)
theorem rs_get {w:World} {h:Nat} {v1 v2:Value} {s:Sl} {su:List Wr} (hh:Has 0 w (rs h v1 v2 s su)):RsR w h v1 v2 s su:=⟨hh.holds _ (List.mem_of_getElem? (i:=0) rfl),hh.holds _ (List.mem_of_getElem? (i:=1) rfl),hh.holds _ (List.mem_of_getElem? (i:=2) rfl)⟩
theorem RsR.fr0 {w w':World} {h:Nat} {v1 v2:Value} {s:Sl} {su:List Wr} (hh:RsR w h v1 v2 s su) (hf:Fr0 w w'):RsR w' h v1 v2 s su :=
  ⟨(hf.block h (heap_lt hh.hg) id).trans hh.hg,Ent.loc (.row v1 su.length (wrC su) 94 65) (fun k hk=>hf.block k (ownBlock_row hh.h1 k hk) id) hh.h1,Ent.loc (.row v2 s.q.length (wrC s.q) 94 65) (fun k hk=>hf.block k (ownBlock_row hh.h2 k hk) id) hh.h2⟩
structure Sim (n:Nat) (xs:List UInt8) (su:List Wr):Prop where
  xl:xs.length=n * 64
  ok:∀ x∈su,x.Ok n
  eq:∀ j,j < n→ofW su j zero64=sec xs j
def RsTo (w w':World) (h:Nat) (v1 v2:Value) (s s':Sl) (su:List Wr) (m:Nat):Prop:=∃ v1' v2' su',Has 0 w' (rs h v1' v2' s' su')∧Sim s'.n s'.xs su'∧su'.length + s'.q.length≤su.length + s.q.length + m∧∀ k,(Ent.grp (rs h v1' v2' s' su')).keys k→(Ent.grp (rs h v1 v2 s su)).keys k∨w.heap.size≤k
def putR (su:List Wr) (x:Wr):List Wr:=su.filter (fun y=>decide (¬ y.p=x.p))++[x]
theorem putR_le (su:List Wr) (x:Wr):(putR su x).length≤su.length + 1:=by
  rw [putR,List.length_append]
  have:=List.length_filter_le (fun y:Wr=>decide (¬ y.p=x.p)) su
  simp only [List.length_cons,List.length_nil]
  omega
theorem filter_succ {su:List Wr} {p:Wr→Bool} {k:Nat} (h:k < su.length):(su.take (k + 1)).filter p=(su.take k).filter p++(if p (su.getD k default) then [su.getD k default] else []):=by
  rw [List.take_add_one,List.filter_append,List.getElem?_eq_getElem h,wr_at h]
  by_cases e:p su[k]=true <;> simp [e]
theorem ofW_filter {j p:Nat}:∀ {su:List Wr} {f:List UInt8},¬ j=p→ofW (su.filter fun y=>decide (¬ y.p=p)) j f=ofW su j f
  | [],_,_=>rfl
  | x::su,f,h=>by
    by_cases e:x.p=p
    · rw [List.filter_cons_of_neg (by simp [e])]
      simp only [ofW,List.foldl_cons]
      rw [if_neg (fun h2=>h (h2.symm.trans e))]
      exact ofW_filter h
    · rw [List.filter_cons_of_pos (by simp [e])]
      simp only [ofW,List.foldl_cons]
      exact ofW_filter h
theorem ofW_putR {su:List Wr} {x:Wr} {j:Nat} {f:List UInt8}:ofW (putR su x) j f=if j=x.p then x.b else ofW su j f:=by
  rw [putR,ofW_app]
  by_cases e:j=x.p
  · subst e; simp [ofW]
  · rw [if_neg e,ofW_filter e]
    simp only [ofW,List.foldl_cons,List.foldl_nil]
    rw [if_neg (fun h=>e h.symm)]
theorem putR_ok {n:Nat} {su:List Wr} {x:Wr} (h:∀ y∈su,y.Ok n) (hx:x.Ok n):∀ y∈putR su x,y.Ok n:=fun y hy=>by
  rcases List.mem_append.1 hy with hy | hy
  · exact h y (List.mem_filter.1 hy).1
  · rw [List.mem_singleton.1 hy]; exact hx
theorem Sim.put {n:Nat} {xs:List UInt8} {su:List Wr} {x:Wr} (h:Sim n xs su) (hx:x.Ok n):Sim n (putW xs x) (putR su x) :=
  ⟨putW_len h.xl hx,putR_ok h.ok hx,fun j hj=>by rw [ofW_putR,sec_put h.xl hx hj,h.eq j hj]⟩
theorem Sim.tear {n t:Nat} {xs:List UInt8} {su:List Wr} {x:Wr} (h:Sim n xs su) (hx:x.Ok n) (ht:t≤64):Sim n (tearW xs x t) (putR su ⟨x.p,x.b.take t++(sec xs x.p).drop t⟩) :=
  ⟨tearW_len h.xl hx ht,putR_ok h.ok ⟨by simp [hx.1,sec_len h.xl hx.2]; omega,hx.2⟩,fun j hj=>by
    rw [ofW_putR,sec_tear h.xl hx ht hj,h.eq j hj]
    by_cases e:j=x.p
    · subst e; simp
    · rw [if_neg e,if_neg e]⟩
theorem Sim.zero {n:Nat}:Sim n (List.replicate (n * 64) 0) []:=⟨by simp,(fun _ h=>by cases h),fun j hj=>by
  have:j * 64 + 64≤n * 64:=by omega
  simp only [ofW,List.foldl_nil,sec,zero64,List.drop_replicate,List.take_replicate]
  rw [Nat.min_eq_left (by omega)]⟩
theorem ref_Of (n:Nat) (q:List Wr) (qv:Value) (j:Nat) (b:List UInt8) (hq:∀ x∈q,x.Ok n) (hb:b.length=64) (w:World) (hqr:w.ownsRow 0 94 65 qv q.length (wrC q)):Ctr Try.prog 41 [qv,I j,.agg (b.map B).toArray] w (fun _=>False) (fun v _=>v=.agg ((ofW q j b).map B).toArray):=by
  have hnl:=(Rd.of_row hqr).le
  obtain ⟨qad,qcap,rfl,hqc,hqm⟩:=Rd.sl (Rd.of_row hqr)
  refine fn_start (N:=27) Try.func41 rfl rfl rfl fun ac hk=>?_
  have hs:=St.start hk w
  refine wp_seq (wp_reg ?_)
  refine s_box hs rfl rfl rfl fun ac ww g5 hs=>?_
  refine s_alloc hs ty28 rfl fun ac ww g6 hs=>?_
  refine s_end ?_
  replace hs:=hs.sub (F':=[(0,_),(1,_),(5,_),(6,_)]) ⟨rfl,rfl,rfl,rfl,trivial⟩
  refine then_n (wp_seq (wp_seq (wp_reg ?_)))
  refine s_q hs (c_assign (hs.ev rfl)) rfl fun ac hs=>?_
  refine s_end (then_n (wp_block ?_))
  refine s_loop hs (X:=Nat) (fun k=>[(7,I k)]) [(0,_),(1,_),(5,_),(6,_)] (fun k=>[.seg g6 (zero64.map B) 28,.seg g5 ((ofW (q.take k) j b).map B) 28]) (fun n k=>k≤q.length∧n=q.length - k) (_) (0) (⟨Nat.zero_le _,rfl⟩) ⟨rfl,rfl,rfl,rfl,rfl,trivial⟩ rfl ?_
  rintro n k ac ww hok2 hs
  simp only [List.cons_append,List.nil_append] at hs
  obtain ⟨hk,rfl⟩:=hok2
  have hfl:=ofW_len (j:=j) (q:=q.take k) hb (take_ok hq)
  refine wp_seq (wp_seq (wp_reg ?_))
  refine s_q hs (c_move (hs.ev rfl)) rfl fun ac hs=>?_
  refine s_q hs (c_move (hs.ev rfl)) rfl fun ac hs=>?_
  refine s_q hs (c_lenS un75 (hs.ev rfl)) rfl fun ac hs=>?_
  refine s_q hs (c_lssI (hs.ev rfl) (hs.ev rfl)) rfl fun ac hs=>?_
  refine s_end (then_n ?_)
  refine s_cond hs rfl (fun hc=>?_) (fun hc=>?_)
  · try simp only [decide_eq_true_eq,decide_eq_false_iff_not,Bool.not_eq_true',Bool.not_eq_false',Bool.and_eq_true,Bool.or_eq_true,Bool.or_eq_false_iff] at hc
    have hkn:k < q.length:=by omega
    have hxo:=wr_ok hq hkn
    obtain ⟨qb,qcap2,qcur,he,hqb,_,_,hcur⟩:=owns_at hqr (by omega)
    have hs9:=hs
    cases he
    replace hs:=hs9
    have hpc:=wr_cell hq hcur hkn
    have hbd:=wr_body hq hcur hkn
    have hsu:=ofW_succ (j:=j) (f:=b) hkn
    obtain ⟨x,hx⟩:∃ x,q.getD k default=x:=⟨_,rfl⟩
    rw [hx] at hpc hbd hxo hsu
    refine wp_skip (then_n (wp_seq (wp_block (wp_seq (wp_reg ?_)))))
    refine s_q hs (c_move (hs.ev rfl)) rfl fun ac hs=>?_
    refine s_q hs (c_move (hs.ev rfl)) rfl fun ac hs=>?_
    refine s_q hs (c_idxS (j:=k) un75 ty94 (hs.ev rfl) (hs.ev rfl) (by omega) (by omega)) rfl fun ac hs=>?_
    refine s_q hs (c_fld fl94_0 (hs.ev rfl)) rfl fun ac hs=>?_
    refine s_q hs (c_loadS un3 rfl (hs.ev rfl) (hs.old hqb id) hpc) rfl fun ac hs=>?_
    refine s_q hs (c_move (hs.ev rfl)) rfl fun ac hs=>?_
    refine s_q hs (c_eqlI (hs.ev rfl) (hs.ev rfl)) rfl fun ac hs=>?_
    refine s_end (then_n ?_)
    refine s_cond hs rfl (fun hc=>?_) (fun hc=>?_)
    · try simp only [decide_eq_true_eq,decide_eq_false_iff_not,Bool.not_eq_true',Bool.not_eq_false',Bool.and_eq_true,Bool.or_eq_true,Bool.or_eq_false_iff] at hc
      have heq:x.p=j:=by omega
      rw [if_pos heq] at hsu
      refine wp_reg ?_
      refine s_q hs (c_move (hs.ev rfl)) rfl fun ac hs=>?_
      refine s_q hs (c_move (hs.ev rfl)) rfl fun ac hs=>?_
      refine s_q hs (c_idxS (j:=k) un75 ty94 (hs.ev rfl) (hs.ev rfl) (by omega) (by omega)) rfl fun ac hs=>?_
      refine s_q hs (c_fld fl94_1 (hs.ev rfl)) rfl fun ac hs=>?_
      refine s_q hs (c_loadA ty28 rfl (hs.ev rfl) (hs.old hqb id) hbd (by simp [hxo.1])) rfl fun ac hs=>?_
      refine s_storeW (i:=1) hs ty28 rfl rfl rfl (by simp [hxo.1]) (all64 _) (by simp [hfl]) fun ww hs=>?_
      refine s_end (blk_n (then_n (wp_reg ?_)))
      refine s_q hs (c_move (hs.ev rfl)) rfl fun ac hs=>?_
      refine s_q hs (c_addI (hs.ev rfl) (hs.ev rfl) (by omega) (by omega)) rfl fun ac hs=>?_
      refine s_q hs (c_assign (hs.ev rfl)) rfl fun ac hs=>?_
      refine s_end (then_n ?_)
      rw [← hsu] at hs
      exact ⟨q.length - (k + 1),by omega,k + 1,⟨by omega,rfl⟩,St.next hs ⟨rfl,rfl,rfl,rfl,rfl,trivial⟩ rfl⟩
    · try simp only [decide_eq_true_eq,decide_eq_false_iff_not,Bool.not_eq_true',Bool.not_eq_false',Bool.and_eq_true,Bool.or_eq_true,Bool.or_eq_false_iff] at hc
      have hne:¬ x.p=j:=by omega
      rw [if_neg hne] at hsu
      refine wp_skip (blk_n (then_n (wp_reg ?_)))
      refine s_q hs (c_move (hs.ev rfl)) rfl fun ac hs=>?_
      refine s_q hs (c_addI (hs.ev rfl) (hs.ev rfl) (by omega) (by omega)) rfl fun ac hs=>?_
      refine s_q hs (c_assign (hs.ev rfl)) rfl fun ac hs=>?_
      refine s_end (then_n ?_)
      rw [← hsu] at hs
      exact ⟨q.length - (k + 1),by omega,k + 1,⟨by omega,rfl⟩,St.next hs ⟨rfl,rfl,rfl,rfl,rfl,trivial⟩ rfl⟩
  · try simp only [decide_eq_true_eq,decide_eq_false_iff_not,Bool.not_eq_true',Bool.not_eq_false',Bool.and_eq_true,Bool.or_eq_true,Bool.or_eq_false_iff] at hc
    obtain rfl:k=q.length:=by omega
    rw [List.take_length] at hs hfl
    refine wp_exit (then_e (then_e (blk_hit (then_n (wp_seq (wp_reg ?_))))))
    refine s_q hs (c_loadW ty28 rfl (hs.ev rfl) (hs.seg (i:=1) rfl) (by simp [hfl])) rfl fun ac hs=>?_
    refine s_storeW (i:=0) hs ty28 rfl rfl rfl (by simp [hfl]) (all64 _) (by rfl) fun ww hs=>?_
    refine s_end ?_
    replace hs:=hs.sub (F':=[(6,_)]) ⟨rfl,trivial⟩
    refine then_n (wp_ret ?_)
    refine s_ret hs rfl (.cell (hs.tmp rfl) (run_loadA ty28 rfl (hs.seg (i:=0) rfl) (List.take_of_length_le (by simp [hfl])) (by simp [hfl])) .nil) rfl ⟨_,rfl,hs.fr,?_⟩
    rfl
theorem ref_Is (n:Nat) (xs:List UInt8) (h:Nat) (v1 v2:Value) (s:Sl) (su:List Wr) (j:Nat) (hS:Sim n xs su) (hj:j < n) (w:World) (hR:RsR w h v1 v2 s su):Ctr Try.prog 42 [.pointer (some ⟨h,0,none⟩),I j] w (fun _=>False) (fun v _=>v=.agg ((sec xs j).map B).toArray):=by
  refine fn_start (N:=12) Try.func42 rfl rfl rfl fun ac hk=>?_
  have hs:=St.start hk w
  refine wp_seq (wp_reg ?_)
  refine s_alloc hs ty28 rfl fun ac ww g4 hs=>?_
  refine s_end (then_n (wp_seq (wp_reg ?_)))
  refine s_q hs (c_move (hs.ev rfl)) rfl fun ac hs=>?_
  refine s_q hs (c_nil (hs.ev rfl)) rfl fun ac hs=>?_
  refine s_q hs (c_fld fl77_1 (hs.ev rfl)) rfl fun ac hs=>?_
  refine s_q hs (c_loadS un75 rfl (hs.ev rfl) (hs.old hR.hg (fun h=>h)) rfl) rfl fun ac hs=>?_
  refine s_q hs (c_move (hs.ev rfl)) rfl fun ac hs=>?_
  refine s_q hs (c_buildA (zc:=zero64.map B) ty28 un28 ty5 .nil (by simp [Value.cells]) (by simp [flatCells,Value.cells]) rfl) rfl fun ac hs=>?_
  refine s_call hs fu41 (.cons (hs.ev rfl) (.cons (hs.ev rfl) (.cons (hs.ev rfl) .nil))) (ref_Of n su v1 j zero64 hS.ok (by rfl) _ (hR.fr0 hs.fr).h1) rfl fun ac ww v11 hf hp hs=>?_
  rw [hS.eq j hj] at hp
  obtain rfl:=hp
  replace hs:=hs [] (.nil _ _)
  refine s_storeW (i:=0) hs ty28 rfl rfl rfl (by simp [sec_len hS.xl hj]) (all64 _) (by rfl) fun ww hs=>?_
  refine s_end ?_
  replace hs:=hs.sub (F':=[(4,_)]) ⟨rfl,trivial⟩
  refine then_n (wp_ret ?_)
  refine s_ret hs rfl (.cell (hs.tmp rfl) (run_loadA ty28 rfl (hs.seg (i:=0) rfl) (List.take_of_length_le (by simp [sec_len hS.xl hj])) (by simp [sec_len hS.xl hj])) .nil) rfl ⟨_,rfl,hs.fr,?_⟩
  rfl
theorem ref_Read (h:Nat) (v1 v2:Value) (s:Sl) (su:List Wr) (j:Int) (hok:s.Ok) (hS:Sim s.n s.xs su) (w:World) (hR:RsR w h v1 v2 s su):Ctr Try.prog 19 [.pointer (some ⟨h,0,none⟩),I j] w (fun _=>False) (fun v _=>v=.tuple #[.agg ((s.read j).1.map B).toArray,I (s.read j).2]):=by
  refine fn_start (N:=31) Try.func19 rfl rfl rfl fun ac hk=>?_
  have hs:=St.start hk w
  refine wp_seq (wp_reg ?_)
  refine s_alloc hs ty28 rfl fun ac ww g4 hs=>?_
  refine s_q hs (c_assign (hs.ev rfl)) rfl fun ac hs=>?_
  refine s_end (then_n (wp_seq (wp_seq (wp_reg ?_))))
  refine s_q hs (c_move (hs.ev rfl)) rfl fun ac hs=>?_
  refine s_q hs (c_nil (hs.ev rfl)) rfl fun ac hs=>?_
  refine s_q hs (c_fld fl77_4 (hs.ev rfl)) rfl fun ac hs=>?_
  refine s_q hs (c_loadS un4 rfl (hs.ev rfl) (hs.old hR.hg (fun h=>h)) rfl) rfl fun ac hs=>?_
  refine s_end ?_
  replace hs:=hs.sub (F':=[(0,_),(1,_),(4,_),(5,_),(9,_)]) ⟨rfl,rfl,rfl,rfl,rfl,trivial⟩
  refine then_n ?_
  refine s_cond hs rfl (fun hc=>?_) (fun hc=>?_)
  · try simp only [decide_eq_true_eq,decide_eq_false_iff_not,Bool.not_eq_true',Bool.not_eq_false',Bool.and_eq_true,Bool.or_eq_true,Bool.or_eq_false_iff] at hc
    have hd:s.down=true:=hc
    refine wp_seq (wp_reg ?_)
    refine s_q hs (c_buildA (zc:=zero64.map B) ty28 un28 ty5 .nil (by simp [Value.cells]) (by simp [flatCells,Value.cells]) rfl) rfl fun ac hs=>?_
    refine s_storeW (i:=0) hs ty28 rfl rfl rfl (by rfl) (by simp [Value.oneCell']) (by simp) fun ww hs=>?_
    refine s_q hs (c_assign (hs.ev rfl)) rfl fun ac hs=>?_
    refine s_end ?_
    replace hs:=hs.sub (F':=[(0,_),(1,_),(4,_),(5,_)]) ⟨rfl,rfl,rfl,rfl,trivial⟩
    refine then_n (wp_ret (then_r ?_))
    refine s_ret hs rfl (.cell (hs.tmp rfl) (run_loadA ty28 rfl (hs.seg (i:=0) rfl) rfl (by rfl)) (.tmp (hs.tmp rfl) .nil)) rfl ⟨_,rfl,hs.fr,?_⟩
    rw [show s.read j=(zero64,5) from if_pos hd]
    rfl
  · try simp only [decide_eq_true_eq,decide_eq_false_iff_not,Bool.not_eq_true',Bool.not_eq_false',Bool.and_eq_true,Bool.or_eq_true,Bool.or_eq_false_iff] at hc
    have hd:¬ s.down=true:=by rw [hc]; decide
    refine wp_skip (then_n (wp_seq (wp_seq (wp_reg ?_))))
    refine s_q hs (c_move (hs.ev rfl)) rfl fun ac hs=>?_
    refine s_q hs (c_lssI (hs.ev rfl) (hs.ev rfl)) rfl fun ac hs=>?_
    refine s_q hs (c_move (hs.ev rfl)) rfl fun ac hs=>?_
    refine s_g hs rfl rfl (fun hg=>c_move (hs.ev rfl)) rfl fun ac hs=>?_
    refine s_g hs rfl rfl (fun hg=>c_move (hs.ev rfl)) rfl fun ac hs=>?_
    refine s_g hs rfl rfl (fun hg=>c_nil (gev (hs.ev rfl) hg)) rfl fun ac hs=>?_
    refine s_g hs rfl rfl (fun hg=>c_fld fl77_0 (gev (hs.ev rfl) hg)) rfl fun ac hs=>?_
    refine s_g hs rfl rfl (fun hg=>c_loadS un3 rfl (gev (hs.ev rfl) hg) (hs.old hR.hg (fun h=>h)) rfl) rfl fun ac hs=>?_
    refine s_g hs rfl rfl (fun hg=>c_geqI (gev (hs.ev rfl) hg) (gev (hs.ev rfl) hg)) rfl fun ac hs=>?_
    refine s_q hs (c_or (hs.ev rfl) (hs.ev rfl)) rfl fun ac hs=>?_
    refine s_end ?_
    replace hs:=hs.sub (F':=[(0,_),(1,_),(4,_),(5,_),(20,_)]) ⟨rfl,rfl,rfl,rfl,rfl,trivial⟩
    refine then_n ?_
    refine s_cond hs rfl (fun hc=>?_) (fun hc=>?_)
    · skip
      have hj:j < 0∨(s.n:Int)≤j:=by simpa using hc
      refine wp_seq (wp_reg ?_)
      refine s_q hs (c_buildA (zc:=zero64.map B) ty28 un28 ty5 .nil (by simp [Value.cells]) (by simp [flatCells,Value.cells]) rfl) rfl fun ac hs=>?_
      refine s_storeW (i:=0) hs ty28 rfl rfl rfl (by rfl) (by simp [Value.oneCell']) (by simp) fun ww hs=>?_
      refine s_q hs (c_assign (hs.ev rfl)) rfl fun ac hs=>?_
      refine s_end ?_
      replace hs:=hs.sub (F':=[(0,_),(1,_),(4,_),(5,_)]) ⟨rfl,rfl,rfl,rfl,trivial⟩
      refine then_n (wp_ret (then_r ?_))
      refine s_ret hs rfl (.cell (hs.tmp rfl) (run_loadA ty28 rfl (hs.seg (i:=0) rfl) rfl (by rfl)) (.tmp (hs.tmp rfl) .nil)) rfl ⟨_,rfl,hs.fr,?_⟩
      rw [show s.read j=(zero64,1) from (if_neg hd).trans (if_pos hj)]
      rfl
    · skip
      have hj:¬ (j < 0∨(s.n:Int)≤j):=by
        simp at hc
        omega
      obtain ⟨jn,rfl⟩:∃ jn:Nat,j=jn:=⟨j.toNat,by omega⟩
      have hjn:jn < s.n:=by omega
      have hfl:=ofW_len (j:=jn) (q:=s.q) (sec_len hok.xl hjn) hok.qo
      refine wp_skip (then_n (wp_seq ?_))
      refine wp_region_rg pmix 8 (by kernel_rfl) rfl hs ?_
      simp only [List.take_succ_cons,List.take_zero]
      refine rg_q (fun ac ww h=>c_move (h.ev rfl)) rfl ?_
      refine rg_q (fun ac ww h=>c_nil (h.ev rfl)) rfl ?_
      refine rg_q (fun ac ww h=>c_fld fl77_2 (h.ev rfl)) rfl ?_
      refine rg_q (fun ac ww h=>c_loadS un75 rfl (h.ev rfl) (h.blk (hs.old hR.hg (fun h=>h))) rfl) rfl ?_
      refine rg_q (fun ac ww h=>c_move (h.ev rfl)) rfl ?_
      refine rg_q (fun ac ww h=>c_move (h.ev rfl)) rfl ?_
      refine rg_q (fun ac ww h=>c_move (h.ev rfl)) rfl ?_
      refine rg_call fu42 (fun ac ww h=>(.cons (h.ev rfl) (.cons (h.ev rfl) .nil))) (fun ww hf=>ref_Is s.n s.xs _ v1 v2 s su jn hS hjn _ ((hR.fr0 hs.fr).fr0 hf)) rfl ?_
      refine rg_nil fun ac ww L' hf hfe hs=>?_
      simp only [List.drop_succ_cons,List.drop_zero]
      obtain rfl:L'=[]:=hfe
      replace hs:=hs.toL (List.nil_append _)
      refine s_call hs fu41 (.cons (hs.ev rfl) (.cons (hs.ev rfl) (.cons (hs.ev rfl) .nil))) (ref_Of s.n s.q v2 jn (sec s.xs jn) hok.qo (sec_len hok.xl hjn) _ (hR.fr0 hs.fr).h2) rfl fun ac ww v30 hf hp hs=>?_
      obtain rfl:=hp
      replace hs:=hs [] (.nil _ _)
      refine s_storeW (i:=0) hs ty28 rfl rfl rfl (by simp [hfl]) (all64 _) (by rfl) fun ww hs=>?_
      refine s_q hs (c_assign (hs.ev rfl)) rfl fun ac hs=>?_
      refine s_end ?_
      replace hs:=hs.sub (F':=[(4,_),(5,_)]) ⟨rfl,rfl,trivial⟩
      refine then_n (wp_ret ?_)
      refine s_ret hs rfl (.cell (hs.tmp rfl) (run_loadA ty28 rfl (hs.seg (i:=0) rfl) (List.take_of_length_le (by simp [hfl])) (by simp [hfl])) (.tmp (hs.tmp rfl) .nil)) rfl ⟨_,rfl,hs.fr,?_⟩
      rw [show s.read jn=(ofW s.q jn (sec s.xs jn),0) from (if_neg hd).trans (if_neg hj)]
      rfl
theorem ref_New (n:Nat) (hn:n≤4096) (w:World) :Ctr Try.prog 16 [I n] w (fun _=>False) (fun v w'=>∃ h,v=.pointer (some ⟨h,0,none⟩)∧Has w.heap.size w' (rs h (.slice none 0 0) (.slice none 0 0) (newS n) [])):=by
  refine fn_start (N:=6) Try.func16 rfl rfl rfl fun ac hk=>?_
  have hs:=St.start hk w
  refine wp_seq (wp_reg ?_)
  refine s_q hs (c_assign (hs.ev rfl)) rfl fun ac hs=>?_
  refine s_end (then_n (wp_seq (wp_reg ?_)))
  refine s_q hs (c_move (hs.ev rfl)) rfl fun ac hs=>?_
  refine s_q hs (c_buildQ (zc:=hdR (.slice none 0 0) (.slice none 0 0) (newS n)) ty77 bp77 (.cons (hs.ev rfl) (.cons (hs.ev rfl) .nil)) rfl) rfl fun ac hs=>?_
  refine s_box hs rfl rfl rfl fun ac ww g5 hs=>?_
  refine s_q hs (c_assign (hs.ev rfl)) rfl fun ac hs=>?_
  refine s_end ?_
  replace hs:=hs.sub (F':=[(2,_)]) ⟨rfl,trivial⟩
  refine then_n (wp_ret ?_)
  replace hs:=((hs.nilrow 94 65).nilrow 94 65).perm (L':=[_,_,_]) (List.perm_append_comm (l₁:=[_]) (l₂:=[_,_]))
  refine s_ret hs rfl (.tmp (hs.tmp rfl) .nil) rfl ⟨_,rfl,hs.fr,?_⟩
  exact ⟨g5,rfl,hs.made⟩
end Go.Proofs.Ytkecdcmjkghddaa
end

section
/- The document's device: what turns it. -/
namespace Go.Proofs.Ytkecdcmjkghddaa
open Go Go.Fw
def flR (su:List Wr) (x:Wr) (k:Nat):List Wr:=(su.take k).filter fun y=>decide (¬ y.p=x.p)
theorem flR_yes {su:List Wr} {x y:Wr} {k:Nat} (h:k < su.length) (hy:su.getD k default=y) (hn:¬ y.p=x.p):flR su x (k + 1)=flR su x k++[y]:=by
  rw [flR,flR,filter_succ h,hy,if_pos (decide_eq_true hn)]
theorem flR_no {su:List Wr} {x y:Wr} {k:Nat} (h:k < su.length) (hy:su.getD k default=y) (hn:y.p=x.p):flR su x (k + 1)=flR su x k:=by
  rw [flR,flR,filter_succ h,hy,if_neg (by simp [hn]),List.append_nil]
theorem flR_le (su:List Wr) (x:Wr) (k:Nat):(flR su x k).length≤su.length:=Nat.le_trans (List.length_filter_le _ _) (by rw [List.length_take]; omega)
theorem flR_all (su:List Wr) (x:Wr):flR su x su.length++[x]=putR su x:=by rw [flR,List.take_length]; rfl
theorem tk_set {b S:List UInt8} {t:Nat} (hb:t < b.length) (hS:t < S.length):(b.take t++S.drop t).set t (b.getD t 0)=b.take (t + 1)++S.drop (t + 1):=by
  have h1:(b.take t).length=t:=by rw [List.length_take]; omega
  rw [List.set_append_right _ _ (by omega),h1,Nat.sub_self,List.drop_eq_getElem_cons hS,List.set_cons_zero,List.take_add_one,List.getElem?_eq_getElem hb,List.getD_eq_getElem?_getD,List.getElem?_eq_getElem hb]
  simp only [Option.toList_some,List.append_assoc,List.cons_append,List.nil_append,Option.getD_some]
theorem wr_byte {x:Wr} {t:Nat} (h:t < x.b.length):(x.c.toArray.toList)[0 + 1 + t * 1]?=some (B (x.b.getD t 0)):=by
  rw [show 0 + 1 + t * 1=t + 1 by omega]
  simp [Wr.c,h]
theorem ref_power (h:Nat) (v1 v2:Value) (s:Sl) (hok:s.Ok) (hst:s.steps≤1000000000) (w:World) (hb:w.heap[h]?=some (.cells (hdR v1 v2 s).toArray 77 (0,0))):Ctr Try.prog 47 [.pointer (some ⟨h,0,none⟩)] w (fun k=>k=h) (fun v w'=>v=.bool (decide (¬ s.fuse=0))∧w'.heap[h]?=some (.cells (hdR v1 v2 s.pow).toArray 77 (0,0))):=by
  refine fn_start (N:=32) Try.func47 rfl rfl rfl fun ac hk=>?_
  have hs:=St.own1 hk hb
  refine wp_seq (wp_reg ?_)
  refine s_q hs (c_assign (hs.ev rfl)) rfl fun ac hs=>?_
  refine s_end (then_n (wp_seq (wp_seq (wp_reg ?_))))
  refine s_q hs (c_move (hs.ev rfl)) rfl fun ac hs=>?_
  refine s_q hs (c_nil (hs.ev rfl)) rfl fun ac hs=>?_
  refine s_q hs (c_fld fl77_3 (hs.ev rfl)) rfl fun ac hs=>?_
  refine s_q hs (c_loadS un3 rfl (hs.ev rfl) (hs.seg (i:=0) rfl) rfl) rfl fun ac hs=>?_
  refine s_q hs (c_eqlI (hs.ev rfl) (hs.ev rfl)) rfl fun ac hs=>?_
  refine s_end ?_
  replace hs:=hs.sub (F':=[(0,_),(2,_),(7,_)]) ⟨rfl,rfl,rfl,trivial⟩
  refine then_n ?_
  refine s_cond hs rfl (fun hc=>?_) (fun hc=>?_)
  · try simp only [decide_eq_true_eq,decide_eq_false_iff_not,Bool.not_eq_true',Bool.not_eq_false',Bool.and_eq_true,Bool.or_eq_true,Bool.or_eq_false_iff] at hc
    have hpw:s.pow=s.off:=if_pos hc
    refine wp_seq (wp_reg ?_)
    refine s_q hs (c_move (hs.ev rfl)) rfl fun ac hs=>?_
    refine s_q hs (c_nil (hs.ev rfl)) rfl fun ac hs=>?_
    refine s_q hs (c_fld fl77_4 (hs.ev rfl)) rfl fun ac hs=>?_
    refine s_store (i:=0) hs ty4 rfl rfl rfl rfl rfl rfl (by simp [hdR,Value.cells]) rfl fun ww hs=>?_
    refine s_end ?_
    replace hs:=hs.sub (F':=[(0,_),(2,_)]) ⟨rfl,rfl,trivial⟩
    refine then_n (wp_seq (wp_reg ?_))
    refine s_q hs (c_assign (hs.ev rfl)) rfl fun ac hs=>?_
    refine s_end (then_n (wp_ret (then_r ?_)))
    refine s_ret hs rfl (.tmp (hs.tmp rfl) .nil) rfl ⟨_,rfl,hs.fr,?_⟩
    exact ⟨by rw [decide_eq_false (fun h=>h hc)]; rfl,by rw [hpw]; exact hs.seg (i:=0) rfl⟩
  · try simp only [decide_eq_true_eq,decide_eq_false_iff_not,Bool.not_eq_true',Bool.not_eq_false',Bool.and_eq_true,Bool.or_eq_true,Bool.or_eq_false_iff] at hc
    have hpw:s.pow=s.on:=if_neg hc
    have hf1:=hok.f1
    have hf2:=hok.f2
    refine wp_skip (then_n (wp_seq (wp_seq (wp_reg ?_))))
    refine s_q hs (c_move (hs.ev rfl)) rfl fun ac hs=>?_
    refine s_q hs (c_nil (hs.ev rfl)) rfl fun ac hs=>?_
    refine s_q hs (c_fld fl77_3 (hs.ev rfl)) rfl fun ac hs=>?_
    refine s_q hs (c_loadS un3 rfl (hs.ev rfl) (hs.seg (i:=0) rfl) rfl) rfl fun ac hs=>?_
    refine s_q hs (c_gtrI (hs.ev rfl) (hs.ev rfl)) rfl fun ac hs=>?_
    refine s_end ?_
    replace hs:=hs.sub (F':=[(0,_),(2,_),(15,_)]) ⟨rfl,rfl,rfl,trivial⟩
    refine then_n ?_
    refine s_cond hs rfl (fun hc=>?_) (fun hc=>?_)
    · try simp only [decide_eq_true_eq,decide_eq_false_iff_not,Bool.not_eq_true',Bool.not_eq_false',Bool.and_eq_true,Bool.or_eq_true,Bool.or_eq_false_iff] at hc
      have hfu:(if 0 < s.fuse then s.fuse - 1 else s.fuse)=s.fuse - 1:=if_pos hc
      refine wp_reg ?_
      refine s_q hs (c_move (hs.ev rfl)) rfl fun ac hs=>?_
      refine s_q hs (c_move (hs.ev rfl)) rfl fun ac hs=>?_
      refine s_q hs (c_nil (hs.ev rfl)) rfl fun ac hs=>?_
      refine s_q hs (c_fld fl77_3 (hs.ev rfl)) rfl fun ac hs=>?_
      refine s_q hs (c_loadS un3 rfl (hs.ev rfl) (hs.seg (i:=0) rfl) rfl) rfl fun ac hs=>?_
      refine s_q hs (c_subI (hs.ev rfl) (hs.ev rfl) (by omega) (by omega)) rfl fun ac hs=>?_
      refine s_q hs (c_nil (hs.ev rfl)) rfl fun ac hs=>?_
      refine s_q hs (c_fld fl77_3 (hs.ev rfl)) rfl fun ac hs=>?_
      refine s_store (i:=0) hs ty3 rfl rfl rfl rfl rfl rfl (by simp [hdR,Value.cells]) rfl fun ww hs=>?_
      refine s_end ?_
      replace hs:=hs.sub (F':=[(0,_),(2,_)]) ⟨rfl,rfl,trivial⟩
      refine then_n (wp_seq (wp_reg ?_))
      refine s_q hs (c_move (hs.ev rfl)) rfl fun ac hs=>?_
      refine s_q hs (c_move (hs.ev rfl)) rfl fun ac hs=>?_
      refine s_q hs (c_nil (hs.ev rfl)) rfl fun ac hs=>?_
      refine s_q hs (c_fld fl77_5 (hs.ev rfl)) rfl fun ac hs=>?_
      refine s_q hs (c_loadS un3 rfl (hs.ev rfl) (hs.seg (i:=0) rfl) rfl) rfl fun ac hs=>?_
      refine s_q hs (c_addI (hs.ev rfl) (hs.ev rfl) (by omega) (by omega)) rfl fun ac hs=>?_
      refine s_q hs (c_nil (hs.ev rfl)) rfl fun ac hs=>?_
      refine s_q hs (c_fld fl77_5 (hs.ev rfl)) rfl fun ac hs=>?_
      refine s_store (i:=0) hs ty3 rfl rfl rfl rfl rfl rfl (by simp [hdR,Value.cells]) rfl fun ww hs=>?_
      refine s_end ?_
      replace hs:=hs.sub (F':=[(2,_)]) ⟨rfl,trivial⟩
      refine then_n (wp_seq (wp_reg ?_))
      refine s_q hs (c_assign (hs.ev rfl)) rfl fun ac hs=>?_
      refine s_end (then_n (wp_ret ?_))
      refine s_ret hs rfl (.tmp (hs.tmp rfl) .nil) rfl ⟨_,rfl,hs.fr,?_⟩
      refine ⟨by rw [decide_eq_true (by omega)]; rfl,?_⟩
      rw [hpw,hdR,Sl.on,hfu]
      exact hs.seg (i:=0) rfl
    · try simp only [decide_eq_true_eq,decide_eq_false_iff_not,Bool.not_eq_true',Bool.not_eq_false',Bool.and_eq_true,Bool.or_eq_true,Bool.or_eq_false_iff] at hc
      have hfu:(if 0 < s.fuse then s.fuse - 1 else s.fuse)=s.fuse:=if_neg hc
      refine wp_skip (then_n (wp_seq (wp_reg ?_)))
      refine s_q hs (c_move (hs.ev rfl)) rfl fun ac hs=>?_
      refine s_q hs (c_move (hs.ev rfl)) rfl fun ac hs=>?_
      refine s_q hs (c_nil (hs.ev rfl)) rfl fun ac hs=>?_
      refine s_q hs (c_fld fl77_5 (hs.ev rfl)) rfl fun ac hs=>?_
      refine s_q hs (c_loadS un3 rfl (hs.ev rfl) (hs.seg (i:=0) rfl) rfl) rfl fun ac hs=>?_
      refine s_q hs (c_addI (hs.ev rfl) (hs.ev rfl) (by omega) (by omega)) rfl fun ac hs=>?_
      refine s_q hs (c_nil (hs.ev rfl)) rfl fun ac hs=>?_
      refine s_q hs (c_fld fl77_5 (hs.ev rfl)) rfl fun ac hs=>?_
      refine s_store (i:=0) hs ty3 rfl rfl rfl rfl rfl rfl (by simp [hdR,Value.cells]) rfl fun ww hs=>?_
      refine s_end ?_
      replace hs:=hs.sub (F':=[(2,_)]) ⟨rfl,trivial⟩
      refine then_n (wp_seq (wp_reg ?_))
      refine s_q hs (c_assign (hs.ev rfl)) rfl fun ac hs=>?_
      refine s_end (then_n (wp_ret ?_))
      refine s_ret hs rfl (.tmp (hs.tmp rfl) .nil) rfl ⟨_,rfl,hs.fr,?_⟩
      refine ⟨by rw [decide_eq_true (by omega)]; rfl,?_⟩
      rw [hpw,hdR,Sl.on,hfu]
      exact hs.seg (i:=0) rfl
theorem ref_put (n:Nat) (h:Nat) (v1 v2:Value) (s:Sl) (su:List Wr) (x:Wr) (hx:x.Ok n) (hsu:∀ y∈su,y.Ok n) (hle:su.length≤1000000) (w:World) (hrs:Has 0 w (rs h v1 v2 s su)):Ctr Try.prog 48 [.pointer (some ⟨h,0,none⟩),.agg x.c.toArray] w (Ent.grp (rs h v1 v2 s su)).keys (fun v w'=>v=.tuple #[]∧∃ v1',Has 0 w' (rs h v1' v2 s (putR su x))∧∀ k,(Ent.grp (rs h v1' v2 s (putR su x))).keys k→(Ent.grp (rs h v1 v2 s su)).keys k∨w.heap.size≤k):=by
  refine fn_start (N:=43) Try.func48 rfl rfl rfl fun ac hk=>?_
  have hs:=St.startG hk hrs
  obtain ⟨ad1,cap1,rfl,hqc,hqm⟩:=Rd.sl (Rd.of_row (hs.get (i:=1) rfl))
  refine wp_seq (wp_reg ?_)
  refine s_box hs rfl rfl rfl fun ac ww g3 hs=>?_
  refine s_end ?_
  replace hs:=hs.sub (F':=[(0,_),(3,_)]) ⟨rfl,rfl,trivial⟩
  refine then_n (wp_seq (wp_reg ?_))
  refine s_q hs (c_assign (hs.ev rfl)) rfl fun ac hs=>?_
  refine s_end ?_
  replace hs:=hs.nilrow 94 65
  refine then_n (wp_seq (wp_seq (wp_reg ?_)))
  refine s_q hs (c_assign (hs.ev rfl)) rfl fun ac hs=>?_
  refine s_end (then_n (wp_block ?_))
  refine s_loop hs (X:=Nat × Value) (fun z=>[(5,I z.1),(4,z.2)]) [(0,_),(3,_)] (fun z=>[.row z.2 (flR su x z.1).length (wrC (flR su x z.1)) 94 65,.seg g3 x.c 94,.seg h (hdR (.slice ad1 su.length cap1) v2 s) 77,.row (.slice ad1 su.length cap1) su.length (wrC su) 94 65,.row v2 s.q.length (wrC s.q) 94 65]) (fun n z=>z.1≤su.length∧n=su.length - z.1) (_) ((0,.slice none 0 0)) (⟨Nat.zero_le _,rfl⟩) ⟨rfl,rfl,rfl,rfl,trivial⟩ rfl ?_
  rintro n ⟨k,fv⟩ ac ww hok2 hs
  simp only [List.cons_append,List.nil_append] at hs
  obtain ⟨hk,rfl⟩:=hok2
  have hfl:=flR_le su x k
  refine wp_seq (wp_seq (wp_reg ?_))
  refine s_q hs (c_move (hs.ev rfl)) rfl fun ac hs=>?_
  refine s_q hs (c_move (hs.ev rfl)) rfl fun ac hs=>?_
  refine s_q hs (c_nil (hs.ev rfl)) rfl fun ac hs=>?_
  refine s_q hs (c_fld fl77_1 (hs.ev rfl)) rfl fun ac hs=>?_
  refine s_q hs (c_loadS un75 rfl (hs.ev rfl) (hs.seg (i:=2) rfl) rfl) rfl fun ac hs=>?_
  refine s_q hs (c_lenS un75 (hs.ev rfl)) rfl fun ac hs=>?_
  refine s_q hs (c_lssI (hs.ev rfl) (hs.ev rfl)) rfl fun ac hs=>?_
  refine s_end (then_n ?_)
  refine s_cond hs rfl (fun hc=>?_) (fun hc=>?_)
  · try simp only [decide_eq_true_eq,decide_eq_false_iff_not,Bool.not_eq_true',Bool.not_eq_false',Bool.and_eq_true,Bool.or_eq_true,Bool.or_eq_false_iff] at hc
    have hkn:k < su.length:=by omega
    have hyo:=wr_ok hsu hkn
    obtain ⟨qb,qcap2,qcur,he,hqb,_,_,_,hcur⟩:=hs.row_at (i:=3) rfl (by omega)
    have hs9:=hs
    cases he
    replace hs:=hs9
    have hpc:=wr_piece hsu hcur hkn
    have hcl:=wr_cell hsu hcur hkn
    obtain ⟨y,hy⟩:∃ y,su.getD k default=y:=⟨_,rfl⟩
    rw [hy] at hpc hcl hyo
    refine wp_skip (then_n (wp_seq (wp_block (wp_seq ?_))))
    refine wp_region_rg pmix 11 (by kernel_rfl) rfl hs ?_
    simp only [List.take_succ_cons,List.take_zero]
    refine rg_q (fun ac ww h=>c_move (h.ev rfl)) rfl ?_
    refine rg_q (fun ac ww h=>c_nil (h.ev rfl)) rfl ?_
    refine rg_q (fun ac ww h=>c_fld fl77_1 (h.ev rfl)) rfl ?_
    refine rg_q (fun ac ww h=>c_loadS un75 rfl (h.ev rfl) (h.blk (hs.seg (i:=2) rfl)) rfl) rfl ?_
    refine rg_q (fun ac ww h=>c_move (h.ev rfl)) rfl ?_
    refine rg_q (fun ac ww h=>c_idxS (j:=k) un75 ty94 (h.ev rfl) (h.ev rfl) (by omega) (by omega)) rfl ?_
    refine rg_q (fun ac ww h=>c_fld fl94_0 (h.ev rfl)) rfl ?_
    refine rg_q (fun ac ww h=>c_loadS un3 rfl (h.ev rfl) (h.blk hqb) hcl) rfl ?_
    refine rg_q (fun ac ww h=>c_fld fl94_0 (h.ev rfl)) rfl ?_
    refine rg_q (fun ac ww h=>c_loadS un3 rfl (h.ev rfl) (h.blk (hs.seg (i:=1) rfl)) rfl) rfl ?_
    refine rg_q (fun ac ww h=>c_neqI (h.ev rfl) (h.ev rfl)) rfl ?_
    refine rg_nil fun ac ww L' hf hfe hs=>?_
    simp only [List.drop_succ_cons,List.drop_zero]
    obtain rfl:L'=[]:=hfe
    replace hs:=hs.toL (List.nil_append _)
    refine s_end ?_
    replace hqb:=(hf.block _ (heap_lt hqb) id).trans hqb
    refine then_n ?_
    refine s_cond hs rfl (fun hc=>?_) (fun hc=>?_)
    · try simp only [decide_eq_true_eq,decide_eq_false_iff_not,Bool.not_eq_true',Bool.not_eq_false',Bool.and_eq_true,Bool.or_eq_true,Bool.or_eq_false_iff] at hc
      have hne:¬ y.p=x.p:=by omega
      refine wp_reg ?_
      refine s_q hs (c_move (hs.ev rfl)) rfl fun ac hs=>?_
      refine s_q hs (c_move (hs.ev rfl)) rfl fun ac hs=>?_
      refine s_q hs (c_nil (hs.ev rfl)) rfl fun ac hs=>?_
      refine s_q hs (c_fld fl77_1 (hs.ev rfl)) rfl fun ac hs=>?_
      refine s_q hs (c_loadS un75 rfl (hs.ev rfl) (hs.seg (i:=2) rfl) rfl) rfl fun ac hs=>?_
      refine s_q hs (c_move (hs.ev rfl)) rfl fun ac hs=>?_
      refine s_q hs (c_idxS (j:=k) un75 ty94 (hs.ev rfl) (hs.ev rfl) (by omega) (by omega)) rfl fun ac hs=>?_
      refine s_q hs (c_loadA ty94 ag94 (hs.ev rfl) hqb hpc (Wr.c_len hyo)) rfl fun ac hs=>?_
      refine s_bslice hs un75 ty94 (.cons (hs.ev rfl) .nil) rfl (fun v hv=>by rw [List.mem_singleton.1 hv]; exact Wr.c_len hyo) (by decide) (show _=y.c by simp [flatCells,Value.cells]) rfl fun ac ww g34 hs=>?_
      refine s_append (i:=1) hs un75 ty94 (by decide) rfl rfl rfl (Rd.of_seg (n:=1) (hs.seg (i:=0) rfl) (Nat.le_refl _) (by decide) (List.take_of_length_le (by simp))) (Wr.c_len hyo) (wr_one _) (by unfold maxLen; omega) (by omega) rfl fun ac ww v35 hf hnil hs=>?_
      refine s_q hs (c_assign (hs.ev rfl)) rfl fun ac hs=>?_
      refine s_end ?_
      replace hs:=(hs.pick (L':=[_,_,_,_,_]) (.cons _ (.refl _))).toL (L':=[.row v35 (flR su x (k + 1)).length (wrC (flR su x (k + 1))) 94 65,_,_,_,_]) (by rw [flR_yes hkn hy hne,wrC_app,wrC_one,List.length_append]; rfl)
      refine blk_n (then_n (wp_reg ?_))
      refine s_q hs (c_move (hs.ev rfl)) rfl fun ac hs=>?_
      refine s_q hs (c_addI (hs.ev rfl) (hs.ev rfl) (by omega) (by omega)) rfl fun ac hs=>?_
      refine s_q hs (c_assign (hs.ev rfl)) rfl fun ac hs=>?_
      refine s_end (then_n ?_)
      exact ⟨su.length - (k + 1),by omega,(k + 1,_),⟨by show k + 1≤_; omega,rfl⟩,St.next hs ⟨rfl,rfl,rfl,rfl,trivial⟩ rfl⟩
    · try simp only [decide_eq_true_eq,decide_eq_false_iff_not,Bool.not_eq_true',Bool.not_eq_false',Bool.and_eq_true,Bool.or_eq_true,Bool.or_eq_false_iff] at hc
      have hne:y.p=x.p:=by omega
      rw [← flR_no hkn hy hne] at hs
      refine wp_skip (blk_n (then_n (wp_reg ?_)))
      refine s_q hs (c_move (hs.ev rfl)) rfl fun ac hs=>?_
      refine s_q hs (c_addI (hs.ev rfl) (hs.ev rfl) (by omega) (by omega)) rfl fun ac hs=>?_
      refine s_q hs (c_assign (hs.ev rfl)) rfl fun ac hs=>?_
      refine s_end (then_n ?_)
      exact ⟨su.length - (k + 1),by omega,(k + 1,_),⟨by show k + 1≤_; omega,rfl⟩,St.next hs ⟨rfl,rfl,rfl,rfl,trivial⟩ rfl⟩
  · try simp only [decide_eq_true_eq,decide_eq_false_iff_not,Bool.not_eq_true',Bool.not_eq_false',Bool.and_eq_true,Bool.or_eq_true,Bool.or_eq_false_iff] at hc
    obtain rfl:k=su.length:=by omega
    refine wp_exit (then_e (then_e (blk_hit (then_n (wp_reg ?_)))))
    refine s_q hs (c_move (hs.ev rfl)) rfl fun ac hs=>?_
    refine s_q hs (c_move (hs.ev rfl)) rfl fun ac hs=>?_
    refine s_q hs (c_loadW ty94 ag94 (hs.ev rfl) (hs.seg (i:=1) rfl) (Wr.c_len hx)) rfl fun ac hs=>?_
    refine s_bslice hs un75 ty94 (.cons (hs.ev rfl) .nil) rfl (fun v hv=>by rw [List.mem_singleton.1 hv]; exact Wr.c_len hx) (by decide) (show _=x.c by simp [flatCells,Value.cells]) rfl fun ac ww g39 hs=>?_
    refine s_append (i:=1) hs un75 ty94 (by decide) rfl rfl rfl (Rd.of_seg (n:=1) (hs.seg (i:=0) rfl) (Nat.le_refl _) (by decide) (List.take_of_length_le (by simp))) (Wr.c_len hx) (wr_one _) (by unfold maxLen; omega) (by omega) rfl fun ac ww v40 hf hnil hs=>?_
    obtain ⟨ad40,cap40,rfl,_,_⟩:=Rd.sl (Rd.of_row (hs.get (i:=1) rfl))
    refine s_q hs (c_nil (hs.ev rfl)) rfl fun ac hs=>?_
    refine s_q hs (c_fld fl77_1 (hs.ev rfl)) rfl fun ac hs=>?_
    refine s_store (i:=3) hs ty75 rfl rfl rfl rfl rfl rfl (by simp [hdR,Value.cells]) rfl fun ww hs=>?_
    refine s_end ?_
    replace hs:=hs.sub (F':=[]) trivial
    replace hs:=(((hs.pick (L':=[_,_,_]) (.cons _ (.cons_cons _ (.cons _ (.cons_cons _ (.cons _ (.refl _))))))).perm (L':=[_,_,_]) (List.Perm.swap _ _ _))).toL (L':=rs h _ v2 s (putR su x)) (by rw [← flR_all,rs,wrC_app,wrC_one,List.length_append]; rfl)
    refine s_ret_end hs rfl .nil rfl ⟨_,rfl,hs.fr,?_⟩
    exact ⟨rfl,_,hs.grp⟩
theorem St.rsTo {N:Nat} {F:List (Nat × Value)} {L:List Ent} {w0 w:World} {a:Act} {h m:Nat} {v1 v2 v1' v2':Value} {s s':Sl} {su su':List Wr} (hs:St N F L (Ent.grp (rs h v1 v2 s su)).keys w0 a w) (hS:Sim s'.n s'.xs su') (hm:su'.length + s'.q.length≤su.length + s.q.length + m) (hl:(rs h v1' v2' s' su').Sublist L):RsTo w0 w h v1 v2 s s' su m :=
  ⟨v1',v2',su',(hs.pick hl).grp.1,hS,hm,(hs.pick hl).grp.2⟩
theorem ref_Write (h:Nat) (v1 v2:Value) (s:Sl) (su:List Wr) (j:Int) (b:List UInt8) (hb:b.length=64) (hok:s.Ok) (hS:Sim s.n s.xs su) (hst:s.steps≤1000000000) (hql:s.q.length≤1000000) (w:World) (hrs:Has 0 w (rs h v1 v2 s su)):Ctr Try.prog 38 [.pointer (some ⟨h,0,none⟩),I j,.agg (b.map B).toArray] w (Ent.grp (rs h v1 v2 s su)).keys (fun v w'=>v=I (s.write j b).1∧RsTo w w' h v1 v2 s (s.write j b).2 su 1):=by
  refine fn_start (N:=36) Try.func38 rfl rfl rfl fun ac hk=>?_
  have hs:=St.startG hk hrs
  refine wp_seq (wp_reg ?_)
  refine s_box hs rfl rfl rfl fun ac ww g5 hs=>?_
  refine s_q hs (c_assign (hs.ev rfl)) rfl fun ac hs=>?_
  refine s_end ?_
  replace hs:=hs.sub (F':=[(0,_),(1,_),(5,_),(6,_)]) ⟨rfl,rfl,rfl,rfl,trivial⟩
  refine then_n (wp_seq (wp_seq (wp_reg ?_)))
  refine s_q hs (c_move (hs.ev rfl)) rfl fun ac hs=>?_
  refine s_q hs (c_nil (hs.ev rfl)) rfl fun ac hs=>?_
  refine s_q hs (c_fld fl77_4 (hs.ev rfl)) rfl fun ac hs=>?_
  refine s_q hs (c_loadS un4 rfl (hs.ev rfl) (hs.seg (i:=1) rfl) rfl) rfl fun ac hs=>?_
  refine s_end ?_
  replace hs:=hs.sub (F':=[(0,_),(1,_),(5,_),(6,_),(10,_)]) ⟨rfl,rfl,rfl,rfl,rfl,trivial⟩
  refine then_n ?_
  refine s_cond hs rfl (fun hc=>?_) (fun hc=>?_)
  · try simp only [decide_eq_true_eq,decide_eq_false_iff_not,Bool.not_eq_true',Bool.not_eq_false',Bool.and_eq_true,Bool.or_eq_true,Bool.or_eq_false_iff] at hc
    have hd:s.down=true:=hc
    refine wp_seq (wp_reg ?_)
    refine s_q hs (c_assign (hs.ev rfl)) rfl fun ac hs=>?_
    refine s_end ?_
    replace hs:=hs.sub (F':=[(0,_),(1,_),(5,_),(6,_)]) ⟨rfl,rfl,rfl,rfl,trivial⟩
    refine then_n (wp_ret (then_r ?_))
    refine s_ret hs rfl (.tmp (hs.tmp rfl) .nil) rfl ⟨_,rfl,hs.fr,?_⟩
    rw [show s.write j b=(5,s) from if_pos hd]
    exact ⟨rfl,St.rsTo (s':=s) hs hS (Nat.le_add_right _ _) (.cons _ (.refl _))⟩
  · try simp only [decide_eq_true_eq,decide_eq_false_iff_not,Bool.not_eq_true',Bool.not_eq_false',Bool.and_eq_true,Bool.or_eq_true,Bool.or_eq_false_iff] at hc
    have hd:¬ s.down=true:=by rw [hc]; decide
    refine wp_skip (then_n (wp_seq (wp_seq (wp_reg ?_))))
    refine s_q hs (c_move (hs.ev rfl)) rfl fun ac hs=>?_
    refine s_q hs (c_lssI (hs.ev rfl) (hs.ev rfl)) rfl fun ac hs=>?_
    refine s_q hs (c_move (hs.ev rfl)) rfl fun ac hs=>?_
    refine s_g hs rfl rfl (fun hg=>c_move (hs.ev rfl)) rfl fun ac hs=>?_
    refine s_g hs rfl rfl (fun hg=>c_move (hs.ev rfl)) rfl fun ac hs=>?_
    refine s_g hs rfl rfl (fun hg=>c_nil (gev (hs.ev rfl) hg)) rfl fun ac hs=>?_
    refine s_g hs rfl rfl (fun hg=>c_fld fl77_0 (gev (hs.ev rfl) hg)) rfl fun ac hs=>?_
    refine s_g hs rfl rfl (fun hg=>c_loadS un3 rfl (gev (hs.ev rfl) hg) (hs.seg (i:=1) rfl) rfl) rfl fun ac hs=>?_
    refine s_g hs rfl rfl (fun hg=>c_geqI (gev (hs.ev rfl) hg) (gev (hs.ev rfl) hg)) rfl fun ac hs=>?_
    refine s_q hs (c_or (hs.ev rfl) (hs.ev rfl)) rfl fun ac hs=>?_
    refine s_end ?_
    replace hs:=hs.sub (F':=[(0,_),(1,_),(5,_),(6,_),(20,_)]) ⟨rfl,rfl,rfl,rfl,rfl,trivial⟩
    refine then_n ?_
    refine s_cond hs rfl (fun hc=>?_) (fun hc=>?_)
    · skip
      have hj:j < 0∨(s.n:Int)≤j:=by simpa using hc
      refine wp_seq (wp_reg ?_)
      refine s_q hs (c_assign (hs.ev rfl)) rfl fun ac hs=>?_
      refine s_end ?_
      replace hs:=hs.sub (F':=[(0,_),(1,_),(5,_),(6,_)]) ⟨rfl,rfl,rfl,rfl,trivial⟩
      refine then_n (wp_ret (then_r ?_))
      refine s_ret hs rfl (.tmp (hs.tmp rfl) .nil) rfl ⟨_,rfl,hs.fr,?_⟩
      rw [show s.write j b=(1,s) from (if_neg hd).trans (if_pos hj)]
      exact ⟨rfl,St.rsTo (s':=s) hs hS (Nat.le_add_right _ _) (.cons _ (.refl _))⟩
    · skip
      have hj:¬ (j < 0∨(s.n:Int)≤j):=by
        simp at hc
        omega
      obtain ⟨jn,rfl⟩:∃ jn:Nat,j=jn:=⟨j.toNat,by omega⟩
      refine wp_skip (then_n (wp_seq (wp_seq (wp_reg ?_))))
      refine s_q hs (c_move (hs.ev rfl)) rfl fun ac hs=>?_
      refine s_callM (i:=1) hs fu47 (.cons (hs.ev rfl) .nil) rfl (ref_power h v1 _ s hok hst _ (hs.seg (i:=1) rfl)) rfl fun ac ww v22 hf hp hs=>?_
      obtain ⟨rfl,hb'⟩:=hp
      replace hs:=hs (.seg h (hdR v1 _ s.pow) 77) hb' (fun k hk=>⟨.inl hk,seg_lt hb' k hk⟩)
      refine s_q hs (c_not (hs.ev rfl)) rfl fun ac hs=>?_
      refine s_end ?_
      replace hs:=hs.sub (F':=[(0,_),(1,_),(5,_),(6,_),(23,_)]) ⟨rfl,rfl,rfl,rfl,rfl,trivial⟩
      refine then_n ?_
      refine s_cond hs rfl (fun hc=>?_) (fun hc=>?_)
      · try simp only [decide_eq_true_eq,decide_eq_false_iff_not,Bool.not_eq_true',Bool.not_eq_false',Bool.and_eq_true,Bool.or_eq_true,Bool.or_eq_false_iff] at hc
        have hf0:s.fuse=0:=by simpa using hc
        have hpw:s.pow=s.off:=if_pos hf0
        rw [hpw] at hs
        refine wp_seq (wp_reg ?_)
        refine s_q hs (c_assign (hs.ev rfl)) rfl fun ac hs=>?_
        refine s_end ?_
        replace hs:=hs.sub (F':=[(0,_),(1,_),(5,_),(6,_)]) ⟨rfl,rfl,rfl,rfl,trivial⟩
        refine then_n (wp_ret (then_r ?_))
        refine s_ret hs rfl (.tmp (hs.tmp rfl) .nil) rfl ⟨_,rfl,hs.fr,?_⟩
        rw [show s.write jn b=(5,s.off) from (if_neg hd).trans ((if_neg hj).trans (if_pos hf0))]
        exact ⟨rfl,St.rsTo (s':=s.off) hs hS (by show su.length + s.q.length≤_; omega) (.cons _ (.refl _))⟩
      · try simp only [decide_eq_true_eq,decide_eq_false_iff_not,Bool.not_eq_true',Bool.not_eq_false',Bool.and_eq_true,Bool.or_eq_true,Bool.or_eq_false_iff] at hc
        have hf0:¬ s.fuse=0:=by simpa using hc
        have hpw:s.pow=s.on:=if_neg hf0
        rw [hpw] at hs
        refine wp_skip (then_n (wp_seq ?_))
        obtain ⟨qad,qcap,rfl,hqc,hqm⟩:=Rd.sl (Rd.of_row (hs.get (i:=3) rfl))
        refine wp_region_rgX (J:=[0]) pmix 9 (by kernel_rfl) (by kernel_rfl) rfl rfl hs ?_
        simp only [List.take_succ_cons,List.take_zero]
        refine rg_q (fun ac ww h=>c_move (h.ev rfl)) rfl ?_
        refine rg_q (fun ac ww h=>c_move (h.ev rfl)) rfl ?_
        refine rg_q (fun ac ww h=>c_nil (h.ev rfl)) rfl ?_
        refine rg_q (fun ac ww h=>c_fld fl77_2 (h.ev rfl)) rfl ?_
        refine rg_q (fun ac ww h=>c_loadS un75 rfl (h.ev rfl) (h.blk (hs.seg (i:=1) rfl)) rfl) rfl ?_
        refine rg_q (fun ac ww h=>c_move (h.ev rfl)) rfl ?_
        refine rg_q (fun ac ww h=>c_loadW ty28 rfl (h.ev rfl) (h.blk (hs.seg (i:=0) rfl)) (by simp [hb])) rfl ?_
        refine rg_q (fun ac ww h=>c_buildS (zc:=I (jn:Nat)::b.map B) ty94 bp94 (.cons (h.ev rfl) (.cons (h.ev rfl) .nil)) ⟨rfl,by simp [Value.cells,hb],trivial⟩ (by simp [flatCells,Value.cells,hb]) (by simp [flatCells,Value.cells,hb])) rfl ?_
        refine rg_bslice un75 ty94 (fun ac ww h=>(.cons (h.ev rfl) .nil)) rfl (by simp [Value.cells,hb]) (by decide) (show _=Wr.c ⟨jn,b⟩ by simp [flatCells,Value.cells,Wr.c]) rfl ?_
        refine rg_nil fun ac ww L' hf hfe hs hlk=>?_
        simp only [List.drop_succ_cons,List.drop_zero]
        obtain ⟨v32,L32,M32,h32,e32,rfl,rfl⟩:=hfe
        replace hs:=hs.add h32
        obtain ⟨g32,rfl,rfl⟩:=e32
        refine sk_append (i:=4) hs un75 ty94 (by decide) rfl rfl rfl (Rd.of_seg (n:=1) (hs.seg (i:=0) rfl) (Nat.le_refl _) (by decide) (List.take_of_length_le (by simp))) (Wr.c_len (x:=⟨jn,b⟩) (n:=s.n) ⟨hb,by show jn < s.n; omega⟩) (wr_one _) (by unfold maxLen; omega) (by omega) rfl (fun ac ww v33 hf hnil hs=>late_turn rfl rfl (late_nil)) fun ac ww v33 hf hnil hs=>?_
        obtain ⟨ad33,cap33,rfl,_,_⟩:=Rd.sl (Rd.of_row (hs.get (i:=4) rfl))
        refine s_q hs (c_nil (hs.ev rfl)) rfl fun ac hs=>?_
        refine s_q hs (c_fld fl77_2 (hs.ev rfl)) rfl fun ac hs=>?_
        refine s_store (i:=2) hs ty75 rfl rfl rfl rfl rfl rfl (by simp [hdR,Value.cells]) rfl fun ww hs=>?_
        refine s_end ?_
        replace hs:=hs.sub (F':=[(6,_)]) ⟨rfl,trivial⟩
        refine then_n (wp_seq (wp_reg ?_))
        refine s_q hs (c_assign (hs.ev rfl)) rfl fun ac hs=>?_
        refine s_end (then_n (wp_ret ?_))
        replace hs:=(hs.pick (L':=[_,_,_]) (.cons _ (.cons _ (.refl _)))).toL (L':=rs h v1 _ { s.on with q:=s.q++[⟨jn,b⟩] } su) (by rw [rs,wrC_app,wrC_one,List.length_append]; rfl)
        refine s_ret hs rfl (.tmp (hs.tmp rfl) .nil) rfl ⟨_,rfl,hs.fr,?_⟩
        rw [show s.write jn b=(0,{ s.on with q:=s.q++[⟨jn,b⟩] }) from (if_neg hd).trans ((if_neg hj).trans (if_neg hf0))]
        exact ⟨rfl,St.rsTo hs hS (by show su.length + (s.q++[_]).length≤_; rw [List.length_append]; exact Nat.le_refl _) (.refl _)⟩
theorem ref_Flush (h:Nat) (v1 v2:Value) (s:Sl) (su:List Wr) (hok:s.Ok) (hS:Sim s.n s.xs su) (hst:s.steps≤1000000000) (hql:s.q.length + su.length≤1000000) (w:World) (hrs:Has 0 w (rs h v1 v2 s su)):Ctr Try.prog 39 [.pointer (some ⟨h,0,none⟩)] w (Ent.grp (rs h v1 v2 s su)).keys (fun v w'=>v=I s.flush.1∧RsTo w w' h v1 v2 s s.flush.2 su 0):=by
  refine fn_start (N:=34) Try.func39 rfl rfl rfl fun ac hk=>?_
  have hs:=St.startG hk hrs
  obtain ⟨ad2,cap2,rfl,hqc,hqm⟩:=Rd.sl (Rd.of_row (hs.get (i:=2) rfl))
  have hnl:=(Rd.of_row (hs.get (i:=2) rfl)).le
  refine wp_seq (wp_reg ?_)
  refine s_q hs (c_assign (hs.ev rfl)) rfl fun ac hs=>?_
  refine s_end (then_n (wp_seq (wp_seq (wp_reg ?_))))
  by_cases hd:s.down=true
  · refine s_q hs (c_move (hs.ev rfl)) rfl fun ac hs=>?_
    refine s_q hs (c_nil (hs.ev rfl)) rfl fun ac hs=>?_
    refine s_q hs (c_fld fl77_4 (hs.ev rfl)) rfl fun ac hs=>?_
    refine s_q hs (c_to (c_loadS un4 rfl (hs.ev rfl) (hs.seg (i:=0) rfl) rfl) ((congrArg Value.bool hd))) rfl fun ac hs=>?_
    refine s_q hs (c_move (hs.ev rfl)) rfl fun ac hs=>?_
    refine s_no hs rfl rfl rfl rfl fun ac hs=>?_
    refine s_no hs rfl rfl rfl rfl fun ac hs=>?_
    refine s_no hs rfl rfl rfl rfl fun ac hs=>?_
    refine s_q hs (c_pick (hs.ev rfl) (hs.ev rfl) (hs.ev rfl)) rfl fun ac hs=>?_
    refine s_end ?_
    replace hs:=hs.sub (F':=[(0,_),(2,_),(12,_)]) ⟨rfl,rfl,rfl,trivial⟩
    refine then_n ?_
    refine wp_cond_true (hs.ev rfl) ?_
    refine wp_seq (wp_reg ?_)
    refine s_q hs (c_assign (hs.ev rfl)) rfl fun ac hs=>?_
    refine s_end ?_
    replace hs:=hs.sub (F':=[(0,_),(2,_)]) ⟨rfl,rfl,trivial⟩
    refine then_n (wp_ret (then_r ?_))
    refine s_ret hs rfl (.tmp (hs.tmp rfl) .nil) rfl ⟨_,rfl,hs.fr,?_⟩
    rw [show s.flush=(5,s) from if_pos hd]
    exact ⟨rfl,St.rsTo (s':=s) hs hS (Nat.le_refl _) (.refl _)⟩
  · refine s_q hs (c_move (hs.ev rfl)) rfl fun ac hs=>?_
    refine s_q hs (c_nil (hs.ev rfl)) rfl fun ac hs=>?_
    refine s_q hs (c_fld fl77_4 (hs.ev rfl)) rfl fun ac hs=>?_
    refine s_q hs (c_to (c_loadS un4 rfl (hs.ev rfl) (hs.seg (i:=0) rfl) rfl) ((congrArg Value.bool (show s.down=false by simpa using hd)))) rfl fun ac hs=>?_
    refine s_q hs (c_move (hs.ev rfl)) rfl fun ac hs=>?_
    refine s_yes hs rfl rfl ?_
    refine s_q hs (c_move (hs.ev rfl)) rfl fun ac hs=>?_
    refine s_yes hs rfl rfl ?_
    refine s_callM (i:=0) hs fu47 (.cons (hs.ev rfl) .nil) rfl (ref_power h v1 _ s hok hst _ (hs.seg (i:=0) rfl)) rfl fun ac ww v10 hf hp hs=>?_
    obtain ⟨rfl,hb'⟩:=hp
    replace hs:=hs (.seg h (hdR v1 _ s.pow) 77) hb' (fun k hk=>⟨.inl hk,seg_lt hb' k hk⟩)
    refine s_yes hs rfl rfl ?_
    refine s_q hs (c_not (hs.ev rfl)) rfl fun ac hs=>?_
    refine s_q hs (c_pick (hs.ev rfl) (hs.ev rfl) (hs.ev rfl)) rfl fun ac hs=>?_
    refine s_end ?_
    replace hs:=hs.sub (F':=[(0,_),(2,_),(12,_)]) ⟨rfl,rfl,rfl,trivial⟩
    refine then_n ?_
    refine s_cond hs rfl (fun hc=>?_) (fun hc=>?_)
    · try simp only [decide_eq_true_eq,decide_eq_false_iff_not,Bool.not_eq_true',Bool.not_eq_false',Bool.and_eq_true,Bool.or_eq_true,Bool.or_eq_false_iff] at hc
      have hf0:s.fuse=0:=by simpa using hc
      have hpw:s.pow=s.off:=if_pos hf0
      rw [hpw] at hs
      refine wp_seq (wp_reg ?_)
      refine s_q hs (c_assign (hs.ev rfl)) rfl fun ac hs=>?_
      refine s_end ?_
      replace hs:=hs.sub (F':=[(0,_),(2,_)]) ⟨rfl,rfl,trivial⟩
      refine then_n (wp_ret (then_r ?_))
      refine s_ret hs rfl (.tmp (hs.tmp rfl) .nil) rfl ⟨_,rfl,hs.fr,?_⟩
      rw [show s.flush=(5,s.off) from (if_neg hd).trans (if_pos hf0)]
      exact ⟨rfl,St.rsTo (s':=s.off) hs hS (by show su.length + s.q.length≤_; omega) (.refl _)⟩
    · try simp only [decide_eq_true_eq,decide_eq_false_iff_not,Bool.not_eq_true',Bool.not_eq_false',Bool.and_eq_true,Bool.or_eq_true,Bool.or_eq_false_iff] at hc
      have hf0:¬ s.fuse=0:=by simpa using hc
      have hpw:s.pow=s.on:=if_neg hf0
      rw [hpw] at hs
      refine wp_skip (then_n (wp_seq (wp_seq (wp_reg ?_))))
      refine s_q hs (c_assign (hs.ev rfl)) rfl fun ac hs=>?_
      refine s_end ?_
      replace hs:=St.grpn (A:=rs h v1 _ s.on su) (L:=[]) hs
      replace hs:=hs.sub (F':=[(0,_),(2,_),(3,_)]) ⟨rfl,rfl,rfl,trivial⟩
      refine then_n (wp_block ?_)
      refine s_loop hs (X:=Nat × Value × List Wr) (fun z=>[(3,I z.1)]) [(0,_),(2,_)] (fun z=>[Ent.grp (rs h z.2.1 (.slice ad2 s.q.length cap2) s.on z.2.2)]) (fun n z=>z.1≤s.q.length∧Sim s.n (putQ s.xs (s.q.take z.1)) z.2.2∧z.2.2.length≤su.length + z.1∧n=s.q.length - z.1) (_) ((0,v1,su)) (⟨Nat.zero_le _,hS,Nat.le_refl _,rfl⟩) ⟨rfl,rfl,rfl,trivial⟩ rfl ?_
      rintro n ⟨k,u1,su1⟩ ac ww hok2 hs
      simp only [List.cons_append,List.nil_append] at hs
      obtain ⟨hk,hS1,hle1,rfl⟩:=hok2
      replace hS1:Sim s.n (putQ s.xs (s.q.take k)) su1:=hS1
      replace hle1:su1.length≤su.length + k:=hle1
      refine wp_seq (wp_seq (wp_reg ?_))
      refine s_q hs (c_move (hs.ev rfl)) rfl fun ac hs=>?_
      refine s_q hs (c_move (hs.ev rfl)) rfl fun ac hs=>?_
      refine s_q hs (c_nil (hs.ev rfl)) rfl fun ac hs=>?_
      refine s_q hs (c_fld fl77_2 (hs.ev rfl)) rfl fun ac hs=>?_
      refine s_q hs (c_loadS un75 rfl (hs.ev rfl) (rs_get (hs.get (i:=0) rfl)).hg rfl) rfl fun ac hs=>?_
      refine s_q hs (c_lenS un75 (hs.ev rfl)) rfl fun ac hs=>?_
      refine s_q hs (c_lssI (hs.ev rfl) (hs.ev rfl)) rfl fun ac hs=>?_
      refine s_end (then_n ?_)
      refine s_cond hs rfl (fun hc=>?_) (fun hc=>?_)
      · try simp only [decide_eq_true_eq,decide_eq_false_iff_not,Bool.not_eq_true',Bool.not_eq_false',Bool.and_eq_true,Bool.or_eq_true,Bool.or_eq_false_iff] at hc
        have hkq:k < s.q.length:=by omega
        have hxo:=wr_ok hok.qo hkq
        obtain ⟨qb,qcap2,qcur,he,hqb,_,_,hcur⟩:=owns_at (rs_get (hs.get (i:=0) rfl)).h2 (show 0 < s.q.length by omega)
        have hs9:=hs
        cases he
        replace hs:=hs9
        have hpc:=wr_piece hok.qo hcur hkq
        obtain ⟨x,hx⟩:∃ x,s.q.getD k default=x:=⟨_,rfl⟩
        rw [hx] at hpc hxo
        refine wp_skip (then_n (wp_seq (wp_block (wp_reg ?_))))
        refine s_q hs (c_move (hs.ev rfl)) rfl fun ac hs=>?_
        refine s_q hs (c_move (hs.ev rfl)) rfl fun ac hs=>?_
        refine s_q hs (c_nil (hs.ev rfl)) rfl fun ac hs=>?_
        refine s_q hs (c_fld fl77_2 (hs.ev rfl)) rfl fun ac hs=>?_
        refine s_q hs (c_loadS un75 rfl (hs.ev rfl) (rs_get (hs.get (i:=0) rfl)).hg rfl) rfl fun ac hs=>?_
        refine s_q hs (c_move (hs.ev rfl)) rfl fun ac hs=>?_
        refine s_q hs (c_idxS (j:=k) un75 ty94 (hs.ev rfl) (hs.ev rfl) (by omega) (by omega)) rfl fun ac hs=>?_
        refine s_q hs (c_loadA ty94 ag94 (hs.ev rfl) hqb hpc (Wr.c_len hxo)) rfl fun ac hs=>?_
        refine s_callM (i:=0) hs fu48 (.cons (hs.ev rfl) (.cons (hs.ev rfl) .nil)) rfl (ref_put s.n h u1 _ s.on su1 x hxo hS1.ok (by omega) _ (hs.get (i:=0) rfl)) rfl fun ac ww v30 hf hp hs=>?_
        obtain ⟨rfl,u2,h1,h2⟩:=hp
        replace hs:=hs (Ent.grp (rs h u2 _ s.on (putR su1 x))) h1 (fun k hk=>⟨h2 k hk,grp_lt h1 k hk⟩)
        have hS2:Sim s.n (putQ s.xs (s.q.take (k + 1))) (putR su1 x):=by rw [putQ_succ hkq,hx]; exact hS1.put hxo
        have hle2:(putR su1 x).length≤su.length + (k + 1):=Nat.le_trans (putR_le su1 x) (by omega)
        refine s_end ?_
        replace hs:=hs.sub (F':=[(0,_),(2,_),(3,_),(13,_),(14,_),(15,_),(16,_),(17,_),(18,_),(19,_),(22,_),(23,_),(24,_),(25,_),(26,_),(27,_),(28,_),(29,_)]) ⟨rfl,rfl,rfl,rfl,rfl,rfl,rfl,rfl,rfl,rfl,rfl,rfl,rfl,rfl,rfl,rfl,rfl,rfl,trivial⟩
        refine blk_n (then_n (wp_reg ?_))
        refine s_q hs (c_move (hs.ev rfl)) rfl fun ac hs=>?_
        refine s_q hs (c_addI (hs.ev rfl) (hs.ev rfl) (by omega) (by omega)) rfl fun ac hs=>?_
        refine s_q hs (c_assign (hs.ev rfl)) rfl fun ac hs=>?_
        refine s_end (then_n ?_)
        exact ⟨s.q.length - (k + 1),by omega,(k + 1,_,_),⟨by show k + 1≤_; omega,hS2,hle2,rfl⟩,St.next hs ⟨rfl,rfl,rfl,trivial⟩ rfl⟩
      · try simp only [decide_eq_true_eq,decide_eq_false_iff_not,Bool.not_eq_true',Bool.not_eq_false',Bool.and_eq_true,Bool.or_eq_true,Bool.or_eq_false_iff] at hc
        obtain rfl:k=s.q.length:=by omega
        rw [List.take_length] at hS1
        replace hs:=hs.ungrp
        refine wp_exit (then_e (then_e (blk_hit (then_n (wp_seq (wp_reg ?_))))))
        refine s_q hs (c_move (hs.ev rfl)) rfl fun ac hs=>?_
        refine s_q hs (c_nil (hs.ev rfl)) rfl fun ac hs=>?_
        refine s_q hs (c_fld fl77_2 (hs.ev rfl)) rfl fun ac hs=>?_
        refine s_store (i:=0) hs ty75 rfl rfl rfl rfl rfl rfl (by simp [hdR,Value.cells]) rfl fun ww hs=>?_
        refine s_end ?_
        replace hs:=hs.sub (F':=[(2,_)]) ⟨rfl,trivial⟩
        refine then_n (wp_seq (wp_reg ?_))
        refine s_q hs (c_assign (hs.ev rfl)) rfl fun ac hs=>?_
        refine s_end (then_n (wp_ret ?_))
        replace hs:=((hs.nilrow 94 65).pick (L':=[_,_,_]) (.cons_cons _ (.cons_cons _ (.cons_cons _ (.cons _ .slnil))))).perm (L':=[_,_,_]) (List.perm_append_comm (l₁:=[_,_]) (l₂:=[_]))
        refine s_ret hs rfl (.tmp (hs.tmp rfl) .nil) rfl ⟨_,rfl,hs.fr,?_⟩
        rw [show s.flush=(0,{ s.on with xs:=putQ s.xs s.q,q:=[] }) from (if_neg hd).trans (if_neg hf0)]
        exact ⟨rfl,St.rsTo (s':={ s.on with xs:=putQ s.xs s.q,q:=[] }) hs hS1 hle1 (.refl _)⟩
theorem ref_Crash (h:Nat) (v1 v2:Value) (s:Sl) (su:List Wr) (wr by_:Int) (hok:s.Ok) (hS:Sim s.n s.xs su) (hql:s.q.length + su.length≤1000000) (w:World) (hrs:Has 0 w (rs h v1 v2 s su)):Ctr Try.prog 40 [.pointer (some ⟨h,0,none⟩),I wr,I by_] w (Ent.grp (rs h v1 v2 s su)).keys (fun v w'=>v=.tuple #[]∧RsTo w w' h v1 v2 s (s.crash wr by_) su 0):=by
  refine fn_start (N:=66) Try.func40 rfl rfl rfl fun ac hk=>?_
  have hs:=St.startG hk hrs
  obtain ⟨ad2,cap2,rfl,hqc,hqm⟩:=Rd.sl (Rd.of_row (hs.get (i:=2) rfl))
  have hnl:=(Rd.of_row (hs.get (i:=2) rfl)).le
  refine wp_seq (wp_seq (wp_reg ?_))
  refine s_q hs (c_assign (hs.ev rfl)) rfl fun ac hs=>?_
  refine s_end ?_
  replace hs:=St.grpn (A:=rs h v1 _ s su) (L:=[]) hs
  refine then_n (wp_block ?_)
  refine s_loop hs (X:=Nat × Value × List Wr) (fun z=>[(6,I z.1)]) [(0,_),(1,_),(2,_)] (fun z=>[Ent.grp (rs h z.2.1 (.slice ad2 s.q.length cap2) s z.2.2)]) (fun n z=>z.1≤s.q.length∧(z.1:Int)≤max wr 0∧Sim s.n (putQ s.xs (s.q.take z.1)) z.2.2∧z.2.2.length≤su.length + z.1∧n=s.q.length - z.1) (_) ((0,v1,su)) (⟨Nat.zero_le _,by show (0:Int)≤_; omega,hS,Nat.le_refl _,rfl⟩) ⟨rfl,rfl,rfl,rfl,trivial⟩ rfl ?_
  rintro n ⟨k,u1,su1⟩ ac ww hok2 hs
  simp only [List.cons_append,List.nil_append] at hs
  obtain ⟨hk,hkw,hS1,hle1,rfl⟩:=hok2
  replace hkw:(k:Int)≤max wr 0:=hkw
  replace hS1:Sim s.n (putQ s.xs (s.q.take k)) su1:=hS1
  replace hle1:su1.length≤su.length + k:=hle1
  refine wp_seq (wp_seq (wp_reg ?_))
  refine s_q hs (c_move (hs.ev rfl)) rfl fun ac hs=>?_
  refine s_q hs (c_move (hs.ev rfl)) rfl fun ac hs=>?_
  refine s_q hs (c_nil (hs.ev rfl)) rfl fun ac hs=>?_
  refine s_q hs (c_fld fl77_2 (hs.ev rfl)) rfl fun ac hs=>?_
  refine s_q hs (c_loadS un75 rfl (hs.ev rfl) (rs_get (hs.get (i:=0) rfl)).hg rfl) rfl fun ac hs=>?_
  refine s_q hs (c_lenS un75 (hs.ev rfl)) rfl fun ac hs=>?_
  refine s_q hs (c_lssI (hs.ev rfl) (hs.ev rfl)) rfl fun ac hs=>?_
  refine s_end (then_n ?_)
  refine s_cond hs rfl (fun hc=>?_) (fun hc=>?_)
  · try simp only [decide_eq_true_eq,decide_eq_false_iff_not,Bool.not_eq_true',Bool.not_eq_false',Bool.and_eq_true,Bool.or_eq_true,Bool.or_eq_false_iff] at hc
    have hkq:k < s.q.length:=by omega
    have hxo:=wr_ok hok.qo hkq
    obtain ⟨qb,qcap2,qcur,he,hqb,_,_,hcur⟩:=owns_at (rs_get (hs.get (i:=0) rfl)).h2 (show 0 < s.q.length by omega)
    have hs9:=hs
    cases he
    replace hs:=hs9
    have hpc:=wr_piece hok.qo hcur hkq
    obtain ⟨x,hx⟩:∃ x,s.q.getD k default=x:=⟨_,rfl⟩
    rw [hx] at hpc hxo
    refine wp_skip (then_n (wp_seq (wp_block (wp_seq (wp_reg ?_)))))
    refine s_q hs (c_move (hs.ev rfl)) rfl fun ac hs=>?_
    refine s_q hs (c_nil (hs.ev rfl)) rfl fun ac hs=>?_
    refine s_q hs (c_fld fl77_2 (hs.ev rfl)) rfl fun ac hs=>?_
    refine s_q hs (c_loadS un75 rfl (hs.ev rfl) (rs_get (hs.get (i:=0) rfl)).hg rfl) rfl fun ac hs=>?_
    refine s_q hs (c_move (hs.ev rfl)) rfl fun ac hs=>?_
    refine s_q hs (c_idxS (j:=k) un75 ty94 (hs.ev rfl) (hs.ev rfl) (by omega) (by omega)) rfl fun ac hs=>?_
    refine s_q hs (c_loadA ty94 ag94 (hs.ev rfl) hqb hpc (Wr.c_len hxo)) rfl fun ac hs=>?_
    refine s_alloc hs ty94 rfl fun ac ww g7 hs=>?_
    refine s_storeW (i:=0) hs ty94 rfl rfl rfl (Wr.c_len hxo) (wr_one _) (by rfl) fun ww hs=>?_
    refine s_end (then_n (wp_seq (wp_seq (wp_reg ?_))))
    refine s_q hs (c_move (hs.ev rfl)) rfl fun ac hs=>?_
    refine s_q hs (c_move (hs.ev rfl)) rfl fun ac hs=>?_
    refine s_q hs (c_lssI (hs.ev rfl) (hs.ev rfl)) rfl fun ac hs=>?_
    refine s_end (then_n ?_)
    refine s_cond hs rfl (fun hc=>?_) (fun hc=>?_)
    · try simp only [decide_eq_true_eq,decide_eq_false_iff_not,Bool.not_eq_true',Bool.not_eq_false',Bool.and_eq_true,Bool.or_eq_true,Bool.or_eq_false_iff] at hc
      have hkw2:(k:Int) < wr:=hc
      refine wp_seq (wp_reg ?_)
      refine s_q hs (c_move (hs.ev rfl)) rfl fun ac hs=>?_
      refine s_q hs (c_loadW ty94 ag94 (hs.ev rfl) (hs.seg (i:=0) rfl) (Wr.c_len hxo)) rfl fun ac hs=>?_
      refine s_callM (i:=1) hs fu48 (.cons (hs.ev rfl) (.cons (hs.ev rfl) .nil)) rfl (ref_put s.n h u1 _ s su1 x hxo hS1.ok (by omega) _ (hs.get (i:=1) rfl)) rfl fun ac ww v31 hf hp hs=>?_
      obtain ⟨rfl,u2,h1,h2⟩:=hp
      replace hs:=hs (Ent.grp (rs h u2 _ s (putR su1 x))) h1 (fun k hk=>⟨h2 k hk,grp_lt h1 k hk⟩)
      have hS2:Sim s.n (putQ s.xs (s.q.take (k + 1))) (putR su1 x):=by rw [putQ_succ hkq,hx]; exact hS1.put hxo
      have hle2:(putR su1 x).length≤su.length + (k + 1):=Nat.le_trans (putR_le su1 x) (by omega)
      refine s_end ?_
      replace hs:=hs.sub (F':=[(0,_),(1,_),(2,_),(6,_),(7,_),(10,_),(11,_),(12,_),(13,_),(14,_),(15,_),(16,_),(19,_),(20,_),(21,_),(22,_),(23,_),(24,_),(25,_),(26,_),(27,_),(28,_),(29,_),(30,_)]) ⟨rfl,rfl,rfl,rfl,rfl,rfl,rfl,rfl,rfl,rfl,rfl,rfl,rfl,rfl,rfl,rfl,rfl,rfl,rfl,rfl,rfl,rfl,rfl,rfl,trivial⟩
      refine then_n (wp_exit (then_e (blk_hit (then_n (wp_reg ?_)))))
      refine s_q hs (c_move (hs.ev rfl)) rfl fun ac hs=>?_
      refine s_q hs (c_addI (hs.ev rfl) (hs.ev rfl) (by omega) (by omega)) rfl fun ac hs=>?_
      refine s_q hs (c_assign (hs.ev rfl)) rfl fun ac hs=>?_
      refine s_end (then_n ?_)
      replace hs:=hs.pick (L':=[_]) (.cons _ (.refl _))
      exact ⟨s.q.length - (k + 1),by omega,(k + 1,_,_),⟨by show k + 1≤_; omega,by show ((k + 1:Nat):Int)≤_; omega,hS2,hle2,rfl⟩,St.next hs ⟨rfl,rfl,rfl,rfl,trivial⟩ rfl⟩
    · try simp only [decide_eq_true_eq,decide_eq_false_iff_not,Bool.not_eq_true',Bool.not_eq_false',Bool.and_eq_true,Bool.or_eq_true,Bool.or_eq_false_iff] at hc
      have hkw2:¬ (k:Int) < wr:=hc
      obtain ⟨tt,htt⟩:∃ tt,clampN by_ 64=tt:=⟨_,rfl⟩
      have htl:tt≤64:=htt ▸ clampN_le _ _
      have hsl:(sec (putQ s.xs (s.q.take k)) x.p).length=64:=sec_len hS1.xl hxo.2
      have htb:∀ t:Nat,((t:Int) < 64∧(t:Int) < by_) ↔ t < tt:=fun t=>by rw [← htt]; unfold clampN; omega
      refine wp_skip (then_n (wp_seq (wp_reg ?_)))
      refine s_q hs (c_move (hs.ev rfl)) rfl fun ac hs=>?_
      refine s_q hs (c_fld fl94_0 (hs.ev rfl)) rfl fun ac hs=>?_
      refine s_q hs (c_loadS un3 rfl (hs.ev rfl) (hs.seg (i:=0) rfl) rfl) rfl fun ac hs=>?_
      refine s_call hs fu42 (.cons (hs.ev rfl) (.cons (hs.ev rfl) .nil)) (ref_Is s.n _ h u1 _ s su1 x.p hS1 hxo.2 _ (rs_get (hs.get (i:=1) rfl))) rfl fun ac ww v35 hf hp hs=>?_
      obtain rfl:=hp
      replace hs:=hs [] (.nil _ _)
      refine s_alloc hs ty28 rfl fun ac ww g8 hs=>?_
      refine s_storeW (i:=0) hs ty28 rfl rfl rfl (by simp [hsl]) (all64 _) (by rfl) fun ww hs=>?_
      refine s_end (then_n (wp_seq (wp_seq (wp_reg ?_))))
      refine s_q hs (c_assign (hs.ev rfl)) rfl fun ac hs=>?_
      refine s_end (then_n (wp_block ?_))
      refine s_loop hs (X:=Nat) (fun t=>[(9,I t)]) [(0,_),(1,_),(2,_),(6,_),(7,_),(8,_),(10,_),(11,_),(12,_),(13,_),(14,_),(15,_),(16,_),(19,_),(20,_),(21,_),(22,_),(23,_),(24,_),(25,_),(26,_),(27,_),(28,_),(32,_),(33,_),(34,_),(35,_)] (fun t=>[.seg g8 ((x.b.take t++(sec (putQ s.xs (s.q.take k)) x.p).drop t).map B) 28,.seg g7 x.c 94,Ent.grp (rs h u1 (.slice (some ⟨qb,0,none⟩) s.q.length cap2) s su1)]) (fun n t=>t≤tt∧n=tt - t) (_) (0) (⟨Nat.zero_le _,rfl⟩) ⟨rfl,rfl,rfl,rfl,rfl,rfl,rfl,rfl,rfl,rfl,rfl,rfl,rfl,rfl,rfl,rfl,rfl,rfl,rfl,rfl,rfl,rfl,rfl,rfl,rfl,rfl,rfl,rfl,trivial⟩ (by simp) ?_
      rintro n t ac ww hok3 hs
      simp only [List.cons_append,List.nil_append] at hs
      obtain ⟨htt2,rfl⟩:=hok3
      refine wp_seq (wp_seq (wp_reg ?_))
      refine s_q hs (c_move (hs.ev rfl)) rfl fun ac hs=>?_
      refine s_q hs (c_lssI (hs.ev rfl) (hs.ev rfl)) rfl fun ac hs=>?_
      refine s_q hs (c_move (hs.ev rfl)) rfl fun ac hs=>?_
      refine s_g hs rfl rfl (fun hg=>c_move (hs.ev rfl)) rfl fun ac hs=>?_
      refine s_g hs rfl rfl (fun hg=>c_move (hs.ev rfl)) rfl fun ac hs=>?_
      refine s_g hs rfl rfl (fun hg=>c_lssI (gev (hs.ev rfl) hg) (gev (hs.ev rfl) hg)) rfl fun ac hs=>?_
      refine s_q hs (c_and (hs.ev rfl) (hs.ev rfl)) rfl fun ac hs=>?_
      refine s_end (then_n ?_)
      refine s_cond hs rfl (fun hc=>?_) (fun hc=>?_)
      · skip
        have ht:t < tt:=(htb t).1 (by simpa using hc)
        have ht6:t < 64:=by omega
        refine wp_skip (then_n (wp_seq (wp_block (wp_reg ?_))))
        refine s_q hs (c_move (hs.ev rfl)) rfl fun ac hs=>?_
        refine s_q hs (c_move (hs.ev rfl)) rfl fun ac hs=>?_
        refine s_q hs (c_fld fl94_1 (hs.ev rfl)) rfl fun ac hs=>?_
        refine s_q hs (c_idxA (j:=t) un28 ty5 (hs.ev rfl) (hs.ev rfl) (by omega) (by omega)) rfl fun ac hs=>?_
        refine s_q hs (c_loadS un5 rfl (hs.ev rfl) (hs.seg (i:=1) rfl) (wr_byte (by rw [hxo.1]; exact ht6))) rfl fun ac hs=>?_
        refine s_q hs (c_idxA (j:=t) un28 ty5 (hs.ev rfl) (hs.ev rfl) (by omega) (by omega)) rfl fun ac hs=>?_
        refine s_store (i:=0) hs ty5 rfl rfl rfl rfl rfl rfl (by simp [hsl,hxo.1]; omega) ((map_set (f:=B) _ (by simp [hsl,hxo.1]; omega)).trans (congrArg (List.map B) (tk_set (by rw [hxo.1]; exact ht6) (by rw [hsl]; exact ht6)))) fun ww hs=>?_
        refine s_end (blk_n (then_n (wp_reg ?_)))
        refine s_q hs (c_move (hs.ev rfl)) rfl fun ac hs=>?_
        refine s_q hs (c_addI (hs.ev rfl) (hs.ev rfl) (by omega) (by omega)) rfl fun ac hs=>?_
        refine s_q hs (c_assign (hs.ev rfl)) rfl fun ac hs=>?_
        refine s_end (then_n ?_)
        skip
        exact ⟨tt - (t + 1),by omega,t + 1,⟨by omega,rfl⟩,St.next hs ⟨rfl,rfl,rfl,rfl,rfl,rfl,rfl,rfl,rfl,rfl,rfl,rfl,rfl,rfl,rfl,rfl,rfl,rfl,rfl,rfl,rfl,rfl,rfl,rfl,rfl,rfl,rfl,rfl,trivial⟩ rfl⟩
      · skip
        have ht:¬ t < tt:=fun h=>by
          have h9:=(htb t).2 h
          simp [h9.1,h9.2] at hc
        obtain rfl:t=tt:=by omega
        refine wp_exit (then_e (then_e (blk_hit (then_n (wp_seq (wp_reg ?_))))))
        refine s_q hs (c_move (hs.ev rfl)) rfl fun ac hs=>?_
        refine s_q hs (c_fld fl94_0 (hs.ev rfl)) rfl fun ac hs=>?_
        refine s_q hs (c_loadS un3 rfl (hs.ev rfl) (hs.seg (i:=1) rfl) rfl) rfl fun ac hs=>?_
        refine s_q hs (c_loadW ty28 rfl (hs.ev rfl) (hs.seg (i:=0) rfl) (by simp [hsl,hxo.1]; omega)) rfl fun ac hs=>?_
        refine s_q hs (c_buildS (zc:=Wr.c ⟨x.p,x.b.take t++(sec (putQ s.xs (s.q.take k)) x.p).drop t⟩) ty94 bp94 (.cons (hs.ev rfl) (.cons (hs.ev rfl) .nil)) ⟨rfl,by simp [Value.cells,hsl,hxo.1]; omega,trivial⟩ (by simp [flatCells,Value.cells,hsl,hxo.1]; omega) (by simp [flatCells,Value.cells,hsl,hxo.1,Wr.c]; omega)) rfl fun ac hs=>?_
        refine s_callM (i:=2) hs fu48 (.cons (hs.ev rfl) (.cons (hs.ev rfl) .nil)) rfl (ref_put s.n h u1 _ s su1 ⟨x.p,x.b.take t++(sec (putQ s.xs (s.q.take k)) x.p).drop t⟩ ⟨by simp [hsl,hxo.1]; omega,hxo.2⟩ hS1.ok (by omega) _ (hs.get (i:=2) rfl)) rfl fun ac ww v56 hf hp hs=>?_
        obtain ⟨rfl,u2,h1,h2⟩:=hp
        replace hs:=hs (Ent.grp (rs h u2 _ s (putR su1 _))) h1 (fun k hk=>⟨h2 k hk,grp_lt h1 k hk⟩)
        have hSF:Sim s.n (s.crash wr by_).xs (putR su1 ⟨x.p,x.b.take t++(sec (putQ s.xs (s.q.take k)) x.p).drop t⟩):=by
          have hc9:clampN wr s.q.length=k:=by unfold clampN; omega
          rw [crash_t hc9 hkq,hx,htt]
          exact hS1.tear hxo htl
        have hleF:(putR su1 ⟨x.p,x.b.take t++(sec (putQ s.xs (s.q.take k)) x.p).drop t⟩).length≤su.length + s.q.length:=Nat.le_trans (putR_le su1 _) (by omega)
        replace hs:=(hs.pick (L':=[_]) (.cons _ (.cons _ (.refl _)))).ungrp
        refine s_end ?_
        replace hs:=hs.sub (F':=[(0,_),(1,_),(2,_),(6,_),(7,_),(8,_),(9,_),(10,_),(11,_),(12,_),(13,_),(14,_),(15,_),(16,_),(19,_),(20,_),(21,_),(22,_),(23,_),(24,_),(25,_),(26,_),(27,_),(28,_),(32,_),(33,_),(34,_),(35,_),(36,_),(37,_),(38,_),(39,_),(40,_),(41,_),(42,_),(51,_),(52,_),(53,_),(54,_),(55,_)]) ⟨rfl,rfl,rfl,rfl,rfl,rfl,rfl,rfl,rfl,rfl,rfl,rfl,rfl,rfl,rfl,rfl,rfl,rfl,rfl,rfl,rfl,rfl,rfl,rfl,rfl,rfl,rfl,rfl,rfl,rfl,rfl,rfl,rfl,rfl,rfl,rfl,rfl,rfl,rfl,rfl,trivial⟩
        refine then_n (wp_exit (blk_miss rfl (then_e (then_e (blk_hit (then_n (wp_seq (wp_reg ?_))))))))
        refine s_q hs (c_move (hs.ev rfl)) rfl fun ac hs=>?_
        refine s_q hs (c_nil (hs.ev rfl)) rfl fun ac hs=>?_
        refine s_q hs (c_fld fl77_2 (hs.ev rfl)) rfl fun ac hs=>?_
        refine s_store (i:=0) hs ty75 rfl rfl rfl rfl rfl rfl (by simp [hdR,Value.cells]) rfl fun ww hs=>?_
        refine s_end ?_
        replace hs:=hs.sub (F':=[(0,_)]) ⟨rfl,trivial⟩
        refine then_n (wp_seq (wp_reg ?_))
        refine s_q hs (c_move (hs.ev rfl)) rfl fun ac hs=>?_
        refine s_q hs (c_nil (hs.ev rfl)) rfl fun ac hs=>?_
        refine s_q hs (c_fld fl77_3 (hs.ev rfl)) rfl fun ac hs=>?_
        refine s_store (i:=0) hs ty3 rfl rfl rfl rfl rfl rfl (by simp [hdR,Value.cells]) rfl fun ww hs=>?_
        refine s_end ?_
        replace hs:=hs.sub (F':=[(0,_)]) ⟨rfl,trivial⟩
        refine then_n (wp_reg ?_)
        refine s_q hs (c_move (hs.ev rfl)) rfl fun ac hs=>?_
        refine s_q hs (c_nil (hs.ev rfl)) rfl fun ac hs=>?_
        refine s_q hs (c_fld fl77_4 (hs.ev rfl)) rfl fun ac hs=>?_
        refine s_store (i:=0) hs ty4 rfl rfl rfl rfl rfl rfl (by simp [hdR,Value.cells]) rfl fun ww hs=>?_
        refine s_end ?_
        replace hs:=hs.sub (F':=[]) trivial
        replace hs:=((hs.nilrow 94 65).pick (L':=[_,_,_]) (.cons_cons _ (.cons_cons _ (.cons_cons _ (.cons _ .slnil))))).perm (L':=[_,_,_]) (List.perm_append_comm (l₁:=[_,_]) (l₂:=[_]))
        refine s_ret_end hs rfl .nil rfl ⟨_,rfl,hs.fr,?_⟩
        exact ⟨rfl,St.rsTo (s':=s.crash wr by_) hs hSF hleF (.refl _)⟩
  · try simp only [decide_eq_true_eq,decide_eq_false_iff_not,Bool.not_eq_true',Bool.not_eq_false',Bool.and_eq_true,Bool.or_eq_true,Bool.or_eq_false_iff] at hc
    obtain rfl:k=s.q.length:=by omega
    have hSF:Sim s.n (s.crash wr by_).xs su1:=by
      have hc9:clampN wr s.q.length=s.q.length:=by unfold clampN; omega
      rw [crash_f hc9 (by omega)]
      exact hS1
    have hleF:su1.length≤su.length + s.q.length:=hle1
    replace hs:=hs.ungrp
    refine wp_exit (then_e (then_e (blk_hit (then_n (wp_seq (wp_reg ?_))))))
    refine s_q hs (c_move (hs.ev rfl)) rfl fun ac hs=>?_
    refine s_q hs (c_nil (hs.ev rfl)) rfl fun ac hs=>?_
    refine s_q hs (c_fld fl77_2 (hs.ev rfl)) rfl fun ac hs=>?_
    refine s_store (i:=0) hs ty75 rfl rfl rfl rfl rfl rfl (by simp [hdR,Value.cells]) rfl fun ww hs=>?_
    refine s_end ?_
    replace hs:=hs.sub (F':=[(0,_)]) ⟨rfl,trivial⟩
    refine then_n (wp_seq (wp_reg ?_))
    refine s_q hs (c_move (hs.ev rfl)) rfl fun ac hs=>?_
    refine s_q hs (c_nil (hs.ev rfl)) rfl fun ac hs=>?_
    refine s_q hs (c_fld fl77_3 (hs.ev rfl)) rfl fun ac hs=>?_
    refine s_store (i:=0) hs ty3 rfl rfl rfl rfl rfl rfl (by simp [hdR,Value.cells]) rfl fun ww hs=>?_
    refine s_end ?_
    replace hs:=hs.sub (F':=[(0,_)]) ⟨rfl,trivial⟩
    refine then_n (wp_reg ?_)
    refine s_q hs (c_move (hs.ev rfl)) rfl fun ac hs=>?_
    refine s_q hs (c_nil (hs.ev rfl)) rfl fun ac hs=>?_
    refine s_q hs (c_fld fl77_4 (hs.ev rfl)) rfl fun ac hs=>?_
    refine s_store (i:=0) hs ty4 rfl rfl rfl rfl rfl rfl (by simp [hdR,Value.cells]) rfl fun ww hs=>?_
    refine s_end ?_
    replace hs:=hs.sub (F':=[]) trivial
    replace hs:=((hs.nilrow 94 65).pick (L':=[_,_,_]) (.cons_cons _ (.cons_cons _ (.cons_cons _ (.cons _ .slnil))))).perm (L':=[_,_,_]) (List.perm_append_comm (l₁:=[_,_]) (l₂:=[_]))
    refine s_ret_end hs rfl .nil rfl ⟨_,rfl,hs.fr,?_⟩
    exact ⟨rfl,St.rsTo (s':=s.crash wr by_) hs hSF hleF (.refl _)⟩
end Go.Proofs.Ytkecdcmjkghddaa
end

section
/- SlatePlays: both devices,step by step. -/
namespace Go.Proofs.Ytkecdcmjkghddaa
open Go Go.Fw
def pl (g sb h:Nat) (qv v1 v2:Value) (s:Sl) (su:List Wr):List Ent:=[Ent.grp (sl g sb qv s),Ent.grp (rs h v1 v2 s su)]
theorem pl_sl {w:World} {g sb h:Nat} {qv v1 v2:Value} {s:Sl} {su:List Wr} (hh:Has 0 w (pl g sb h qv v1 v2 s su)):SlR w g sb qv s:=sl_get (hh.holds _ (List.mem_of_getElem? (i:=0) rfl))
theorem pl_rs {w:World} {g sb h:Nat} {qv v1 v2:Value} {s:Sl} {su:List Wr} (hh:Has 0 w (pl g sb h qv v1 v2 s su)):RsR w h v1 v2 s su:=rs_get (hh.holds _ (List.mem_of_getElem? (i:=1) rfl))
structure PI (n k:Nat) (s:Sl) (su:List Wr):Prop where
  ok:s.Ok
  n:s.n=n
  st:s.steps≤k
  le:su.length + s.q.length≤k
  S:Sim s.n s.xs su
theorem write_st (s:Sl) (j:Int) (b:List UInt8):(s.write j b).2.n=s.n∧(s.write j b).2.steps≤s.steps + 1:=by
  unfold Sl.write
  split
  · exact ⟨rfl,Nat.le_succ _⟩
  split
  · exact ⟨rfl,Nat.le_succ _⟩
  split
  · exact ⟨rfl,Nat.le_succ _⟩
  · exact ⟨rfl,Nat.le_refl _⟩
theorem flush_st (s:Sl):s.flush.2.n=s.n∧s.flush.2.steps≤s.steps + 1:=by
  unfold Sl.flush
  split
  · exact ⟨rfl,Nat.le_succ _⟩
  split
  · exact ⟨rfl,Nat.le_succ _⟩
  · exact ⟨rfl,Nat.le_refl _⟩
theorem PI.to {n k m:Nat} {s s':Sl} {su su':List Wr} (h:PI n k s su) (hok:s'.Ok) (hn:s'.n=s.n) (hst:s'.steps≤s.steps + 1) (hle:su'.length + s'.q.length≤su.length + s.q.length + m) (hm:m≤1) (hS:Sim s'.n s'.xs su'):PI n (k + 1) s' su' :=
  ⟨hok,hn.trans h.n,Nat.le_trans hst (Nat.succ_le_succ h.st),by have:=h.le; omega,hS⟩
def PlTo (w w':World) (n k g sb h:Nat) (qv v1 v2:Value) (s:Sl) (su:List Wr):Prop:=∃ qv' v1' v2' s' su',PI n (k + 1) s' su'∧Has 0 w' (pl g sb h qv' v1' v2' s' su')∧∀ i,(Ent.grp (pl g sb h qv' v1' v2' s' su')).keys i→(Ent.grp (pl g sb h qv v1 v2 s su)).keys i∨w.heap.size≤i
theorem St.plTo {N:Nat} {F:List (Nat × Value)} {L:List Ent} {w0 w:World} {a:Act} {n k g sb h:Nat} {qv v1 v2 qv' v1' v2':Value} {s s':Sl} {su su':List Wr} (hs:St N F L (Ent.grp (pl g sb h qv v1 v2 s su)).keys w0 a w) (hP:PI n (k + 1) s' su') (hl:(pl g sb h qv' v1' v2' s' su').Sublist L):PlTo w0 w n k g sb h qv v1 v2 s su :=
  ⟨qv',v1',v2',s',su',hP,(hs.pick hl).grp⟩
theorem read_len {s:Sl} (h:s.Ok) (j:Int):(s.read j).1.length=64:=by
  unfold Sl.read
  split
  · rfl
  split
  · rfl
  · exact ofW_len (sec_len h.xl (by omega)) h.qo
theorem law14_Does (n k g sb h:Nat) (qv v1 v2:Value) (s:Sl) (su:List Wr) (o:O14) (hob:o.b.length=64) (hon:o.n≤9223372036854775807) (hk1:k≤100000) (hP:PI n k s su) (w:World) (hpl:Has 0 w (pl g sb h qv v1 v2 s su)):Ctr Try.prog 17 [.pointer (some ⟨g,0,none⟩),.pointer (some ⟨h,0,none⟩),.agg o.c.toArray] w (Ent.grp (pl g sb h qv v1 v2 s su)).keys (fun v w'=>v=.bool true∧PlTo w w' n k g sb h qv v1 v2 s su):=by
  refine fn_start (N:=68) Try.func17 rfl rfl rfl fun ac hk=>?_
  have hs:=St.startG hk hpl
  obtain ⟨hok,hn,hst,hle,hS⟩:=hP
  have hP:PI n k s su:=⟨hok,hn,hst,hle,hS⟩
  refine wp_seq (wp_reg ?_)
  refine s_box hs rfl rfl rfl fun ac ww g5 hs=>?_
  refine s_q hs (c_assign (hs.ev rfl)) rfl fun ac hs=>?_
  refine s_end ?_
  replace hs:=hs.sub (F':=[(0,_),(1,_),(5,_),(6,_)]) ⟨rfl,rfl,rfl,rfl,trivial⟩
  refine then_n (wp_seq (wp_seq (wp_reg ?_)))
  refine s_q hs (c_fld fl32_0 (hs.ev rfl)) rfl fun ac hs=>?_
  refine s_q hs (c_loadS un3 rfl (hs.ev rfl) (hs.seg (i:=0) rfl) rfl) rfl fun ac hs=>?_
  refine s_end ?_
  replace hs:=hs.sub (F':=[(0,_),(1,_),(5,_),(6,_),(8,_)]) ⟨rfl,rfl,rfl,rfl,rfl,trivial⟩
  refine then_n (wp_block (wp_seq (wp_reg ?_)))
  refine s_q hs (c_eqlI (hs.ev rfl) (hs.ev rfl)) rfl fun ac hs=>?_
  refine s_q hs (c_assign (hs.ev rfl)) rfl fun ac hs=>?_
  refine s_end ?_
  replace hs:=hs.sub (F':=[(0,_),(1,_),(5,_),(6,_),(8,_),(9,_)]) ⟨rfl,rfl,rfl,rfl,rfl,rfl,trivial⟩
  refine then_n ?_
  refine s_cond hs rfl (fun hc=>?_) (fun hc=>?_)
  · try simp only [decide_eq_true_eq,decide_eq_false_iff_not,Bool.not_eq_true',Bool.not_eq_false',Bool.and_eq_true,Bool.or_eq_true,Bool.or_eq_false_iff] at hc
    refine wp_seq ?_
    have hz0:∀ i,(Ent.grp (sl g sb qv s)).keys i→i < ww.heap.size:=grp_lt (hs.get (i:=1) rfl)
    have hsl1:Has 0 ww (sl g sb qv s):=hs.get (i:=1) rfl
    obtain ⟨Z,hZ⟩:∃ Z:World→Prop,Z=fun w9=>∃ qv',Has 0 w9 (sl g sb qv' (s.write o.a o.b).2)∧∀ i,(Ent.grp (sl g sb qv' (s.write o.a o.b).2)).keys i→(Ent.grp (sl g sb qv s)).keys i∨ww.heap.size≤i:=⟨_,rfl⟩
    have hK:=FwO.frZ (M:=(Ent.grp (sl g sb qv s)).keys) (Z:=Z) (B1:=ww.heap.size) hz0 (fun a b hf h=>by subst hZ; obtain ⟨q',h1,h2⟩:=h; exact ⟨q',h1.fr0 hf,h2⟩)
    refine FwO.wp_region_rgO (cc:=16) pmix hK 11 (by kernel_rfl) rfl hs.know ?_
    simp only [List.take_succ_cons,List.take_zero]
    refine FwO.rg_q hK (fun ac ww h=>c_move (h.ev rfl)) rfl ?_
    refine FwO.rg_q hK (fun ac ww h=>c_fld fl32_1 (h.ev rfl)) rfl ?_
    refine FwO.rg_q hK (fun ac ww h=>c_loadS un3 rfl (h.ev rfl) (hs.segM (i:=0) (j:=1) rfl rfl (by decide) h.fr.1) rfl) rfl ?_
    refine FwO.rg_q hK (fun ac ww h=>c_fld fl32_3 (h.ev rfl)) rfl ?_
    refine FwO.rg_q hK (fun ac ww h=>c_loadA ty28 rfl (h.ev rfl) (hs.segM (i:=0) (j:=1) rfl rfl (by decide) h.fr.1) (O14.body hob) (by simp [hob])) rfl ?_
    refine FwO.rg_callOneZ hK (fun v=>v=I (s.write o.a o.b).1) Z (fun _ _ hf=>hf.2) fu11 (fun ac w8 h=>.cons (h.ev rfl) (.cons (h.ev rfl) (.cons (h.ev rfl) .nil))) (fun w8 hf=>?_) rfl ?_
    · refine Calls.mono (sl_Write g sb qv s o.a o.b hob hok (by omega) (by omega) w8 (hsl1.fr0 hf)) ?_
      rintro e9 w9 ⟨v9,he9,hf9,hv9,q9,hq9,hk9⟩
      have hZ9:Z w9:=by subst hZ; exact ⟨q9,hq9,fun i hi=>(hk9 i hi).imp id (Nat.le_trans hf.size)⟩
      exact ⟨v9,he9,⟨hf9,fun _=>hZ9⟩,hv9,hZ9⟩
    refine FwO.rg_q hK (fun ac ww h=>c_move (h.ev rfl)) rfl ?_
    refine FwO.rg_q hK (fun ac ww h=>c_fld fl32_1 (h.ev rfl)) rfl ?_
    refine FwO.rg_q hK (fun ac ww h=>c_loadS un3 rfl (h.ev rfl) (hs.segM (i:=0) (j:=1) rfl rfl (by decide) h.fr.1) rfl) rfl ?_
    refine FwO.rg_q hK (fun ac ww h=>c_fld fl32_3 (h.ev rfl)) rfl ?_
    refine FwO.rg_q hK (fun ac ww h=>c_loadA ty28 rfl (h.ev rfl) (hs.segM (i:=0) (j:=1) rfl rfl (by decide) h.fr.1) (O14.body hob) (by simp [hob])) rfl ?_
    refine FwO.rg_nil fun ac ww L' hfk hfe hkn hhas hlk=>?_
    simp only [List.drop_succ_cons,List.drop_zero]
    obtain ⟨v16,L16,M16,h16,⟨⟨rfl,rfl⟩,hz⟩,rfl,rfl⟩:=hfe
    subst hZ
    obtain ⟨qv',hz1,hz2⟩:=hz
    replace hs:=(St.oneMod (e':=Ent.grp (sl g sb qv' (s.write o.a o.b).2)) (i:=1) hs hkn rfl hfk.1 hz1 (fun i hi=>⟨hz2 i hi,grp_lt hz1 i hi⟩)).add h16
    refine s_callM (i:=2) hs fu38 (.cons (hs.ev rfl) (.cons (hs.ev rfl) (.cons (hs.ev rfl) .nil))) rfl (ref_Write h v1 v2 s su o.a o.b hob hok hS (by omega) (by omega) _ (hs.get (i:=2) rfl)) rfl fun ac ww v22 hf hp hs=>?_
    obtain ⟨rfl,v1',v2',su',h1,hS',hle',h2⟩:=hp
    replace hs:=hs (Ent.grp (rs h v1' v2' (s.write o.a o.b).2 su')) h1 (fun k hk=>⟨h2 k hk,grp_lt h1 k hk⟩)
    refine s_q hs (c_tt (c_eqlI (hs.ev rfl) (hs.ev rfl)) ((by simp))) rfl fun ac hs=>?_
    refine s_q hs (c_assign (hs.ev rfl)) rfl fun ac hs=>?_
    refine s_end ?_
    replace hs:=hs.sub (F':=[(0,_),(1,_),(5,_),(6,_),(8,_)]) ⟨rfl,rfl,rfl,rfl,rfl,trivial⟩
    refine then_n (wp_ret (blk_r (then_r ?_)))
    refine s_ret hs rfl (.tmp (hs.tmp rfl) .nil) rfl ⟨_,rfl,hs.fr,?_⟩
    exact ⟨rfl,St.plTo hs (hP.to (Sl.write_ok hok hob) (write_st s _ _).1 (write_st s _ _).2 hle' (Nat.le_refl _) hS') (.cons _ (.refl _))⟩
  · try simp only [decide_eq_true_eq,decide_eq_false_iff_not,Bool.not_eq_true',Bool.not_eq_false',Bool.and_eq_true,Bool.or_eq_true,Bool.or_eq_false_iff] at hc
    refine wp_seq (wp_reg ?_)
    refine s_q hs (c_eqlI (hs.ev rfl) (hs.ev rfl)) rfl fun ac hs=>?_
    refine s_q hs (c_assign (hs.ev rfl)) rfl fun ac hs=>?_
    refine s_end ?_
    replace hs:=hs.sub (F':=[(0,_),(1,_),(5,_),(6,_),(8,_),(24,_)]) ⟨rfl,rfl,rfl,rfl,rfl,rfl,trivial⟩
    refine then_n ?_
    refine s_cond hs rfl (fun hc=>?_) (fun hc=>?_)
    · try simp only [decide_eq_true_eq,decide_eq_false_iff_not,Bool.not_eq_true',Bool.not_eq_false',Bool.and_eq_true,Bool.or_eq_true,Bool.or_eq_false_iff] at hc
      refine wp_seq (wp_reg ?_)
      refine s_q hs (c_move (hs.ev rfl)) rfl fun ac hs=>?_
      refine s_callM (i:=1) hs fu12 (.cons (hs.ev rfl) .nil) rfl (sl_Flush g sb qv s hok (by omega) (by omega) _ (hs.get (i:=1) rfl)) rfl fun ac ww v27 hf hp hs=>?_
      obtain ⟨rfl,qv',h1,h2⟩:=hp
      replace hs:=hs (Ent.grp (sl g sb qv' s.flush.2)) h1 (fun k hk=>⟨h2 k hk,grp_lt h1 k hk⟩)
      refine s_q hs (c_move (hs.ev rfl)) rfl fun ac hs=>?_
      refine s_callM (i:=2) hs fu39 (.cons (hs.ev rfl) .nil) rfl (ref_Flush h v1 v2 s su hok hS (by omega) (by omega) _ (hs.get (i:=2) rfl)) rfl fun ac ww v29 hf hp hs=>?_
      obtain ⟨rfl,v1',v2',su',h1,hS',hle',h2⟩:=hp
      replace hs:=hs (Ent.grp (rs h v1' v2' s.flush.2 su')) h1 (fun k hk=>⟨h2 k hk,grp_lt h1 k hk⟩)
      refine s_q hs (c_tt (c_eqlI (hs.ev rfl) (hs.ev rfl)) ((by simp))) rfl fun ac hs=>?_
      refine s_q hs (c_assign (hs.ev rfl)) rfl fun ac hs=>?_
      refine s_end ?_
      replace hs:=hs.sub (F':=[(0,_),(1,_),(5,_),(6,_),(8,_)]) ⟨rfl,rfl,rfl,rfl,rfl,trivial⟩
      refine then_n (wp_ret (blk_r (then_r ?_)))
      refine s_ret hs rfl (.tmp (hs.tmp rfl) .nil) rfl ⟨_,rfl,hs.fr,?_⟩
      exact ⟨rfl,St.plTo hs (hP.to (Sl.flush_ok hok) (flush_st s).1 (flush_st s).2 hle' (Nat.zero_le _) hS') (.cons _ (.refl _))⟩
    · try simp only [decide_eq_true_eq,decide_eq_false_iff_not,Bool.not_eq_true',Bool.not_eq_false',Bool.and_eq_true,Bool.or_eq_true,Bool.or_eq_false_iff] at hc
      refine wp_seq (wp_reg ?_)
      refine s_q hs (c_eqlI (hs.ev rfl) (hs.ev rfl)) rfl fun ac hs=>?_
      refine s_q hs (c_assign (hs.ev rfl)) rfl fun ac hs=>?_
      refine s_end ?_
      replace hs:=hs.sub (F':=[(0,_),(1,_),(5,_),(6,_),(8,_),(31,_)]) ⟨rfl,rfl,rfl,rfl,rfl,rfl,trivial⟩
      refine then_n ?_
      refine s_cond hs rfl (fun hc=>?_) (fun hc=>?_)
      · try simp only [decide_eq_true_eq,decide_eq_false_iff_not,Bool.not_eq_true',Bool.not_eq_false',Bool.and_eq_true,Bool.or_eq_true,Bool.or_eq_false_iff] at hc
        refine wp_seq (wp_seq (wp_reg ?_))
        refine s_q hs (c_move (hs.ev rfl)) rfl fun ac hs=>?_
        refine s_q hs (c_nil (hs.ev rfl)) rfl fun ac hs=>?_
        refine s_q hs (c_fld fl77_4 (hs.ev rfl)) rfl fun ac hs=>?_
        refine s_q hs (c_loadS un4 rfl (hs.ev rfl) (rs_get (hs.get (i:=2) rfl)).hg rfl) rfl fun ac hs=>?_
        refine s_end ?_
        replace hs:=hs.sub (F':=[(0,_),(1,_),(5,_),(6,_),(8,_),(36,_)]) ⟨rfl,rfl,rfl,rfl,rfl,rfl,trivial⟩
        refine then_n ?_
        refine s_cond hs rfl (fun hc=>?_) (fun hc=>?_)
        · try simp only [decide_eq_true_eq,decide_eq_false_iff_not,Bool.not_eq_true',Bool.not_eq_false',Bool.and_eq_true,Bool.or_eq_true,Bool.or_eq_false_iff] at hc
          have hd:s.down=true:=hc
          refine wp_seq (wp_reg ?_)
          refine s_q hs (c_move (hs.ev rfl)) rfl fun ac hs=>?_
          refine s_q hs (c_fld fl32_2 (hs.ev rfl)) rfl fun ac hs=>?_
          refine s_q hs (c_loadS un3 rfl (hs.ev rfl) (hs.seg (i:=0) rfl) rfl) rfl fun ac hs=>?_
          refine s_callM (i:=1) hs fu13 (.cons (hs.ev rfl) (.cons (hs.ev rfl) .nil)) rfl (sl_Fuse g sb qv s o.n _ (hs.get (i:=1) rfl)) rfl fun ac ww v40 hf hp hs=>?_
          obtain ⟨rfl,qv',h1,h2⟩:=hp
          replace hs:=hs (Ent.grp (sl g sb qv' (s.fus o.n).2)) h1 (fun k hk=>⟨h2 k hk,grp_lt h1 k hk⟩)
          refine s_q hs (c_tt (c_eqlI (hs.ev rfl) (hs.ev rfl)) ((by rw [show s.fus o.n=(5,s) from if_pos hd]; rfl))) rfl fun ac hs=>?_
          refine s_q hs (c_assign (hs.ev rfl)) rfl fun ac hs=>?_
          refine s_end ?_
          replace hs:=hs.sub (F':=[(0,_),(1,_),(5,_),(6,_),(8,_)]) ⟨rfl,rfl,rfl,rfl,rfl,trivial⟩
          refine then_n (wp_ret (then_r (blk_r (then_r ?_))))
          refine s_ret hs rfl (.tmp (hs.tmp rfl) .nil) rfl ⟨_,rfl,hs.fr,?_⟩
          rw [show s.fus o.n=(5,s) from if_pos hd] at hs
          exact ⟨rfl,St.plTo hs (hP.to (m:=0) hok rfl (Nat.le_succ _) (Nat.le_refl _) (Nat.zero_le _) hS) (.cons _ (.refl _))⟩
        · try simp only [decide_eq_true_eq,decide_eq_false_iff_not,Bool.not_eq_true',Bool.not_eq_false',Bool.and_eq_true,Bool.or_eq_true,Bool.or_eq_false_iff] at hc
          have hd:¬ s.down=true:=by rw [hc]; decide
          refine wp_skip (then_n (wp_seq (wp_reg ?_)))
          refine s_q hs (c_move (hs.ev rfl)) rfl fun ac hs=>?_
          refine s_q hs (c_fld fl32_2 (hs.ev rfl)) rfl fun ac hs=>?_
          refine s_q hs (c_loadS un3 rfl (hs.ev rfl) (hs.seg (i:=0) rfl) rfl) rfl fun ac hs=>?_
          replace hs:=(hs.perm (L':=[_,_,_]) (List.perm_append_comm (l₁:=[_]) (l₂:=[_,_]))).ungrp
          refine s_q hs (c_max (hs.ev rfl) (hs.ev rfl)) rfl fun ac hs=>?_
          refine s_q hs (c_nil (hs.ev rfl)) rfl fun ac hs=>?_
          refine s_q hs (c_fld fl77_3 (hs.ev rfl)) rfl fun ac hs=>?_
          refine s_store (i:=0) hs ty3 rfl rfl rfl rfl rfl rfl (by simp [hdR,Value.cells]) rfl fun ww hs=>?_
          replace hs:=St.grpn (A:=rs h v1 v2 { s with fuse:=max o.n (-1) } su) (L:=[_,_]) hs
          refine s_end ?_
          replace hs:=hs.sub (F':=[(0,_),(1,_),(5,_),(6,_),(8,_)]) ⟨rfl,rfl,rfl,rfl,rfl,trivial⟩
          refine then_n (wp_seq (wp_reg ?_))
          refine s_q hs (c_move (hs.ev rfl)) rfl fun ac hs=>?_
          refine s_q hs (c_fld fl32_2 (hs.ev rfl)) rfl fun ac hs=>?_
          refine s_q hs (c_loadS un3 rfl (hs.ev rfl) (hs.seg (i:=1) rfl) rfl) rfl fun ac hs=>?_
          refine s_callM (i:=2) hs fu13 (.cons (hs.ev rfl) (.cons (hs.ev rfl) .nil)) rfl (sl_Fuse g sb qv s o.n _ (hs.get (i:=2) rfl)) rfl fun ac ww v51 hf hp hs=>?_
          obtain ⟨rfl,qv',h1,h2⟩:=hp
          replace hs:=hs (Ent.grp (sl g sb qv' (s.fus o.n).2)) h1 (fun k hk=>⟨h2 k hk,grp_lt h1 k hk⟩)
          refine s_q hs (c_tt (c_eqlI (hs.ev rfl) (hs.ev rfl)) ((by rw [show s.fus o.n=(0,{ s with fuse:=max o.n (-1) }) from if_neg hd]; rfl))) rfl fun ac hs=>?_
          refine s_q hs (c_assign (hs.ev rfl)) rfl fun ac hs=>?_
          refine s_end ?_
          replace hs:=hs.sub (F':=[(0,_),(1,_),(5,_),(6,_),(8,_)]) ⟨rfl,rfl,rfl,rfl,rfl,trivial⟩
          refine then_n (wp_ret (blk_r (then_r ?_)))
          refine s_ret hs rfl (.tmp (hs.tmp rfl) .nil) rfl ⟨_,rfl,hs.fr,?_⟩
          rw [show s.fus o.n=(0,{ s with fuse:=max o.n (-1) }) from if_neg hd] at hs
          exact ⟨rfl,St.plTo (s':={ s with fuse:=max o.n (-1) }) (hs.perm (L':=[_,_,_]) (List.perm_append_comm (l₁:=[_,_]) (l₂:=[_]))) (hP.to (m:=0) (by have h9:=Sl.fus_ok hok hon; rw [show s.fus o.n=(0,{ s with fuse:=max o.n (-1) }) from if_neg hd] at h9; exact h9) rfl (Nat.le_succ _) (Nat.le_refl _) (Nat.zero_le _) hS) (.cons _ (.refl _))⟩
      · try simp only [decide_eq_true_eq,decide_eq_false_iff_not,Bool.not_eq_true',Bool.not_eq_false',Bool.and_eq_true,Bool.or_eq_true,Bool.or_eq_false_iff] at hc
        refine wp_seq (wp_reg ?_)
        refine s_q hs (c_eqlI (hs.ev rfl) (hs.ev rfl)) rfl fun ac hs=>?_
        refine s_q hs (c_assign (hs.ev rfl)) rfl fun ac hs=>?_
        refine s_end ?_
        replace hs:=hs.sub (F':=[(0,_),(1,_),(5,_),(6,_),(53,_)]) ⟨rfl,rfl,rfl,rfl,rfl,trivial⟩
        refine then_n ?_
        refine s_cond hs rfl (fun hc=>?_) (fun hc=>?_)
        · try simp only [decide_eq_true_eq,decide_eq_false_iff_not,Bool.not_eq_true',Bool.not_eq_false',Bool.and_eq_true,Bool.or_eq_true,Bool.or_eq_false_iff] at hc
          refine wp_seq (wp_reg ?_)
          refine s_q hs (c_move (hs.ev rfl)) rfl fun ac hs=>?_
          refine s_q hs (c_fld fl32_2 (hs.ev rfl)) rfl fun ac hs=>?_
          refine s_q hs (c_loadS un3 rfl (hs.ev rfl) (hs.seg (i:=0) rfl) rfl) rfl fun ac hs=>?_
          refine s_q hs (c_fld fl32_1 (hs.ev rfl)) rfl fun ac hs=>?_
          refine s_q hs (c_loadS un3 rfl (hs.ev rfl) (hs.seg (i:=0) rfl) rfl) rfl fun ac hs=>?_
          refine s_callM (i:=2) hs fu40 (.cons (hs.ev rfl) (.cons (hs.ev rfl) (.cons (hs.ev rfl) .nil))) rfl (ref_Crash h v1 v2 s su o.n o.a hok hS (by omega) _ (hs.get (i:=2) rfl)) rfl fun ac ww v60 hf hp hs=>?_
          obtain ⟨rfl,v1',v2',su',h1,hS',hle',h2⟩:=hp
          replace hs:=hs (Ent.grp (rs h v1' v2' (s.crash o.n o.a) su')) h1 (fun k hk=>⟨h2 k hk,grp_lt h1 k hk⟩)
          refine s_end ?_
          replace hs:=hs.sub (F':=[(0,_),(5,_),(6,_)]) ⟨rfl,rfl,rfl,trivial⟩
          refine then_n (wp_seq (wp_reg ?_))
          refine s_q hs (c_move (hs.ev rfl)) rfl fun ac hs=>?_
          refine s_q hs (c_fld fl32_2 (hs.ev rfl)) rfl fun ac hs=>?_
          refine s_q hs (c_loadS un3 rfl (hs.ev rfl) (hs.seg (i:=0) rfl) rfl) rfl fun ac hs=>?_
          refine s_q hs (c_fld fl32_1 (hs.ev rfl)) rfl fun ac hs=>?_
          refine s_q hs (c_loadS un3 rfl (hs.ev rfl) (hs.seg (i:=0) rfl) rfl) rfl fun ac hs=>?_
          refine s_callM (i:=1) hs fu14 (.cons (hs.ev rfl) (.cons (hs.ev rfl) (.cons (hs.ev rfl) .nil))) rfl (sl_Crash g sb qv s o.n o.a hok _ (hs.get (i:=1) rfl)) rfl fun ac ww v66 hf hp hs=>?_
          obtain ⟨rfl,qv',h1,h2⟩:=hp
          replace hs:=hs (Ent.grp (sl g sb qv' (s.crash o.n o.a))) h1 (fun k hk=>⟨h2 k hk,grp_lt h1 k hk⟩)
          refine s_q hs (c_tt (c_eqlI (hs.ev rfl) (hs.ev rfl)) (rfl)) rfl fun ac hs=>?_
          refine s_q hs (c_assign (hs.ev rfl)) rfl fun ac hs=>?_
          refine s_end ?_
          replace hs:=hs.sub (F':=[(6,_)]) ⟨rfl,trivial⟩
          refine then_n (wp_ret (blk_r (then_r ?_)))
          refine s_ret hs rfl (.tmp (hs.tmp rfl) .nil) rfl ⟨_,rfl,hs.fr,?_⟩
          exact ⟨rfl,St.plTo hs (hP.to (Sl.crash_ok hok _ _) rfl (Nat.le_succ _) hle' (Nat.zero_le _) hS') (.cons _ (.refl _))⟩
        · try simp only [decide_eq_true_eq,decide_eq_false_iff_not,Bool.not_eq_true',Bool.not_eq_false',Bool.and_eq_true,Bool.or_eq_true,Bool.or_eq_false_iff] at hc
          refine wp_skip (blk_n (then_n (wp_seq (wp_reg ?_))))
          refine s_q hs (c_assign (hs.ev rfl)) rfl fun ac hs=>?_
          refine s_end ?_
          replace hs:=hs.sub (F':=[(6,_)]) ⟨rfl,trivial⟩
          refine then_n (wp_ret ?_)
          refine s_ret hs rfl (.tmp (hs.tmp rfl) .nil) rfl ⟨_,rfl,hs.fr,?_⟩
          exact ⟨rfl,St.plTo hs (hP.to (m:=0) hok rfl (Nat.le_succ _) (Nat.le_refl _) (Nat.zero_le _) hS) (.cons _ (.refl _))⟩
theorem law14_Is (g sb h:Nat) (qv v1 v2:Value) (s:Sl) (su:List Wr) (hok:s.Ok) (hS:Sim s.n s.xs su) (w:World) (hR:SlR w g sb qv s) (hQ:RsR w h v1 v2 s su):Ctr Try.prog 18 [.pointer (some ⟨g,0,none⟩),.pointer (some ⟨h,0,none⟩)] w (fun _=>False) (fun v _=>v=.bool true):=by
  obtain ⟨ad2,cap2,rfl,_,_⟩:=Rd.sl (Rd.of_row hQ.h2)
  refine fn_start (N:=77) Try.func18 rfl rfl rfl fun ac hk=>?_
  have hs:=St.start hk w
  refine wp_seq (wp_reg ?_)
  refine s_q hs (c_assign (hs.ev rfl)) rfl fun ac hs=>?_
  refine s_end (then_n (wp_seq (wp_seq ?_)))
  refine wp_region_rg pmix 35 (by kernel_rfl) rfl hs ?_
  simp only [List.take_succ_cons,List.take_zero]
  refine rg_q (fun ac ww h=>c_move (h.ev rfl)) rfl ?_
  refine rg_call fu20 (fun ac ww h=>(.cons (h.ev rfl) .nil)) (fun ww hf=>sl_Sectors g sb qv s _ (hR.fr0 hf)) rfl ?_
  refine rg_q (fun ac ww h=>c_move (h.ev rfl)) rfl ?_
  refine rg_q (fun ac ww h=>c_nil (h.ev rfl)) rfl ?_
  refine rg_q (fun ac ww h=>c_fld fl77_0 (h.ev rfl)) rfl ?_
  refine rg_q (fun ac ww h=>c_loadS un3 rfl (h.ev rfl) (h.blk hQ.hg) rfl) rfl ?_
  refine rg_q (fun ac ww h=>c_ff (c_neqI (h.ev rfl) (h.ev rfl)) ((by simp))) rfl ?_
  refine rg_q (fun ac ww h=>c_move (h.ev rfl)) rfl ?_
  refine rg_yes rfl rfl (fun ac ww h=>c_move (h.ev rfl)) rfl ?_
  refine rg_strip rfl rfl ?_
  refine rg_call fu21 (fun ac ww h=>(.cons (h.ev rfl) .nil)) (fun ww hf=>sl_Loose g sb qv s _ (hR.fr0 hf)) rfl ?_
  refine rg_yes rfl rfl (fun ac ww h=>c_move (h.ev rfl)) rfl ?_
  refine rg_yes rfl rfl (fun ac ww h=>c_nil (h.ev rfl)) rfl ?_
  refine rg_yes rfl rfl (fun ac ww h=>c_fld fl77_2 (h.ev rfl)) rfl ?_
  refine rg_yes rfl rfl (fun ac ww h=>c_loadS un75 rfl (h.ev rfl) (h.blk hQ.hg) rfl) rfl ?_
  refine rg_yes rfl rfl (fun ac ww h=>c_lenS un75 (h.ev rfl)) rfl ?_
  refine rg_yes rfl rfl (fun ac ww h=>c_ff (c_neqI (h.ev rfl) (h.ev rfl)) ((by simp))) rfl ?_
  refine rg_q (fun ac ww h=>c_pick (h.ev rfl) (h.ev rfl) (h.ev rfl)) rfl ?_
  refine rg_q (fun ac ww h=>c_move (h.ev rfl)) rfl ?_
  refine rg_yes rfl rfl (fun ac ww h=>c_move (h.ev rfl)) rfl ?_
  refine rg_strip rfl rfl ?_
  refine rg_call fu23 (fun ac ww h=>(.cons (h.ev rfl) .nil)) (fun ww hf=>sl_Down g sb qv s _ (hR.fr0 hf)) rfl ?_
  refine rg_yes rfl rfl (fun ac ww h=>c_move (h.ev rfl)) rfl ?_
  refine rg_yes rfl rfl (fun ac ww h=>c_nil (h.ev rfl)) rfl ?_
  refine rg_yes rfl rfl (fun ac ww h=>c_fld fl77_4 (h.ev rfl)) rfl ?_
  refine rg_yes rfl rfl (fun ac ww h=>c_loadS un4 rfl (h.ev rfl) (h.blk hQ.hg) rfl) rfl ?_
  refine rg_yes rfl rfl (fun ac ww h=>c_ff (c_neqbool un4 (h.ev rfl) (h.ev rfl)) ((by simp))) rfl ?_
  refine rg_q (fun ac ww h=>c_pick (h.ev rfl) (h.ev rfl) (h.ev rfl)) rfl ?_
  refine rg_q (fun ac ww h=>c_move (h.ev rfl)) rfl ?_
  refine rg_yes rfl rfl (fun ac ww h=>c_move (h.ev rfl)) rfl ?_
  refine rg_strip rfl rfl ?_
  refine rg_call fu22 (fun ac ww h=>(.cons (h.ev rfl) .nil)) (fun ww hf=>sl_Steps g sb qv s _ (hR.fr0 hf)) rfl ?_
  refine rg_yes rfl rfl (fun ac ww h=>c_move (h.ev rfl)) rfl ?_
  refine rg_yes rfl rfl (fun ac ww h=>c_nil (h.ev rfl)) rfl ?_
  refine rg_yes rfl rfl (fun ac ww h=>c_fld fl77_5 (h.ev rfl)) rfl ?_
  refine rg_yes rfl rfl (fun ac ww h=>c_loadS un3 rfl (h.ev rfl) (h.blk hQ.hg) rfl) rfl ?_
  refine rg_yes rfl rfl (fun ac ww h=>c_ff (c_neqI (h.ev rfl) (h.ev rfl)) ((by simp))) rfl ?_
  refine rg_q (fun ac ww h=>c_pick (h.ev rfl) (h.ev rfl) (h.ev rfl)) rfl ?_
  refine rg_nil fun ac ww L' hf hfe hs=>?_
  simp only [List.drop_succ_cons,List.drop_zero]
  obtain rfl:L'=[]:=hfe
  replace hs:=hs.toL (List.nil_append _)
  refine s_end ?_
  replace hs:=hs.sub (F':=[(0,_),(1,_),(4,_),(44,_)]) ⟨rfl,rfl,rfl,rfl,trivial⟩
  refine then_n ?_
  refine wp_cond_false (hs.ev rfl) ?_
  refine wp_skip (then_n (wp_seq (wp_seq (wp_reg ?_))))
  refine s_q hs (c_assign (hs.ev rfl)) rfl fun ac hs=>?_
  refine s_end ?_
  replace hs:=hs.sub (F':=[(0,_),(1,_),(4,_),(5,_)]) ⟨rfl,rfl,rfl,rfl,trivial⟩
  refine then_n (wp_block ?_)
  refine s_loop hs (X:=Nat) (fun j=>[(5,I j)]) [(0,_),(1,_)] (fun _=>[]) (fun n j=>j≤s.n∧n=s.n - j) (_) (0) (⟨Nat.zero_le _,rfl⟩) ⟨rfl,rfl,rfl,trivial⟩ rfl ?_
  rintro n j ac ww hok2 hs
  skip
  obtain ⟨hj,rfl⟩:=hok2
  refine wp_seq (wp_seq (wp_reg ?_))
  refine s_q hs (c_move (hs.ev rfl)) rfl fun ac hs=>?_
  refine s_q hs (c_move (hs.ev rfl)) rfl fun ac hs=>?_
  refine s_q hs (c_nil (hs.ev rfl)) rfl fun ac hs=>?_
  refine s_q hs (c_fld fl77_0 (hs.ev rfl)) rfl fun ac hs=>?_
  refine s_q hs (c_loadS un3 rfl (hs.ev rfl) (hs.old hQ.hg (fun h=>h)) rfl) rfl fun ac hs=>?_
  refine s_q hs (c_lssI (hs.ev rfl) (hs.ev rfl)) rfl fun ac hs=>?_
  refine s_q hs (c_move (hs.ev rfl)) rfl fun ac hs=>?_
  refine s_g hs rfl rfl (fun hg=>c_move (hs.ev rfl)) rfl fun ac hs=>?_
  refine s_g hs rfl rfl (fun hg=>c_lssI (gev (hs.ev rfl) hg) (hs.ev rfl)) rfl fun ac hs=>?_
  refine s_q hs (c_and (hs.ev rfl) (hs.ev rfl)) rfl fun ac hs=>?_
  refine s_end (then_n ?_)
  refine s_cond hs rfl (fun hc=>?_) (fun hc=>?_)
  · skip
    have hjn:j < s.n:=by
      simp at hc
      omega
    have hn1:=hok.n1
    have hrl:=read_len hok (j:Int)
    refine wp_skip (then_n (wp_seq (wp_block (wp_seq (wp_reg ?_)))))
    refine s_q hs (c_move (hs.ev rfl)) rfl fun ac hs=>?_
    refine s_q hs (c_move (hs.ev rfl)) rfl fun ac hs=>?_
    refine s_call hs fu15 (.cons (hs.ev rfl) (.cons (hs.ev rfl) .nil)) (sl_Read g sb qv s j hok _ (hR.fr0 hs.fr)) rfl fun ac ww v60 hf hp hs=>?_
    obtain rfl:=hp
    replace hs:=hs [] (.nil _ _)
    refine s_q hs (c_move (hs.ev rfl)) rfl fun ac hs=>?_
    refine s_q hs (c_extract (hs.ev rfl) rfl) rfl fun ac hs=>?_
    refine s_q hs (c_extract (hs.ev rfl) rfl) rfl fun ac hs=>?_
    refine s_alloc hs ty29 rfl fun ac ww g6 hs=>?_
    refine s_storeW (i:=0) hs ty29 rfl rfl rfl (by simp [hrl]) (all64 _) (by rfl) fun ww hs=>?_
    refine s_q hs (c_assign (hs.ev rfl)) rfl fun ac hs=>?_
    refine s_end (then_n (wp_seq (wp_reg ?_)))
    refine s_q hs (c_move (hs.ev rfl)) rfl fun ac hs=>?_
    refine s_q hs (c_move (hs.ev rfl)) rfl fun ac hs=>?_
    refine s_call hs fu19 (.cons (hs.ev rfl) (.cons (hs.ev rfl) .nil)) (ref_Read h v1 _ s su j hok hS _ (hQ.fr0 hs.fr)) rfl fun ac ww v66 hf hp hs=>?_
    obtain rfl:=hp
    replace hs:=hs [] (.nil _ _)
    refine s_q hs (c_move (hs.ev rfl)) rfl fun ac hs=>?_
    refine s_q hs (c_extract (hs.ev rfl) rfl) rfl fun ac hs=>?_
    refine s_q hs (c_extract (hs.ev rfl) rfl) rfl fun ac hs=>?_
    refine s_alloc hs ty28 rfl fun ac ww g8 hs=>?_
    refine s_storeW (i:=0) hs ty28 rfl rfl rfl (by simp [hrl]) (all64 _) (by rfl) fun ww hs=>?_
    refine s_q hs (c_assign (hs.ev rfl)) rfl fun ac hs=>?_
    refine s_end (then_n (wp_seq (wp_reg ?_)))
    refine s_q hs (c_move (hs.ev rfl)) rfl fun ac hs=>?_
    refine s_q hs (c_move (hs.ev rfl)) rfl fun ac hs=>?_
    refine s_q hs (c_ff (c_neqI (hs.ev rfl) (hs.ev rfl)) ((by simp))) rfl fun ac hs=>?_
    refine s_q hs (c_move (hs.ev rfl)) rfl fun ac hs=>?_
    refine s_yes hs rfl rfl ?_
    refine s_q hs (c_loadW ty29 rfl (hs.ev rfl) (hs.seg (i:=1) rfl) (by simp [hrl])) rfl fun ac hs=>?_
    refine s_yes hs rfl rfl ?_
    refine s_q hs (c_loadW ty28 rfl (hs.ev rfl) (hs.seg (i:=0) rfl) (by simp [hrl])) rfl fun ac hs=>?_
    refine s_yes hs rfl rfl ?_
    refine s_q hs (c_ff (c_neqAB un29 ty5 eg29 (hs.ev rfl) (hs.ev rfl) hrl hrl) ((by simp))) rfl fun ac hs=>?_
    refine s_q hs (c_pick (hs.ev rfl) (hs.ev rfl) (hs.ev rfl)) rfl fun ac hs=>?_
    refine s_end (then_n ?_)
    refine wp_cond_false (hs.ev rfl) ?_
    refine wp_skip (blk_n (then_n (wp_reg ?_)))
    refine s_q hs (c_move (hs.ev rfl)) rfl fun ac hs=>?_
    refine s_q hs (c_addI (hs.ev rfl) (hs.ev rfl) (by omega) (by omega)) rfl fun ac hs=>?_
    refine s_q hs (c_assign (hs.ev rfl)) rfl fun ac hs=>?_
    refine s_end (then_n ?_)
    replace hs:=hs.pick (L':=[]) (List.nil_sublist _)
    exact ⟨s.n - (j + 1),by omega,j + 1,⟨by omega,rfl⟩,St.next hs ⟨rfl,rfl,rfl,trivial⟩ rfl⟩
  · skip
    refine wp_exit (then_e (then_e (blk_hit (then_n (wp_seq (wp_reg ?_))))))
    refine s_q hs (c_assign (hs.ev rfl)) rfl fun ac hs=>?_
    refine s_end ?_
    replace hs:=hs.sub (F':=[(4,_)]) ⟨rfl,trivial⟩
    refine then_n (wp_ret ?_)
    refine s_ret hs rfl (.tmp (hs.tmp rfl) .nil) rfl ⟨_,rfl,hs.fr,?_⟩
    rfl
structure PS where
  qv:Value
  v1:Value
  v2:Value
  s:Sl
  su:List Wr
theorem law_SlatePlays (n j:Int) (ops:List O14) (hops:∀ y∈ops,y.b.length=64) (honA:∀ y∈ops,y.n≤9223372036854775807) (v:Value) (w:World) (hqo:Rd w v ops.length (ops.flatMap O14.c)):Ctr Try.prog 4 [I n,v,I j] w (fun _=>False) (fun v2 _=>v2=.bool true):=by
  have hnl0:=hqo.le
  obtain ⟨vad,vcap,rfl,hvc,hvm⟩:=Rd.sl hqo
  refine fn_start (N:=89) Try.func4 rfl rfl rfl fun ac hk=>?_
  have hs:=St.start hk w
  refine wp_seq (wp_reg ?_)
  refine s_q hs (c_assign (hs.ev rfl)) rfl fun ac hs=>?_
  refine s_end (then_n (wp_seq (wp_reg ?_)))
  by_cases hn:1≤n∧n≤4096
  · refine s_q hs (c_move (hs.ev rfl)) rfl fun ac hs=>?_
    refine s_call hs fu9 (.cons (hs.ev rfl) .nil) (sl_New n _) rfl fun ac ww v18 hf hp hs=>?_
    rw [if_pos hn] at hp
    obtain ⟨m,rfl⟩:∃ m:Nat,n=m:=⟨n.toNat,by omega⟩
    obtain ⟨g,sb,rfl,hh⟩:=hp
    replace hs:=hs _ (Has.grp' hh)
    refine s_q hs (c_move (hs.ev rfl)) rfl fun ac hs=>?_
    refine s_q hs (c_extract (hs.ev rfl) rfl) rfl fun ac hs=>?_
    refine s_q hs (c_extract (hs.ev rfl) rfl) rfl fun ac hs=>?_
    refine s_q hs (c_assign (hs.ev rfl)) rfl fun ac hs=>?_
    refine s_q hs (c_assign (hs.ev rfl)) rfl fun ac hs=>?_
    refine s_end ?_
    replace hs:=hs.sub (F':=[(0,_),(1,_),(2,_),(6,_),(7,_),(8,_)]) ⟨rfl,rfl,rfl,rfl,rfl,rfl,trivial⟩
    refine then_n (wp_seq (wp_seq (wp_reg ?_)))
    refine s_q hs (c_move (hs.ev rfl)) rfl fun ac hs=>?_
    refine s_q hs (c_lssI (hs.ev rfl) (hs.ev rfl)) rfl fun ac hs=>?_
    refine s_q hs (c_move (hs.ev rfl)) rfl fun ac hs=>?_
    refine s_g hs rfl rfl (fun hg=>c_move (hs.ev rfl)) rfl fun ac hs=>?_
    refine s_g hs rfl rfl (fun hg=>c_gtrI (gev (hs.ev rfl) hg) (hs.ev rfl)) rfl fun ac hs=>?_
    refine s_q hs (c_ff (c_or (hs.ev rfl) (hs.ev rfl)) ((by simp; omega))) rfl fun ac hs=>?_
    refine s_end ?_
    replace hs:=hs.sub (F':=[(0,_),(1,_),(2,_),(6,_),(7,_),(8,_),(26,_)]) ⟨rfl,rfl,rfl,rfl,rfl,rfl,rfl,trivial⟩
    refine then_n ?_
    refine wp_cond_false (hs.ev rfl) ?_
    refine wp_skip (then_n (wp_seq (wp_seq (wp_reg ?_))))
    refine s_call hs fu10 .nil (sl_awake _) rfl fun ac ww v36 hf hp hs=>?_
    obtain rfl:=hp
    replace hs:=hs [] (.nil _ _)
    refine s_q hs (c_not (hs.ev rfl)) rfl fun ac hs=>?_
    refine s_q hs (c_move (hs.ev rfl)) rfl fun ac hs=>?_
    refine s_yes hs rfl rfl ?_
    refine s_q hs (c_move (hs.ev rfl)) rfl fun ac hs=>?_
    refine s_yes hs rfl rfl ?_
    refine s_q hs (c_eqlNil un23 (hs.ev rfl) (hs.ev rfl)) rfl fun ac hs=>?_
    refine s_q hs (c_pick (hs.ev rfl) (hs.ev rfl) (hs.ev rfl)) rfl fun ac hs=>?_
    refine s_q hs (c_move (hs.ev rfl)) rfl fun ac hs=>?_
    refine s_yes hs rfl rfl ?_
    refine s_q hs (c_move (hs.ev rfl)) rfl fun ac hs=>?_
    refine s_yes hs rfl rfl ?_
    refine s_q hs (c_neqI (hs.ev rfl) (hs.ev rfl)) rfl fun ac hs=>?_
    refine s_q hs (c_pick (hs.ev rfl) (hs.ev rfl) (hs.ev rfl)) rfl fun ac hs=>?_
    refine s_end ?_
    replace hs:=hs.sub (F':=[(0,_),(1,_),(2,_),(6,_),(7,_),(45,_)]) ⟨rfl,rfl,rfl,rfl,rfl,rfl,trivial⟩
    refine then_n ?_
    refine wp_cond_false (hs.ev rfl) ?_
    refine wp_skip (then_n (wp_seq (wp_reg ?_)))
    refine s_q hs (c_move (hs.ev rfl)) rfl fun ac hs=>?_
    refine s_call hs fu16 (.cons (hs.ev rfl) .nil) (ref_New m (by omega) _) rfl fun ac ww v47 hf hp hs=>?_
    obtain ⟨h,rfl,hh⟩:=hp
    replace hs:=hs _ (Has.grp' hh)
    refine s_q hs (c_assign (hs.ev rfl)) rfl fun ac hs=>?_
    refine s_end ?_
    replace hs:=St.grpn (A:=pl g sb h (.slice none 0 0) (.slice none 0 0) (.slice none 0 0) (newS m) []) (L:=[]) (hs.perm (L':=[_,_]) (List.Perm.swap _ _ _))
    replace hs:=hs.sub (F':=[(1,_),(2,_),(6,_),(7,_),(9,_)]) ⟨rfl,rfl,rfl,rfl,rfl,trivial⟩
    refine then_n (wp_seq (wp_seq (wp_reg ?_)))
    refine s_q hs (c_move (hs.ev rfl)) rfl fun ac hs=>?_
    refine s_q hs (c_lenS un22 (hs.ev rfl)) rfl fun ac hs=>?_
    refine s_q hs (c_move (hs.ev rfl)) rfl fun ac hs=>?_
    refine s_end ?_
    replace hs:=hs.sub (F':=[(2,_),(6,_),(7,_),(9,_),(48,_),(49,_),(50,_)]) ⟨rfl,rfl,rfl,rfl,rfl,rfl,rfl,trivial⟩
    refine then_n (wp_block ?_)
    refine s_loop hs (X:=Nat × PS) (fun z=>[(50,I z.1)]) [(2,_),(7,_),(9,_),(48,_),(49,_)] (fun z=>[Ent.grp (pl g sb h z.2.qv z.2.v1 z.2.v2 z.2.s z.2.su)]) (fun n z=>z.1≤ops.length∧z.1≤60∧PI m z.1 z.2.s z.2.su∧n=ops.length - z.1) (_) ((0,⟨.slice none 0 0,.slice none 0 0,.slice none 0 0,newS m,[]⟩)) (⟨Nat.zero_le _,Nat.zero_le _,⟨newS_ok (by omega),rfl,Nat.le_refl _,Nat.le_refl _,Sim.zero⟩,rfl⟩) ⟨rfl,rfl,rfl,rfl,rfl,rfl,trivial⟩ rfl ?_
    rintro n ⟨k,qv,v1,v2,s,su⟩ ac ww hok hs
    simp only [List.cons_append,List.nil_append] at hs
    obtain ⟨hk,hk60,hI,rfl⟩:=hok
    replace hI:PI m k s su:=hI
    refine wp_seq (wp_reg ?_)
    refine s_q hs (c_lssI (hs.ev rfl) (hs.ev rfl)) rfl fun ac hs=>?_
    refine s_end (then_n (wp_seq ?_))
    refine s_cond hs rfl (fun hc=>?_) (fun hc=>?_)
    · try simp only [decide_eq_true_eq,decide_eq_false_iff_not,Bool.not_eq_true',Bool.not_eq_false',Bool.and_eq_true,Bool.or_eq_true,Bool.or_eq_false_iff] at hc
      have hkn:k < ops.length:=by omega
      obtain ⟨pb,po,pT,pf,pall,rfl,hpb,hps⟩:=Rd.fm_at (by decide) (fun y hy=>O14.len (hops y hy)) hqo (by omega)
      replace hps:=hps k hkn
      have hob:=hops _ (getD_mem hkn)
      have hon:=honA _ (getD_mem hkn)
      obtain ⟨o,hx⟩:∃ x,ops.getD k default=x:=⟨_,rfl⟩
      rw [hx] at hps hob hon
      refine wp_skip (then_n (wp_seq (wp_block (wp_seq (wp_reg ?_)))))
      refine s_q hs (c_move (hs.ev rfl)) rfl fun ac hs=>?_
      refine s_q hs (c_idxS (j:=k) un22 ty32 (hs.ev rfl) (hs.ev rfl) (by omega) (by omega)) rfl fun ac hs=>?_
      refine s_q hs (c_loadA ty32 ag32 (hs.ev rfl) (hs.old hpb id) hps (O14.len hob)) rfl fun ac hs=>?_
      refine s_alloc hs ty32 rfl fun ac ww g11 hs=>?_
      refine s_q hs (c_assign (hs.ev rfl)) rfl fun ac hs=>?_
      refine s_storeW (i:=0) hs ty32 rfl rfl rfl (O14.len hob) (O14.one _) (by rfl) fun ww hs=>?_
      refine s_end (then_n (wp_seq (wp_seq (wp_reg ?_))))
      refine s_q hs (c_move (hs.ev rfl)) rfl fun ac hs=>?_
      refine s_q hs (c_geqI (hs.ev rfl) (hs.ev rfl)) rfl fun ac hs=>?_
      refine s_end (then_n ?_)
      refine s_cond hs rfl (fun hc=>?_) (fun hc=>?_)
      · try simp only [decide_eq_true_eq,decide_eq_false_iff_not,Bool.not_eq_true',Bool.not_eq_false',Bool.and_eq_true,Bool.or_eq_true,Bool.or_eq_false_iff] at hc
        refine wp_exit (then_e (blk_miss rfl (then_e (then_e (blk_hit (then_n (wp_seq (wp_reg ?_))))))))
        refine s_q hs (c_assign (hs.ev rfl)) rfl fun ac hs=>?_
        refine s_end ?_
        replace hs:=hs.sub (F':=[(6,_)]) ⟨rfl,trivial⟩
        refine then_n (wp_ret ?_)
        refine s_ret hs rfl (.tmp (hs.tmp rfl) .nil) rfl ⟨_,rfl,hs.fr,?_⟩
        rfl
      · try simp only [decide_eq_true_eq,decide_eq_false_iff_not,Bool.not_eq_true',Bool.not_eq_false',Bool.and_eq_true,Bool.or_eq_true,Bool.or_eq_false_iff] at hc
        have hk59:k < 60:=by omega
        refine wp_skip (then_n (wp_seq (wp_seq (wp_reg ?_))))
        refine s_q hs (c_move (hs.ev rfl)) rfl fun ac hs=>?_
        refine s_q hs (c_move (hs.ev rfl)) rfl fun ac hs=>?_
        refine s_q hs (c_loadW ty32 ag32 (hs.ev rfl) (hs.seg (i:=0) rfl) (O14.len hob)) rfl fun ac hs=>?_
        refine s_callM (i:=1) hs fu17 (.cons (hs.ev rfl) (.cons (hs.ev rfl) (.cons (hs.ev rfl) .nil))) rfl (law14_Does m k g sb h qv v1 v2 s su o hob hon (by omega) hI _ (hs.get (i:=1) rfl)) rfl fun ac ww v60 hf hp hs=>?_
        obtain ⟨rfl,qv',v1',v2',s',su',hI2,h1,h2⟩:=hp
        replace hs:=hs (Ent.grp (pl g sb h qv' v1' v2' s' su')) h1 (fun k hk=>⟨h2 k hk,grp_lt h1 k hk⟩)
        have hok2:=hI2.ok
        have hS2:=hI2.S
        have hrl:=read_len hok2 j
        refine s_q hs (c_not (hs.ev rfl)) rfl fun ac hs=>?_
        refine s_q hs (c_move (hs.ev rfl)) rfl fun ac hs=>?_
        refine s_yes hs rfl rfl ?_
        refine s_q hs (c_move (hs.ev rfl)) rfl fun ac hs=>?_
        refine s_yes hs rfl rfl ?_
        refine s_q hs (c_move (hs.ev rfl)) rfl fun ac hs=>?_
        refine s_yes hs rfl rfl ?_
        refine s_call hs fu18 (.cons (hs.ev rfl) (.cons (hs.ev rfl) .nil)) (law14_Is g sb h qv' v1' v2' s' su' hok2 hS2 _ (pl_sl (hs.get (i:=1) rfl)) (pl_rs (hs.get (i:=1) rfl))) rfl fun ac ww v65 hf hp hs=>?_
        obtain rfl:=hp
        replace hs:=hs [] (.nil _ _)
        refine s_yes hs rfl rfl ?_
        refine s_q hs (c_not (hs.ev rfl)) rfl fun ac hs=>?_
        refine s_q hs (c_pick (hs.ev rfl) (hs.ev rfl) (hs.ev rfl)) rfl fun ac hs=>?_
        refine s_end (then_n ?_)
        refine wp_cond_false (hs.ev rfl) ?_
        refine wp_skip (then_n (wp_seq (wp_reg ?_)))
        refine s_q hs (c_move (hs.ev rfl)) rfl fun ac hs=>?_
        refine s_q hs (c_move (hs.ev rfl)) rfl fun ac hs=>?_
        refine s_call hs fu15 (.cons (hs.ev rfl) (.cons (hs.ev rfl) .nil)) (sl_Read g sb qv' s' j hok2 _ (pl_sl (hs.get (i:=1) rfl))) rfl fun ac ww v71 hf hp hs=>?_
        obtain rfl:=hp
        replace hs:=hs [] (.nil _ _)
        refine s_q hs (c_move (hs.ev rfl)) rfl fun ac hs=>?_
        refine s_q hs (c_extract (hs.ev rfl) rfl) rfl fun ac hs=>?_
        refine s_q hs (c_extract (hs.ev rfl) rfl) rfl fun ac hs=>?_
        refine s_alloc hs ty29 rfl fun ac ww g12 hs=>?_
        refine s_storeW (i:=0) hs ty29 rfl rfl rfl (by simp [hrl]) (all64 _) (by rfl) fun ww hs=>?_
        refine s_q hs (c_assign (hs.ev rfl)) rfl fun ac hs=>?_
        refine s_end (then_n (wp_seq (wp_reg ?_)))
        refine s_q hs (c_move (hs.ev rfl)) rfl fun ac hs=>?_
        refine s_q hs (c_move (hs.ev rfl)) rfl fun ac hs=>?_
        refine s_call hs fu19 (.cons (hs.ev rfl) (.cons (hs.ev rfl) .nil)) (ref_Read h v1' v2' s' su' j hok2 hS2 _ (pl_rs (hs.get (i:=2) rfl))) rfl fun ac ww v77 hf hp hs=>?_
        obtain rfl:=hp
        replace hs:=hs [] (.nil _ _)
        refine s_q hs (c_move (hs.ev rfl)) rfl fun ac hs=>?_
        refine s_q hs (c_extract (hs.ev rfl) rfl) rfl fun ac hs=>?_
        refine s_q hs (c_extract (hs.ev rfl) rfl) rfl fun ac hs=>?_
        refine s_alloc hs ty28 rfl fun ac ww g14 hs=>?_
        refine s_storeW (i:=0) hs ty28 rfl rfl rfl (by simp [hrl]) (all64 _) (by rfl) fun ww hs=>?_
        refine s_q hs (c_assign (hs.ev rfl)) rfl fun ac hs=>?_
        refine s_end (then_n (wp_seq (wp_reg ?_)))
        refine s_q hs (c_move (hs.ev rfl)) rfl fun ac hs=>?_
        refine s_q hs (c_move (hs.ev rfl)) rfl fun ac hs=>?_
        refine s_q hs (c_ff (c_neqI (hs.ev rfl) (hs.ev rfl)) ((by simp))) rfl fun ac hs=>?_
        refine s_q hs (c_move (hs.ev rfl)) rfl fun ac hs=>?_
        refine s_yes hs rfl rfl ?_
        refine s_q hs (c_loadW ty29 rfl (hs.ev rfl) (hs.seg (i:=1) rfl) (by simp [hrl])) rfl fun ac hs=>?_
        refine s_yes hs rfl rfl ?_
        refine s_q hs (c_loadW ty28 rfl (hs.ev rfl) (hs.seg (i:=0) rfl) (by simp [hrl])) rfl fun ac hs=>?_
        refine s_yes hs rfl rfl ?_
        refine s_q hs (c_ff (c_neqAB un29 ty5 eg29 (hs.ev rfl) (hs.ev rfl) hrl hrl) ((by simp))) rfl fun ac hs=>?_
        refine s_q hs (c_pick (hs.ev rfl) (hs.ev rfl) (hs.ev rfl)) rfl fun ac hs=>?_
        refine s_end (then_n ?_)
        refine wp_cond_false (hs.ev rfl) ?_
        refine wp_skip (blk_n (then_n (wp_reg ?_)))
        refine s_q hs (c_addI (hs.ev rfl) (hs.ev rfl) (by omega) (by omega)) rfl fun ac hs=>?_
        refine s_q hs (c_move (hs.ev rfl)) rfl fun ac hs=>?_
        refine s_end (then_n ?_)
        replace hs:=hs.pick (L':=[_]) (.cons _ (.cons _ (.cons _ (.refl _))))
        exact ⟨ops.length - (k + 1),by omega,(k + 1,⟨qv',v1',v2',s',su'⟩),⟨by show k + 1≤_; omega,by show k + 1≤_; omega,hI2,rfl⟩,St.next hs ⟨rfl,rfl,rfl,rfl,rfl,rfl,trivial⟩ rfl⟩
    · try simp only [decide_eq_true_eq,decide_eq_false_iff_not,Bool.not_eq_true',Bool.not_eq_false',Bool.and_eq_true,Bool.or_eq_true,Bool.or_eq_false_iff] at hc
      skip
      refine wp_exit (then_e (then_e (blk_hit (then_n (wp_seq (wp_reg ?_))))))
      refine s_q hs (c_assign (hs.ev rfl)) rfl fun ac hs=>?_
      refine s_end ?_
      replace hs:=hs.sub (F':=[(6,_)]) ⟨rfl,trivial⟩
      refine then_n (wp_ret ?_)
      refine s_ret hs rfl (.tmp (hs.tmp rfl) .nil) rfl ⟨_,rfl,hs.fr,?_⟩
      rfl
  · refine s_q hs (c_move (hs.ev rfl)) rfl fun ac hs=>?_
    refine s_call hs fu9 (.cons (hs.ev rfl) .nil) (sl_New n _) rfl fun ac ww v18 hf hp hs=>?_
    rw [if_neg hn] at hp
    obtain rfl:=hp
    replace hs:=hs [] (.nil _ _)
    refine s_q hs (c_move (hs.ev rfl)) rfl fun ac hs=>?_
    refine s_q hs (c_extract (hs.ev rfl) rfl) rfl fun ac hs=>?_
    refine s_q hs (c_extract (hs.ev rfl) rfl) rfl fun ac hs=>?_
    refine s_q hs (c_assign (hs.ev rfl)) rfl fun ac hs=>?_
    refine s_q hs (c_assign (hs.ev rfl)) rfl fun ac hs=>?_
    refine s_end ?_
    replace hs:=hs.sub (F':=[(0,_),(1,_),(2,_),(6,_),(7,_),(8,_)]) ⟨rfl,rfl,rfl,rfl,rfl,rfl,trivial⟩
    refine then_n (wp_seq (wp_seq (wp_reg ?_)))
    refine s_q hs (c_move (hs.ev rfl)) rfl fun ac hs=>?_
    refine s_q hs (c_lssI (hs.ev rfl) (hs.ev rfl)) rfl fun ac hs=>?_
    refine s_q hs (c_move (hs.ev rfl)) rfl fun ac hs=>?_
    refine s_g hs rfl rfl (fun hg=>c_move (hs.ev rfl)) rfl fun ac hs=>?_
    refine s_g hs rfl rfl (fun hg=>c_gtrI (gev (hs.ev rfl) hg) (hs.ev rfl)) rfl fun ac hs=>?_
    refine s_q hs (c_tt (c_or (hs.ev rfl) (hs.ev rfl)) ((by simp; omega))) rfl fun ac hs=>?_
    refine s_end ?_
    replace hs:=hs.sub (F':=[(0,_),(1,_),(2,_),(6,_),(7,_),(8,_),(26,_)]) ⟨rfl,rfl,rfl,rfl,rfl,rfl,rfl,trivial⟩
    refine then_n ?_
    refine wp_cond_true (hs.ev rfl) ?_
    refine wp_seq (wp_reg ?_)
    refine s_call hs fu10 .nil (sl_awake _) rfl fun ac ww v27 hf hp hs=>?_
    obtain rfl:=hp
    replace hs:=hs [] (.nil _ _)
    refine s_q hs (c_move (hs.ev rfl)) rfl fun ac hs=>?_
    refine s_yes hs rfl rfl ?_
    refine s_q hs (c_move (hs.ev rfl)) rfl fun ac hs=>?_
    refine s_yes hs rfl rfl ?_
    refine s_q hs (c_eqlNil0 un23 (hs.ev rfl) (hs.ev rfl)) rfl fun ac hs=>?_
    refine s_q hs (c_pick (hs.ev rfl) (hs.ev rfl) (hs.ev rfl)) rfl fun ac hs=>?_
    refine s_q hs (c_move (hs.ev rfl)) rfl fun ac hs=>?_
    refine s_yes hs rfl rfl ?_
    refine s_q hs (c_move (hs.ev rfl)) rfl fun ac hs=>?_
    refine s_yes hs rfl rfl ?_
    refine s_q hs (c_eqlI (hs.ev rfl) (hs.ev rfl)) rfl fun ac hs=>?_
    refine s_q hs (c_pick (hs.ev rfl) (hs.ev rfl) (hs.ev rfl)) rfl fun ac hs=>?_
    refine s_q hs (c_assign (hs.ev rfl)) rfl fun ac hs=>?_
    refine s_end ?_
    replace hs:=hs.sub (F':=[(0,_),(1,_),(2,_),(6,_),(7,_),(8,_)]) ⟨rfl,rfl,rfl,rfl,rfl,rfl,trivial⟩
    refine then_n (wp_ret (then_r ?_))
    refine s_ret hs rfl (.tmp (hs.tmp rfl) .nil) rfl ⟨_,rfl,hs.fr,?_⟩
    rfl
end Go.Proofs.Ytkecdcmjkghddaa
end
