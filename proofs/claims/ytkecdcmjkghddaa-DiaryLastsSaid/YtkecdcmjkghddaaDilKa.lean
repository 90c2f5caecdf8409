/- Own texts of this seat,laid together for one claim (with what its proof uses alone). -/
import Derived.JoinedOf
import Derived.KernelRfl
import Derived.Test.YtkecdcmjkghddaaRows
import Derived.WalkKit
import Derived.Below
import Derived.Laws.AppendOwnNone
import Derived.ProofKit
import Derived.OpenShut
import Derived.ShutString
import Derived.ChangeOld
import Derived.SizedLaws
import Derived.Deep.Slices
import Derived.Test.YtkecdcmjkghddaaProg
import Derived.Laws.BytesString
import Derived.Laws.CopyRow
import Derived.ChangeSame
import Derived.Deep.Strs
import Derived.ChangeMaps5
import Derived.DataReads
import Derived.Lib.SmallJoins
import Derived.Maps.OwnSet
import Derived.DeepKeys4
import Derived.Scope
set_option linter.unusedSimpArgs false
set_option linter.unusedVariables false
set_option maxRecDepth 100000
section
/- The closed facts of a row,in parts: a long list of roots in a program's first words is more than the kernel holds at one stroke. -/
namespace Go.Fw
open Go
theorem wordsSigns_ne (l:List Char):wordsSigns l ≠ []:=by
  unfold wordsSigns
  split
  · simp
  · simp
  · split <;> simp
theorem wordsSigns_app:∀ (l r:List Char),wordsSigns (l++Char.ofNat 32::r)=wordsSigns l++wordsSigns r
  | [],r=>rfl
  | c::l,r=>by
    have ih:=wordsSigns_app l r
    by_cases e:c=Char.ofNat 32
    · subst e
      show []::wordsSigns (l++Char.ofNat 32::r)=([]::wordsSigns l)++wordsSigns r
      rw [ih]; rfl
    · have h1:∀ t:List Char,wordsSigns (c::t)=match wordsSigns t with
          | w::ws=>(c::w)::ws
          | []=>[[c]]:=fun t=>by
        rw [wordsSigns.eq_3]
        · rfl
        · exact fun h=>e h
      rw [List.cons_append,h1,h1,ih]
      cases h2:wordsSigns l with
      | nil=>exact absurd h2 (wordsSigns_ne l)
      | cons w ws=>rfl
theorem words_cut {P:Program} {X Y:List Nat} {a b:List Char} (hio:P.initOrder=String.ofList (X.map Char.ofNat++Char.ofNat 32::Y.map Char.ofNat))
    (hx : wordsSigns (X.map Char.ofNat) = [a, b, "cut".toList, "at".toList]) (hm : ((a == "harness".toList || a == "ownmain".toList) && isSumSigns b) = true) :
    behindMainWord (wordsSigns P.initOrder.toList) = "cut".toList :: ("at".toList :: wordsSigns (Y.map Char.ofNat)) := by
  rw [hio,String.toList_ofList,wordsSigns_app,hx]
  show behindMainWord (a :: b :: ("cut".toList :: ("at".toList :: wordsSigns (Y.map Char.ofNat)))) = _
  rw [behindMainWord,if_pos hm]
theorem strip_cut (W : List (List Char)) : stripLifts liftWords ("cut".toList :: W) = ([], "cut".toList :: W) := rfl
theorem headLifts_cut {P : Program} {W : List (List Char)} (h : behindMainWord (wordsSigns P.initOrder.toList) = "cut".toList :: W) : P.headLifts = [] := by
  unfold Program.headLifts
  rw [h,strip_cut]
  rfl
theorem mayEnter_cut {P : Program} {W : List (List Char)} (h : behindMainWord (wordsSigns P.initOrder.toList) = "cut".toList :: W) (hl : P.laysLater = false) (hr : P.bearsReflect = false) (hd : P.doorFits [] = true) : P.mayEnter = true := by
  unfold Program.mayEnter
  rw [h]
  simp only [strip_cut,hl,hr,hd]
  rfl
theorem liftsFinal_cut {P : Program} {W : List (List Char)} (h : behindMainWord (wordsSigns P.initOrder.toList) = "cut".toList :: W) : P.liftsFinal = false := by
  unfold Program.liftsFinal
  rw [h,headLifts_cut h]
  rfl
theorem make_cut {P : Program} {W : List (List Char)} (h : behindMainWord (wordsSigns P.initOrder.toList) = "cut".toList :: W) : P.make = some .cut := by
  unfold Program.make
  rw [h]
  rfl
structure Whole (P:Program) (pk:Bool):Prop where
  laid:laidOutB P=true
  maps:mapsRowed P=true
  stops:(P.stops == [])=true
  knobs:(P.stopKnobs == [])=true
  keys:P.plainKeys=pk
  heard:P.stopsHeard=true
  enter:P.mayEnter=true
  final:P.liftsFinal=false
  make:P.make=some .cut
def rowB (pk:Bool) (P:Program) (f:FuncId) (fn:Func) (s:ChangeSpec) (c:OpenClaim):Bool :=
  c.wf (OpenSpec.ofChange s) && fn.params.all (P.readableRec ·) && namedTie P c.named s.vars &&
  (c.stops == []) && (c.knobs == []) && (c.named == P.varsNamed f) &&
  (c.maps == (fn.params.toList++s.plain.varTypes P).any (P.mapsRec ·)) && (c.ifaces == (fn.params.toList++s.plain.varTypes P).any (P.ifacesRec ·)) && (c.mapsOut == P.mapsAmong fn.resultTypes.toList) &&
  (c.loops == (fn.params.toList++s.plain.varTypes P).any (P.loopsFrom ·)) && (c.wideKeys == (fn.params.toList++s.plain.varTypes P++fn.resultTypes.toList).any (P.wideKeysFrom ·)) &&
  s.vars.all (P.varReadable ·) && fn.resultTypes.all (fun t=>P.readableRec t && decide (t < P.types.size)) && (c.ifacesOut == fn.resultTypes.toList.any (P.ifacesRec ·)) && (c.loopsOut == fn.resultTypes.toList.any (P.loopsFrom ·)) && (c.plainKeys == pk) && c.shortTexts.isNone && (c.lifted == false) && (some Make.cut == some c.make) &&
  (c.kinds == (if c.domain.isEmpty then [] else fn.params.toList.map fun t=>match P.underlying t with | some (.int k)=>some k | _=>none)) && (c.pinned == c.pinnedBy) &&
  (c.veiled == (fn.params.toList++s.plain.varTypes P++fn.resultTypes.toList).any (P.veiledRec ·)) && c.veiledFits P fn.params.toList (fn.params.toList++s.plain.varTypes P++fn.resultTypes.toList)
theorem joined_of {P:Program} {pk:Bool} {f:FuncId} {fn:Func} {s:ChangeSpec} {c:OpenClaim} (w:Whole P pk) (h1:(c.inPlace == P.inPlace f)=true) (h2:(c.unfollowed == P.unfollowed f)=true) (h3:(c.recurses == P.recurses f)=true) (h:rowB pk P f fn s c=true) :
    joinedFacts P f fn s c=true:=by
  unfold rowB at h
  unfold joinedFacts
  simp only [w.laid,w.maps,w.stops,w.knobs,w.keys,w.heard,w.enter,w.final,w.make,h1,h2,h3,Bool.and_true,Bool.true_and,Bool.and_assoc] at h ⊢
  exact h
end Go.Fw
end

section
/- Closed facts of the whole program. Written by a program of ours (closed.py). -/
namespace Go.Proofs.Ytkecdcmjkghddaa
open Go Go.Fw
theorem io:Try.prog.initOrder=String.ofList (([104,97,114,110,101,115,115,32,99,102,98,52,56,100,48,49,97,52,49,48,53,53,53,98,50,57,55,50,102,102,57,48,51,48,55,56,102,56,56,56,49,100,99,100,97,98,53,48,50,54,100,50,54,98,99,55,101,55,48,53,100,57,99,53,53,102,55,49,55,53,53,48,32,99,117,116,32,97,116]:List Nat).map Char.ofNat++Char.ofNat 32::([102,105,110,103,101,114,112,111,115,116,47,102,105,110,103,101,114,112,111,115,116,108,97,119,49,52,46,83,108,97,116,101,76,97,115,116,115,32,102,105,110,103,101,114,112,111,115,116,47,102,105,110,103,101,114,112,111,115,116,108,97,119,49,52,46,83,108,97,116,101,80,108,97,121,115,32,102,105,110,103,101,114,112,111,115,116,47,102,105,110,103,101,114,112,111,115,116,108,97,119,49,52,46,83,108,97,116,101,78,105,108,32,102,105,110,103,101,114,112,111,115,116,47,102,105,110,103,101,114,112,111,115,116,108,97,119,49,53,46,68,105,97,114,121,84,117,114,110,115,32,102,105,110,103,101,114,112,111,115,116,47,102,105,110,103,101,114,112,111,115,116,108,97,119,49,53,46,68,105,97,114,121,78,105,108,32,102,105,110,103,101,114,112,111,115,116,47,102,105,110,103,101,114,112,111,115,116,108,97,119,49,53,46,68,105,97,114,121,76,97,115,116,115]:List Nat).map Char.ofNat):=by kernel_rfl
theorem wordsOf : behindMainWord (wordsSigns Try.prog.initOrder.toList) = "cut".toList :: ("at".toList :: wordsSigns (([102, 105, 110, 103, 101, 114, 112, 111, 115, 116, 47, 102, 105, 110, 103, 101, 114, 112, 111, 115, 116, 108, 97, 119, 49, 52, 46, 83, 108, 97, 116, 101, 76, 97, 115, 116, 115, 32, 102, 105, 110, 103, 101, 114, 112, 111, 115, 116, 47, 102, 105, 110, 103, 101, 114, 112, 111, 115, 116, 108, 97, 119, 49, 52, 46, 83, 108, 97, 116, 101, 80, 108, 97, 121, 115, 32, 102, 105, 110, 103, 101, 114, 112, 111, 115, 116, 47, 102, 105, 110, 103, 101, 114, 112, 111, 115, 116, 108, 97, 119, 49, 52, 46, 83, 108, 97, 116, 101, 78, 105, 108, 32, 102, 105, 110, 103, 101, 114, 112, 111, 115, 116, 47, 102, 105, 110, 103, 101, 114, 112, 111, 115, 116, 108, 97, 119, 49, 53, 46, 68, 105, 97, 114, 121, 84, 117, 114, 110, 115, 32, 102, 105, 110, 103, 101, 114, 112, 111, 115, 116, 47, 102, 105, 110, 103, 101, 114, 112, 111, 115, 116, 108, 97, 119, 49, 53, 46, 68, 105, 97, 114, 121, 78, 105, 108, 32, 102, 105, 110, 103, 101, 114, 112, 111, 115, 116, 47, 102, 105, 110, 103, 101, 114, 112, 111, 115, 116, 108, 97, 119, 49, 53, 46, 68, 105, 97, 114, 121, 76, 97, 115, 116, 115] : List Nat).map Char.ofNat)) :=
  words_cut (a := "harness".toList) (b := "cfb48d01a410555b2972ff903078f8881dcdab5026d26bc7e705d9c55f717550".toList) io (by decide +kernel) (by decide +kernel)
theorem later:Try.prog.laysLater=false:=by kernel_rfl
theorem reflects:Try.prog.bearsReflect=false:=by kernel_rfl
theorem doors:Try.prog.doorFits []=true:=by kernel_rfl
theorem laid:laidOutB Try.prog=true:=by kernel_rfl
theorem rowed:mapsRowed Try.prog=true:=by kernel_rfl
theorem stops:(Try.prog.stops == [])=true:=by kernel_rfl
theorem knobs:(Try.prog.stopKnobs == [])=true:=by kernel_rfl
theorem keysPlain:Try.prog.plainKeys=true:=by kernel_rfl
theorem heard:Try.prog.stopsHeard=true:=by kernel_rfl
theorem ownK:ownKnob Try.prog.godebug=none:=by kernel_rfl
theorem whole:Whole Try.prog true:=⟨laid,rowed,stops,knobs,keysPlain,heard,mayEnter_cut wordsOf later reflects doors,liftsFinal_cut wordsOf,make_cut wordsOf⟩
end Go.Proofs.Ytkecdcmjkghddaa
end

section
/- A small frame of proof over any program: what is known of the slots ('Know'),what stands in memory ('Has'),what has stayed ('Fr'),and all three together ('St'). -/
namespace Go.Fw
open Go
def look:List (Nat × Value)→Nat→Option Value
  | [],_=>none
  | (k,v)::t,n=>bif Nat.beq k n then some v else look t n
theorem _root_.Nat.beq_eq_false_of {a b:Nat} (h:¬ a=b):Nat.beq a b=false:=by
  cases e:Nat.beq a b with
  | false=>rfl
  | true=>exact absurd (Nat.eq_of_beq_eq_true e) h
structure Know (N:Nat) (F:List (Nat × Value)) (a:Act):Prop where
  size:a.tmps.size=N
  defers:a.defers=[]
  at_:∀ n v,look F n=some v→a.tmps[n]?=some v
def ev (F:List (Nat × Value)):Operand→Option Value
  | .tmp n=>look F n
  | .const v=>some v
  | .global g=>some (.pointer (some ⟨g,0,none⟩))
  | .func f=>some (.func (.func f) #[] #[])
theorem Know.eval {N F a x v} (h:Know N F a) (hx:ev F x=some v):a.eval x=v:=by
  cases x with
  | tmp n=>have:=h.at_ n v hx; simp [Act.eval,this]
  | const u=>simpa [ev,Act.eval] using hx
  | global g=>simpa [ev,Act.eval] using hx
  | func f=>simpa [ev,Act.eval] using hx
theorem Know.put {N F a d} (h:Know N F a) (hd:d < N) (v:Value):Know N ((d,v)::F) (a.put (some d) v):=by
  refine ⟨by simpa [Act.put] using h.size,h.defers,fun n u hn=>?_⟩
  simp only [Act.put]
  rw [Array.getElem?_setIfInBounds]
  simp only [look] at hn
  by_cases e:d=n
  · subst e
    simp at hn
    rw [if_pos rfl,if_pos (by rw [h.size]; exact hd),hn]
  · rw [if_neg e]
    have:Nat.beq d n=false:=Nat.beq_eq_false_of e
    rw [this] at hn
    exact h.at_ n u hn
def Sub (F:List (Nat × Value)):List (Nat × Value)→Prop
  | []=>True
  | (k,v)::t=>look F k=some v∧Sub F t
theorem Sub.look {F:List (Nat × Value)}:∀ {F':List (Nat × Value)},Sub F F'→∀ n v,look F' n=some v→look F n=some v
  | [],_,n,v,h=>by simp [Fw.look] at h
  | (k,u)::t,hs,n,v,h=>by
    simp only [Fw.look] at h
    by_cases e:k=n
    · subst e
      simp at h
      rw [← h]
      exact hs.1
    · have:Nat.beq k n=false:=Nat.beq_eq_false_of e
      rw [this] at h
      exact hs.2.look n v h
theorem Know.sub {N F F' a} (h:Know N F a) (hs:Sub F F'):Know N F' a:=⟨h.size,h.defers,fun n v hn=>h.at_ n v (hs.look n v hn)⟩
/-! ### Memory -/
structure Fr (M:Nat→Prop) (w w':World):Prop where
  os:w'.os=w.os
  tape:w'.tape=w.tape
  output:w'.output=w.output
  size:w.heap.size≤w'.heap.size
  block:∀ k,k < w.heap.size→¬ M k→w'.heap[k]?=w.heap[k]?
abbrev Fr0:=Fr (fun _=>False)
theorem Fr.refl (M:Nat→Prop) (w:World):Fr M w w:=⟨rfl,rfl,rfl,Nat.le_refl _,fun _ _ _=>rfl⟩
theorem Fr.trans {M S:Nat→Prop} {a b c:World} (h:Fr M a b) (k:Fr S b c) (hs:∀ i,i < a.heap.size→S i→M i):Fr M a c :=
  ⟨k.os.trans h.os,k.tape.trans h.tape,k.output.trans h.output,Nat.le_trans h.size k.size,fun i hi hm =>
    (k.block i (Nat.lt_of_lt_of_le hi h.size) (fun s=>hm (hs i hi s))).trans (h.block i hi hm)⟩
theorem Fr.trans0 {M:Nat→Prop} {a b c:World} (h:Fr M a b) (k:Fr0 b c):Fr M a c:=h.trans k (fun _ _ s=>s.elim)
theorem Fr.mono {M M':Nat→Prop} {a b:World} (h:Fr M a b) (hm:∀ k,k < a.heap.size→M k→M' k):Fr M' a b :=
  ⟨h.os,h.tape,h.output,h.size,fun k hk hn=>h.block k hk (fun s=>hn (hm k hk s))⟩
theorem Fr.below {w w':World} (h:Fr0 w w'):RowKit.Below w.heap.size w w':=⟨h.os,h.tape,h.output,h.size,fun k hk=>h.block k hk id⟩
theorem Fr.drew (w:World):Fr0 w w.drew:=⟨rfl,rfl,rfl,Nat.le_refl _,fun _ _ _=>rfl⟩
theorem Fr.alloc (w:World) (o:Obj):Fr0 w (w.alloc o):=⟨rfl,rfl,rfl,by simp,fun k hk _=>RowKit.Below.heap_alloc w o k hk⟩
theorem Fr.setRow (w:World) (g:Nat) (cs:Array Value):Fr (·=g) w (w.setRow g cs) :=
  ⟨rfl,rfl,rfl,by simp,fun k _ hk=>setRow_other w g k cs hk⟩
theorem Fr.grown {w w':World} {r:Option Nat} (h:w.grownBy w' r):Fr (fun k=>r=some k) w w' :=
  ⟨h.os,h.tape,h.output,h.size,fun k hk hm=>h.block k hk (fun e=>hm e.symm)⟩
inductive Ent where
  | seg (g:Nat) (cs:List Value) (T:TypeId)
  | row (v:Value) (n:Nat) (xs:List Value) (T:TypeId) (sz:Nat)
  | pr (keys:Nat→Prop) (holds:World→Prop) (loc:∀ w w':World,(∀ k,keys k→w'.heap[k]?=w.heap[k]?)→holds w→holds w')
def Ent.keys:Ent→Nat→Prop
  | .seg g _ _,k=>k=g
  | .row v _ _ _ _,k=>v.ownBlock=some k
  | .pr ks _ _,k=>ks k
def Ent.holds:Ent→World→Prop
  | .seg g cs T,w=>w.heap[g]?=some (.cells cs.toArray T (0,0))
  | .row v n xs T sz,w=>w.ownsRow 0 T sz v n xs
  | .pr _ h _,w=>h w
theorem Ent.loc (e:Ent) {w w':World} (h:∀ k,e.keys k→w'.heap[k]?=w.heap[k]?) (hh:e.holds w):e.holds w':=by
  cases e with
  | seg g cs T=>exact (h g rfl).trans hh
  | row v n xs T sz =>
    obtain ⟨h1,h2⟩:=hh
    refine ⟨h1,?_⟩
    rcases h2 with h2 | ⟨g,cap,cur,hv,hg,hc,r⟩
    · exact .inl h2
    · exact .inr ⟨g,cap,cur,hv,hg,(h g (by simp [Ent.keys,hv,Value.ownBlock])).trans hc,r⟩
  | pr ks hd loc=>exact loc w w' h hh
def Ent.apart (a b:Ent):Prop:=∀ k,a.keys k→¬ b.keys k
structure Has (B:Nat) (w:World) (L:List Ent):Prop where
  holds:∀ e∈L,e.holds w
  apart:L.Pairwise Ent.apart
  lt:∀ e∈L,∀ k,e.keys k→k < w.heap.size
  ge:∀ e∈L,∀ k,e.keys k→B≤k
theorem Has.nil (B:Nat) (w:World):Has B w []:=⟨by simp,.nil,by simp,by simp⟩
theorem Has.mono {B B':Nat} {w:World} {L:List Ent} (h:Has B w L) (hB:B'≤B):Has B' w L:=⟨h.holds,h.apart,h.lt,fun e he k hk=>Nat.le_trans hB (h.ge e he k hk)⟩
theorem Has.same {B:Nat} {w w':World} {L:List Ent} (h:Has B w L) (hs:w.heap.size≤w'.heap.size) (hb:∀ e∈L,∀ k,e.keys k→w'.heap[k]?=w.heap[k]?):Has B w' L :=
  ⟨fun e he=>e.loc (hb e he) (h.holds e he),h.apart,fun e he k hk=>Nat.lt_of_lt_of_le (h.lt e he k hk) hs,h.ge⟩
theorem Has.fr0 {B:Nat} {w w':World} {L:List Ent} (h:Has B w L) (hf:Fr0 w w'):Has B w' L :=
  h.same hf.size fun e he k hk=>hf.block k (h.lt e he k hk) id
theorem Has.new {B:Nat} {w w':World} {L L':List Ent} (h:Has B w L) (hf:Fr0 w w') (hB:B≤w.heap.size) (hn:Has w.heap.size w' L'):Has B w' (L'++L):=by
  have h':=h.fr0 hf
  refine ⟨fun e he=>?_,?_,fun e he k hk=>?_,fun e he k hk=>?_⟩
  · rcases List.mem_append.1 he with he | he
    · exact hn.holds e he
    · exact h'.holds e he
  · refine List.pairwise_append.2 ⟨hn.apart,h'.apart,fun a ha b hb k hka hkb=>?_⟩
    have h1:=hn.ge a ha k hka
    have h2:=h.lt b hb k hkb
    omega
  · rcases List.mem_append.1 he with he | he
    · exact hn.lt e he k hk
    · exact h'.lt e he k hk
  · rcases List.mem_append.1 he with he | he
    · exact Nat.le_trans hB (hn.ge e he k hk)
    · exact h.ge e he k hk
theorem pairwise_set {α:Type} {R:α→α→Prop}:∀ {L:List α} {i:Nat} {e e':α},L[i]?=some e→L.Pairwise R→(∀ b∈L,R e b→R e' b)→(∀ b∈L,R b e→R b e')→(L.set i e').Pairwise R
  | [],i,e,e',h,_,_,_=>by simp at h
  | x::t,0,e,e',h,hp,h1,h2=>by
    simp at h
    subst h
    rw [List.pairwise_cons] at hp
    simp only [List.set_cons_zero]
    exact List.pairwise_cons.2 ⟨fun b hb=>h1 b (by simp [hb]) (hp.1 b hb),hp.2⟩
  | x::t,i + 1,e,e',h,hp,h1,h2=>by
    simp at h
    rw [List.pairwise_cons] at hp
    simp only [List.set_cons_succ]
    refine List.pairwise_cons.2 ⟨fun b hb=>?_,pairwise_set h hp.2 (fun b hb r=>h1 b (by simp [hb]) r) (fun b hb r=>h2 b (by simp [hb]) r)⟩
    rcases List.mem_or_eq_of_mem_set hb with hb | rfl
    · exact hp.1 b hb
    · exact h2 x (by simp) (hp.1 e (List.mem_of_getElem? h))
theorem Has.mod {B:Nat} {w w':World} {L:List Ent} {i:Nat} {e e':Ent} (h:Has B w L) (hi:L[i]?=some e) (hf:Fr e.keys w w') (he':e'.holds w')
    (hk:∀ k,e'.keys k→(e.keys k∨(w.heap.size≤k∧B≤k))∧k < w'.heap.size):Has B w' (L.set i e'):=by
  have hmem:=List.mem_of_getElem? hi
  have key:∀ b∈L,∀ k,e'.keys k→b.keys k→e.keys k:=fun b hb k h1 h2=>by
    rcases (hk k h1).1 with h3 | h3
    · exact h3
    · have:=h.lt b hb k h2; omega
  have hne:∀ j b,L[j]?=some b→j ≠ i→∀ k,b.keys k→¬ e.keys k:=by
    intro j b hj hji k h1 h2
    have hp:=List.pairwise_iff_getElem.1 h.apart
    obtain ⟨lj,ej⟩:=List.getElem?_eq_some_iff.1 hj
    obtain ⟨li,ei⟩:=List.getElem?_eq_some_iff.1 hi
    rcases Nat.lt_or_gt_of_ne hji with hlt | hlt
    · exact hp j i lj li hlt k (by rw [ej]; exact h1) (by rw [ei]; exact h2)
    · exact hp i j li lj hlt k (by rw [ei]; exact h2) (by rw [ej]; exact h1)
  have hmem':∀ b∈L.set i e',b=e'∨∃ j,L[j]?=some b∧j ≠ i:=by
    intro b hb
    obtain ⟨j,hj,rfl⟩:=List.getElem_of_mem hb
    simp only [List.length_set] at hj
    by_cases hji:j=i
    · subst hji; left; simp
    · right; exact ⟨j,by rw [List.getElem_set_ne (Ne.symm hji)]; exact List.getElem?_eq_getElem hj,hji⟩
  refine ⟨fun b hb=>?_,?_,fun b hb k hkb=>?_,fun b hb k hkb=>?_⟩
  · rcases hmem' b hb with rfl | ⟨j,hj,hji⟩
    · exact he'
    · have hbm:=List.mem_of_getElem? hj
      exact b.loc (fun k hkb=>hf.block k (h.lt b hbm k hkb) (hne j b hj hji k hkb)) (h.holds b hbm)
  · refine pairwise_set hi h.apart (fun b hb r k h1 h2=>r k (key b hb k h1 h2) h2) (fun b hb r k h1 h2=>r k h1 (key b hb k h2 h1))
  · rcases hmem' b hb with rfl | ⟨j,hj,hji⟩
    · exact (hk k hkb).2
    · exact Nat.lt_of_lt_of_le (h.lt b (List.mem_of_getElem? hj) k hkb) hf.size
  · rcases hmem' b hb with rfl | ⟨j,hj,hji⟩
    · rcases (hk k hkb).1 with h3 | h3
      · exact h.ge e hmem k h3
      · exact h3.2
    · exact h.ge b (List.mem_of_getElem? hj) k hkb
theorem Has.pick {B:Nat} {w:World} {L L':List Ent} (h:Has B w L) (hs:L'.Sublist L):Has B w L' :=
  ⟨fun e he=>h.holds e (hs.subset he),h.apart.sublist hs,fun e he=>h.lt e (hs.subset he),fun e he=>h.ge e (hs.subset he)⟩
theorem Ent.apart_symm {a b:Ent} (h:a.apart b):b.apart a:=fun k h1 h2=>h k h2 h1
theorem Has.perm {B:Nat} {w:World} {L L':List Ent} (h:Has B w L) (hp:L'.Perm L):Has B w L' :=
  ⟨fun e he=>h.holds e (hp.mem_iff.1 he),(List.Perm.pairwise_iff (fun h=>Ent.apart_symm h) hp).2 h.apart,fun e he=>h.lt e (hp.mem_iff.1 he),fun e he=>h.ge e (hp.mem_iff.1 he)⟩
theorem Has.cons_app {B:Nat} {w:World} {A C:List Ent} (h:Has B w (A++C)):Has B w A∧Has B w C :=
  ⟨h.pick (List.sublist_append_left _ _),h.pick (List.sublist_append_right _ _)⟩
/-! ### The state -/
structure St (N:Nat) (F:List (Nat × Value)) (L:List Ent) (M:Nat→Prop) (w0:World) (a:Act) (w:World):Prop where
  know:Know N F a
  has:Has 0 w L
  own:∀ e∈L,∀ k,e.keys k→w0.heap.size≤k∨M k
  fr:Fr M w0 w
section
variable {N:Nat} {F F':List (Nat × Value)} {L L':List Ent} {M:Nat→Prop} {w0 w w':World} {a:Act}
theorem St.put {d:Nat} (h:St N F L M w0 a w) (hd:d < N) (v:Value):St N ((d,v)::F) L M w0 (a.put (some d) v) w:=⟨h.know.put hd v,h.has,h.own,h.fr⟩
theorem St.sub (h:St N F L M w0 a w) (hs:Sub F F'):St N F' L M w0 a w:=⟨h.know.sub hs,h.has,h.own,h.fr⟩
theorem St.pick (h:St N F L M w0 a w) (hs:L'.Sublist L):St N F L' M w0 a w:=⟨h.know,h.has.pick hs,fun e he=>h.own e (hs.subset he),h.fr⟩
theorem St.perm (h:St N F L M w0 a w) (hs:L'.Perm L):St N F L' M w0 a w:=⟨h.know,h.has.perm hs,fun e he=>h.own e (hs.mem_iff.1 he),h.fr⟩
theorem St.toL (h:St N F L M w0 a w) (e:L=L'):St N F L' M w0 a w:=e ▸ h
theorem St.new (h:St N F L M w0 a w) (hf:Fr0 w w') (hn:Has w.heap.size w' L'):St N F (L'++L) M w0 a w':=by
  refine ⟨h.know,h.has.new hf (Nat.zero_le _) hn,fun e he k hk=>?_,h.fr.trans0 hf⟩
  rcases List.mem_append.1 he with he | he
  · exact .inl (Nat.le_trans h.fr.size (hn.ge e he k hk))
  · exact h.own e he k hk
theorem St.mod {i:Nat} {e e':Ent} (h:St N F L M w0 a w) (hi:L[i]?=some e) (hf:Fr e.keys w w') (he':e'.holds w')
    (hk:∀ k,e'.keys k→(e.keys k∨w.heap.size≤k)∧k < w'.heap.size):St N F (L.set i e') M w0 a w':=by
  have hmem:=List.mem_of_getElem? hi
  refine ⟨h.know,h.has.mod hi hf he' (fun k hk'=>⟨(hk k hk').1.imp id (fun x=>⟨x,Nat.zero_le _⟩),(hk k hk').2⟩),fun b hb k hkb=>?_,h.fr.trans hf fun j hj hs=>(h.own e hmem j hs).elim (fun x=>absurd hj (by omega)) id⟩
  rcases List.mem_or_eq_of_mem_set hb with hb | rfl
  · exact h.own b hb k hkb
  · rcases (hk k hkb).1 with h3 | h3
    · exact h.own e hmem k h3
    · exact .inl (Nat.le_trans h.fr.size h3)
theorem St.get {i:Nat} {e:Ent} (h:St N F L M w0 a w) (hi:L[i]?=some e):e.holds w:=h.has.holds e (List.mem_of_getElem? hi)
theorem St.start (hk:Know N F a) (w:World):St N F [] (fun _=>False) w a w:=⟨hk,.nil _ _,by simp,.refl _ _⟩
theorem St.made (h:St N F L (fun _=>False) w0 a w):Has w0.heap.size w L :=
  ⟨h.has.holds,h.has.apart,h.has.lt,fun e he k hk=>(h.own e he k hk).elim id False.elim⟩
end
end Go.Fw
end

section
/- The operations,one law each: what an operation comes to,its operands' values given. -/
namespace Go.Fw
open Go
abbrev I (n:Int):Value:=.int .i64 n
abbrev B (b:UInt8):Value:=.int .u8 (b.toNat:Int)
abbrev U (x:UInt32):Value:=.int .u32 (x.toNat:Int)
abbrev V (x:UInt64):Value:=.int .u64 (x.toNat:Int)
def Fun (P : Program) (f : FuncId) : Prop := ∃ fn, P.funcs[f]? = some fn ∧ (fn.name == "runtime.NumGoroutine") = false ∧ fn.body.isNone = false
def aggD:TypeDesc→Bool
  | .struct _ | .array _ _=>true
  | _=>false
structure Ty (P:Program) (T:TypeId) (d:TypeDesc) (sz bytes:Nat) (z:List Value):Prop where
  und:P.underlying T=some d
  info:∃ i,P.info? T=some i∧i.size=sz∧i.bytes=bytes∧∃ v,i.zero=some v∧v.cells=z.toArray
  len:z.length=sz
  one:z.all (·.oneCell')=true
section
variable {P:Program} {a:Act} {w:World} {d:Option Tmp} {ty:TypeId} {pos:String} {aft:Array Edge} {g:Option (Nat × Bool)} {x y z:Operand}
theorem c_move {v:Value} (hx:a.eval x=v):(execOp a.eval ⟨d,.move x,ty,pos,aft,g⟩).run P w=.ok (.value v) w:=by simp [execOp,hx]
theorem c_assign {v:Value} (hx:a.eval x=v):(execOp a.eval ⟨d,.assign x,ty,pos,aft,g⟩).run P w=.ok (.value v) w:=by simp [execOp,hx]
theorem c_pick {b:Bool} {u v:Value} (hc:a.eval x=.bool b) (hu:a.eval y=u) (hv:a.eval z=v) :
    (execOp a.eval ⟨d,.pick x y z,ty,pos,aft,g⟩).run P w=.ok (.value (if b then u else v)) w:=by
  cases b <;> simp [execOp,hc,hu,hv,asBool]
theorem c_nil {p:Addr} (hx:a.eval x=.pointer (some p)):(execOp a.eval ⟨d,.nilCheck x,ty,pos,aft,g⟩).run P w=.ok (.value (.pointer (some p))) w:=by simp [execOp,hx]
theorem c_extract {vs:Array Value} {i:Nat} {v:Value} (hx:a.eval x=.tuple vs) (hv:vs[i]?=some v):(execOp a.eval ⟨d,.extract x i,ty,pos,aft,g⟩).run P w=.ok (.value v) w:=by
  simp [execOp,hx,Instr.extract,hv]
theorem c_not {b:Bool} {t:TypeId} (hx:a.eval x=.bool b):(execOp a.eval ⟨d,.unOp .not t x,ty,pos,aft,g⟩).run P w=.ok (.value (.bool (!b))) w:=by
  simp [execOp,hx,Op.unary]
/-! int -/
section
variable {i j:Int} {t u:TypeId}
theorem wrap64_in {n:Int} (h1:-9223372036854775808≤n) (h2:n < 9223372036854775808):IntKind.i64.wrap n=n:=by
  simp only [IntKind.wrap,IntKind.bits,IntKind.signed]; simp; omega
theorem c_addI (hx:a.eval x=I i) (hy:a.eval y=I j) (h1:-9223372036854775808≤i + j) (h2:i + j < 9223372036854775808) :
    (execOp a.eval ⟨d,.binOp .add t x y u,ty,pos,aft,g⟩).run P w=.ok (.value (I (i + j))) w:=by
  simp [execOp,hx,hy,eqGuard,binOp,Op.intArith,wrap64_in h1 h2]
theorem c_subI (hx:a.eval x=I i) (hy:a.eval y=I j) (h1:-9223372036854775808≤i - j) (h2:i - j < 9223372036854775808) :
    (execOp a.eval ⟨d,.binOp .sub t x y u,ty,pos,aft,g⟩).run P w=.ok (.value (I (i - j))) w:=by
  simp [execOp,hx,hy,eqGuard,binOp,Op.intArith,wrap64_in h1 h2]
theorem c_mulI (hx:a.eval x=I i) (hy:a.eval y=I j) (h1:-9223372036854775808≤i * j) (h2:i * j < 9223372036854775808) :
    (execOp a.eval ⟨d,.binOp .mul t x y u,ty,pos,aft,g⟩).run P w=.ok (.value (I (i * j))) w:=by
  simp [execOp,hx,hy,eqGuard,binOp,Op.intArith,wrap64_in h1 h2]
theorem c_addIw (hx:a.eval x=I i) (hy:a.eval y=I j) :
    (execOp a.eval ⟨d,.binOp .add t x y u,ty,pos,aft,g⟩).run P w=.ok (.value (I (IntKind.i64.wrap (i + j)))) w:=by
  simp [execOp,hx,hy,eqGuard,binOp,Op.intArith]
theorem c_quoI (hx:a.eval x=I i) (hy:a.eval y=I j) (hi:0≤i) (hj:0 < j) (h2:i < 9223372036854775808) :
    (execOp a.eval ⟨d,.binOp .quo t x y u,ty,pos,aft,g⟩).run P w=.ok (.value (I (i / j))) w:=by
  have h3:i.tdiv j=i / j:=Int.tdiv_eq_ediv_of_nonneg hi
  have h4:0≤i / j:=Int.ediv_nonneg hi (by omega)
  have h5:i / j≤i:=Int.ediv_le_self j hi
  simp [execOp,hx,hy,eqGuard,binOp,Op.intDiv,show j ≠ 0 by omega,h3,wrap64_in (n:=i / j) (by omega) (by omega)]
theorem c_remI (hx:a.eval x=I i) (hy:a.eval y=I j) (hi:0≤i) (hj:0 < j) :
    (execOp a.eval ⟨d,.binOp .rem t x y u,ty,pos,aft,g⟩).run P w=.ok (.value (I (i % j))) w:=by
  have h3:i.tmod j=i % j:=Int.tmod_eq_emod_of_nonneg hi
  simp [execOp,hx,hy,eqGuard,binOp,Op.intDiv,show j ≠ 0 by omega,h3]
theorem c_lssI (hx:a.eval x=I i) (hy:a.eval y=I j):(execOp a.eval ⟨d,.binOp .lss t x y u,ty,pos,aft,g⟩).run P w=.ok (.value (.bool (decide (i < j)))) w:=by
  simp [execOp,hx,hy,eqGuard,binOp,Op.intCmp]
theorem c_leqI (hx:a.eval x=I i) (hy:a.eval y=I j):(execOp a.eval ⟨d,.binOp .leq t x y u,ty,pos,aft,g⟩).run P w=.ok (.value (.bool (decide (i≤j)))) w:=by
  simp [execOp,hx,hy,eqGuard,binOp,Op.intCmp]
theorem c_gtrI (hx:a.eval x=I i) (hy:a.eval y=I j):(execOp a.eval ⟨d,.binOp .gtr t x y u,ty,pos,aft,g⟩).run P w=.ok (.value (.bool (decide (j < i)))) w:=by
  simp [execOp,hx,hy,eqGuard,binOp,Op.intCmp]
theorem c_geqI (hx:a.eval x=I i) (hy:a.eval y=I j):(execOp a.eval ⟨d,.binOp .geq t x y u,ty,pos,aft,g⟩).run P w=.ok (.value (.bool (decide (j≤i)))) w:=by
  simp [execOp,hx,hy,eqGuard,binOp,Op.intCmp]
theorem c_eqlI (hx:a.eval x=I i) (hy:a.eval y=I j):(execOp a.eval ⟨d,.binOp .eql t x y u,ty,pos,aft,g⟩).run P w=.ok (.value (.bool (decide (i=j)))) w:=by
  simp [execOp,hx,hy,eqGuard,binOp,Op.intCmp]
  rfl
theorem c_neqI (hx:a.eval x=I i) (hy:a.eval y=I j):(execOp a.eval ⟨d,.binOp .neq t x y u,ty,pos,aft,g⟩).run P w=.ok (.value (.bool (!decide (i=j)))) w:=by
  simp [execOp,hx,hy,eqGuard,binOp,Op.intCmp]
  rfl
end
end
end Go.Fw
end

section
/- The operations on uint8,uint32,uint64,one law each. -/
namespace Go.Fw
open Go
section
variable {P:Program} {a:Act} {w:World} {d:Option Tmp} {ty:TypeId} {pos:String} {aft:Array Edge} {g:Option (Nat × Bool)} {x y z:Operand} {t u:TypeId}
theorem wrapU {n:Int}:IntKind.u32.wrap n=n % 4294967296:=by simp [IntKind.wrap,IntKind.bits,IntKind.signed]
theorem wrapB {n:Int}:IntKind.u8.wrap n=n % 256:=by simp [IntKind.wrap,IntKind.bits,IntKind.signed]
theorem wrapV {n:Int}:IntKind.u64.wrap n=n % 18446744073709551616:=by simp [IntKind.wrap,IntKind.bits,IntKind.signed]
theorem bvU (b:UInt32):IntKind.u32.wrap ((b.toBitVec.toNat:Nat):Int)=(b.toNat:Int):=by
  have:=b.toNat_lt
  rw [wrapU]
  show ((b.toNat:Nat):Int) % _=_
  omega
theorem bvB (b:UInt8):IntKind.u8.wrap ((b.toBitVec.toNat:Nat):Int)=(b.toNat:Int):=by
  have:=b.toNat_lt
  rw [wrapB]
  show ((b.toNat:Nat):Int) % _=_
  omega
theorem ofInt32 (b:UInt32):BitVec.ofInt 32 (b.toNat:Int)=b.toBitVec:=by
  apply BitVec.eq_of_toNat_eq
  simp
theorem ofInt8 (b:UInt8):BitVec.ofInt 8 (b.toNat:Int)=b.toBitVec:=by
  apply BitVec.eq_of_toNat_eq
  simp
theorem ib_orU (p q:UInt32):Op.intBits .or .u32 (p.toNat:Int) (q.toNat:Int)=pure (U (p ||| q)):=by
  show (pure (.int .u32 (IntKind.u32.wrap ((BitVec.ofInt 32 (p.toNat:Int) ||| BitVec.ofInt 32 (q.toNat:Int)).toNat:Nat))):Sem Value)=_
  rw [ofInt32,ofInt32]
  exact congrArg (fun i:Int=>(pure (.int .u32 i):Sem Value)) (bvU (p ||| q))
theorem ib_andB (p q:UInt8):Op.intBits .and .u8 (p.toNat:Int) (q.toNat:Int)=pure (B (p &&& q)):=by
  show (pure (.int .u8 (IntKind.u8.wrap ((BitVec.ofInt 8 (p.toNat:Int) &&& BitVec.ofInt 8 (q.toNat:Int)).toNat:Nat))):Sem Value)=_
  rw [ofInt8,ofInt8]
  exact congrArg (fun i:Int=>(pure (.int .u8 i):Sem Value)) (bvB (p &&& q))
theorem ib_orB (p q:UInt8):Op.intBits .or .u8 (p.toNat:Int) (q.toNat:Int)=pure (B (p ||| q)):=by
  show (pure (.int .u8 (IntKind.u8.wrap ((BitVec.ofInt 8 (p.toNat:Int) ||| BitVec.ofInt 8 (q.toNat:Int)).toNat:Nat))):Sem Value)=_
  rw [ofInt8,ofInt8]
  exact congrArg (fun i:Int=>(pure (.int .u8 i):Sem Value)) (bvB (p ||| q))
/-! uint32 -/
section
variable {p q:UInt32}
theorem c_addU (hx:a.eval x=U p) (hy:a.eval y=U q):(execOp a.eval ⟨d,.binOp .add t x y u,ty,pos,aft,g⟩).run P w=.ok (.value (U (p + q))) w:=by
  simp [execOp,hx,hy,eqGuard,binOp,Op.intArith,wrapU,UInt32.toNat_add]
theorem c_orU (hx:a.eval x=U p) (hy:a.eval y=U q):(execOp a.eval ⟨d,.binOp .or t x y u,ty,pos,aft,g⟩).run P w=.ok (.value (U (p ||| q))) w:=by
  simp [execOp,hx,hy,eqGuard,binOp,ib_orU]
theorem c_shrU {k:IntKind} {n:Nat} (hx:a.eval x=U p) (hy:a.eval y=.int k (n:Int)) (hn:n < 32) :
    (execOp a.eval ⟨d,.binOp .shr t x y u,ty,pos,aft,g⟩).run P w=.ok (.value (U (p >>> UInt32.ofNat n))) w:=by
  have e:(p >>> UInt32.ofNat n).toNat=p.toNat / 2 ^ n:=by
    rw [UInt32.toNat_shiftRight,Nat.shiftRight_eq_div_pow]
    simp [Nat.mod_eq_of_lt (a:=n) (b:=4294967296) (by omega),Nat.mod_eq_of_lt hn]
  have hm:min n 32=n:=by omega
  simp [execOp,hx,hy,eqGuard,binOp,Op.shift,IntKind.bits,hm,e]
theorem c_shlU {k:IntKind} {n:Nat} (hx:a.eval x=U p) (hy:a.eval y=.int k (n:Int)) (hn:n < 32) :
    (execOp a.eval ⟨d,.binOp .shl t x y u,ty,pos,aft,g⟩).run P w=.ok (.value (U (p <<< UInt32.ofNat n))) w:=by
  have e:(p <<< UInt32.ofNat n).toNat=p.toNat * 2 ^ n % 4294967296:=by
    rw [UInt32.toNat_shiftLeft,Nat.shiftLeft_eq]
    simp [Nat.mod_eq_of_lt (a:=n) (b:=4294967296) (by omega),Nat.mod_eq_of_lt hn]
  have hm:min n 32=n:=by omega
  simp [execOp,hx,hy,eqGuard,binOp,Op.shift,IntKind.bits,hm,e,wrapU]
theorem c_remU (hx:a.eval x=U p) (hy:a.eval y=U q) (hq:q ≠ 0):(execOp a.eval ⟨d,.binOp .rem t x y u,ty,pos,aft,g⟩).run P w=.ok (.value (U (p % q))) w:=by
  have h0:q.toNat ≠ 0:=fun e=>hq (UInt32.toNat_inj.1 (by simpa using e))
  simp [execOp,hx,hy,eqGuard,binOp,Op.intDiv,h0,UInt32.toNat_mod]
  exact Int.tmod_eq_emod_of_nonneg (by omega)
theorem c_eqlU (hx:a.eval x=U p) (hy:a.eval y=U q):(execOp a.eval ⟨d,.binOp .eql t x y u,ty,pos,aft,g⟩).run P w=.ok (.value (.bool (decide (p=q)))) w:=by
  simp [execOp,hx,hy,eqGuard,binOp,Op.intCmp,← UInt32.toNat_inj]
  rw [Bool.eq_iff_iff]; simp; omega
theorem c_neqU (hx:a.eval x=U p) (hy:a.eval y=U q):(execOp a.eval ⟨d,.binOp .neq t x y u,ty,pos,aft,g⟩).run P w=.ok (.value (.bool (!decide (p=q)))) w:=by
  simp [execOp,hx,hy,eqGuard,binOp,Op.intCmp,← UInt32.toNat_inj]
  rw [Bool.eq_iff_iff]; simp; omega
theorem c_lssU (hx:a.eval x=U p) (hy:a.eval y=U q):(execOp a.eval ⟨d,.binOp .lss t x y u,ty,pos,aft,g⟩).run P w=.ok (.value (.bool (decide (p.toNat < q.toNat)))) w:=by
  simp [execOp,hx,hy,eqGuard,binOp,Op.intCmp]
theorem c_gtrU (hx:a.eval x=U p) (hy:a.eval y=U q):(execOp a.eval ⟨d,.binOp .gtr t x y u,ty,pos,aft,g⟩).run P w=.ok (.value (.bool (decide (q.toNat < p.toNat)))) w:=by
  simp [execOp,hx,hy,eqGuard,binOp,Op.intCmp]
end
/-! UInt8 -/
section
variable {p q:UInt8}
theorem c_andB (hx:a.eval x=B p) (hy:a.eval y=B q):(execOp a.eval ⟨d,.binOp .and t x y u,ty,pos,aft,g⟩).run P w=.ok (.value (B (p &&& q))) w:=by
  simp [execOp,hx,hy,eqGuard,binOp,ib_andB]
theorem c_orB (hx:a.eval x=B p) (hy:a.eval y=B q):(execOp a.eval ⟨d,.binOp .or t x y u,ty,pos,aft,g⟩).run P w=.ok (.value (B (p ||| q))) w:=by
  simp [execOp,hx,hy,eqGuard,binOp,ib_orB]
theorem c_eqlB (hx:a.eval x=B p) (hy:a.eval y=B q):(execOp a.eval ⟨d,.binOp .eql t x y u,ty,pos,aft,g⟩).run P w=.ok (.value (.bool (decide (p=q)))) w:=by
  simp [execOp,hx,hy,eqGuard,binOp,Op.intCmp,← UInt8.toNat_inj]
  rw [Bool.eq_iff_iff]; simp; omega
theorem c_neqB (hx:a.eval x=B p) (hy:a.eval y=B q):(execOp a.eval ⟨d,.binOp .neq t x y u,ty,pos,aft,g⟩).run P w=.ok (.value (.bool (!decide (p=q)))) w:=by
  simp [execOp,hx,hy,eqGuard,binOp,Op.intCmp,← UInt8.toNat_inj]
  rw [Bool.eq_iff_iff]; simp; omega
theorem c_gtrB (hx:a.eval x=B p) (hy:a.eval y=B q):(execOp a.eval ⟨d,.binOp .gtr t x y u,ty,pos,aft,g⟩).run P w=.ok (.value (.bool (decide (q.toNat < p.toNat)))) w:=by
  simp [execOp,hx,hy,eqGuard,binOp,Op.intCmp]
end
/-! UInt64 -/
section
variable {p q:UInt64}
theorem c_remV (hx:a.eval x=V p) (hy:a.eval y=V q) (hq:q ≠ 0):(execOp a.eval ⟨d,.binOp .rem t x y u,ty,pos,aft,g⟩).run P w=.ok (.value (V (p % q))) w:=by
  have h0:q.toNat ≠ 0:=fun e=>hq (UInt64.toNat_inj.1 (by simpa using e))
  simp [execOp,hx,hy,eqGuard,binOp,Op.intDiv,h0,UInt64.toNat_mod]
  exact Int.tmod_eq_emod_of_nonneg (by omega)
end
end
end Go.Fw
end

section
/- The operations that touch memory,one law each; conversions. -/
namespace Go.Fw
open Go
def i8 (n:Int):UInt8:=UInt8.ofNat (n % 256).toNat
def i32 (n:Int):UInt32:=UInt32.ofNat (n % 4294967296).toNat
def i64 (n:Int):UInt64:=UInt64.ofNat (n % 18446744073709551616).toNat
theorem i8_toNat (n:Int):((i8 n).toNat:Int)=n % 256:=by
  unfold i8; rw [UInt8.toNat_ofNat']; omega
theorem i32_toNat (n:Int):((i32 n).toNat:Int)=n % 4294967296:=by
  unfold i32; rw [UInt32.toNat_ofNat']; omega
theorem i64_toNat (n:Int):((i64 n).toNat:Int)=n % 18446744073709551616:=by
  unfold i64; rw [UInt64.toNat_ofNat']; omega
inductive Evs (a:Act):List Operand→List Value→Prop
  | nil:Evs a [] []
  | cons {x:Operand} {v:Value} {xs:List Operand} {vs:List Value} (h:a.eval x=v) (t:Evs a xs vs):Evs a (x::xs) (v::vs)
theorem Evs.map {a:Act} {xs:List Operand} {vs:List Value} (h:Evs a xs vs):xs.map a.eval=vs:=by
  induction h with
  | nil=>rfl
  | cons h _ ih=>simp [h,ih]
inductive Evp (a:Act):Nat→List (Nat × Operand)→List Value→Prop
  | nil {k:Nat}:Evp a k [] []
  | cons {k:Nat} {x:Operand} {v:Value} {xs:List (Nat × Operand)} {vs:List Value} (h:a.eval x=v) (t:Evp a (k + 1) xs vs):Evp a k ((k,x)::xs) (v::vs)
def pairsFrom:Nat→List Value→List (Nat × Value)
  | _,[]=>[]
  | k,v::t=>(k,v)::pairsFrom (k + 1) t
theorem Evp.map {a:Act} {k:Nat} {xs:List (Nat × Operand)} {vs:List Value} (h:Evp a k xs vs):(xs.map fun p=>(p.1,a.eval p.2))=pairsFrom k vs:=by
  induction h with
  | nil=>rfl
  | cons h _ ih=>simp [h,ih,pairsFrom]
def flatCells (vs:List Value):List Value:=vs.flatMap (·.cells.toList)
theorem foldl_set_cells (off:Nat):∀ (c:List Value) (j:Nat) (cur:List Value),off + j + c.length≤cur.length →
    (c.zipIdx j).foldl (fun (cs:List Value) p=>cs.set (off + p.2) p.1) cur=cur.take (off + j)++c++cur.drop (off + j + c.length)
  | [],j,cur,h=>by simp
  | v::t,j,cur,h=>by
    simp only [List.length_cons] at h
    simp only [List.zipIdx_cons,List.foldl_cons]
    rw [foldl_set_cells off t (j + 1) _ (by simp; omega)]
    have h1:(cur.set (off + j) v).take (off + (j + 1))=cur.take (off + j)++[v]:=by
      rw [← Nat.add_assoc,List.take_succ_eq_append_getElem (by simp; omega)]
      simp [List.take_set_of_le]
    have h2:(cur.set (off + j) v).drop (off + (j + 1) + t.length)=cur.drop (off + j + (t.length + 1)):=by
      rw [List.drop_set_of_lt (by omega)]
      congr 1
      omega
    rw [h1,h2]
    simp [Nat.add_assoc]
theorem array_foldl_set (off:Nat) (v:Array Value) (cur:Array Value) (h:off + v.size≤cur.size) :
    v.zipIdx.foldl (fun (cs:Array Value) (p:Value × Nat)=>cs.setIfInBounds (off + p.2) p.1) cur=(cur.toList.take off++v.toList++cur.toList.drop (off + v.size)).toArray:=by
  have e:∀ (l:List (Value × Nat)) (c:Array Value),(l.foldl (fun (cs:Array Value) (p:Value × Nat)=>cs.setIfInBounds (off + p.2) p.1) c).toList=l.foldl (fun (cs:List Value) p=>cs.set (off + p.2) p.1) c.toList:=by
    intro l
    induction l with
    | nil=>intro c; rfl
    | cons x t ih=>intro c; simp only [List.foldl_cons]; rw [ih]; simp
  rw [← Array.foldl_toList]
  apply Array.ext'
  rw [e,Array.toList_zipIdx,foldl_set_cells off v.toList 0 cur.toList (by simpa using h)]
  simp
theorem fill_row (s:Nat):∀ (vs:List Value) (k:Nat) (done zeros:List Value),(∀ v∈vs,v.cells.size=s)→done.length=k * s→zeros.length=vs.length * s →
    Instr.fill (fun i=>some (i * s,s)) (done++zeros).toArray (pairsFrom k vs)=some (done++flatCells vs).toArray
  | [],k,done,zeros,_,_,hz=>by
    have:zeros=[]:=List.eq_nil_of_length_eq_zero (by simpa using hz)
    subst this
    simp [Instr.fill,pairsFrom,flatCells]
  | v::t,k,done,zeros,hv,hd,hz=>by
    have h1:v.cells.size=s:=hv v (by simp)
    have hlen:zeros.length=t.length * s + s:=by rw [hz,List.length_cons,Nat.succ_mul]
    have hfit:k * s + v.cells.size≤(done++zeros).length:=by simp [hd,h1]; omega
    have step:=array_foldl_set (k * s) v.cells (done++zeros).toArray (by simpa using hfit)
    have e1:((done++zeros).toArray.toList.take (k * s)++v.cells.toList++(done++zeros).toArray.toList.drop (k * s + v.cells.size))=(done++v.cells.toList)++zeros.drop s:=by
      simp [← hd,h1]
    have ih:=fill_row s t (k + 1) (done++v.cells.toList) (zeros.drop s) (fun u hu=>hv u (by simp [hu])) (by simp [hd,h1,Nat.succ_mul]) (by simp [hlen])
    have hn:¬ (v.cells.size ≠ s∨k * s + v.cells.size > (done++zeros).toArray.size):=by
      simp only [List.size_toArray]
      intro h
      rcases h with h | h
      · exact h h1
      · omega
    simp only [pairsFrom,Instr.fill]
    rw [if_neg (by simpa using hn),step,e1,ih]
    simp [flatCells]
section
variable {P:Program} {a:Act} {w:World} {d:Option Tmp} {ty:TypeId} {pos:String} {aft:Array Edge} {g:Option (Nat × Bool)} {x y z:Operand} {t u:TypeId}
/-! conversions -/
theorem c_conv {k k':IntKind} {n:Int} {ds:TypeDesc} (hs:P.underlying t=some ds) (hd:P.underlying u=some (.int k)) (hx:a.eval x=.int k' n) :
    (execOp a.eval ⟨d,.convert t u x,ty,pos,aft,g⟩).run P w=.ok (.value (.int k (k.wrap n))) w:=by
  simp [execOp,hx,convert,run_underlying hs,run_underlying hd,Conv.intToInt]
section
variable {ds:TypeDesc} (hs:P.underlying t=some ds)
include hs
theorem c_cvBU {b:UInt8} (hd:P.underlying u=some (.int .u32)) (hx:a.eval x=B b):(execOp a.eval ⟨d,.convert t u x,ty,pos,aft,g⟩).run P w=.ok (.value (U b.toUInt32)) w:=by
  have:=b.toNat_lt
  rw [c_conv hs hd hx,wrapU]; simp; omega
theorem c_cvBI {b:UInt8} (hd:P.underlying u=some (.int .i64)) (hx:a.eval x=B b):(execOp a.eval ⟨d,.convert t u x,ty,pos,aft,g⟩).run P w=.ok (.value (I b.toNat)) w:=by
  have:=b.toNat_lt
  rw [c_conv hs hd hx,wrap64_in (by omega) (by omega)]
theorem c_cvUB {b:UInt32} (hd:P.underlying u=some (.int .u8)) (hx:a.eval x=U b):(execOp a.eval ⟨d,.convert t u x,ty,pos,aft,g⟩).run P w=.ok (.value (B b.toUInt8)) w:=by
  rw [c_conv hs hd hx,wrapB]; simp
theorem c_cvUI {b:UInt32} (hd:P.underlying u=some (.int .i64)) (hx:a.eval x=U b):(execOp a.eval ⟨d,.convert t u x,ty,pos,aft,g⟩).run P w=.ok (.value (I b.toNat)) w:=by
  have:=b.toNat_lt
  rw [c_conv hs hd hx,wrap64_in (by omega) (by omega)]
theorem c_cvIB {n:Int} (hd:P.underlying u=some (.int .u8)) (hx:a.eval x=I n):(execOp a.eval ⟨d,.convert t u x,ty,pos,aft,g⟩).run P w=.ok (.value (B (i8 n))) w:=by
  rw [c_conv hs hd hx,wrapB,← i8_toNat]
theorem c_cvIV {n:Int} (hd:P.underlying u=some (.int .u64)) (hx:a.eval x=I n):(execOp a.eval ⟨d,.convert t u x,ty,pos,aft,g⟩).run P w=.ok (.value (V (i64 n))) w:=by
  rw [c_conv hs hd hx,wrapV,← i64_toNat]
end
/-! memory -/
theorem Ty.zero {T:TypeId} {td:TypeDesc} {sz bytes:Nat} {z:List Value} (h:Ty P T td sz bytes z):∃ v,(zeroValue T).run P w=.ok v w∧v.cells=z.toArray:=by
  obtain ⟨i,hi,h1,h2,v,hv,hz⟩:=h.info
  exact ⟨v,by simp [zeroValue,typeInfo,hi,hv],hz⟩
theorem Ty.size {T:TypeId} {td:TypeDesc} {sz bytes:Nat} {z:List Value} (h:Ty P T td sz bytes z):(sizeOf T).run P w=.ok sz w:=by
  obtain ⟨i,hi,h1,h2,v,hv,hz⟩:=h.info
  simp [sizeOf,typeInfo,hi,h1]
theorem c_alloc {td:TypeDesc} {sz bytes:Nat} {z:List Value} (hT:Ty P t td sz bytes z) :
    (execOp a.eval ⟨d,.alloc t,ty,pos,aft,g⟩).run P w=.ok (.value (.pointer (some ⟨w.heap.size,0,none⟩))) (w.alloc (.cells z.toArray t)):=by
  obtain ⟨v,hv,hz⟩:=hT.zero (w:=w)
  simp [execOp,Instr.alloc,hv,newVar,newRow,hz]
theorem c_box {v:Value} (hx:a.eval x=v) :
    (execOp a.eval ⟨d,.box t x,ty,pos,aft,g⟩).run P w=.ok (.value (.pointer (some ⟨w.heap.size,0,none⟩))) (w.alloc (.cells v.cells t)):=by
  simp [execOp,Instr.box,hx,newVar,newRow]
theorem cell_of {w:World} {gb o:Nat} {cs:Array Value} {T:TypeId} {fr:Nat × Nat} (h:w.heap[gb]?=some (.cells cs T fr)):w.cell? ⟨gb,o,none⟩=cs[o]?:=by
  simp [World.cell?,h]
theorem run_loadS {T T':TypeId} {td:TypeDesc} {gb o:Nat} {cs:Array Value} {fr:Nat × Nat} {v:Value} (hu:P.underlying T=some td) (hd:aggD td=false)
    (hc:w.heap[gb]?=some (.cells cs T' fr)) (hv:cs.toList[o]?=some v):(loadVar T ⟨gb,o,none⟩).run P w=.ok v w:=by
  have hagg:(isAgg T).run P w=.ok false w:=by
    unfold isAgg
    rw [Sem.run_bind,run_underlying hu w]
    cases td <;> simp_all [aggD]
  have hv':cs[o]?=some v:=by simpa using hv
  simp [loadVar,Sem.run_bind,hagg,cell_of hc,hv']
theorem run_loadA {T T':TypeId} {td:TypeDesc} {sz bytes:Nat} {z:List Value} {gb o:Nat} {cs:Array Value} {fr:Nat × Nat} {c:List Value} (hT:Ty P T td sz bytes z) (hd:aggD td=true)
    (hc:w.heap[gb]?=some (.cells cs T' fr)) (hv:(cs.toList.drop o).take sz=c) (hl:c.length=sz):(loadVar T ⟨gb,o,none⟩).run P w=.ok (.agg c.toArray) w:=by
  have hagg:(isAgg T).run P w=.ok true w:=by
    unfold isAgg
    rw [Sem.run_bind,run_underlying hT.und w]
    cases td <;> simp_all [aggD]
  have hl2:=run_loadCells_list (P:=P) w ⟨gb,o,none⟩ c (fun j v hj=>by
    have e:(⟨gb,o,none⟩:Addr).add j=⟨gb,o + j,none⟩:=by unfold Addr.add; split <;> simp_all
    rw [e,cell_of hc]
    have hlt:j < sz:=by rw [← hl]; exact (List.getElem?_eq_some_iff.1 hj).1
    rw [← hv,List.getElem?_take_of_lt hlt,List.getElem?_drop] at hj
    simpa using hj)
  rw [hl] at hl2
  simp [loadVar,Sem.run_bind,hagg,hT.size,hl2]
theorem c_loadS {T':TypeId} {td:TypeDesc} {gb o:Nat} {cs:Array Value} {fr:Nat × Nat} {v:Value} (hu:P.underlying t=some td) (hd:aggD td=false) (hx:a.eval x=.pointer (some ⟨gb,o,none⟩))
    (hc:w.heap[gb]?=some (.cells cs T' fr)) (hv:cs.toList[o]?=some v):(execOp a.eval ⟨d,.load t x,ty,pos,aft,g⟩).run P w=.ok (.value v) w:=by
  simp [execOp,Instr.loadAt,Instr.sureAddr,hx,run_loadS hu hd hc hv]
theorem c_loadA {T':TypeId} {td:TypeDesc} {sz bytes:Nat} {z:List Value} {gb o:Nat} {cs:Array Value} {fr:Nat × Nat} {c:List Value} (hT:Ty P t td sz bytes z) (hd:aggD td=true) (hx:a.eval x=.pointer (some ⟨gb,o,none⟩))
    (hc:w.heap[gb]?=some (.cells cs T' fr)) (hv:(cs.toList.drop o).take sz=c) (hl:c.length=sz):(execOp a.eval ⟨d,.load t x,ty,pos,aft,g⟩).run P w=.ok (.value (.agg c.toArray)) w:=by
  simp [execOp,Instr.loadAt,Instr.sureAddr,hx,run_loadA hT hd hc hv hl]
theorem c_loadW {T':TypeId} {td:TypeDesc} {sz bytes:Nat} {z:List Value} {gb:Nat} {c:List Value} {fr:Nat × Nat} (hT:Ty P t td sz bytes z) (hd:aggD td=true) (hx:a.eval x=.pointer (some ⟨gb,0,none⟩))
    (hc:w.heap[gb]?=some (.cells c.toArray T' fr)) (hl:c.length=sz):(execOp a.eval ⟨d,.load t x,ty,pos,aft,g⟩).run P w=.ok (.value (.agg c.toArray)) w :=
  c_loadA hT hd hx hc (by simp [← hl]) hl
theorem c_store {T':TypeId} {td:TypeDesc} {sz bytes:Nat} {z:List Value} {gb o:Nat} {cs:List Value} {v:Value} {c:List Value} (hT:Ty P t td sz bytes z) (hx:a.eval x=.pointer (some ⟨gb,o,none⟩)) (hy:a.eval y=v)
    (hv:v.cells.toList=c) (hl:c.length=sz) (h1:c.all (·.oneCell')=true)
    (hc:w.heap[gb]?=some (.cells cs.toArray T' (0,0))) (hfit:o + sz≤cs.length) :
    (execOp a.eval ⟨d,.store t x y,ty,pos,aft,g⟩).run P w=.ok .skip (w.setRow gb (cs.take o++c++cs.drop (o + sz)).toArray):=by
  have hst:=run_storeCells_at P gb o T' c 0 cs.toArray w hc (by simpa [hl] using hfit) (fun v hv=>List.all_eq_true.1 h1 v hv)
  have hs:v.cells.size=sz:=by rw [← hl,← hv]; simp
  simp only [Nat.add_zero,hl] at hst
  simp [execOp,Instr.storeAt,Instr.sureAddr,hx,hy,storeVar,hT.size,hs,hv,hst]
theorem add_lit {gb o n:Nat}:(⟨gb,o,none⟩:Addr).add n=⟨gb,o + n,none⟩:=by unfold Addr.add; split <;> simp_all
theorem c_idxA {n:Nat} {E:TypeId} {s bytes:Nat} {ed:TypeDesc} {z:List Value} {gb o j:Nat} {k:IntKind} {i:Int} (hu:P.underlying t=some (.array n E)) (hE:Ty P E ed s bytes z)
    (hx:a.eval x=.pointer (some ⟨gb,o,none⟩)) (hy:a.eval y=.int k i) (hj:i=(j:Int)) (hlt:j < n) :
    (execOp a.eval ⟨d,.indexAddr t x y,ty,pos,aft,g⟩).run P w=.ok (.value (.pointer (some ⟨gb,o + j * s,none⟩))) w:=by
  subst hj
  have h1:(j:Int) < (n:Int):=by omega
  simp [execOp,Instr.indexAt,hx,hy,asIntOf,run_underlying hu,Instr.sureAddr,hE.size,hlt,add_lit]
theorem c_idxS {E:TypeId} {s bytes:Nat} {ed:TypeDesc} {z:List Value} {gb o j len cap:Nat} {k:IntKind} {i:Int} (hu:P.underlying t=some (.slice E)) (hE:Ty P E ed s bytes z)
    (hx:a.eval x=.slice (some ⟨gb,o,none⟩) len cap) (hy:a.eval y=.int k i) (hj:i=(j:Int)) (hlt:j < len) :
    (execOp a.eval ⟨d,.indexAddr t x y,ty,pos,aft,g⟩).run P w=.ok (.value (.pointer (some ⟨gb,o + j * s,none⟩))) w:=by
  subst hj
  simp [execOp,Instr.indexAt,hx,hy,asIntOf,run_underlying hu,hE.size,hlt,add_lit]
def Fld (P:Program) (S:TypeId) (f off:Nat):Prop:=∃ fs fl i,P.underlying S=some (.struct fs)∧fs[f]?=some fl∧fl.offset=off∧P.info? fl.type=some i∧i.size ≠ 0
theorem c_fld {f off gb o:Nat} (hF:Fld P t f off) (hx:a.eval x=.pointer (some ⟨gb,o,none⟩)) :
    (execOp a.eval ⟨d,.fieldAddr t x f,ty,pos,aft,g⟩).run P w=.ok (.value (.pointer (some ⟨gb,o + off,none⟩))) w:=by
  obtain ⟨fs,fl,i,h1,h2,rfl,h4,h5⟩:=hF
  simp [execOp,Instr.fieldAt,hx,run_underlying h1,h2,Instr.sureAddr,fieldPlace,sizeOf,typeInfo,h4,h5,add_lit]
theorem c_sliceA {n:Nat} {E:TypeId} {s bytes:Nat} {ed:TypeDesc} {z:List Value} {gb o:Nat} (hu:P.underlying t=some (.array n E)) (hE:Ty P E ed s bytes z) (hx:a.eval x=.pointer (some ⟨gb,o,none⟩)) :
    (execOp a.eval ⟨d,.slice t x none none none,ty,pos,aft,g⟩).run P w=.ok (.value (.slice (some ⟨gb,o,none⟩) n n)) w:=by
  simp [execOp,Instr.sliceAt,hx,run_underlying hu,Instr.sureAddr,Instr.sliceBounds,hE.size,add_lit]
theorem c_sliceL {E:TypeId} {s bytes:Nat} {ed:TypeDesc} {z:List Value} {ad:Option Addr} {len cap i:Nat} {k:IntKind} {m:Int} (hu:P.underlying t=some (.slice E)) (hE:Ty P E ed s bytes z)
    (hx:a.eval x=.slice ad len cap) (hy:a.eval y=.int k m) (hm:m=(i:Int)) (hi:i≤len) :
    (execOp a.eval ⟨d,.slice t x (some y) none none,ty,pos,aft,g⟩).run P w=.ok (.value (.slice (if cap=i then ad else ad.map (·.add (i * s))) (len - i) (cap - i))) w:=by
  subst hm
  simp [execOp,Instr.sliceAt,Instr.slice,hx,hy,run_underlying hu,Instr.sliceBounds,Instr.sliceBound,asIntOf,hE.size,hi]
theorem c_sliceH {E:TypeId} {s bytes:Nat} {ed:TypeDesc} {z:List Value} {ad:Option Addr} {len cap j:Nat} {k:IntKind} {n:Int} (hu:P.underlying t=some (.slice E)) (hE:Ty P E ed s bytes z)
    (hx:a.eval x=.slice ad len cap) (hz:a.eval y=.int k n) (hn:n=(j:Int)) (hj:j≤cap) :
    (execOp a.eval ⟨d,.slice t x none (some y) none,ty,pos,aft,g⟩).run P w=.ok (.value (.slice (if cap=0 then ad else ad.map (·.add 0)) j cap)) w:=by
  subst hn
  simp [execOp,Instr.sliceAt,Instr.slice,hx,hz,run_underlying hu,Instr.sliceBounds,Instr.sliceBound,asIntOf,hE.size,hj]
theorem c_lenS {T E:TypeId} {ad:Option Addr} {len cap:Nat} (hu:P.underlying T=some (.slice E)) (hx:a.eval x=.slice ad len cap) :
    (execOp a.eval ⟨d,.call { callee:=.builtin .len,args:=#[x],argTypes:=#[T] },ty,pos,aft,g⟩).run P w=.ok (.value (I len)) w:=by
  simp [execOp,resolve,invoke,builtin,hx,Builtin.len_,run_underlying hu,goInt]
theorem c_max {i j:Int} {ts:Array TypeId} (hx:a.eval x=I i) (hy:a.eval y=I j) :
    (execOp a.eval ⟨d,.call { callee:=.builtin .max,args:=#[x,y],argTypes:=ts },ty,pos,aft,g⟩).run P w=.ok (.value (I (max i j))) w:=by
  have e:(if i < j then j else i)=max i j:=by rw [Int.max_def]; split <;> split <;> omega
  simp [execOp,resolve,invoke,builtin,hx,hy,Builtin.max_,Builtin.max2,e]
theorem c_min {i j:Int} {ts:Array TypeId} (hx:a.eval x=I i) (hy:a.eval y=I j) :
    (execOp a.eval ⟨d,.call { callee:=.builtin .min,args:=#[x,y],argTypes:=ts },ty,pos,aft,g⟩).run P w=.ok (.value (I (min i j))) w:=by
  have e:(if j < i then j else i)=min i j:=by rw [Int.min_def]; split <;> split <;> omega
  simp [execOp,resolve,invoke,builtin,hx,hy,Builtin.min_,Builtin.min2,e]
theorem c_bslice {E:TypeId} {ed:TypeDesc} {s bytes n:Nat} {z:List Value} {ps:Array (Nat × Operand)} {vs:List Value} (hu:P.underlying t=some (.slice E)) (hE:Ty P E ed s bytes z)
    (hps:Evp a 0 ps.toList vs) (hn:vs.length=n) (hv:∀ v∈vs,v.cells.size=s) (hsmall:n * s≤16777216) :
    (execOp a.eval ⟨d,.buildSlice t n ps,ty,pos,aft,g⟩).run P w=.ok (.value (.slice (some ⟨w.heap.size,0,none⟩) n n)) (w.alloc (.cells (flatCells vs).toArray E)):=by
  have hm:(ps.map fun p=>(p.1,a.eval p.2)).toList=pairsFrom 0 vs:=by rw [← hps.map]; simp
  obtain ⟨v,hz,hzc⟩:=hE.zero (w:=w)
  have hf:=fill_row s vs 0 [] ((Array.range (n * s)).map (v.cells[· % v.cells.size]!)).toList hv (by simp) (by simp [hn])
  have hf0:n * s=0→Instr.fill (fun i=>some (i * s,s)) #[] (pairsFrom 0 vs)=some (flatCells vs).toArray:=fun h0=>by
    have:=fill_row s vs 0 [] [] hv (by simp) (by simp [hn,h0])
    simpa using this
  simp only [List.nil_append,Array.toArray_toList] at hf
  have hn2:¬ (16777216 < n * s):=by omega
  by_cases h0:n * s=0
  · have h:=hf0 h0
    simp [execOp,Instr.buildSlice,run_underlying hu,hE.size,hn2,h0,hps.map,newRow,h,Array.range_zero']
  · simp [execOp,Instr.buildSlice,run_underlying hu,hE.size,hn2,h0,hz,hps.map,newRow,hf]
end
end Go.Fw
end

section
/- The steps: one operation after the other,in the order of the text; calls; loops; the end. -/
namespace Go.Fw
open Go
def Ctr (P:Program) (f:FuncId) (vs:List Value) (w:World) (M:Nat→Prop) (Post:Value→World→Prop):Prop :=
  Calls P f vs.toArray w fun e w'=>∃ v,e=.returned v∧Fr M w w'∧Post v w'
section
variable {P:Program} {ops:Array Oper} {Q:Exit→Act→World→Prop} {rest:List Oper} {N:Nat} {F F':List (Nat × Value)} {L L':List Ent} {M:Nat→Prop} {w0 w:World} {a:Act}
variable {d:Tmp} {op:Op} {ty:TypeId} {pos:String} {aft:Array Edge} {x y z:Operand} {t u:TypeId}
theorem St.ev {v:Value} (hs:St N F L M w0 a w) (hx:ev F x=some v):a.eval x=v:=hs.know.eval hx
theorem St.seg {i:Nat} {g:Nat} {cs:List Value} {T:TypeId} (hs:St N F L M w0 a w) (hi:L[i]?=some (.seg g cs T)):w.heap[g]?=some (.cells cs.toArray T (0,0)):=hs.get hi
theorem upon_value {o:Oper} {v:Value} {w':World} {K:Act→World→Prop} (hr:(execOp a.eval o).run P w=.ok (.value v) w') (h:K (a.put o.dst v) w'):o.wp P a w K Q:=by
  unfold Oper.wp; rw [hr]; exact h
theorem upon_skip {o:Oper} {w':World} {K:Act→World→Prop} (hr:(execOp a.eval o).run P w=.ok .skip w') (h:K (a.put o.dst undef) w'):o.wp P a w K Q:=by
  unfold Oper.wp; rw [hr]; exact h
theorem lt_of_blt {d N:Nat} (h:Nat.blt d N=true):d < N:=by simpa [Nat.blt_eq] using h
theorem s_q {v:Value} (hs:St N F L M w0 a w) (hr:(execOp a.eval ⟨some d,op,ty,pos,aft,none⟩).run P w=.ok (.value v) w) (hd:Nat.blt d N=true)
    (k:∀ a,St N ((d,v)::F) L M w0 a w→wpList P ops Q rest a w):wpList P ops Q (⟨some d,op,ty,pos,aft,none⟩::rest) a w :=
  wpList_plain rfl fun K hK=>upon_value hr (hK _ _ (k _ (hs.put (lt_of_blt hd) v)))
theorem s_yes {j s:Nat} {b:Bool} {dd:Option Tmp} (hs:St N F L M w0 a w) (hj:(ops[j]?).bind (·.dst)=some s) (hb:look F s=some (.bool b))
    (k:wpList P ops Q (⟨dd,op,ty,pos,aft,none⟩::rest) a w):wpList P ops Q (⟨dd,op,ty,pos,aft,some (j,b)⟩::rest) a w:=by
  have hy:yielded ops a.tmps j=some b:=by
    have:=hs.know.at_ s _ hb
    simp [yielded,hj,this]
  unfold wpList at k ⊢
  have hw:Region.wanted ⟨dd,op,ty,pos,aft,some (j,b)⟩ (yielded ops a.tmps)=true:=by simp [Region.wanted,hy]
  rw [if_pos hw]
  rw [if_pos (by simp [Region.wanted])] at k
  exact k
theorem s_no {j s:Nat} {b c:Bool} (hs:St N F L M w0 a w) (hj:(ops[j]?).bind (·.dst)=some s) (hb:look F s=some (.bool c)) (hne:c=!b) (hd:Nat.blt d N=true)
    (k:∀ a,St N ((d,undef)::F) L M w0 a w→wpList P ops Q rest a w):wpList P ops Q (⟨some d,op,ty,pos,aft,some (j,b)⟩::rest) a w:=by
  have hy:yielded ops a.tmps j=some c:=by
    have:=hs.know.at_ s _ hb
    simp [yielded,hj,this]
  unfold wpList
  have hw:Region.wanted ⟨some d,op,ty,pos,aft,some (j,b)⟩ (yielded ops a.tmps)=false:=by subst hne; cases b <;> simp [Region.wanted,hy]
  rw [if_neg (by rw [hw]; simp)]
  exact k _ (hs.put (lt_of_blt hd) undef)
theorem s_g {j s:Nat} {b c:Bool} {v:Value} (hs:St N F L M w0 a w) (hj:(ops[j]?).bind (·.dst)=some s) (hb:look F s=some (.bool c))
    (hr:c=b→(execOp a.eval ⟨some d,op,ty,pos,aft,none⟩).run P w=.ok (.value v) w) (hd:Nat.blt d N=true)
    (k:∀ a,St N ((d,if c=b then v else undef)::F) L M w0 a w→wpList P ops Q rest a w):wpList P ops Q (⟨some d,op,ty,pos,aft,some (j,b)⟩::rest) a w:=by
  by_cases e:c=b
  · subst e
    refine s_yes hs hj hb (s_q hs (hr rfl) hd fun a hs=>k a ?_)
    simpa using hs
  · refine s_no hs hj hb (by cases c <;> cases b <;> simp_all) hd fun a hs=>k a ?_
    simpa [e] using hs
theorem gev {c b:Bool} {v u:Value} (hx:a.eval x=if c=b then v else u) (h:c=b):a.eval x=v:=by rw [hx,if_pos h]
theorem c_and {b c:Bool} {u0:Value} {g:Option (Nat × Bool)} {d:Option Tmp} (hx:a.eval x=.bool b) (hy:a.eval y=if b=true then .bool c else u0) :
    (execOp a.eval ⟨d,.pick x y (.const (.bool false)),ty,pos,aft,g⟩).run P w=.ok (.value (.bool (b && c))) w:=by
  rw [c_pick hx hy (v:=.bool false) rfl]
  cases b <;> simp
theorem c_or {b c:Bool} {u0:Value} {g:Option (Nat × Bool)} {d:Option Tmp} (hx:a.eval x=.bool b) (hy:a.eval y=if b=false then .bool c else u0) :
    (execOp a.eval ⟨d,.pick x (.const (.bool true)) y,ty,pos,aft,g⟩).run P w=.ok (.value (.bool (b || c))) w:=by
  rw [c_pick hx (u:=.bool true) rfl hy]
  cases b <;> simp
theorem s_new {v:Value} {w':World} (hs:St N F L M w0 a w) (hr:(execOp a.eval ⟨some d,op,ty,pos,aft,none⟩).run P w=.ok (.value v) w') (hd:Nat.blt d N=true) (hf:Fr0 w w') (hn:Has w.heap.size w' L')
    (k:∀ a,St N ((d,v)::F) (L'++L) M w0 a w'→wpList P ops Q rest a w'):wpList P ops Q (⟨some d,op,ty,pos,aft,none⟩::rest) a w :=
  wpList_plain rfl fun K hK=>upon_value hr (hK _ _ (k _ ((hs.new hf hn).put (lt_of_blt hd) v)))
theorem has_alloc {z:List Value}:Has w.heap.size (w.alloc (.cells z.toArray t)) [.seg w.heap.size z t] :=
  ⟨by intro e he; simp at he; subst he; exact heap_alloc_new w _,List.pairwise_singleton _ _,by intro e he k hk; simp at he; subst he; cases hk; simp,by intro e he k hk; simp at he; subst he; cases hk; simp⟩
theorem s_alloc {td:TypeDesc} {sz bytes:Nat} {zs:List Value} (hs:St N F L M w0 a w) (hT:Ty P t td sz bytes zs) (hd:Nat.blt d N=true)
    (k:∀ a w gb,St N ((d,.pointer (some ⟨gb,0,none⟩))::F) (.seg gb zs t::L) M w0 a w→wpList P ops Q rest a w):wpList P ops Q (⟨some d,.alloc t,ty,pos,aft,none⟩::rest) a w :=
  s_new hs (c_alloc hT) hd (.alloc _ _) has_alloc fun a hs=>k a _ _ hs
theorem s_box {v:Value} {zs:List Value} (hs:St N F L M w0 a w) (hx:ev F x=some v) (hz:v.cells=zs.toArray) (hd:Nat.blt d N=true)
    (k:∀ a w gb,St N ((d,.pointer (some ⟨gb,0,none⟩))::F) (.seg gb zs t::L) M w0 a w→wpList P ops Q rest a w):wpList P ops Q (⟨some d,.box t x,ty,pos,aft,none⟩::rest) a w :=
  s_new hs (hz ▸ c_box (hs.ev hx)) hd (.alloc _ _) has_alloc fun a hs=>k a _ _ hs
theorem s_bslice {E:TypeId} {ed:TypeDesc} {s bytes n:Nat} {z zs:List Value} {ps:Array (Nat × Operand)} {vs:List Value} (hs:St N F L M w0 a w) (hu:P.underlying t=some (.slice E)) (hE:Ty P E ed s bytes z)
    (hps:Evp a 0 ps.toList vs) (hn:vs.length=n) (hv:∀ v∈vs,v.cells.size=s) (hsmall:n * s≤16777216) (hz:flatCells vs=zs) (hd:Nat.blt d N=true)
    (k:∀ a w gb,St N ((d,.slice (some ⟨gb,0,none⟩) n n)::F) (.seg gb zs E::L) M w0 a w→wpList P ops Q rest a w):wpList P ops Q (⟨some d,.buildSlice t n ps,ty,pos,aft,none⟩::rest) a w :=
  s_new hs (hz ▸ c_bslice hu hE hps hn hv hsmall) hd (.alloc _ _) has_alloc fun a hs=>k a _ _ hs
theorem s_store {i:Nat} {T':TypeId} {td:TypeDesc} {sz bytes:Nat} {zz:List Value} {gb o:Nat} {cs cs' c:List Value} {v:Value} (hs:St N F L M w0 a w) (hT:Ty P t td sz bytes zz)
    (hx:ev F x=some (.pointer (some ⟨gb,o,none⟩))) (hy:ev F y=some v) (hi:L[i]?=some (.seg gb cs T')) (hv:v.cells.toList=c) (hl:c.length=sz) (h1:c.all (·.oneCell')=true) (hfit:o + sz≤cs.length)
    (hcs:cs.take o++c++cs.drop (o + sz)=cs') (k:∀ w,St N F (L.set i (.seg gb cs' T')) M w0 a w→wpList P ops Q rest a w) :
    wpList P ops Q (⟨none,.store t x y,ty,pos,aft,none⟩::rest) a w:=by
  have hr:=c_store (P:=P) (w:=w) (d:=none) (ty:=ty) (pos:=pos) (aft:=aft) (g:=none) hT (hs.ev hx) (hs.ev hy) hv hl h1 (hs.seg hi) hfit
  rw [hcs] at hr
  refine wpList_plain rfl fun K hK=>upon_skip hr (hK _ _ (k _ ?_))
  exact hs.mod hi (.setRow w gb _) (setRow_heap w gb _ _ _ _ (hs.seg hi)) (fun j hj=>⟨.inl hj,by
    have h2:gb < w.heap.size:=hs.has.lt _ (List.mem_of_getElem? hi) gb rfl
    cases hj
    simpa using h2⟩)
theorem run_call {f:FuncId} {args:Array Operand} {vs:List Value} {tys:Array TypeId} {d:Option Tmp} {g:Option (Nat × Bool)} (hF:Fun P f) (hargs:Evs a args.toList vs) :
    (execOp a.eval ⟨d,.call { callee:=.value (.func f),args:=args,argTypes:=tys },ty,pos,aft,g⟩).run P w=.ok (.enter f vs.toArray) w:=by
  obtain ⟨fn,h1,h2,h3⟩:=hF
  have he:args.map a.eval=vs.toArray:=by
    apply Array.ext'
    rw [Array.toList_map,hargs.map]
  have h2' : ¬ fn.name = "runtime.NumGoroutine" := by simpa using h2
  have h3':¬ fn.body=none:=fun e=>by simp [e] at h3
  simp [execOp,resolve,he,Act.eval,Deferred.ofValue,invoke,callFunc,h1,h2',h3']
theorem s_call {f:FuncId} {args:Array Operand} {vs:List Value} {tys:Array TypeId} {Post:Value→World→Prop} (hs:St N F L M w0 a w) (hF:Fun P f) (hargs:Evs a args.toList vs)
    (hc:Ctr P f vs w (fun _=>False) Post) (hd:Nat.blt d N=true)
    (k:∀ a w' v,Fr0 w w'→Post v w'→(∀ L',Has w.heap.size w' L'→St N ((d,v)::F) (L'++L) M w0 a w')→wpList P ops Q rest a w') :
    wpList P ops Q (⟨some d,.call { callee:=.value (.func f),args:=args,argTypes:=tys },ty,pos,aft,none⟩::rest) a w:=by
  refine wpList_plain rfl fun K hK=>?_
  unfold Oper.wp
  rw [run_call hF hargs]
  refine hc.mono fun e w' ⟨v,he,hf,hp⟩=>?_
  subst he
  exact hK _ _ (k _ _ v hf hp fun L' hn=>(hs.new hf hn).put (lt_of_blt hd) v)
theorem s_callM {f:FuncId} {args:Array Operand} {vs:List Value} {tys:Array TypeId} {Post:Value→World→Prop} {i:Nat} {e:Ent} (hs:St N F L M w0 a w) (hF:Fun P f) (hargs:Evs a args.toList vs)
    (hi:L[i]?=some e) (hc:Ctr P f vs w e.keys Post) (hd:Nat.blt d N=true)
    (k:∀ a w' v,Fr e.keys w w'→Post v w'→(∀ e':Ent,e'.holds w'→(∀ k,e'.keys k→(e.keys k∨w.heap.size≤k)∧k < w'.heap.size)→St N ((d,v)::F) (L.set i e') M w0 a w')→wpList P ops Q rest a w') :
    wpList P ops Q (⟨some d,.call { callee:=.value (.func f),args:=args,argTypes:=tys },ty,pos,aft,none⟩::rest) a w:=by
  refine wpList_plain rfl fun K hK=>?_
  unfold Oper.wp
  rw [run_call hF hargs]
  refine hc.mono fun e' w' ⟨v,he,hf,hp⟩=>?_
  subst he
  exact hK _ _ (k _ _ v hf hp fun e' h1 h2=>(hs.mod hi hf h1 h2).put (lt_of_blt hd) v)
theorem s_end (h:Q .normal a w):wpList P ops Q [] a w:=h
/-! code -/
theorem wp_reg {id:Nat} {l:List Oper} (h:wpList P l.toArray Q l a w):(Code.region id l.toArray false).wp P Q a w:=wp_region_lit h
theorem wp_loop_ix {c:Code} (J:Nat→Act→World→Prop) (n:Nat) (h0:J n a w)
    (round:∀ n a w,J n a w→c.wp P (Exit.then (fun a' w'=>∃ m,m < n∧J m a' w') Q) a w):(Code.loop c).wp P Q a w:=by
  intro b k cs
  have key:∀ n a w,J n a w→∃ e a' w',Q e a' w'∧Arrives P (lone (b.at a (.code c::.inLoop c::k)) cs w) b k cs e a' w':=by
    intro n
    induction n using Nat.strongRecOn with
    | _ n ih =>
      intro a w hJ
      obtain ⟨e,a₁,w₁,hq,harr⟩:=round n a w hJ b (.inLoop c::k) cs
      cases e with
      | normal =>
        obtain ⟨m,hm,hJ'⟩:=hq
        obtain ⟨e₂,a₂,w₂,hq₂,harr₂⟩:=ih m hm a₁ w₁ hJ'
        exact ⟨e₂,a₂,w₂,hq₂,.of_steps (Steps.trans harr (.one step_inLoop)) harr₂⟩
      | exit id=>exact ⟨_,a₁,w₁,hq,.pass (x:=.inLoop c) rfl (fun _ _=>.inl (by simp)) harr⟩
      | goto l=>exact ⟨_,a₁,w₁,hq,.pass (x:=.inLoop c) rfl (fun _ _=>.inl (by simp)) harr⟩
      | ret=>exact ⟨_,a₁,w₁,hq,.pass (x:=.inLoop c) rfl (fun _ _=>.inl (by simp)) harr⟩
      | panic ch=>exact ⟨_,a₁,w₁,hq,.pass (x:=.inLoop c) rfl (fun _ _=>.inl (by simp)) harr⟩
      | outgrown=>exact ⟨_,a₁,w₁,hq,.pass (x:=.inLoop c) rfl (fun _ _=>.inl (by simp)) harr⟩
  obtain ⟨e,a',w',hq,harr⟩:=key n _ _ h0
  exact ⟨e,a',w',hq,.of_steps (.one step_loop) harr⟩
theorem s_cond {b:Bool} {c1 c2:Code} (hs:St N F L M w0 a w) (hx:ev F x=some (.bool b)) (h1:b=true→c1.wp P Q a w) (h2:b=false→c2.wp P Q a w):(Code.cond x c1 c2).wp P Q a w :=
  wp_cond_split (hs.ev hx) h1 h2
/-! the end -/
inductive Res (P:Program) (tmps:Array Value) (w:World):List ResultVar→List Value→Prop
  | nil:Res P tmps w [] []
  | tmp {k:Tmp} {v:Value} {rs:List ResultVar} {vs:List Value} (h:tmps[k]?=some v) (t:Res P tmps w rs vs):Res P tmps w (.tmp k::rs) (v::vs)
  | cell {k:Tmp} {T:TypeId} {ad:Addr} {v:Value} {rs:List ResultVar} {vs:List Value} (h:tmps[k]?=some (.pointer (some ad))) (hl:(loadVar T ad).run P w=.ok v w) (t:Res P tmps w rs vs) :
      Res P tmps w (.cell k T::rs) (v::vs)
def resF (tmps:Array Value):ResultVar→Sem Value
  | .tmp t=>pure (tmps.getD t undef)
  | .cell a t=>do loadVar t (← asAddr (tmps.getD a undef))
theorem run_mapM_res {tmps:Array Value}:∀ {rs:List ResultVar} {vs:List Value},Res P tmps w rs vs→(rs.mapM (resF tmps)).run P w=.ok vs w
  | _,_,.nil=>by simp
  | _,_,.tmp h t=>by
    have ih:=run_mapM_res t
    simp [List.mapM_cons,resF,h,ih]
  | _,_,.cell (k:=k) (ad:=ad) h hl t=>by
    have ih:=run_mapM_res t
    have e:(asAddr (tmps.getD k undef)).run P w=.ok ad w:=by simp [h,asAddr]
    simp only [List.mapM_cons,resF,Sem.run_bind,e,Result.andThen_ok,hl,ih,Sem.run_pure]
theorem run_results {fn:Func} {tmps:Array Value} {rs:List ResultVar} {vs:List Value} {v:Value} (hr:fn.results=rs.toArray) (h:Res P tmps w rs vs) (hv:(if h:vs.toArray.size=1 then vs.toArray[0] else .tuple vs.toArray)=v) :
    (results fn tmps).run P w=.ok v w:=by
  have:=run_mapM_res h
  have e:results fn tmps=(do let vs ← rs.toArray.mapM (resF tmps); pure (if h:vs.size=1 then vs[0] else .tuple vs)):=by
    unfold results
    rw [hr]
    rfl
  rw [e]
  subst hv
  simp only [List.mapM_toArray,Sem.run_bind]
  simp [this]
theorem s_ret {fn:Func} {R:Ending→World→Prop} {rs:List ResultVar} {vs:List Value} {v:Value} (hs:St N F L M w0 a w) (hr:fn.results=rs.toArray) (h:Res P a.tmps w rs vs)
    (hv:(if h:vs.toArray.size=1 then vs.toArray[0] else .tuple vs.toArray)=v) (hR:R (.returned v) w):bodyPost P fn R .ret a w :=
  ⟨hs.know.defers,v,run_results hr h hv,hR⟩
theorem s_ret_end {fn:Func} {R:Ending→World→Prop} {rs:List ResultVar} {vs:List Value} {v:Value} (hs:St N F L M w0 a w) (hr:fn.results=rs.toArray) (h:Res P a.tmps w rs vs)
    (hv:(if h:vs.toArray.size=1 then vs.toArray[0] else .tuple vs.toArray)=v) (hR:R (.returned v) w):bodyPost P fn R .normal a w :=
  ⟨hs.know.defers,v,run_results hr h hv,hR⟩
theorem St.tmp {n:Nat} {v:Value} (hs:St N F L M w0 a w) (h:look F n=some v):a.tmps[n]?=some v:=hs.know.at_ n v h
def argF:Nat→List Value→List (Nat × Value)
  | _,[]=>[]
  | k,v::t=>(k,v)::argF (k + 1) t
theorem look_argF:∀ (vs:List Value) (k n:Nat) (v:Value),look (argF k vs) n=some v→k≤n∧vs[n - k]?=some v
  | [],k,n,v,h=>by simp [argF,look] at h
  | u::t,k,n,v,h=>by
    simp only [argF,look] at h
    by_cases e:k=n
    · subst e
      simp at h
      simp [h]
    · rw [Nat.beq_eq_false_of e] at h
      have:=look_argF t (k + 1) n v h
      refine ⟨by omega,?_⟩
      rw [show n - k=(n - (k + 1)) + 1 from by omega]
      simpa using this.2
theorem fn_start {f:FuncId} {fn:Func} {c:Code} {vs:List Value} {M:Nat→Prop} {Post:Value→World→Prop} (hf:P.funcs[f]?=some fn) (hb:fn.body=some c) (hn:fn.ntmps=N) (hle:Nat.ble vs.length N=true)
    (h:∀ a,Know N (argF 0 vs) a→c.wp P (bodyPost P fn fun e w'=>∃ v,e=.returned v∧Fr M w w'∧Post v w') a w):Ctr P f vs w M Post:=by
  refine calls_of_wp hf hb (h _ ?_)
  have hle':vs.length≤N:=by simpa using hle
  refine ⟨by simp [hn]; omega,rfl,fun n v hl=>?_⟩
  have h2:=look_argF vs 0 n v hl
  have hlt:n < vs.length:=(List.getElem?_eq_some_iff.1 h2.2).1
  have h3:=h2.2
  simp at h3
  rw [Array.getElem?_append_left (by simpa using hlt)]
  simpa using h3
end
end Go.Fw
end

section
/- A region that draws its order: each operation is shown,in whatever order it comes up,to yield a known value,or a value with new things; behind them a tail in the order of the text. -/
namespace Go.Fw
open Go
inductive DV where
  | c (v:Value)
  | e (E:Value→List Ent→World→Prop) (st:∀ v L w w',Fr0 w w'→E v L w→E v L w')
def DV.ok:DV→Value→List Ent→World→Prop
  | .c u,v,L,_=>v=u∧L=[]
  | .e E _,v,L,w=>E v L w
theorem DV.ok_stable {D:DV} {v:Value} {L:List Ent} {w w':World} (hf:Fr0 w w') (h:D.ok v L w):D.ok v L w':=by
  cases D with
  | c u=>exact h
  | e E st=>exact st v L w w' hf h
abbrev Fes:=List (Nat × (Value→List Ent→World→Prop))
def lookE:Fes→Nat→Option (Value→List Ent→World→Prop)
  | [],_=>none
  | (k,v)::t,n=>bif Nat.beq k n then some v else lookE t n
def Yl (P:Program) (R:Value→World→Prop):Result Next→Prop
  | .ok (.value v) w'=>R v w'
  | .ok .skip w'=>R undef w'
  | .ok (.enter f args) w'=>Calls P f args w' fun e w''=>∃ v,e=.returned v∧R v w''
  | _=>False
theorem wp_of_yl {P:Program} {R:Value→World→Prop} {o:Oper} {a:Act} {w:World} {K:Act→World→Prop} {Q:Exit→Act→World→Prop}
    (h:Yl P R ((execOp a.eval o).run P w)) (k:∀ v w',R v w'→K (a.put o.dst v) w'):o.wp P a w K Q:=by
  unfold Oper.wp
  generalize (execOp a.eval o).run P w=r at *
  cases r with
  | ok nx w' =>
    cases nx <;> simp only [Yl] at h <;> simp only [Oper.upon]
    case value v=>exact k v w' h
    case skip=>exact k undef w' h
    case enter f args=>exact h.mono fun e w'' ⟨v,he,hr⟩=>by subst he; exact k v w'' hr
  | halt x w'=>simp [Yl] at h
def tmpsOf (o:Oper):List Nat:=o.op.operands.toList.filterMap fun | .tmp t=>some t | _=>none
structure RC (N:Nat) (Fc:List (Nat × Value)) (Fe:Fes) (o:Oper) (B1:Nat) (w1:World) (a:Act) (w:World):Prop where
  know:Know N Fc a
  fr:Fr0 w1 w
  ents:∀ n E,lookE Fe n=some E→(tmpsOf o).any (Nat.beq n)=true→∃ v L',a.tmps[n]?=some v∧E v L' w∧Has B1 w L'
def Meets (D:DV) (w:World) (v:Value) (w':World):Prop:=∃ L',D.ok v L' w'∧Fr0 w w'∧Has w.heap.size w' L'
def wantedAs (ops:Array Oper) (Fc:List (Nat × Value)) (o:Oper):Option Bool :=
  match o.guard with
  | none=>some true
  | some (j,wt)=>match ((ops[j]?).bind (·.dst)).bind (look Fc) with
    | some (.bool b)=>some (b == wt)
    | some _=>some false
    | none=>none
def needQ (o:Oper):Bool:=match o.guard,o.op with
  | none,.load ..=>true
  | none,.slice ..=>true
  | none,.build ..=>true
  | none,.convert ..=>true
  | none,.binOp ..=>true
  | none,.fieldAddr ..=>true
  | none,.indexAddr ..=>true
  | _,_=>false
def Ob (P:Program) (ops:Array Oper) (N:Nat) (B1:Nat) (w1:World) (Fc:List (Nat × Value)) (Fe:Fes) (o:Oper) (D:DV):Prop :=
  ((wantedAs ops Fc o=some true∧∀ a w,RC N Fc Fe o B1 w1 a w→Yl P (Meets D w) ((execOp a.eval o).run P w))∨(wantedAs ops Fc o=some false∧D=.c undef)) ∧
  (needQ o=true→∀ a w,RC N Fc Fe o B1 w1 a w→∃ v,(execOp a.eval o).run P w=.ok (.value v) w)
def addC (Fc:List (Nat × Value)) (d:Nat):DV→List (Nat × Value)
  | .c v=>(d,v)::Fc
  | .e _ _=>Fc
def addE (Fe:Fes) (d:Nat):DV→Fes
  | .c _=>Fe
  | .e E _=>(d,E)::Fe
def fresh (Fc:List (Nat × Value)) (Fe:Fes) (d:Nat):DV→Prop
  | .c _=>lookE Fe d=none
  | .e _ _=>look Fc d=none
def RG (P:Program) (ops:Array Oper) (N B1:Nat) (w1:World) (K:List (Nat × Value)→Fes→Prop):List (Nat × Value)→Fes→List Oper→Prop
  | Fc,Fe,[]=>K Fc Fe
  | Fc,Fe,o::rest=>∃ d D,o.dst=some d∧Ob P ops N B1 w1 Fc Fe o D∧fresh Fc Fe d D∧RG P ops N B1 w1 K (addC Fc d D) (addE Fe d D) rest
def looks (ops:Array Oper) (o:Oper):List Nat:=tmpsOf o++(match o.guard with | none=>[] | some (j,_)=>((ops[j]?).bind (·.dst)).toList)
def waits (o:Oper) (j:Nat):Bool:=o.after.toList.any fun e=>Region.binds .any e && Nat.beq e.on j
def anc (ops:Array Oper):Nat→Oper→Nat→Bool
  | 0,o,j=>waits o j
  | n + 1,o,j=>waits o j || o.after.toList.any fun e=>Region.binds .any e && (match ops[e.on]? with | none=>false | some k=>anc ops n k j)
def notSelect (o:Oper):Bool:=match o.op with | .select ..=>false | _=>true
def dstAt (ops:Array Oper) (j:Nat):Option Nat:=(ops[j]?).bind (·.dst)
def rgBL (ops:Array Oper) (n:Nat) (late:List Nat):Bool :=
  Nat.ble n ops.size && late.all (fun j=>Nat.blt j n) && (List.range ops.size).all fun i=>match ops[i]? with
    | none=>false
    | some o=>notSelect o && (o.after.toList.all fun e=>!Region.binds .any e || Nat.blt e.on i) &&
      (if i < n then
        (match o.dst with
          | none=>false
          | some d=>(List.range n).all fun j=>Nat.beq j i || !(dstAt ops j == some d)) &&
        (looks ops o).all fun s=>(List.range n).all fun j=>Nat.beq j i || !(dstAt ops j == some s) || (if j < i then waits o j else match ops[j]? with | none=>false | some oj=>waits oj i)
      else (List.range i).all fun j=>late.any (Nat.beq j) || anc ops 24 o j)
def rgB (ops:Array Oper) (n:Nat):Bool:=rgBL ops n []
theorem waits_spec {o:Oper} {j:Nat} (h:waits o j=true):∃ e∈o.after,Region.binds .any e=true∧e.on=j:=by
  unfold waits at h
  obtain ⟨e,he,hb⟩:=List.any_eq_true.1 h
  simp only [Bool.and_eq_true] at hb
  exact ⟨e,by simpa using he,hb.1,Nat.eq_of_beq_eq_true hb.2⟩
theorem anc_spec {ops:Array Oper}:∀ {n:Nat} {o:Oper} {j:Nat},anc ops n o j=true→(∃ e∈o.after,Region.binds .any e=true∧e.on=j)∨∃ m,m < n∧∃ e∈o.after,Region.binds .any e=true∧∃ k,ops[e.on]?=some k∧anc ops m k j=true
  | 0,o,j,h=>.inl (waits_spec h)
  | n + 1,o,j,h=>by
    unfold anc at h
    rw [Bool.or_eq_true] at h
    rcases h with h | h
    · exact .inl (waits_spec h)
    · obtain ⟨e,he,hb⟩:=List.any_eq_true.1 h
      simp only [Bool.and_eq_true] at hb
      refine .inr ⟨n,Nat.lt_succ_self n,e,by simpa using he,hb.1,?_⟩
      cases hk:ops[e.on]? with
      | none=>rw [hk] at hb; cases hb.2
      | some k=>rw [hk] at hb; exact ⟨k,rfl,hb.2⟩
structure RgOk (ops:Array Oper) (n:Nat) (late:List Nat):Prop where
  le:n≤ops.size
  lateLt:∀ j∈late,j < n
  sel:∀ (i:Nat) (o:Oper),ops[i]?=some o→notSelect o=true
  back:∀ (i:Nat) (o:Oper),ops[i]?=some o→∀ e∈o.after,Region.binds .any e=true→e.on < i
  dst:∀ (i:Nat) (o:Oper),ops[i]?=some o→i < n→∃ d,o.dst=some d
  uniq:∀ (i j d:Nat),i < n→j < n→dstAt ops i=some d→dstAt ops j=some d→i=j
  use:∀ (i:Nat) (o:Oper) (s j:Nat),ops[i]?=some o→i < n→s∈looks ops o→j < n→j ≠ i→dstAt ops j=some s→(j < i∧waits o j=true)∨(i < j∧∃ oj,ops[j]?=some oj∧waits oj i=true)
  tail:∀ (i:Nat) (o:Oper),ops[i]?=some o→n≤i→∀ j,j < i→j∈late∨anc ops 24 o j=true
theorem anc_closed {ops:Array Oper} {S:Nat→Prop} (hc:∀ (i:Nat) (o:Oper),ops[i]?=some o→S i→∀ e∈o.after,Region.binds .any e=true→S e.on):∀ (m:Nat) (o:Oper) (j:Nat),(∀ e∈o.after,Region.binds .any e=true→S e.on)→anc ops m o j=true→S j:=by
  intro m
  induction m using Nat.strongRecOn with
  | _ m ih =>
    intro o j hs h
    rcases anc_spec h with ⟨e,he,hb,rfl⟩ | ⟨m',hm,e,he,hb,k,hk,ha⟩
    · exact hs e he hb
    · exact ih m' hm k j (fun e2 he2 hb2=>hc e.on k hk (hs e he hb) e2 he2 hb2) ha
theorem rgB_spec {ops:Array Oper} {n:Nat} {late:List Nat} (h:rgBL ops n late=true):RgOk ops n late:=by
  unfold rgBL at h
  simp only [Bool.and_eq_true] at h
  obtain ⟨⟨h0,hlt0⟩,h1⟩:=h
  have hle:n≤ops.size:=by simpa using h0
  have get:∀ i o,ops[i]?=some o→notSelect o=true∧(∀ e∈o.after,Region.binds .any e=true→e.on < i)∧(if i < n then
        (match o.dst with
          | none=>false
          | some d=>(List.range n).all fun j=>Nat.beq j i || !(dstAt ops j == some d)) &&
        (looks ops o).all fun s=>(List.range n).all fun j=>Nat.beq j i || !(dstAt ops j == some s) || (if j < i then waits o j else match ops[j]? with | none=>false | some oj=>waits oj i)
      else (List.range i).all fun j=>late.any (Nat.beq j) || anc ops 24 o j)=true:=by
    intro i o hi
    have hlt:i < ops.size:=(Array.getElem?_eq_some_iff.1 hi).1
    have h2:=List.all_eq_true.1 h1 i (List.mem_range.2 hlt)
    simp only [hi,Bool.and_eq_true] at h2
    refine ⟨h2.1.1,fun e he hb=>?_,h2.2⟩
    have h3:=List.all_eq_true.1 h2.1.2 e (by simpa using he)
    simp only [hb,Bool.not_true,Bool.false_or] at h3
    simpa [Nat.blt_eq] using h3
  have head:∀ i o,ops[i]?=some o→i < n→(match o.dst with
          | none=>false
          | some d=>(List.range n).all fun j=>Nat.beq j i || !(dstAt ops j == some d))=true ∧
        ((looks ops o).all fun s=>(List.range n).all fun j=>Nat.beq j i || !(dstAt ops j == some s) || (if j < i then waits o j else match ops[j]? with | none=>false | some oj=>waits oj i))=true:=by
    intro i o hi hin
    have h2:=(get i o hi).2.2
    rw [if_pos hin,Bool.and_eq_true] at h2
    exact h2
  refine ⟨hle,fun j hj=>by simpa [Nat.blt_eq] using List.all_eq_true.1 hlt0 j hj,fun i o hi=>(get i o hi).1,fun i o hi=>(get i o hi).2.1,fun i o hi hin=>?_,fun i j d hi hj hdi hdj=>?_,fun i o s j hi hin hs hj hne hd=>?_,fun i o hi hin j hj=>?_⟩
  · have h2:=(head i o hi hin).1
    cases hd:o.dst with
    | none=>rw [hd] at h2; cases h2
    | some d=>exact ⟨d,rfl⟩
  · obtain ⟨o,ho⟩:∃ o,ops[i]?=some o:=⟨ops[i]'(by omega),by simp [show i < ops.size by omega]⟩
    have h2:=(head i o ho hi).1
    have hod:o.dst=some d:=by simpa [dstAt,ho] using hdi
    rw [hod] at h2
    have h3:=List.all_eq_true.1 h2 j (List.mem_range.2 hj)
    simp only [hdj,beq_self_eq_true,Bool.not_true,Bool.or_false] at h3
    exact (Nat.eq_of_beq_eq_true h3).symm
  · have h2:=(head i o hi hin).2
    have h3:=List.all_eq_true.1 (List.all_eq_true.1 h2 s hs) j (List.mem_range.2 hj)
    rw [Nat.beq_eq_false_of hne,hd] at h3
    simp only [beq_self_eq_true,Bool.not_true,Bool.or_false,Bool.false_or] at h3
    by_cases hlt:j < i
    · rw [if_pos hlt] at h3
      exact .inl ⟨hlt,h3⟩
    · rw [if_neg hlt] at h3
      cases ho:ops[j]? with
      | none=>rw [ho] at h3; cases h3
      | some oj=>rw [ho] at h3; exact .inr ⟨by omega,oj,rfl,h3⟩
  · have h2:=(get i o hi).2.2
    rw [if_neg (by omega)] at h2
    have h3:=List.all_eq_true.1 h2 j (List.mem_range.2 hj)
    rw [Bool.or_eq_true] at h3
    exact h3.imp (fun h=>by
      obtain ⟨x,hx,hb⟩:=List.any_eq_true.1 h
      rw [Nat.eq_of_beq_eq_true hb]; exact hx) id
/-! Plain turnings of an operand: the slot's value is told by the operand's,in whatever order. -/
def opnd (o:Oper):Option Nat:=match o.guard,o.op with
  | none,.move (.tmp s)=>some s
  | none,.assign (.tmp s)=>some s
  | none,.extract (.tmp s) _=>some s
  | _,_=>none
def LinkV (o:Oper) (x v:Value):Prop:=match o.op with
  | .move _=>v=x
  | .assign _=>v=x
  | .extract _ k=>∀ vs u,x=.tuple vs→vs[k]?=some u→v=u
  | _=>True
def safeB (ops:Array Oper) (n j s:Nat):Bool:=(List.range n).all fun i=>!(dstAt ops i == some s) || Nat.blt i j
theorem opnd_guard {o:Oper} {s:Nat} (h:opnd o=some s):o.guard=none:=by
  unfold opnd at h
  cases hg:o.guard with
  | none=>rfl
  | some g=>rw [hg] at h; simp at h
theorem opnd_looks {ops:Array Oper} {o:Oper} {s:Nat} (h:opnd o=some s):s∈looks ops o:=by
  obtain ⟨d,op,ty,pos,aft,g⟩:=o
  refine List.mem_append_left _ ?_
  cases g with
  | some g=>simp [opnd] at h
  | none=>cases op with
    | move x=>cases x <;> simp [opnd] at h <;> subst h <;> simp [tmpsOf,Op.operands]
    | assign x=>cases x <;> simp [opnd] at h <;> subst h <;> simp [tmpsOf,Op.operands]
    | extract x k=>cases x <;> simp [opnd] at h <;> subst h <;> simp [tmpsOf,Op.operands]
    | _=>simp [opnd] at h
theorem Yl.mono {P:Program} {R R':Value→World→Prop} {r:Result Next} (h:Yl P R r) (hm:∀ v w,R v w→R' v w):Yl P R' r:=by
  cases r with
  | ok nx w =>
    cases nx with
    | value v=>exact hm _ _ h
    | skip=>exact hm _ _ h
    | enter f args=>exact Calls.mono h fun e w'' ⟨v,he,hr⟩=>⟨v,he,hm _ _ hr⟩
    | _=>simp [Yl] at h
  | halt x w=>simp [Yl] at h
theorem yl_link {P:Program} {R:Value→World→Prop} {o:Oper} {a:Act} {w:World} {s:Nat} (ho:opnd o=some s) (h:Yl P R ((execOp a.eval o).run P w)) :
    Yl P (fun v w'=>R v w'∧LinkV o (a.tmps.getD s undef) v) ((execOp a.eval o).run P w):=by
  obtain ⟨d,op,ty,pos,aft,g⟩:=o
  cases g with
  | some g=>simp [opnd] at ho
  | none=>cases op with
    | move x=>cases x with
      | tmp s' =>
        simp [opnd] at ho; subst ho
        rw [c_move (P:=P) (w:=w) (x:=.tmp s') rfl] at h ⊢
        exact ⟨h,rfl⟩
      | _=>simp [opnd] at ho
    | assign x=>cases x with
      | tmp s' =>
        simp [opnd] at ho; subst ho
        rw [c_assign (P:=P) (w:=w) (x:=.tmp s') rfl] at h ⊢
        exact ⟨h,rfl⟩
      | _=>simp [opnd] at ho
    | extract x k=>cases x with
      | tmp s' =>
        simp [opnd] at ho; subst ho
        by_cases hex:∃ vs u,a.eval (.tmp s')=.tuple vs∧vs[k]?=some u
        · obtain ⟨vs,u,h1,h2⟩:=hex
          rw [c_extract (P:=P) (w:=w) h1 h2] at h ⊢
          refine ⟨h,fun vs' u' h3 h4=>?_⟩
          have h5:(Value.tuple vs)=.tuple vs':=h1.symm.trans h3
          cases h5
          rw [h2] at h4
          exact Option.some.inj h4
        · exact h.mono fun v w' hr=>⟨hr,fun vs u h3 h4=>absurd ⟨vs,u,h3,h4⟩ hex⟩
      | _=>simp [opnd] at ho
    | _=>simp [opnd] at ho
theorem getD_put {a:Act} {d s:Nat} {v:Value} (h:d ≠ s):(a.put (some d) v).tmps.getD s undef=a.tmps.getD s undef:=by
  simp [Act.put,Array.getD_eq_getD_getElem?,Array.getElem?_setIfInBounds,h]
def bldB (o:Oper):Bool:=match o.guard,o.op with
  | none,.build _ _=>true
  | _,_=>false
def Links (P:Program) (l:List Oper) (n:Nat) (a:Act):Prop :=
  (∀ j o d s,j < n→l[j]?=some o→o.dst=some d→opnd o=some s→safeB l.toArray n j s=true→∃ v,a.tmps[d]?=some v∧LinkV o (a.tmps.getD s undef) v) ∧
  ∀ j o d,j < n→l[j]?=some o→o.dst=some d→bldB o=true→(∀ s∈tmpsOf o,safeB l.toArray n j s=true)→∃ v w1 w2,a.tmps[d]?=some v∧(execOp a.eval o).run P w1=.ok (.value v) w2
theorem bldB_guard {o:Oper} (h:bldB o=true):o.guard=none:=by
  unfold bldB at h
  cases hg:o.guard with
  | none=>rfl
  | some g=>rw [hg] at h; simp at h
theorem yl_bld {P:Program} {R:Value→World→Prop} {o:Oper} {a:Act} {w:World} (ho:bldB o=true) (h:Yl P R ((execOp a.eval o).run P w)) :
    Yl P (fun v w'=>R v w'∧∃ w1 w2,(execOp a.eval o).run P w1=.ok (.value v) w2) ((execOp a.eval o).run P w):=by
  obtain ⟨d,op,ty,pos,aft,g⟩:=o
  cases g with
  | some g=>simp [bldB] at ho
  | none=>cases op with
    | build t ps =>
      cases hr:(execOp a.eval ⟨d,.build t ps,ty,pos,aft,none⟩).run P w with
      | ok nx w' =>
        cases nx with
        | value v=>rw [hr] at h; exact ⟨h,w,w',hr⟩
        | _ =>
          exfalso
          simp only [execOp,Sem.run_bind] at hr
          cases hb:(Instr.build t (ps.map fun q=>(q.1,a.eval q.2))).run P w <;> rw [hb] at hr <;> simp at hr
      | halt x w'=>rw [hr] at h; simp [Yl] at h
    | _=>simp [bldB] at ho
/-! the facts ahead of operation i -/
def factsC (ops:List Oper) (Ds:List DV) (Fc0:List (Nat × Value)):Nat→List (Nat × Value)
  | 0=>Fc0
  | i + 1=>match ops[i]?,Ds[i]? with
    | some o,some D=>(match o.dst with | some d=>addC (factsC ops Ds Fc0 i) d D | none=>factsC ops Ds Fc0 i)
    | _,_=>factsC ops Ds Fc0 i
def factsE (ops:List Oper) (Ds:List DV):Nat→Fes
  | 0=>[]
  | i + 1=>match ops[i]?,Ds[i]? with
    | some o,some D=>(match o.dst with | some d=>addE (factsE ops Ds i) d D | none=>factsE ops Ds i)
    | _,_=>factsE ops Ds i
theorem RG.parts {P:Program} {opsA:Array Oper} {N B1:Nat} {w1:World} {K:List (Nat × Value)→Fes→Prop} (Fc0:List (Nat × Value)):∀ (rest pre:List Oper) (Ds:List DV),pre.length=Ds.length →
    RG P opsA N B1 w1 K (factsC (pre++rest) Ds Fc0 pre.length) (factsE (pre++rest) Ds pre.length) rest →
    ∃ Ds':List DV,(Ds++Ds').length=(pre++rest).length∧K (factsC (pre++rest) (Ds++Ds') Fc0 (pre++rest).length) (factsE (pre++rest) (Ds++Ds') (pre++rest).length) ∧
      ∀ i o,pre.length≤i→(pre++rest)[i]?=some o→∃ d D,o.dst=some d∧(Ds++Ds')[i]?=some D∧Ob P opsA N B1 w1 (factsC (pre++rest) (Ds++Ds') Fc0 i) (factsE (pre++rest) (Ds++Ds') i) o D ∧
        fresh (factsC (pre++rest) (Ds++Ds') Fc0 i) (factsE (pre++rest) (Ds++Ds') i) d D
  | [],pre,Ds,hl,h=>by
    refine ⟨[],by simp [hl],?_,fun i o hi ho=>?_⟩
    · simpa [RG] using h
    · simp at ho
      have:=(List.getElem?_eq_some_iff.1 ho).1
      omega
  | o::rest,pre,Ds,hl,h=>by
    obtain ⟨d,D,hd,hob,hfr,hk⟩:=h
    have ext:∀ (X Y:List DV) (i:Nat),i≤X.length→factsC (pre++o::rest) (X++Y) Fc0 i=factsC (pre++o::rest) X Fc0 i∧factsE (pre++o::rest) (X++Y) i=factsE (pre++o::rest) X i:=by
      intro X Y i
      induction i with
      | zero=>intro _; exact ⟨rfl,rfl⟩
      | succ i ih =>
        intro hi
        have h1:=ih (by omega)
        have h2:(X++Y)[i]?=X[i]?:=List.getElem?_append_left (by omega)
        simp only [factsC,factsE,h2,h1.1,h1.2]
        exact ⟨trivial,trivial⟩
    have hget:(pre++o::rest)[pre.length]?=some o:=by simp
    have e1:=ext Ds [D] pre.length (by omega)
    have hDget:(Ds++[D])[pre.length]?=some D:=by rw [hl]; simp
    have hc:factsC (pre++o::rest) (Ds++[D]) Fc0 (pre.length + 1)=addC (factsC (pre++o::rest) Ds Fc0 pre.length) d D:=by
      simp only [factsC,hget,hDget,hd,e1.1]
    have he:factsE (pre++o::rest) (Ds++[D]) (pre.length + 1)=addE (factsE (pre++o::rest) Ds pre.length) d D:=by
      simp only [factsE,hget,hDget,hd,e1.2]
    have heq:pre++o::rest=(pre++[o])++rest:=by simp
    have hk':RG P opsA N B1 w1 K (factsC ((pre++[o])++rest) (Ds++[D]) Fc0 (pre++[o]).length) (factsE ((pre++[o])++rest) (Ds++[D]) (pre++[o]).length) rest:=by
      rw [← heq,show (pre++[o]).length=pre.length + 1 by simp,hc,he]
      exact hk
    obtain ⟨Ds',hl',hK',hall⟩:=RG.parts Fc0 rest (pre++[o]) (Ds++[D]) (by simp [hl]) hk'
    rw [← heq] at hl' hK' hall
    rw [List.append_assoc] at hl' hK' hall
    refine ⟨[D]++Ds',hl',hK',fun i o' hi ho'=>?_⟩
    by_cases hip:i=pre.length
    · subst hip
      rw [hget] at ho'
      obtain rfl:=Option.some.inj ho'
      have e2:=ext Ds ([D]++Ds') pre.length (by omega)
      refine ⟨d,D,hd,?_,?_,?_⟩
      · rw [List.getElem?_append_right (by omega)]
        simp [hl]
      · rw [e2.1,e2.2]; exact hob
      · rw [e2.1,e2.2]; exact hfr
    · exact hall i o' (by simp; omega) ho'
end Go.Fw
end

section
/- The walk of a region that draws its order holds for every order. -/
namespace Go.Fw
open Go
section
variable {P:Program} {l:List Oper} {n N B1:Nat} {w1:World} {Fc0:List (Nat × Value)} {Ds:List DV} {Q:Exit→Act→World→Prop} {late:List Nat}
theorem factsC_src {lh:List Oper} {ds:Nat→Nat} (hds:∀ i o,lh[i]?=some o→o.dst=some (ds i)) (hl:Ds.length=lh.length) (hfr:∀ i o D,lh[i]?=some o→Ds[i]?=some D→fresh (factsC lh Ds Fc0 i) (factsE lh Ds i) (ds i) D) :
    ∀ i,i≤lh.length→∀ s v,look (factsC lh Ds Fc0 i) s=some v→(∃ j,j < i∧ds j=s∧Ds[j]?=some (.c v))∨(look Fc0 s=some v∧∀ j,j < i→ds j ≠ s):=by
  intro i
  induction i with
  | zero=>intro _ s v h; exact .inr ⟨h,fun j hj=>by omega⟩
  | succ i ih =>
    intro hi s v h
    have hlt:i < lh.length:=by omega
    have ho:lh[i]?=some lh[i]:=List.getElem?_eq_getElem hlt
    have hD:Ds[i]?=some (Ds[i]'(by omega)):=List.getElem?_eq_getElem (by omega)
    have hd:=hds i _ ho
    have hf:=hfr i _ _ ho hD
    simp only [factsC,ho,hD,hd] at h
    generalize hDD:Ds[i]'(by omega)=D at *
    cases D with
    | c u =>
      simp only [addC,look] at h
      by_cases e:ds i=s
      · subst e
        simp at h
        subst h
        exact .inl ⟨i,by omega,rfl,hD⟩
      · rw [Nat.beq_eq_false_of e] at h
        rcases ih (by omega) s v h with ⟨j,hj,h1,h2⟩ | ⟨h1,h2⟩
        · exact .inl ⟨j,by omega,h1,h2⟩
        · exact .inr ⟨h1,fun j hj=>by
            by_cases hji:j=i
            · subst hji; exact e
            · exact h2 j (by omega)⟩
    | e E st =>
      simp only [addC] at h
      simp only [fresh] at hf
      have e:ds i ≠ s:=fun e=>by subst e; rw [hf] at h; cases h
      rcases ih (by omega) s v h with ⟨j,hj,h1,h2⟩ | ⟨h1,h2⟩
      · exact .inl ⟨j,by omega,h1,h2⟩
      · exact .inr ⟨h1,fun j hj=>by
          by_cases hji:j=i
          · subst hji; exact e
          · exact h2 j (by omega)⟩
theorem factsE_src {lh:List Oper} {ds:Nat→Nat} (hds:∀ i o,lh[i]?=some o→o.dst=some (ds i)) (hl:Ds.length=lh.length) :
    ∀ i,i≤lh.length→∀ s E,lookE (factsE lh Ds i) s=some E→∃ j,j < i∧ds j=s∧∃ st,Ds[j]?=some (.e E st):=by
  intro i
  induction i with
  | zero=>intro _ s v h; simp [factsE,lookE] at h
  | succ i ih =>
    intro hi s v h
    have hlt:i < lh.length:=by omega
    have ho:lh[i]?=some lh[i]:=List.getElem?_eq_getElem hlt
    have hD:Ds[i]?=some (Ds[i]'(by omega)):=List.getElem?_eq_getElem (by omega)
    have hd:=hds i _ ho
    simp only [factsE,ho,hD,hd] at h
    generalize hDD:Ds[i]'(by omega)=D at *
    cases D with
    | c u =>
      simp only [addE] at h
      obtain ⟨j,hj,h1,h2⟩:=ih (by omega) s v h
      exact ⟨j,by omega,h1,h2⟩
    | e E st =>
      simp only [addE,lookE] at h
      by_cases e:ds i=s
      · subst e
        simp at h
        subst h
        exact ⟨i,by omega,rfl,st,hD⟩
      · rw [Nat.beq_eq_false_of e] at h
        obtain ⟨j,hj,h1,h2⟩:=ih (by omega) s v h
        exact ⟨j,by omega,h1,h2⟩
/-! the tail: the order of the text -/
theorem wpAny_tail (hok:RgOk l.toArray n late):∀ (m t:Nat) (listed:Array Bool) (a:Act) (w:World),m + t=l.length→n≤t→listed.size=l.length→(∀ j,j < l.length→listed.getD j true=decide (j < t)) →
    wpList P l.toArray Q (l.drop t) a w→wpAny P .any l.toArray Q m listed a w
  | 0,t,listed,a,w,hm,hn,hsz,hls,h=>by
    have hr:Region.ready .any l.toArray listed=[]:=by
      apply List.eq_nil_iff_forall_not_mem.2
      intro i hi
      obtain ⟨h1,o,ho,_⟩:=mem_ready.1 hi
      have hlt:i < l.length:=by simpa using (Array.getElem?_eq_some_iff.1 ho).1
      rw [hls i hlt] at h1
      simp at h1
      omega
    refine ⟨hr,?_⟩
    rw [List.drop_eq_nil_of_le (by omega)] at h
    exact h
  | m + 1,t,listed,a,w,hm,hn,hsz,hls,h=>by
    have htl:t < l.length:=by omega
    have hready:∀ i,i∈Region.ready .any l.toArray listed→i=t:=by
      intro i hi
      obtain ⟨h1,o,ho,hall⟩:=mem_ready.1 hi
      have hlt:i < l.length:=by simpa using (Array.getElem?_eq_some_iff.1 ho).1
      rw [hls i hlt] at h1
      simp at h1
      by_cases e:i=t
      · exact e
      · exfalso
        have key:=anc_closed (ops:=l.toArray) (S:=fun j=>j < t) (fun i' o' hi' hs' e he hb=>Nat.lt_trans (hok.back i' o' hi' e he hb) hs') 24 o t (fun e he hb=>by
          have h3:=hall e he hb
          have hlt3:=hok.back i o ho e he hb
          have h4:=hls e.on (by omega)
          simp [show e.on < listed.size by omega] at h3 h4
          rw [h3] at h4
          simpa using h4) ((hok.tail i o ho (by omega) t (by omega)).resolve_left fun h=>by have:=hok.lateLt t h; omega)
        omega
    have hmem:t∈Region.ready .any l.toArray listed:=by
      refine mem_ready.2 ⟨by rw [hls t htl]; simp,l[t],by simp [htl],fun e he hb=>?_⟩
      have:=hok.back t l[t] (by simp [htl]) e he hb
      have h4:=hls e.on (by omega)
      simp [show e.on < listed.size by omega] at h4 ⊢
      rw [h4]
      simpa using this
    have hstep:∀ a' w',wpList P l.toArray Q (l.drop (t + 1)) a' w'→wpAny P .any l.toArray Q m (listed.setIfInBounds t true) a' w':=fun a' w' h' =>
      wpAny_tail hok m (t + 1) _ a' w' (by omega) (by omega) (by simpa using hsz) (fun j hj=>by
        by_cases e:t=j
        · subst e
          simp [show t < listed.size by omega]
        · rw [getD_set_ne true e,hls j hj]
          simp
          omega) h'
    refine ⟨(fun h0=>by rw [h0] at hmem; cases hmem),fun i hi=>?_⟩
    obtain rfl:=hready i hi
    rw [List.drop_eq_getElem_cons htl] at h
    unfold wpList at h
    unfold wpOp
    have hg:l.toArray[i]?=some l[i]:=by simp [htl]
    rw [hg]
    dsimp only
    split
    · rename_i hw
      rw [if_pos hw] at h
      exact h.imp (Oper.wp_mono hstep) id
    · rename_i hw
      rw [if_neg hw] at h
      exact hstep _ _ h
/-! the head: any order -/
structure Inv (P:Program) (l:List Oper) (n N B1:Nat) (w1:World) (Fc0:List (Nat × Value)) (Ds:List DV) (vals:Nat→Value) (ents:Nat→List Ent) (listed:Array Bool) (a:Act) (w:World):Prop where
  size:listed.size=l.length
  know:a.tmps.size=N∧a.defers=[]
  done:∀ j d D,j < n→listed.getD j false=true→dstAt l.toArray j=some d→Ds[j]?=some D→a.tmps[d]?=some (vals j)∧D.ok (vals j) (ents j) w
  base:∀ s v,look Fc0 s=some v→(∀ j,j < n→listed.getD j false=true→dstAt l.toArray j ≠ some s)→a.tmps[s]?=some v
  has:Has B1 w ((List.range n).flatMap fun j=>if listed.getD j false=true then ents j else [])
  fr:Fr0 w1 w
  tail:∀ t,n≤t→listed.getD t false=false
  closed:∀ j o,l[j]?=some o→listed.getD j false=true→∀ e∈o.after,Region.binds .any e=true→listed.getD e.on false=true
  links:∀ j o s,j < n→l[j]?=some o→listed.getD j false=true→opnd o=some s→safeB l.toArray n j s=true→LinkV o (a.tmps.getD s undef) (vals j)
  links2:∀ j o,j < n→l[j]?=some o→listed.getD j false=true→bldB o=true→(∀ s∈tmpsOf o,safeB l.toArray n j s=true)→∃ w1 w2,(execOp a.eval o).run P w1=.ok (.value (vals j)) w2
theorem flatMap_same {α:Type} (f f':Nat→List α):∀ (r:List Nat),(∀ j∈r,f' j=f j)→r.flatMap f'=r.flatMap f
  | [],_=>rfl
  | x::t,h=>by simp only [List.flatMap_cons]; rw [h x (by simp),flatMap_same f f' t fun j hj=>h j (by simp [hj])]
theorem flatMap_set_perm {α:Type} (f f':Nat→List α) (i:Nat) (X:List α) (hi:f i=[]) (hi':f' i=X) (hne:∀ j,j ≠ i→f' j=f j):∀ (r:List Nat),r.Nodup→i∈r→(r.flatMap f').Perm (X++r.flatMap f)
  | [],_,h=>by simp at h
  | x::t,hnd,h=>by
    rw [List.nodup_cons] at hnd
    by_cases e:x=i
    · subst e
      have:t.flatMap f'=t.flatMap f:=flatMap_same f f' t fun j hj=>hne j (fun e=>hnd.1 (e ▸ hj))
      simp [hi,hi',this]
    · have hit:i∈t:=by simpa [Ne.symm e] using h
      have ih:=flatMap_set_perm f f' i X hi hi' hne t hnd.2 hit
      simp only [List.flatMap_cons,hne x e]
      refine (List.Perm.append_left _ ih).trans ?_
      rw [← List.append_assoc,← List.append_assoc]
      exact List.Perm.append_right _ List.perm_append_comm
theorem sublist_flatMap {α:Type} (f:Nat→List α) (i:Nat):∀ (r:List Nat),i∈r→(f i).Sublist (r.flatMap f)
  | [],h=>by simp at h
  | x::t,h=>by
    simp only [List.flatMap_cons]
    by_cases e:i=x
    · subst e; exact List.sublist_append_left _ _
    · exact (sublist_flatMap f i t (by simpa [e] using h)).trans (List.sublist_append_right _ _)
theorem mem_tmpsOf {o:Oper} {s:Nat} (h:Operand.tmp s∈o.op.operands):s∈tmpsOf o:=List.mem_filterMap.2 ⟨.tmp s,by simpa using h,rfl⟩
theorem not_select {o:Oper} (h:notSelect o=true):∀ cs b,o.op ≠ .select cs b:=by
  intro cs b e
  simp [notSelect,e] at h
theorem getD_both_iff {listed:Array Bool} {j:Nat} (h:j < listed.size):listed.getD j true=listed.getD j false:=by simp [h]
theorem Inv.step0 {vals:Nat→Value} {ents:Nat→List Ent} {listed:Array Bool} {a:Act} {w:World} {i:Nat} {o:Oper} (hok:RgOk l.toArray n late) (hl:Ds.length=n)
    (hparts:∀ i o,i < n→l[i]?=some o→∃ d D,o.dst=some d∧Ds[i]?=some D∧Ob P l.toArray N B1 w1 (factsC (l.take n) Ds Fc0 i) (factsE (l.take n) Ds i) o D∧fresh (factsC (l.take n) Ds Fc0 i) (factsE (l.take n) Ds i) d D)
    (hN:∀ i o d,i < n→l[i]?=some o→o.dst=some d→d < N) (hB:B1≤w1.heap.size)
    (inv:Inv P l n N B1 w1 Fc0 Ds vals ents listed a w) (hi:i < n) (hr:i∈Region.ready .any l.toArray listed)
    (hol:l[i]?=some o) :
    (Region.wanted o (yielded l.toArray a.tmps)=true∧Yl P (fun v w'=>∃ L',Inv P l n N B1 w1 Fc0 Ds (fun j=>if j=i then v else vals j) (fun j=>if j=i then L' else ents j) (listed.setIfInBounds i true) (a.put o.dst v) w') ((execOp a.eval o).run P w)∧(needQ o=true→∃ v,(execOp a.eval o).run P w=.ok (.value v) w)) ∨
    (Region.wanted o (yielded l.toArray a.tmps)=false∧Inv P l n N B1 w1 Fc0 Ds (fun j=>if j=i then undef else vals j) (fun j=>if j=i then [] else ents j) (listed.setIfInBounds i true) (a.put o.dst undef) w):=by
  obtain ⟨hun,o',ho,hall⟩:=mem_ready.1 hr
  have hil:i < l.length:=by have:=hok.le; simp at this; omega
  have hol':l[i]?=some o':=by simpa using ho
  rw [hol] at hol'
  obtain rfl:=Option.some.inj hol'
  have hunf:listed.getD i false=false:=by rw [← getD_both_iff (by rw [inv.size]; exact hil)]; exact hun
  obtain ⟨d,D,hd,hD,hob,hfr⟩:=hparts i o hi hol
  have hdi:dstAt l.toArray i=some d:=by simp [dstAt,hol,hd]
  -- the slots, as the text has them
  have hds:∃ ds:Nat→Nat,∀ j,j < n→dstAt l.toArray j=some (ds j):=by
    refine ⟨fun j=>(dstAt l.toArray j).getD 0,fun j hj=>?_⟩
    have hjl:j < l.length:=by have:=hok.le; simp at this; omega
    obtain ⟨d',hd'⟩:=hok.dst j l[j] (by simp [hjl]) hj
    simp [dstAt,hjl,hd']
  obtain ⟨ds,hds⟩:=hds
  have htake:(l.take n).length=n:=by have:=hok.le; simp at this; simp [this]
  have hds':∀ j o,(l.take n)[j]?=some o→o.dst=some (ds j):=by
    intro j o' hj
    have hjn:j < n:=by have:=(List.getElem?_eq_some_iff.1 hj).1; omega
    rw [List.getElem?_take_of_lt hjn] at hj
    have:=hds j hjn
    simpa [dstAt,hj] using this
  have hfr':∀ j o D,(l.take n)[j]?=some o→Ds[j]?=some D→fresh (factsC (l.take n) Ds Fc0 j) (factsE (l.take n) Ds j) (ds j) D:=by
    intro j o' D' hj hDj
    have hjn:j < n:=by have:=(List.getElem?_eq_some_iff.1 hj).1; omega
    have hj':=hj
    rw [List.getElem?_take_of_lt hjn] at hj'
    obtain ⟨d2,D2,h1,h2,_,h4⟩:=hparts j o' hjn hj'
    rw [hDj] at h2
    obtain rfl:=Option.some.inj h2
    have:=hds' j o' hj
    rw [h1] at this
    obtain rfl:=Option.some.inj this
    exact h4
  have listed_of:∀ j s,j < n→j ≠ i→s∈looks l.toArray o→dstAt l.toArray j=some s→(j < i∧listed.getD j false=true)∨(i < j∧listed.getD j false=false):=by
    intro j s hj hne hs hdj
    rcases hok.use i o s j ho hi hs hj hne hdj with ⟨h1,h2⟩ | ⟨h1,oj,h2,h3⟩
    · obtain ⟨e,he,hb,hon⟩:=waits_spec h2
      exact .inl ⟨h1,hon ▸ hall e he hb⟩
    · refine .inr ⟨h1,?_⟩
      obtain ⟨e,he,hb,hon⟩:=waits_spec h3
      cases hj2:listed.getD j false with
      | false=>rfl
      | true =>
        have:=inv.closed j oj (by simpa using h2) hj2 e he hb
        rw [hon,hunf] at this
        cases this
  have valueC:∀ s v,s∈looks l.toArray o→look (factsC (l.take n) Ds Fc0 i) s=some v→a.tmps[s]?=some v:=by
    intro s v hs hv
    rcases factsC_src (Fc0:=Fc0) hds' (by rw [hl,htake]) hfr' i (by omega) s v hv with ⟨j,hj,h1,h2⟩ | ⟨h1,h2⟩
    · have hjn:j < n:=by omega
      rcases listed_of j s hjn (by omega) hs (by rw [hds j hjn,h1]) with ⟨_,h3⟩ | ⟨h3,_⟩
      · obtain ⟨h4,h5⟩:=inv.done j s _ hjn h3 (by rw [hds j hjn,h1]) h2
        rw [h4,h5.1]
      · omega
    · refine inv.base s v h1 fun j hjn hj2 hdj=>?_
      by_cases hji:j=i
      · subst hji; rw [hunf] at hj2; cases hj2
      · rcases listed_of j s hjn hji hs hdj with ⟨h3,_⟩ | ⟨_,h3⟩
        · rw [hds j hjn] at hdj
          exact h2 j h3 (Option.some.inj hdj)
        · rw [h3] at hj2; cases hj2
  have hwant:∀ b,wantedAs l.toArray (factsC (l.take n) Ds Fc0 i) o=some b→Region.wanted o (yielded l.toArray a.tmps)=b:=by
    intro b hb
    unfold wantedAs at hb
    unfold Region.wanted
    cases hg:o.guard with
    | none=>rw [hg] at hb; simpa using hb
    | some gw =>
      obtain ⟨j,wt⟩:=gw
      rw [hg] at hb
      dsimp only at hb ⊢
      cases hs:(l.toArray[j]?).bind (·.dst) with
      | none=>rw [hs] at hb; simp at hb
      | some s =>
        rw [hs] at hb
        simp only [Option.bind_some] at hb
        cases hv:look (factsC (l.take n) Ds Fc0 i) s with
        | none=>rw [hv] at hb; simp at hb
        | some v =>
          rw [hv] at hb
          have h5:=valueC s _ (List.mem_append_right _ (by rw [hg]; dsimp only; rw [hs]; simp)) hv
          unfold yielded
          rw [hs]
          simp only [Option.bind_some,h5]
          cases v with
          | bool c =>
            simp at hb
            rw [← hb]
            cases c <;> cases wt <;> rfl
          | _ =>
            simp at hb
            subst hb
            rfl
  have next:∀ v L' w',D.ok v L' w'→Fr0 w w'→Has w.heap.size w' L'→(∀ s,opnd o=some s→LinkV o (a.tmps.getD s undef) v)→(bldB o=true→∃ w1 w2,(execOp a.eval o).run P w1=.ok (.value v) w2)→Inv P l n N B1 w1 Fc0 Ds (fun j=>if j=i then v else vals j) (fun j=>if j=i then L' else ents j) (listed.setIfInBounds i true) (a.put (some d) v) w':=by
    intro v L' w' hv hf hn hlk hlb
    have hdN:=hN i o d hi hol hd
    refine ⟨by simpa using inv.size,⟨by simpa [Act.put] using inv.know.1,inv.know.2⟩,fun j dj Dj hj hlj hdj hDj=>?_,fun s u hu hne=>?_,?_,inv.fr.trans0 hf,fun t ht=>?_,fun j oj hj hlj e he hb=>?_,fun j oj s hj hlj hlst hos hsf=>?_,fun j oj hj hlj hlst hbj hsf=>?_⟩
    · by_cases hji:j=i
      · subst hji
        rw [hdi] at hdj
        obtain rfl:=Option.some.inj hdj
        rw [hD] at hDj
        obtain rfl:=Option.some.inj hDj
        refine ⟨?_,by simpa using hv⟩
        simp [Act.put,inv.know.1,hdN]
      · rw [getD_set_ne false (Ne.symm hji)] at hlj
        obtain ⟨h1,h2⟩:=inv.done j dj Dj hj hlj hdj hDj
        have hne:d ≠ dj:=fun e=>hji (hok.uniq j i d hj hi (by rw [hdj,e]) hdi)
        refine ⟨?_,by simpa [hji] using DV.ok_stable hf h2⟩
        simp only [Act.put,if_neg hji]
        rw [Array.getElem?_setIfInBounds,if_neg hne]
        exact h1
    · have hsd:d ≠ s:=fun e=>hne i hi (by simp [show i < listed.size by rw [inv.size]; exact hil]) (by rw [hdi,e])
      simp only [Act.put]
      rw [Array.getElem?_setIfInBounds,if_neg hsd]
      refine inv.base s u hu fun j hj hlj=>?_
      by_cases hji:j=i
      · subst hji; rw [hunf] at hlj; cases hlj
      · exact hne j hj (by rw [getD_set_ne false (Ne.symm hji)]; exact hlj)
    · have hp:=flatMap_set_perm (fun j=>if listed.getD j false=true then ents j else []) (fun j=>if (listed.setIfInBounds i true).getD j false=true then (if j=i then L' else ents j) else []) i L'
        (by simp only [hunf]; simp) (by simp [show i < listed.size by rw [inv.size]; exact hil]) (fun j hji=>by simp only [getD_set_ne false (Ne.symm hji),if_neg hji]) (List.range n) List.nodup_range (List.mem_range.2 hi)
      exact (inv.has.new hf (Nat.le_trans hB inv.fr.size) hn).perm hp
    · rw [getD_set_ne false (by omega)]
      exact inv.tail t ht
    · by_cases hji:j=i
      · subst hji
        rw [hol] at hj
        obtain rfl:=Option.some.inj hj
        have hlt:=hok.back j o ho e he hb
        rw [getD_set_ne false (by omega)]
        exact hall e he hb
      · rw [getD_set_ne false (Ne.symm hji)] at hlj
        have h9:=inv.closed j oj hj hlj e he hb
        by_cases hei:i=e.on
        · rw [← hei,hunf] at h9; cases h9
        · rw [getD_set_ne false hei]; exact h9
    · have hsi:d=s→i < j:=fun e=>by
        have h1:=List.all_eq_true.1 hsf i (List.mem_range.2 hi)
        rw [hdi,e] at h1
        simpa [Nat.blt_eq] using h1
      by_cases hji:j=i
      · subst hji
        rw [hol] at hlj
        obtain rfl:=Option.some.inj hlj
        have hne:d ≠ s:=fun e=>absurd (hsi e) (by omega)
        rw [getD_put hne]
        simpa using hlk s hos
      · rw [getD_set_ne false (Ne.symm hji)] at hlst
        have hne:d ≠ s:=fun e=>by
          have hlt:=hsi e
          rcases hok.use j oj s i (by simpa using hlj) hj (opnd_looks hos) hi (Ne.symm hji) (by rw [hdi,e]) with ⟨_,h2⟩ | ⟨h2,_⟩
          · obtain ⟨e2,he2,hb2,hon⟩:=waits_spec h2
            have:=inv.closed j oj hlj hlst e2 he2 hb2
            rw [hon,hunf] at this
            cases this
          · omega
        rw [getD_put hne]
        simp only [if_neg hji]
        exact inv.links j oj s hj hlj hlst hos hsf
    · have hcg:∀ q,(∀ s∈tmpsOf q,d ≠ s)→notSelect q=true→execOp (a.put (some d) v).eval q=execOp a.eval q:=fun q hq hns=>execOp_congr q (not_select hns) fun x hx=>by
        cases x with
        | tmp s =>
          show (a.put (some d) v).tmps.getD s undef=a.tmps.getD s undef
          exact getD_put (hq s (mem_tmpsOf hx))
        | _=>rfl
      have hns:notSelect oj=true:=by
        obtain ⟨d2,op2,ty2,pos2,aft2,g2⟩:=oj
        cases g2 with
        | some g=>simp [bldB] at hbj
        | none=>cases op2 <;> first | (simp [bldB] at hbj; done) | rfl
      have hsi:∀ s∈tmpsOf oj,d=s→i < j:=fun s hs e=>by
        have h1:=List.all_eq_true.1 (hsf s hs) i (List.mem_range.2 hi)
        rw [hdi,e] at h1
        simpa [Nat.blt_eq] using h1
      by_cases hji:j=i
      · subst hji
        rw [hol] at hlj
        obtain rfl:=Option.some.inj hlj
        rw [hcg o (fun s hs e=>absurd (hsi s hs e) (by omega)) hns]
        simpa using hlb hbj
      · rw [getD_set_ne false (Ne.symm hji)] at hlst
        have hne:∀ s∈tmpsOf oj,d ≠ s:=fun s hs e=>by
          have hlt:=hsi s hs e
          rcases hok.use j oj s i (by simpa using hlj) hj (List.mem_append_left _ hs) hi (Ne.symm hji) (by rw [hdi,e]) with ⟨_,h2⟩ | ⟨h2,_⟩
          · obtain ⟨e2,he2,hb2,hon⟩:=waits_spec h2
            have:=inv.closed j oj hlj hlst e2 he2 hb2
            rw [hon,hunf] at this
            cases this
          · omega
        rw [hcg oj hne hns]
        simp only [if_neg hji]
        exact inv.links2 j oj hj hlj hlst hbj hsf
  obtain ⟨hob,hqt⟩:=hob
  rcases hob with ⟨hw,hy⟩ | ⟨hw,rfl⟩
  · refine .inl ⟨hwant true hw,?_⟩
    -- a frame that has the text's facts, and that the operation cannot tell from this one
    obtain ⟨a',hsz,hdf,ha1,ha2⟩:∃ a':Act,a'.tmps.size=N∧a'.defers=[]∧(∀ s v,look (factsC (l.take n) Ds Fc0 i) s=some v→a'.tmps[s]?=some v)∧(∀ s,s∈tmpsOf o→a'.tmps[s]?=a.tmps[s]?):=by
      have hlk:∀ s v,look (factsC (l.take n) Ds Fc0 i) s=some v→s < N:=by
        intro s v hv
        rcases factsC_src (Fc0:=Fc0) hds' (by rw [hl,htake]) hfr' i (by omega) s v hv with ⟨j,hj,h1,h2⟩ | ⟨h1,h2⟩
        · have hjl:j < l.length:=by omega
          exact hN j l[j] s (by omega) (by simp [hjl]) (by have:=hds j (by omega); rw [h1] at this; simpa [dstAt,hjl] using this)
        · by_cases hex:∃ j,j < n∧dstAt l.toArray j=some s
          · obtain ⟨j,hj,hdj⟩:=hex
            have hjl:j < l.length:=by have:=hok.le; simp at this; omega
            exact hN j l[j] s hj (by simp [hjl]) (by simpa [dstAt,hjl] using hdj)
          · have:=inv.base s v h1 (fun j hj _ hdj=>hex ⟨j,hj,hdj⟩)
            have:=(Array.getElem?_eq_some_iff.1 this).1
            rw [inv.know.1] at this
            exact this
      refine ⟨⟨Array.ofFn (n:=N) fun s=>if (tmpsOf o).any (Nat.beq s.1)=true then a.tmps.getD s.1 undef else (look (factsC (l.take n) Ds Fc0 i) s.1).getD (a.tmps.getD s.1 undef),[]⟩,by simp,rfl,fun s v hv=>?_,fun s hs=>?_⟩
      · have hsN:=hlk s v hv
        simp only [Array.getElem?_ofFn,hsN,dif_pos]
        by_cases hu:(tmpsOf o).any (Nat.beq s)=true
        · rw [if_pos hu]
          have hmem:s∈tmpsOf o:=by
            obtain ⟨x,hx,hb⟩:=List.any_eq_true.1 hu
            rw [Nat.eq_of_beq_eq_true hb]; exact hx
          have:=valueC s v (List.mem_append_left _ hmem) hv
          simp [this]
        · rw [if_neg hu,hv]; rfl
      · have hu:(tmpsOf o).any (Nat.beq s)=true:=List.any_eq_true.2 ⟨s,hs,by simp⟩
        by_cases hsN:s < N
        · simp only [Array.getElem?_ofFn,hsN,dif_pos]
          rw [if_pos hu]
          have:s < a.tmps.size:=by rw [inv.know.1]; exact hsN
          simp [this]
        · simp only [Array.getElem?_ofFn,hsN]
          rw [Array.getElem?_eq_none (by rw [inv.know.1]; omega)]
          simp
    have hev:execOp a.eval o=execOp a'.eval o:=by
      refine execOp_congr o (not_select (hok.sel i o ho)) fun x hx=>?_
      cases x with
      | tmp s =>
        have:=ha2 s (mem_tmpsOf hx)
        simp only [Act.eval,Array.getD_eq_getD_getElem?,this]
      | _=>rfl
    have hrc:RC N (factsC (l.take n) Ds Fc0 i) (factsE (l.take n) Ds i) o B1 w1 a' w:=by
      refine ⟨⟨hsz,hdf,ha1⟩,inv.fr,fun s E hE hu=>?_⟩
      have hmem:s∈tmpsOf o:=by
        obtain ⟨x,hx,hb⟩:=List.any_eq_true.1 hu
        rw [Nat.eq_of_beq_eq_true hb]; exact hx
      obtain ⟨j,hj,h1,_,h2⟩:=factsE_src hds' (by rw [hl,htake]) i (by omega) s E hE
      have hjn:j < n:=by omega
      rcases listed_of j s hjn (by omega) (List.mem_append_left _ hmem) (by rw [hds j hjn,h1]) with ⟨_,h3⟩ | ⟨h3,_⟩
      · obtain ⟨h4,h5⟩:=inv.done j s _ hjn h3 (by rw [hds j hjn,h1]) h2
        have hsub:=sublist_flatMap (fun j=>if listed.getD j false=true then ents j else []) j (List.range n) (List.mem_range.2 hjn)
        simp only [h3,if_true] at hsub
        exact ⟨vals j,ents j,by rw [ha2 s hmem]; exact h4,h5,inv.has.pick hsub⟩
      · omega
    have hyl:=hy a' w hrc
    rw [← hev] at hyl
    have hyl1:Yl P (fun v w'=>Meets D w v w'∧∀ s,opnd o=some s→LinkV o (a.tmps.getD s undef) v) ((execOp a.eval o).run P w):=by
      cases ho2:opnd o with
      | none=>exact hyl.mono fun v w' h=>⟨h,fun s hs=>by cases hs⟩
      | some s=>exact (yl_link ho2 hyl).mono fun v w' h=>⟨h.1,fun s' hs'=>by cases hs'; exact h.2⟩
    have hyl2:Yl P (fun v w'=>(Meets D w v w'∧∀ s,opnd o=some s→LinkV o (a.tmps.getD s undef) v)∧(bldB o=true→∃ w1 w2,(execOp a.eval o).run P w1=.ok (.value v) w2)) ((execOp a.eval o).run P w):=by
      cases hb2:bldB o with
      | false=>exact hyl1.mono fun v w' h=>⟨h,fun h=>by cases h⟩
      | true=>exact (yl_bld hb2 hyl1).mono fun v w' h=>⟨h.1,fun _=>h.2⟩
    exact ⟨hyl2.mono fun v w' ⟨⟨⟨L',h1,h2,h3⟩,h4⟩,h5⟩=>⟨L',by rw [hd]; exact next v L' w' h1 h2 h3 h4 h5⟩,fun hq=>by
      obtain ⟨v,hv⟩:=hqt hq a' w hrc
      exact ⟨v,by rw [hev]; exact hv⟩⟩
  · refine .inr ⟨hwant false hw,?_⟩
    rw [hd]
    exact next undef [] w ⟨rfl,rfl⟩ (.refl _ _) (.nil _ _) (fun s hs=>by
      unfold wantedAs at hw
      rw [opnd_guard hs] at hw
      cases hw) fun hb=>by
      unfold wantedAs at hw
      rw [bldB_guard hb] at hw
      cases hw
theorem Inv.step {vals:Nat→Value} {ents:Nat→List Ent} {listed:Array Bool} {a:Act} {w:World} {i:Nat} {K:Act→World→Prop} (hok:RgOk l.toArray n late) (hl:Ds.length=n)
    (hparts:∀ i o,i < n→l[i]?=some o→∃ d D,o.dst=some d∧Ds[i]?=some D∧Ob P l.toArray N B1 w1 (factsC (l.take n) Ds Fc0 i) (factsE (l.take n) Ds i) o D∧fresh (factsC (l.take n) Ds Fc0 i) (factsE (l.take n) Ds i) d D)
    (hN:∀ i o d,i < n→l[i]?=some o→o.dst=some d→d < N) (hB:B1≤w1.heap.size)
    (inv:Inv P l n N B1 w1 Fc0 Ds vals ents listed a w) (hi:i < n) (hr:i∈Region.ready .any l.toArray listed)
    (k:∀ v L' a' w',Inv P l n N B1 w1 Fc0 Ds (fun j=>if j=i then v else vals j) (fun j=>if j=i then L' else ents j) (listed.setIfInBounds i true) a' w'→K a' w'):wpOp P l.toArray Q i K a w:=by
  obtain ⟨hun,o,ho,hall⟩:=mem_ready.1 hr
  have hol:l[i]?=some o:=by simpa using ho
  unfold wpOp
  rw [ho]
  dsimp only
  rcases inv.step0 hok hl hparts hN hB hi hr hol with ⟨hw,hy,_⟩ | ⟨hw,h⟩
  · rw [if_pos hw]
    left
    exact wp_of_yl hy fun v w' ⟨L',h⟩=>k v L' _ _ h
  · rw [hw]
    simp only [Bool.false_eq_true,if_false]
    exact k undef [] _ _ h
end
end Go.Fw
end

section
/- The region's law; and the laws by which its walk goes. -/
namespace Go.Fw
open Go
def FeOk:Fes→Act→World→List Ent→Prop
  | [],_,_,L=>L=[]
  | (n,E)::t,a,w,L=>∃ v L1 L2,a.tmps[n]?=some v∧E v L1 w∧FeOk t a w L2∧L=L1++L2
def dstB (l:List Oper) (N:Nat):Bool:=l.all fun o=>match o.dst with | none=>true | some d=>Nat.blt d N
section
variable {P:Program} {l:List Oper} {n N B1:Nat} {w1:World} {Fc0:List (Nat × Value)} {Ds:List DV} {Q:Exit→Act→World→Prop} {late:List Nat}
theorem exists_ready (hok:RgOk l.toArray n late) {listed:Array Bool} (hsz:listed.size=l.length):∀ j,j < l.length→listed.getD j false=false→∃ i,i∈Region.ready .any l.toArray listed:=by
  intro j
  induction j using Nat.strongRecOn with
  | _ j ih =>
    intro hj hl
    by_cases h:∀ e∈(l[j]).after,Region.binds .any e=true→listed.getD e.on false=true
    · exact ⟨j,mem_ready.2 ⟨by rw [getD_both_iff (by omega)]; exact hl,l[j],by simp [hj],h⟩⟩
    · have:∃ e,e∈(l[j]).after∧Region.binds .any e=true∧listed.getD e.on false=false:=by
        apply Classical.byContradiction
        intro hn
        apply h
        intro e he hb
        cases hx:listed.getD e.on false with
        | true=>rfl
        | false=>exact absurd ⟨e,he,hb,hx⟩ hn
      obtain ⟨e,he,hb,hx⟩:=this
      have hlt:=hok.back j l[j] (by simp [hj]) e he hb
      exact ih e.on hlt (by omega) hx
theorem wpAny_head (hok:RgOk l.toArray n []) (hl:Ds.length=n)
    (hparts:∀ i o,i < n→l[i]?=some o→∃ d D,o.dst=some d∧Ds[i]?=some D∧Ob P l.toArray N B1 w1 (factsC (l.take n) Ds Fc0 i) (factsE (l.take n) Ds i) o D∧fresh (factsC (l.take n) Ds Fc0 i) (factsE (l.take n) Ds i) d D)
    (hN:∀ i o d,i < n→l[i]?=some o→o.dst=some d→d < N) (hB:B1≤w1.heap.size)
    (fin:∀ vals ents listed a w,Inv P l n N B1 w1 Fc0 Ds vals ents listed a w→(∀ j,j < n→listed.getD j false=true)→wpList P l.toArray Q (l.drop n) a w) :
    ∀ (m:Nat) (U:List Nat) (vals:Nat→Value) (ents:Nat→List Ent) (listed:Array Bool) (a:Act) (w:World),U.length=m→U.Nodup→(∀ j,j∈U ↔ j < l.length∧listed.getD j false=false) →
      Inv P l n N B1 w1 Fc0 Ds vals ents listed a w→wpAny P .any l.toArray Q m listed a w:=by
  intro m
  induction m with
  | zero =>
    intro U vals ents listed a w hU hnd hmem inv
    have hU0:U=[]:=List.eq_nil_of_length_eq_zero hU
    subst hU0
    have hall:∀ j,j < l.length→listed.getD j false=true:=fun j hj=>by
      cases hx:listed.getD j false with
      | true=>rfl
      | false=>have:=(hmem j).2 ⟨hj,hx⟩; simp at this
    have hn:n=l.length:=by
      have h1:=hok.le
      simp at h1
      by_cases e:n < l.length
      · have:=inv.tail n (Nat.le_refl _); rw [hall n e] at this; cases this
      · omega
    have h:=fin vals ents listed a w inv (fun j hj=>hall j (by omega))
    refine wpAny_tail hok 0 l.length listed a w (by omega) (by omega) inv.size (fun j hj=>?_) (by rw [← hn]; exact h)
    rw [getD_both_iff (by rw [inv.size]; exact hj),hall j hj]
    simp [hj]
  | succ m ih =>
    intro U vals ents listed a w hU hnd hmem inv
    by_cases hall:∀ j,j < n→listed.getD j false=true
    · have h:=fin vals ents listed a w inv hall
      have hle:=hok.le
      simp at hle
      have hcount:m + 1=l.length - n:=by
        rw [← hU]
        have:U.Perm ((List.range (l.length - n)).map (· + n)):=by
          refine (List.perm_ext_iff_of_nodup hnd ?_).2 fun j=>?_
          · exact List.Pairwise.map (R:=(· ≠ ·)) (S:=(· ≠ ·)) (· + n) (fun x y h=>by simp; exact h) List.nodup_range
          · rw [hmem]
            simp only [List.mem_map,List.mem_range]
            constructor
            · rintro ⟨h1,h2⟩
              refine ⟨j - n,?_,?_⟩
              · by_cases e:j < n
                · rw [hall j e] at h2; cases h2
                · omega
              · by_cases e:j < n
                · rw [hall j e] at h2; cases h2
                · omega
            · rintro ⟨x,h1,rfl⟩
              exact ⟨by omega,inv.tail _ (by omega)⟩
        rw [this.length_eq]; simp
      refine wpAny_tail hok (m + 1) n listed a w (by omega) (Nat.le_refl _) inv.size (fun j hj=>?_) h
      rw [getD_both_iff (by rw [inv.size]; exact hj)]
      by_cases e:j < n
      · rw [hall j e]; simp [e]
      · rw [inv.tail j (by omega)]; simp [e]
    · obtain ⟨j0,hj0,hl0⟩:∃ j,j < n∧listed.getD j false=false:=by
        apply Classical.byContradiction
        intro hn
        apply hall
        intro j hj
        cases hx:listed.getD j false with
        | true=>rfl
        | false=>exact absurd ⟨j,hj,hx⟩ hn
      have hle:=hok.le
      simp at hle
      refine ⟨fun h0=>?_,fun i hi=>?_⟩
      · obtain ⟨i,hi⟩:=exists_ready hok inv.size j0 (by omega) hl0
        rw [h0] at hi; cases hi
      · have hin:i < n:=by
          apply Classical.byContradiction
          intro hge
          obtain ⟨_,o,ho,hall2⟩:=mem_ready.1 hi
          have key:=anc_closed (ops:=l.toArray) (S:=fun j=>listed.getD j false=true) (fun i' o' hi' hs' e he hb=>inv.closed i' o' (by simpa using hi') hs' e he hb) 24 o j0 (fun e he hb=>hall2 e he hb) ((hok.tail i o ho (by omega) j0 (by omega)).resolve_left fun h=>by cases h)
          rw [hl0] at key
          cases key
        have hil:i < l.length:=by omega
        have hiU:i∈U:=(hmem i).2 ⟨hil,by
          have h1:=(mem_ready.1 hi).1
          rw [getD_both_iff (by rw [inv.size]; exact hil)] at h1
          exact h1⟩
        refine inv.step hok hl hparts hN hB hin hi fun v L' a' w' inv'=>?_
        refine ih (U.erase i) _ _ _ _ _ ?_ (hnd.erase i) (fun j=>?_) inv'
        · rw [List.length_erase_of_mem hiU,hU]; simp
        · rw [hnd.mem_erase_iff,hmem]
          by_cases e:j=i
          · subst e
            simp [show j < listed.size by rw [inv.size]; exact hil]
          · rw [getD_set_ne false (Ne.symm e)]
            simp [e]
theorem RG.mono {P:Program} {ops:Array Oper} {K K':List (Nat × Value)→Fes→Prop} (hm:∀ Fc Fe,K Fc Fe→K' Fc Fe):∀ (rest:List Oper) (Fc:List (Nat × Value)) (Fe:Fes),RG P ops N B1 w1 K Fc Fe rest→RG P ops N B1 w1 K' Fc Fe rest
  | [],Fc,Fe,h=>hm Fc Fe h
  | o::rest,Fc,Fe,⟨d,D,h1,h2,h3,h4⟩=>⟨d,D,h1,h2,h3,RG.mono hm rest _ _ h4⟩
def RegAny (P:Program) (Q:Exit→Act→World→Prop) (l:List Oper) (a:Act) (w:World):Prop:=wpAny P .any l.toArray Q l.toArray.size (Array.replicate l.toArray.size false) a { w with drawn:=w.drawn + 1 }
theorem any_rgL {F:List (Nat × Value)} {L:List Ent} {M:Nat→Prop} {w0 w:World} {a:Act} (n:Nat) (hB:rgB l.toArray n=true) (hd:dstB (l.take n) N=true) (hs:St N F L M w0 a w)
    (h:RG P l.toArray N w.heap.size w (fun Fc Fe=>∀ a' w' L',Fr0 w w'→FeOk Fe a' w' L'→St N Fc (L'++L) M w0 a' w'→Links P l n a'→wpList P l.toArray Q (l.drop n) a' w') F [] (l.take n)) :
    RegAny P Q l a w:=by
  have hok:RgOk l.toArray n []:=rgB_spec hB
  have hle:=hok.le
  simp at hle
  have htl:(l.take n).length=n:=by simp [hle]
  obtain ⟨Ds,hlen,hK,hparts⟩:=RG.parts F (l.take n) [] [] rfl h
  simp only [List.nil_append,htl] at hlen hK hparts
  have hget:∀ i o,i < n→l[i]?=some o→(l.take n)[i]?=some o:=fun i o hi ho=>by rw [List.getElem?_take_of_lt hi]; exact ho
  have hparts':∀ i o,i < n→l[i]?=some o→∃ d D,o.dst=some d∧Ds[i]?=some D∧Ob P l.toArray N w.heap.size w (factsC (l.take n) Ds F i) (factsE (l.take n) Ds i) o D∧fresh (factsC (l.take n) Ds F i) (factsE (l.take n) Ds i) d D :=
    fun i o hi ho=>hparts i o (by simp) (hget i o hi ho)
  have hN:∀ i o d,i < n→l[i]?=some o→o.dst=some d→d < N:=fun i o d hi ho hod=>by
    have:=List.all_eq_true.1 hd o (List.mem_of_getElem? (hget i o hi ho))
    rw [hod] at this
    exact lt_of_blt this
  unfold RegAny
  have hdr:Fr0 w { w with drawn:=w.drawn + 1 }:=Fr.drew w
  have hU:((List.range l.length).length=l.toArray.size):=by simp
  refine wpAny_head (w1:=w) (B1:=w.heap.size) (Ds:=Ds) (Fc0:=F) hok (by omega) hparts' hN (Nat.le_refl _) ?_ _ (List.range l.length) (fun _=>undef) (fun _=>[]) _ _ _ hU List.nodup_range ?_ ?_
  · intro vals ents listed a' w' inv hall
    have hds:∃ ds:Nat→Nat,∀ j o,(l.take n)[j]?=some o→o.dst=some (ds j):=by
      refine ⟨fun j=>(dstAt l.toArray j).getD 0,fun j o hj=>?_⟩
      have hjn:j < n:=by have:=(List.getElem?_eq_some_iff.1 hj).1; omega
      rw [List.getElem?_take_of_lt hjn] at hj
      obtain ⟨d',hd'⟩:=hok.dst j o (by simpa using hj) hjn
      simp [dstAt,hj,hd']
    obtain ⟨ds,hds⟩:=hds
    have hdsA:∀ j,j < n→dstAt l.toArray j=some (ds j):=fun j hj=>by
      have hjl:j < l.length:=by omega
      have:=hds j l[j] (by rw [List.getElem?_take_of_lt hj]; simp [hjl])
      simp [dstAt,hjl,this]
    have hfr':∀ j o D,(l.take n)[j]?=some o→Ds[j]?=some D→fresh (factsC (l.take n) Ds F j) (factsE (l.take n) Ds j) (ds j) D:=by
      intro j o' D' hj hDj
      have hjn:j < n:=by have:=(List.getElem?_eq_some_iff.1 hj).1; omega
      have hj':=hj
      rw [List.getElem?_take_of_lt hjn] at hj'
      obtain ⟨d2,D2,h1,h2,_,h4⟩:=hparts' j o' hjn hj'
      rw [hDj] at h2
      obtain rfl:=Option.some.inj h2
      have:=hds j o' hj
      rw [h1] at this
      obtain rfl:=Option.some.inj this
      exact h4
    have hknow:Know N (factsC (l.take n) Ds F n) a':=by
      refine ⟨inv.know.1,inv.know.2,fun s v hv=>?_⟩
      rcases factsC_src (Fc0:=F) hds (by omega) hfr' n (by omega) s v hv with ⟨j,hj,h1,h2⟩ | ⟨h1,h2⟩
      · obtain ⟨h4,h5⟩:=inv.done j s _ hj (hall j hj) (by rw [hdsA j hj,h1]) h2
        rw [h4,h5.1]
      · exact inv.base s v h1 fun j hj _ hdj=>by
          rw [hdsA j hj] at hdj
          exact h2 j hj (Option.some.inj hdj)
    have hfe:∀ i,i≤n→∃ L'',FeOk (factsE (l.take n) Ds i) a' w' L''∧L''.Perm ((List.range i).flatMap ents):=by
      intro i
      induction i with
      | zero=>intro _; exact ⟨[],rfl,by simp⟩
      | succ i ih =>
        intro hi
        obtain ⟨L'',h1,h2⟩:=ih (by omega)
        have hil:i < (l.take n).length:=by omega
        have ho:(l.take n)[i]?=some (l.take n)[i]:=List.getElem?_eq_getElem hil
        have hD:Ds[i]?=some (Ds[i]'(by omega)):=List.getElem?_eq_getElem (by omega)
        have hdi:=hds i _ ho
        obtain ⟨h4,h5⟩:=inv.done i (ds i) _ (by omega) (hall i (by omega)) (hdsA i (by omega)) hD
        simp only [factsE,ho,hD,hdi,List.range_succ,List.flatMap_append]
        generalize Ds[i]'(by omega)=D at *
        cases D with
        | c u=>exact ⟨L'',h1,by simp [h5.2]; exact h2⟩
        | e E st =>
          refine ⟨ents i++L'',⟨vals i,ents i,L'',h4,h5,h1,rfl⟩,?_⟩
          simp only [List.flatMap_cons,List.flatMap_nil,List.append_nil]
          exact (List.Perm.append_left _ h2).trans List.perm_append_comm
    obtain ⟨L'',hf1,hf2⟩:=hfe n (Nat.le_refl _)
    have hhas:Has w.heap.size w' L'':=by
      have:(List.range n).flatMap (fun j=>if listed.getD j false=true then ents j else [])=(List.range n).flatMap ents:=flatMap_same _ _ _ fun j hj=>by rw [if_pos (hall j (List.mem_range.1 hj))]
      have hh:=inv.has
      rw [this] at hh
      exact hh.perm hf2
    have hst:St N (factsC (l.take n) Ds F n) (L''++L) M w0 a' w':=⟨hknow,(hs.has.new inv.fr (Nat.zero_le _) hhas),fun e he k hk=>by
      rcases List.mem_append.1 he with he | he
      · exact .inl (Nat.le_trans hs.fr.size (hhas.ge e he k hk))
      · exact hs.own e he k hk,hs.fr.trans0 inv.fr⟩
    refine hK a' w' L'' inv.fr hf1 hst ⟨fun j oj dj s hj hoj hdj hos hsf=>?_,fun j oj dj hj hoj hdj hbj hsf=>?_⟩
    · obtain ⟨d2,D2,h1,h2,_,_⟩:=hparts' j oj hj hoj
      rw [hdj] at h1
      obtain rfl:=Option.some.inj h1
      exact ⟨vals j,(inv.done j dj D2 hj (hall j hj) (by simp [dstAt,hoj,hdj]) h2).1,inv.links j oj s hj hoj (hall j hj) hos hsf⟩
    · obtain ⟨d2,D2,h1,h2,_,_⟩:=hparts' j oj hj hoj
      rw [hdj] at h1
      obtain rfl:=Option.some.inj h1
      obtain ⟨w1,w2,h3⟩:=inv.links2 j oj hj hoj (hall j hj) hbj hsf
      exact ⟨vals j,w1,w2,(inv.done j dj D2 hj (hall j hj) (by simp [dstAt,hoj,hdj]) h2).1,h3⟩
  · intro j
    simp
    intro hj
    simp [Array.getElem?_replicate,hj]
  · refine ⟨by simp,⟨hs.know.size,hs.know.defers⟩,fun j d D hj hl'=>?_,fun s v hv _=>hs.know.at_ s v hv,?_,hdr,fun t _=>?_,fun j o _ hl'=>?_,fun j o s _ _ hl'=>?_,fun j o _ _ hl'=>?_⟩
    · simp [Array.getElem?_replicate] at hl'
      split at hl' <;> simp at hl'
    · have:∀ r:List Nat,r.flatMap (fun j=>if (Array.replicate l.toArray.size false).getD j false=true then ([]:List Ent) else [])=[]:=fun r=>by induction r with | nil=>rfl | cons x t ih=>simp
      rw [this]
      exact .nil _ _
    · simp [Array.getElem?_replicate]
      split <;> simp
    · simp [Array.getElem?_replicate] at hl'
      split at hl' <;> simp at hl'
    · simp [Array.getElem?_replicate] at hl'
      split at hl' <;> simp at hl'
    · simp [Array.getElem?_replicate] at hl'
      split at hl' <;> simp at hl'
/-! Late operations: those of the tail needn't wait for them. -/
def turnB (o:Oper):Bool:=match o.guard,o.op with | none,.move _=>true | none,.assign _=>true | _,_=>false
def lateB (l:List Oper) (n:Nat) (J:List Nat):Bool :=
  (match l[n]? with | some o=>(match o.guard with | none=>notSelect o | _=>false) | none=>false) &&
  ((l.drop (n + 1)).all fun o=>turnB o || J.all fun j=>anc l.toArray 24 o j) &&
  (J.all fun j=>match l[j]? with
    | none=>false
    | some o=>((opnd o).isSome || needQ o) && match o.dst with
      | some d=>((tmpsOf o).all fun s=>(J.all fun j'=>!(dstAt l.toArray j' == some s) || waits o j') && ((l.drop n).all fun o'=>!(o'.dst == some s))) && ((l.drop n).all fun o'=>!(o'.dst == some d) && (!((tmpsOf o').any (Nat.beq d)) || waits o' j))
      | _=>false)
structure Late (l:List Oper) (n:Nat) (J:List Nat):Prop where
  op:∀ j∈J,∃ o d,l[j]?=some o∧((opnd o).isSome=true∨needQ o=true)∧o.dst=some d∧(∀ s∈tmpsOf o,(∀ j'∈J,dstAt l.toArray j'=some s→waits o j'=true)∧∀ t o',n≤t→l[t]?=some o'→o'.dst ≠ some s)∧∀ t o',n≤t→l[t]?=some o'→o'.dst ≠ some d∧(d∈tmpsOf o'→waits o' j=true)
  tl:∀ t o,n < t→l[t]?=some o→turnB o=true∨∀ j∈J,anc l.toArray 24 o j=true
  hd:∃ o,l[n]?=some o∧o.guard=none∧notSelect o=true
theorem mem_drop_at {α:Type} {l:List α} {n t:Nat} {o:α} (h:n≤t) (ho:l[t]?=some o):o∈l.drop n :=
  List.mem_of_getElem? (i:=t - n) (by rw [List.getElem?_drop,show n + (t - n)=t by omega]; exact ho)
theorem lateB_spec {l:List Oper} {n:Nat} {J:List Nat} (h:lateB l n J=true):Late l n J:=by
  unfold lateB at h
  simp only [Bool.and_eq_true] at h
  obtain ⟨⟨h1,h2⟩,h3⟩:=h
  refine ⟨fun j hj=>?_,fun t o ht ho=>?_,?_⟩
  · have h4:=List.all_eq_true.1 h3 j hj
    cases ho:l[j]? with
    | none=>rw [ho] at h4; cases h4
    | some o =>
      rw [ho] at h4
      dsimp only at h4
      rw [Bool.and_eq_true] at h4
      obtain ⟨h4,h5⟩:=h4
      cases hd:o.dst with
      | none=>rw [hd] at h5; cases h5
      | some d =>
        rw [hd] at h5
        dsimp only at h5
        rw [Bool.and_eq_true] at h5
        refine ⟨o,d,rfl,by simpa using h4,hd,fun s hs=>?_,fun t o' ht ho'=>?_⟩
        · have h6:=List.all_eq_true.1 h5.1 s hs
          rw [Bool.and_eq_true] at h6
          exact ⟨fun j' hj' e=>by
            have h7:=List.all_eq_true.1 h6.1 j' hj'
            rw [e] at h7
            simpa using h7,fun t o' ht ho'=>by simpa using List.all_eq_true.1 h6.2 o' (mem_drop_at ht ho')⟩
        · have h6:=List.all_eq_true.1 h5.2 o' (mem_drop_at ht ho')
          simp only [Bool.and_eq_true,Bool.or_eq_true,Bool.not_eq_true',beq_eq_false_iff_ne,ne_eq] at h6
          refine ⟨h6.1,fun hm=>h6.2.resolve_left fun hn=>?_⟩
          have:(tmpsOf o').any (Nat.beq d)=true:=List.any_eq_true.2 ⟨d,hm,by simp⟩
          rw [hn] at this
          cases this
  · have h5:=List.all_eq_true.1 h2 o (mem_drop_at (n:=n + 1) (by omega) ho)
    rw [Bool.or_eq_true] at h5
    exact h5.imp id fun h j hj=>List.all_eq_true.1 h j hj
  · cases ho:l[n]? with
    | none=>rw [ho] at h1; cases h1
    | some o =>
      rw [ho] at h1
      dsimp only at h1
      cases hg:o.guard with
      | some g=>rw [hg] at h1; cases h1
      | none=>rw [hg] at h1; exact ⟨o,rfl,hg,h1⟩
theorem opnd_sel {o:Oper} {s:Nat} (h:opnd o=some s):∀ cs b,o.op ≠ .select cs b:=by
  intro cs b e
  obtain ⟨d,op,ty,pos,aft,g⟩:=o
  cases g <;> simp [opnd] at h
  dsimp only at e
  subst e
  simp at h
theorem needQ_sel {o:Oper} (h:needQ o=true):∀ cs b,o.op ≠ .select cs b:=by
  intro cs b e
  obtain ⟨d,op,ty,pos,aft,g⟩:=o
  dsimp only at e
  subst e
  cases g <;> cases h
theorem needQ_guard {o:Oper} (h:needQ o=true):o.guard=none:=by
  obtain ⟨d,op,ty,pos,aft,g⟩:=o
  cases g with
  | none=>rfl
  | some g=>cases h
theorem late_sel {o:Oper} (h:(opnd o).isSome=true∨needQ o=true):∀ cs b,o.op ≠ .select cs b:=by
  rcases h with h | h
  · obtain ⟨s,hs⟩:=Option.isSome_iff_exists.1 h
    exact opnd_sel hs
  · exact needQ_sel h
theorem late_guard {o:Oper} (h:(opnd o).isSome=true∨needQ o=true):o.guard=none:=by
  rcases h with h | h
  · obtain ⟨s,hs⟩:=Option.isSome_iff_exists.1 h
    exact opnd_guard hs
  · exact needQ_guard h
structure Lag (P:Program) (l:List Oper) (J:List Nat) (listed:Array Bool) (a b:Act) (w:World):Prop where
  size:b.tmps.size=a.tmps.size
  defers:b.defers=a.defers
  same:∀ s,(∀ j∈J,listed.getD j false=false→dstAt l.toArray j ≠ some s)→b.tmps[s]?=a.tmps[s]?
  run:∀ j∈J,listed.getD j false=false→∀ o d,l[j]?=some o→o.dst=some d→∃ v,b.tmps[d]?=some v∧(execOp b.eval o).run P w=.ok (.value v) w
theorem Lag.eq {P:Program} {l:List Oper} {J:List Nat} {listed:Array Bool} {a b:Act} {w:World} (h:Lag P l J listed a b w) (hall:∀ j∈J,listed.getD j false=true):a=b:=by
  have h1:a.tmps=b.tmps:=by
    apply Array.ext h.size.symm
    intro s h2 h3
    have:=h.same s fun j hj hx=>by rw [hall j hj] at hx; cases hx
    rw [Array.getElem?_eq_getElem h2,Array.getElem?_eq_getElem h3] at this
    exact (Option.some.inj this).symm
  have h2:=h.defers
  cases a; cases b
  simp only at h1 h2
  rw [h1,h2]
theorem eval_same {a b:Act} {o:Oper} (hsel:∀ cs b,o.op ≠ .select cs b) (h:∀ s,s∈tmpsOf o→b.tmps[s]?=a.tmps[s]?):execOp a.eval o=execOp b.eval o :=
  execOp_congr o hsel fun x hx=>by
    cases x with
    | tmp s=>simp only [Act.eval,Array.getD_eq_getD_getElem?,h s (mem_tmpsOf hx)]
    | _=>rfl
theorem tm_put {o:Oper} {d:Option Nat} {a:Act} {v:Value} (hsel:∀ cs b,o.op ≠ .select cs b) (hne:∀ s,s∈tmpsOf o→d ≠ some s):execOp (a.put d v).eval o=execOp a.eval o :=
  eval_same hsel fun s hs=>by
    cases d with
    | none=>rfl
    | some d =>
      have:d ≠ s:=fun e=>hne s hs (by rw [e])
      simp only [Act.put]
      rw [Array.getElem?_setIfInBounds,if_neg this]
theorem late_all {P:Program} {o:Oper} {a:Act} {w:World} {s:Nat} {R:Value→World→Prop} (ho:opnd o=some s) (h:Yl P R ((execOp a.eval o).run P w)):∃ v,∀ w',(execOp a.eval o).run P w'=.ok (.value v) w':=by
  obtain ⟨d,op,ty,pos,aft,g⟩:=o
  cases g with
  | some g=>simp [opnd] at ho
  | none=>cases op with
    | move x=>exact ⟨a.eval x,fun w'=>c_move rfl⟩
    | assign x=>exact ⟨a.eval x,fun w'=>c_assign rfl⟩
    | extract x k =>
      by_cases hex:∃ vs u,a.eval x=.tuple vs∧vs[k]?=some u
      · obtain ⟨vs,u,h1,h2⟩:=hex
        exact ⟨u,fun w'=>c_extract h1 h2⟩
      · exfalso
        cases hx:a.eval x with
        | tuple vs=>cases hk:vs[k]? with
          | some u=>exact hex ⟨vs,u,hx,hk⟩
          | none=>simp [execOp,hx,Instr.extract,hk,Yl] at h
        | _=>simp [execOp,hx,Instr.extract,Yl] at h
    | _=>simp [opnd] at ho
theorem erase_mem {l:List Oper} {U:List Nat} {listed:Array Bool} {i:Nat} (hnd:U.Nodup) (hsz:listed.size=l.length) (hi:i < l.length) (hmem:∀ j,j∈U ↔ j < l.length∧listed.getD j false=false) :
    ∀ j,j∈U.erase i ↔ j < l.length∧(listed.setIfInBounds i true).getD j false=false:=fun j=>by
  rw [hnd.mem_erase_iff,hmem]
  by_cases e:j=i
  · subst e
    simp [show j < listed.size by omega]
  · rw [getD_set_ne false (Ne.symm e)]
    simp [e]
theorem count_tail {l:List Oper} {U:List Nat} {listed:Array Bool} {t:Nat} (hnd:U.Nodup) (hmem:∀ j,j∈U ↔ j < l.length∧listed.getD j false=false) (hls:∀ j,j < l.length→listed.getD j false=decide (j < t)):U.length=l.length - t:=by
  have:U.Perm ((List.range (l.length - t)).map (· + t)):=by
    refine (List.perm_ext_iff_of_nodup hnd ?_).2 fun j=>?_
    · exact List.Pairwise.map (R:=(· ≠ ·)) (S:=(· ≠ ·)) (· + t) (fun x y h=>by simp; exact h) List.nodup_range
    · rw [hmem]
      simp only [List.mem_map,List.mem_range]
      constructor
      · rintro ⟨h1,h2⟩
        rw [hls j h1] at h2
        have:¬ j < t:=by simpa using h2
        exact ⟨j - t,by omega,by omega⟩
      · rintro ⟨x,h1,rfl⟩
        exact ⟨by omega,by rw [hls _ (by omega)]; simp⟩
  rw [this.length_eq]; simp
def lateOk (P:Program) (l:List Oper) (a:Act) (w:World):List Nat→Prop
  | []=>True
  | j::J=>(match l[j]? with
    | some o=>(match opnd o,o.dst with
      | none,some d=>∃ u,a.tmps[d]?=some u∧(execOp a.eval o).run P w=.ok (.value u) w
      | _,_=>True)
    | none=>True)∧lateOk P l a w J
theorem lateOk_at {P:Program} {l:List Oper} {a:Act} {w:World}:∀ {J:List Nat},lateOk P l a w J→∀ j∈J,∀ o d,l[j]?=some o→o.dst=some d→opnd o=none→∃ u,a.tmps[d]?=some u∧(execOp a.eval o).run P w=.ok (.value u) w
  | [],_,j,hj,_,_,_,_,_=>by cases hj
  | i::J,h,j,hj,o,d,h1,h2,h3=>by
    rcases List.mem_cons.1 hj with rfl | hj
    · have:=h.1
      rw [h1] at this
      dsimp only at this
      rw [h3,h2] at this
      exact this
    · exact lateOk_at h.2 j hj o d h1 h2 h3
theorem late_nil {P:Program} {l:List Oper} {a:Act} {w:World}:lateOk P l a w []:=trivial
theorem late_turn {P:Program} {l:List Oper} {a:Act} {w:World} {j s:Nat} {J:List Nat} {o:Oper} (ho:l[j]?=some o) (h:opnd o=some s) (k:lateOk P l a w J):lateOk P l a w (j::J):=by
  refine ⟨?_,k⟩
  rw [ho]
  dsimp only
  rw [h]
  split <;> first | trivial | contradiction
theorem late_read {P:Program} {l:List Oper} {a:Act} {w:World} {j d:Nat} {u:Value} {J:List Nat} {o:Oper} (ho:l[j]?=some o) (hd:o.dst=some d) (h:a.tmps[d]?=some u) (hr:(execOp a.eval o).run P w=.ok (.value u) w) (k:lateOk P l a w J):lateOk P l a w (j::J):=by
  refine ⟨?_,k⟩
  rw [ho]
  dsimp only
  split
  · rename_i h1 h2
    rw [hd] at h2
    obtain rfl:=Option.some.inj h2
    exact ⟨u,h,hr⟩
  · trivial
def First (P:Program) (ops:Array Oper) (Q:Exit→Act→World→Prop) (l:List Oper) (J:List Nat) (on:Oper) (rest:List Oper) (a:Act) (w:World):Prop :=
  ∃ nx w2 v,(execOp a.eval on).run P w=.ok nx w2∧((nx=.skip∧v=undef)∨nx=.value v)∧lateOk P l (a.put on.dst v) w2 J∧wpList P ops Q rest (a.put on.dst v) w2
theorem wpAny_lag {J:List Nat} (hok:RgOk l.toArray n J) (hL:Late l n J) :
    ∀ (m:Nat) (U:List Nat) (t:Nat) (listed:Array Bool) (a b:Act) (w:World),U.length=m→U.Nodup→(∀ j,j∈U ↔ j < l.length∧listed.getD j false=false)→listed.size=l.length→n≤t →
      (∀ j,j < l.length→j ∉ J→listed.getD j false=decide (j < t))→(∀ j o,l[j]?=some o→listed.getD j false=true→∀ e∈o.after,Region.binds .any e=true→listed.getD e.on false=true) →
      Lag P l J listed a b w→((t=n∧∃ on,l[n]?=some on∧First P l.toArray Q l J on (l.drop (n + 1)) b w)∨(n < t∧wpList P l.toArray Q (l.drop t) b w)) →
      wpAny P .any l.toArray Q m listed a w:=by
  intro m
  have hJ:∀ t,n≤t→t ∉ J:=fun t ht h=>by have:=hok.lateLt t h; omega
  have hnl:n≤l.length:=by have:=hok.le; simpa using this
  induction m with
  | zero =>
    intro U t listed a b w hU hnd hmem hsz hnt hls hcl hlag H
    have hU0:U=[]:=List.eq_nil_of_length_eq_zero hU
    subst hU0
    have hall:∀ j,j < l.length→listed.getD j false=true:=fun j hj=>by
      cases hx:listed.getD j false with
      | true=>rfl
      | false=>have:=(hmem j).2 ⟨hj,hx⟩; simp at this
    have htl:l.length≤t:=by
      apply Classical.byContradiction
      intro h
      have h1:=hls t (by omega) (hJ t hnt)
      rw [hall t (by omega)] at h1
      simp at h1
    have hab:a=b:=hlag.eq fun j hj=>hall j (by have:=hok.lateLt j hj; omega)
    subst hab
    refine ⟨?_,?_⟩
    · apply List.eq_nil_iff_forall_not_mem.2
      intro i hi
      obtain ⟨h1,o,ho,_⟩:=mem_ready.1 hi
      have hlt:i < l.length:=by simpa using (Array.getElem?_eq_some_iff.1 ho).1
      rw [getD_both_iff (by omega),hall i hlt] at h1
      cases h1
    · rcases H with ⟨rfl,on,h1,_⟩ | ⟨_,h⟩
      · have:=(List.getElem?_eq_some_iff.1 h1).1
        omega
      · rw [List.drop_eq_nil_of_le htl] at h
        exact h
  | succ m ih =>
    intro U t listed a b w hU hnd hmem hsz hnt hls hcl hlag H
    obtain ⟨u,hu⟩:∃ u,u∈U:=List.exists_mem_of_length_pos (by omega)
    have hu2:=(hmem u).1 hu
    refine ⟨fun h0=>?_,fun i hi=>?_⟩
    · obtain ⟨i,hi⟩:=exists_ready hok hsz u hu2.1 hu2.2
      rw [h0] at hi; cases hi
    · have hi0:=hi
      obtain ⟨hi1,o,ho,hall⟩:=mem_ready.1 hi
      have hil:i < l.length:=by simpa using (Array.getElem?_eq_some_iff.1 ho).1
      rw [getD_both_iff (by omega)] at hi1
      have hol:l[i]?=some o:=by simpa using ho
      have hiU:i∈U:=(hmem i).2 ⟨hil,hi1⟩
      have hlen:(U.erase i).length=m:=by rw [List.length_erase_of_mem hiU,hU]; simp
      have hcl2:∀ j o,l[j]?=some o→(listed.setIfInBounds i true).getD j false=true→∀ e∈o.after,Region.binds .any e=true→(listed.setIfInBounds i true).getD e.on false=true:=by
        intro j oj hj hlj e he hb
        have up:∀ k,listed.getD k false=true→(listed.setIfInBounds i true).getD k false=true:=fun k hk=>by
          by_cases e:i=k
          · subst e; simp [show i < listed.size by omega]
          · rw [getD_set_ne false e]; exact hk
        by_cases hji:j=i
        · subst hji
          rw [hol] at hj
          obtain rfl:=Option.some.inj hj
          exact up _ (hall e he hb)
        · rw [getD_set_ne false (Ne.symm hji)] at hlj
          exact up _ (hcl j oj hj hlj e he hb)
      by_cases hiJ:i∈J
      · -- a late one
        obtain ⟨o',d,h1,h2,h3,h4,h5⟩:=hL.op i hiJ
        rw [hol] at h1
        obtain rfl:=Option.some.inj h1
        obtain ⟨v,hv,hr⟩:=hlag.run i hiJ hi1 o d hol h3
        rw [← eval_same (a:=a) (late_sel h2) fun s hs=>hlag.same s fun j' hj' hlj' hdj'=>by
          obtain ⟨e,he,hb,hon⟩:=waits_spec ((h4 s hs).1 j' hj' hdj')
          have:=hall e he hb
          rw [hon,hlj'] at this
          cases this] at hr
        have hda:d < a.tmps.size:=by rw [← hlag.size]; exact (Array.getElem?_eq_some_iff.1 hv).1
        have hdi:dstAt l.toArray i=some d:=by simp [dstAt,hol,h3]
        unfold wpOp
        rw [ho]
        dsimp only
        rw [if_pos (by simp [Region.wanted,late_guard h2])]
        left
        refine upon_value hr ?_
        rw [h3]
        refine ih (U.erase i) t _ _ b w hlen (hnd.erase i) (erase_mem hnd hsz hil hmem) (by simpa using hsz) hnt (fun j hj hjJ=>?_) hcl2 ⟨by simp [Act.put,hlag.size],hlag.defers,fun s' hs'=>?_,fun j hj hlj oj d' hoj hdj=>?_⟩ H
        · rw [getD_set_ne false (show i ≠ j from fun e=>hjJ (e ▸ hiJ))]
          exact hls j hj hjJ
        · by_cases e:d=s'
          · subst e
            rw [hv]
            simp [Act.put,hda]
          · simp only [Act.put]
            rw [Array.getElem?_setIfInBounds,if_neg e]
            refine hlag.same s' fun j hj hlj hdj=>?_
            by_cases hji:j=i
            · subst hji
              rw [hdi] at hdj
              exact e (Option.some.inj hdj)
            · exact hs' j hj (by rw [getD_set_ne false (Ne.symm hji)]; exact hlj) hdj
        · by_cases hji:j=i
          · subst hji
            simp [show j < listed.size by omega] at hlj
          · rw [getD_set_ne false (Ne.symm hji)] at hlj
            exact hlag.run j hj hlj oj d' hoj hdj
      · -- the tail's next
        have hit:i=t:=by
          have h1:=hls i hil hiJ
          rw [hi1] at h1
          have h2:¬ i < t:=by simpa using h1.symm
          apply Classical.byContradiction
          intro hne
          have key:=anc_closed (ops:=l.toArray) (S:=fun j=>listed.getD j false=true) (fun i' o' hi' hs' e he hb=>hcl i' o' (by simpa using hi') hs' e he hb) 24 o t (fun e he hb=>hall e he hb) ((hok.tail i o ho (by omega) t (by omega)).resolve_left (hJ t hnt))
          rw [hls t (by omega) (hJ t hnt)] at key
          simp at key
        subst hit
        have heq:∀ s,s∈tmpsOf o→b.tmps[s]?=a.tmps[s]?:=fun s hs=>hlag.same s fun j hj hlj hdj=>by
          obtain ⟨oj,dj,h1,h2,h3,h4,h5⟩:=hL.op j hj
          have:dj=s:=by simp [dstAt,h1,h3] at hdj; exact hdj
          subst this
          obtain ⟨e,he,hb,hon⟩:=waits_spec ((h5 i o hnt hol).2 hs)
          have:=hall e he hb
          rw [hon,hlj] at this
          cases this
        have hlsn:∀ j,j < l.length→j ∉ J→(listed.setIfInBounds i true).getD j false=decide (j < i + 1):=fun j hj hjJ=>by
          by_cases e:i=j
          · subst e
            simp [show i < listed.size by omega]
          · rw [getD_set_ne false e,hls j hj hjJ]
            simp
            omega
        have hsm:∀ s,(∀ j∈J,(listed.setIfInBounds i true).getD j false=false→dstAt l.toArray j ≠ some s)→b.tmps[s]?=a.tmps[s]?:=fun s hs=>hlag.same s fun j hj hlj=>hs j hj (by rw [getD_set_ne false (show i ≠ j from fun e=>hiJ (e ▸ hj))]; exact hlj)
        have lagged:∀ v w2,(∀ j∈J,listed.getD j false=false→∀ oj dj,l[j]?=some oj→oj.dst=some dj→∃ u,(b.put o.dst v).tmps[dj]?=some u∧(execOp (b.put o.dst v).eval oj).run P w2=.ok (.value u) w2)→Lag P l J (listed.setIfInBounds i true) (a.put o.dst v) (b.put o.dst v) w2:=fun v w2 hr=>by
          have hr':∀ j∈J,(listed.setIfInBounds i true).getD j false=false→∀ oj dj,l[j]?=some oj→oj.dst=some dj→∃ u,(b.put o.dst v).tmps[dj]?=some u∧(execOp (b.put o.dst v).eval oj).run P w2=.ok (.value u) w2:=fun j hj hlj=>hr j hj (by rw [getD_set_ne false (show i ≠ j from fun e=>hiJ (e ▸ hj))] at hlj; exact hlj)
          cases hd:o.dst with
          | none=>rw [hd] at hr'; exact ⟨hlag.size,hlag.defers,hsm,hr'⟩
          | some d =>
            rw [hd] at hr'
            refine ⟨by simp [Act.put,hlag.size],hlag.defers,fun s hs=>?_,hr'⟩
            simp only [Act.put]
            rw [Array.getElem?_setIfInBounds,Array.getElem?_setIfInBounds,hlag.size,hsm s hs]
        have putd:∀ v dj,o.dst ≠ some dj→(b.put o.dst v).tmps[dj]?=b.tmps[dj]?:=fun v dj h=>by
          cases hd:o.dst with
          | none=>rfl
          | some d =>
            have:d ≠ dj:=fun e=>h (by rw [hd,e])
            simp only [Act.put]
            rw [Array.getElem?_setIfInBounds,if_neg this]
        have pure1:∀ v w2 j,j∈J→listed.getD j false=false→∀ oj dj,l[j]?=some oj→oj.dst=some dj→((opnd oj).isSome=true∨w2=w)→∃ u,(b.put o.dst v).tmps[dj]?=some u∧(execOp (b.put o.dst v).eval oj).run P w2=.ok (.value u) w2:=fun v w2 j hj hlj oj dj hoj hdj hor=>by
          obtain ⟨u,k1,k2⟩:=hlag.run j hj hlj oj dj hoj hdj
          obtain ⟨o3,d3,q1,q2,q3,q4,q5⟩:=hL.op j hj
          rw [hoj] at q1
          obtain rfl:=Option.some.inj q1
          rw [hdj] at q3
          obtain rfl:=Option.some.inj q3
          refine ⟨u,by rw [putd v dj (q5 i o hnt hol).1]; exact k1,?_⟩
          rw [tm_put (late_sel q2) fun s hs e=>(q4 s hs).2 i o hnt hol e]
          rcases hor with hor | rfl
          · obtain ⟨s,hs⟩:=Option.isSome_iff_exists.1 hor
            obtain ⟨u',hu'⟩:=late_all (w:=w) (R:=fun _ _=>True) hs (by rw [k2]; trivial)
            have:=hu' w
            rw [k2] at this
            obtain rfl:=Next.value.inj (Result.ok.inj this).1
            exact hu' w2
          · exact k2
        rcases H with ⟨rfl,on,h1,nx,w2,v,h2,hnx,hlo,h3⟩ | ⟨hlt,h⟩
        · unfold wpOp
          rw [ho]
          dsimp only
          obtain ⟨on',k1,k2,k4⟩:=hL.hd
          rw [h1] at k1
          obtain rfl:=Option.some.inj k1
          rw [hol] at h1
          obtain rfl:=Option.some.inj h1
          rw [if_pos (by simp [Region.wanted,k2])]
          left
          rw [← eval_same (not_select k4) heq] at h2
          have hnext:wpAny P .any l.toArray Q m (listed.setIfInBounds i true) (a.put o.dst v) w2:=by
            refine ih (U.erase i) (i + 1) _ _ (b.put o.dst v) w2 hlen (hnd.erase i) (erase_mem hnd hsz hil hmem) (by simpa using hsz) (by omega) hlsn hcl2 (lagged v w2 fun j hj hlj oj dj hoj hdj=>?_) (.inr ⟨by omega,h3⟩)
            cases hop:opnd oj with
            | some s=>exact pure1 v w2 j hj hlj oj dj hoj hdj (.inl (by rw [hop]; rfl))
            | none =>
              obtain ⟨u,r1,r2⟩:=lateOk_at hlo j hj oj dj hoj hdj hop
              obtain ⟨o3,d3,q1,q2,q3,q4,q5⟩:=hL.op j hj
              rw [hoj] at q1
              obtain rfl:=Option.some.inj q1
              exact ⟨u,r1,r2⟩
          rcases hnx with ⟨rfl,rfl⟩ | rfl
          · exact upon_skip h2 hnext
          · exact upon_value h2 hnext
        · rcases hL.tl i o hlt hol with hturn | hbar
          · unfold wpOp
            rw [ho]
            dsimp only
            rw [List.drop_eq_getElem_cons hil] at h
            have hoe:l[i]=o:=by
              rw [List.getElem?_eq_getElem hil] at hol
              exact Option.some.inj hol
            rw [hoe] at h
            obtain ⟨hg,hop⟩:o.guard=none∧((∃ x,o.op=.move x)∨∃ x,o.op=.assign x):=by
              unfold turnB at hturn
              cases hg:o.guard with
              | some g=>rw [hg] at hturn; cases hturn
              | none =>
                rw [hg] at hturn
                refine ⟨rfl,?_⟩
                cases hop:o.op <;> rw [hop] at hturn <;> first | exact .inl ⟨_,rfl⟩ | exact .inr ⟨_,rfl⟩ | cases hturn
            rw [if_pos (by simp [Region.wanted,hg])]
            left
            have hsel:∀ cs b,o.op ≠ .select cs b:=fun cs b e=>by
              rcases hop with ⟨x,hx⟩ | ⟨x,hx⟩ <;> rw [hx] at e <;> cases e
            obtain ⟨v,hv⟩:∃ v,∀ w,(execOp b.eval o).run P w=.ok (.value v) w:=by
              obtain ⟨d,op,ty,pos,aft,g⟩:=o
              rcases hop with ⟨x,hx⟩ | ⟨x,hx⟩ <;> dsimp only at hx <;> subst hx
              · exact ⟨b.eval x,fun w=>c_move rfl⟩
              · exact ⟨b.eval x,fun w=>c_assign rfl⟩
            have hk:wpList P l.toArray Q (l.drop (i + 1)) (b.put o.dst v) w:=by
              unfold wpList at h
              rw [if_pos (by simp [Region.wanted,hg])] at h
              rcases h with h | ⟨⟨h,_⟩,_⟩
              · unfold Oper.wp at h
                rw [hv] at h
                exact h
              · exfalso
                obtain ⟨d,op,ty,pos,aft,g⟩:=o
                rcases hop with ⟨x,hx⟩ | ⟨x,hx⟩ <;> dsimp only at hx <;> subst hx <;> exact absurd (show noRoomEvent∈(#[]:Array Event) from h) (by simp)
            refine upon_value (by rw [eval_same hsel heq]; exact hv w) ?_
            exact ih (U.erase i) (i + 1) _ _ (b.put o.dst v) w hlen (hnd.erase i) (erase_mem hnd hsz hil hmem) (by simpa using hsz) (by omega) hlsn hcl2 (lagged v w fun j hj hlj oj dj hoj hdj=>pure1 v w j hj hlj oj dj hoj hdj (.inr rfl)) (.inr ⟨by omega,hk⟩)
          · -- nothing is late any more
            have hJl:∀ j∈J,listed.getD j false=true:=fun j hj=>anc_closed (ops:=l.toArray) (S:=fun j=>listed.getD j false=true) (fun i' o' hi' hs' e he hb=>hcl i' o' (by simpa using hi') hs' e he hb) 24 o j (fun e he hb=>hall e he hb) (hbar j hj)
            have hls2:∀ j,j < l.length→listed.getD j false=decide (j < i):=fun j hj=>by
              by_cases hjJ:j∈J
              · rw [hJl j hjJ]
                have:=hok.lateLt j hjJ
                simp
                omega
              · exact hls j hj hjJ
            obtain rfl:=hlag.eq hJl
            have hct:=count_tail hnd hmem hls2
            have:=wpAny_tail (Q:=Q) (P:=P) hok (m + 1) i listed a w (by omega) hnt hsz (fun j hj=>by rw [getD_both_iff (by omega)]; exact hls2 j hj) h
            exact this.2 i hi0
theorem Inv.finish {J:List Nat} (hok:RgOk l.toArray n J) (hL:Late l n J) (hl:Ds.length=n)
    (hparts:∀ i o,i < n→l[i]?=some o→∃ d D,o.dst=some d∧Ds[i]?=some D∧Ob P l.toArray N B1 w1 (factsC (l.take n) Ds Fc0 i) (factsE (l.take n) Ds i) o D∧fresh (factsC (l.take n) Ds Fc0 i) (factsE (l.take n) Ds i) d D)
    (hN:∀ i o d,i < n→l[i]?=some o→o.dst=some d→d < N) (hB:B1≤w1.heap.size) (w:World) :
    ∀ (r k:Nat) (vals:Nat→Value) (ents:Nat→List Ent) (listed:Array Bool) (a:Act),k + r=n→Inv P l n N B1 w1 Fc0 Ds vals ents listed a w→(∀ j,j < n→j ∉ J→listed.getD j false=true)→(∀ j,j < k→listed.getD j false=true) →
      ∃ b vals' ents' listed',Inv P l n N B1 w1 Fc0 Ds vals' ents' listed' b w∧(∀ j,j < n→listed'.getD j false=true)∧Lag P l J listed a b w:=by
  intro r
  induction r with
  | zero =>
    intro k vals ents listed a hk inv _ hlt
    exact ⟨a,vals,ents,listed,inv,fun j hj=>hlt j (by omega),rfl,rfl,fun _ _=>rfl,fun j hj hx=>by
      rw [hlt j (by have:=hok.lateLt j hj; omega)] at hx
      cases hx⟩
  | succ r ih =>
    intro k vals ents listed a hk inv hnj hlt
    by_cases hx:listed.getD k false=true
    · exact ih (k + 1) vals ents listed a (by omega) inv hnj fun j hj=>by
        by_cases e:j=k
        · subst e; exact hx
        · exact hlt j (by omega)
    · have hx:listed.getD k false=false:=by simpa using hx
      have hkJ:k∈J:=Classical.byContradiction fun h=>by rw [hnj k (by omega) h] at hx; cases hx
      obtain ⟨o,d,h1,h2,h3,h4,_⟩:=hL.op k hkJ
      have hle:=hok.le
      simp at hle
      have hrd:k∈Region.ready .any l.toArray listed:=mem_ready.2 ⟨by rw [getD_both_iff (by rw [inv.size]; omega)]; exact hx,o,by simpa using h1,fun e he hb=>hlt e.on (hok.back k o (by simpa using h1) e he hb)⟩
      rcases inv.step0 hok hl hparts hN hB (by omega) hrd h1 with ⟨_,hy,hyq⟩ | ⟨hw,_⟩
      rotate_left
      · have:Region.wanted o (yielded l.toArray a.tmps)=true:=by simp [Region.wanted,late_guard h2]
        rw [this] at hw; cases hw
      · obtain ⟨v,hv⟩:∃ v,(execOp a.eval o).run P w=.ok (.value v) w:=by
          rcases h2 with h2 | h2
          · obtain ⟨s,hs⟩:=Option.isSome_iff_exists.1 h2
            obtain ⟨v,hv⟩:=late_all hs hy
            exact ⟨v,hv w⟩
          · exact hyq h2
        rw [hv] at hy
        obtain ⟨L',inv'⟩:=hy
        rw [h3] at inv'
        have hup:∀ j,listed.getD j false=true→(listed.setIfInBounds k true).getD j false=true:=fun j hj=>by
          by_cases e:k=j
          · subst e; rw [hx] at hj; cases hj
          · rw [getD_set_ne false e]; exact hj
        have hkk:(listed.setIfInBounds k true).getD k false=true:=by simp [show k < listed.size by rw [inv.size]; omega]
        obtain ⟨b,vals',ents',listed',i1,i2,i3⟩:=ih (k + 1) _ _ _ _ (by omega) inv' (fun j hj hjJ=>hup j (hnj j hj hjJ)) (fun j hj=>by
          by_cases e:j=k
          · subst e; exact hkk
          · exact hup j (hlt j (by omega)))
        have hdk:dstAt l.toArray k=some d:=by simp [dstAt,h1,h3]
        have hdN:d < a.tmps.size:=by rw [inv.know.1]; exact hN k o d (by omega) h1 h3
        refine ⟨b,vals',ents',listed',i1,i2,by have:=i3.size; simpa [Act.put] using this,i3.defers,fun s' hs'=>?_,fun j hj hlj oj dj hoj hdj=>?_⟩
        · have hne:d ≠ s':=fun e=>hs' k hkJ hx (by rw [hdk,e])
          rw [i3.same s' fun j hj hlj=>hs' j hj (by
            by_cases e:k=j
            · subst e; exact hx
            · rw [getD_set_ne false e] at hlj; exact hlj)]
          simp only [Act.put]
          rw [Array.getElem?_setIfInBounds,if_neg hne]
        · by_cases hjk:k=j
          · subst hjk
            rw [h1] at hoj
            obtain rfl:=Option.some.inj hoj
            rw [h3] at hdj
            obtain rfl:=Option.some.inj hdj
            have hwk:∀ j',waits o j'=true→j' < k:=fun j' hw=>by
              obtain ⟨e,he,hb,hon⟩:=waits_spec hw
              have:=hok.back k o (by simpa using h1) e he hb
              omega
            refine ⟨v,?_,by
              rw [← eval_same (a:=a) (late_sel h2) fun s hs=>?_]
              · exact hv
              · rw [i3.same s fun j' hj' hlj' hdj'=>by
                  rw [hup j' (hlt j' (hwk j' ((h4 s hs).1 j' hj' hdj')))] at hlj'
                  cases hlj']
                have hne:d ≠ s:=fun e=>by have:=hwk k ((h4 s hs).1 k hkJ (by rw [hdk,e])); omega
                simp only [Act.put]
                rw [Array.getElem?_setIfInBounds,if_neg hne]⟩
            rw [i3.same d fun j' hj' hlj' hdj'=>by
              have:=hok.uniq j' k d (hok.lateLt j' hj') (by omega) hdj' hdk
              subst this
              rw [hkk] at hlj'
              cases hlj']
            simp [Act.put,hdN]
          · exact i3.run j hj (by rw [getD_set_ne false hjk]; exact hlj) oj dj hoj hdj
theorem wpAny_headJ {J:List Nat} {on:Oper} (hok:RgOk l.toArray n J) (hL:Late l n J) (hon:l[n]?=some on) (hl:Ds.length=n)
    (hparts:∀ i o,i < n→l[i]?=some o→∃ d D,o.dst=some d∧Ds[i]?=some D∧Ob P l.toArray N B1 w1 (factsC (l.take n) Ds Fc0 i) (factsE (l.take n) Ds i) o D∧fresh (factsC (l.take n) Ds Fc0 i) (factsE (l.take n) Ds i) d D)
    (hN:∀ i o d,i < n→l[i]?=some o→o.dst=some d→d < N) (hB:B1≤w1.heap.size)
    (fin:∀ vals ents listed a w,Inv P l n N B1 w1 Fc0 Ds vals ents listed a w→(∀ j,j < n→listed.getD j false=true)→First P l.toArray Q l J on (l.drop (n + 1)) a w) :
    ∀ (m:Nat) (U:List Nat) (vals:Nat→Value) (ents:Nat→List Ent) (listed:Array Bool) (a:Act) (w:World),U.length=m→U.Nodup→(∀ j,j∈U ↔ j < l.length∧listed.getD j false=false) →
      Inv P l n N B1 w1 Fc0 Ds vals ents listed a w→wpAny P .any l.toArray Q m listed a w:=by
  intro m
  have eln:n < l.length:=(List.getElem?_eq_some_iff.1 hon).1
  induction m with
  | zero =>
    intro U vals ents listed a w hU hnd hmem inv
    have hU0:U=[]:=List.eq_nil_of_length_eq_zero hU
    subst hU0
    have:=(hmem n).2 ⟨eln,inv.tail n (Nat.le_refl _)⟩
    cases this
  | succ m ih =>
    intro U vals ents listed a w hU hnd hmem inv
    by_cases hall:∀ j,j < n→j ∉ J→listed.getD j false=true
    · obtain ⟨b,vals',ents',listed',i1,i2,i3⟩:=Inv.finish hok hL hl hparts hN hB w n 0 vals ents listed a (by omega) inv hall fun j hj=>by omega
      refine wpAny_lag hok hL (m + 1) U n listed a b w hU hnd hmem inv.size (Nat.le_refl _) (fun j hj hjJ=>?_) inv.closed i3 (.inl ⟨rfl,on,hon,fin vals' ents' listed' b w i1 i2⟩)
      by_cases e:j < n
      · rw [hall j e hjJ]; simp [e]
      · rw [inv.tail j (by omega)]; simp [e]
    · obtain ⟨j0,hj0,hj0J,hl0⟩:∃ j,j < n∧j ∉ J∧listed.getD j false=false:=by
        apply Classical.byContradiction
        intro hn
        apply hall
        intro j hj hjJ
        cases hx:listed.getD j false with
        | true=>rfl
        | false=>exact absurd ⟨j,hj,hjJ,hx⟩ hn
      refine ⟨fun h0=>?_,fun i hi=>?_⟩
      · obtain ⟨i,hi⟩:=exists_ready hok inv.size j0 (by omega) hl0
        rw [h0] at hi; cases hi
      · have hin:i < n:=by
          apply Classical.byContradiction
          intro hge
          obtain ⟨_,o,ho,hall2⟩:=mem_ready.1 hi
          have key:=anc_closed (ops:=l.toArray) (S:=fun j=>listed.getD j false=true) (fun i' o' hi' hs' e he hb=>inv.closed i' o' (by simpa using hi') hs' e he hb) 24 o j0 (fun e he hb=>hall2 e he hb) ((hok.tail i o ho (by omega) j0 (by omega)).resolve_left hj0J)
          rw [hl0] at key
          cases key
        have hil:i < l.length:=by omega
        have hiU:i∈U:=(hmem i).2 ⟨hil,by
          have h1:=(mem_ready.1 hi).1
          rw [getD_both_iff (by rw [inv.size]; exact hil)] at h1
          exact h1⟩
        refine inv.step hok hl hparts hN hB hin hi fun v L' a' w' inv'=>?_
        exact ih (U.erase i) _ _ _ _ _ (by rw [List.length_erase_of_mem hiU,hU]; simp) (hnd.erase i) (erase_mem hnd inv.size hil hmem) inv'
theorem any_rgX {J:List Nat} {on:Oper} {F:List (Nat × Value)} {L:List Ent} {M:Nat→Prop} {w0 w:World} {a:Act} (n:Nat) (hB:rgBL l.toArray n J=true) (hJ:lateB l n J=true) (hon:l[n]?=some on) (hd:dstB (l.take n) N=true) (hs:St N F L M w0 a w)
    (h:RG P l.toArray N w.heap.size w (fun Fc Fe=>∀ a' w' L',Fr0 w w'→FeOk Fe a' w' L'→St N Fc (L'++L) M w0 a' w'→Links P l n a'→First P l.toArray Q l J on (l.drop (n + 1)) a' w') F [] (l.take n)) :
    RegAny P Q l a w:=by
  have hok:RgOk l.toArray n J:=rgB_spec hB
  have hle:=hok.le
  simp at hle
  have htl:(l.take n).length=n:=by simp [hle]
  obtain ⟨Ds,hlen,hK,hparts⟩:=RG.parts F (l.take n) [] [] rfl h
  simp only [List.nil_append,htl] at hlen hK hparts
  have hget:∀ i o,i < n→l[i]?=some o→(l.take n)[i]?=some o:=fun i o hi ho=>by rw [List.getElem?_take_of_lt hi]; exact ho
  have hparts':∀ i o,i < n→l[i]?=some o→∃ d D,o.dst=some d∧Ds[i]?=some D∧Ob P l.toArray N w.heap.size w (factsC (l.take n) Ds F i) (factsE (l.take n) Ds i) o D∧fresh (factsC (l.take n) Ds F i) (factsE (l.take n) Ds i) d D :=
    fun i o hi ho=>hparts i o (by simp) (hget i o hi ho)
  have hN:∀ i o d,i < n→l[i]?=some o→o.dst=some d→d < N:=fun i o d hi ho hod=>by
    have:=List.all_eq_true.1 hd o (List.mem_of_getElem? (hget i o hi ho))
    rw [hod] at this
    exact lt_of_blt this
  unfold RegAny
  have hdr:Fr0 w { w with drawn:=w.drawn + 1 }:=Fr.drew w
  have hU:((List.range l.length).length=l.toArray.size):=by simp
  refine wpAny_headJ (w1:=w) (B1:=w.heap.size) (Ds:=Ds) (Fc0:=F) hok (lateB_spec hJ) hon (by omega) hparts' hN (Nat.le_refl _) ?_ _ (List.range l.length) (fun _=>undef) (fun _=>[]) _ _ _ hU List.nodup_range ?_ ?_
  · intro vals ents listed a' w' inv hall
    have hds:∃ ds:Nat→Nat,∀ j o,(l.take n)[j]?=some o→o.dst=some (ds j):=by
      refine ⟨fun j=>(dstAt l.toArray j).getD 0,fun j o hj=>?_⟩
      have hjn:j < n:=by have:=(List.getElem?_eq_some_iff.1 hj).1; omega
      rw [List.getElem?_take_of_lt hjn] at hj
      obtain ⟨d',hd'⟩:=hok.dst j o (by simpa using hj) hjn
      simp [dstAt,hj,hd']
    obtain ⟨ds,hds⟩:=hds
    have hdsA:∀ j,j < n→dstAt l.toArray j=some (ds j):=fun j hj=>by
      have hjl:j < l.length:=by omega
      have:=hds j l[j] (by rw [List.getElem?_take_of_lt hj]; simp [hjl])
      simp [dstAt,hjl,this]
    have hfr':∀ j o D,(l.take n)[j]?=some o→Ds[j]?=some D→fresh (factsC (l.take n) Ds F j) (factsE (l.take n) Ds j) (ds j) D:=by
      intro j o' D' hj hDj
      have hjn:j < n:=by have:=(List.getElem?_eq_some_iff.1 hj).1; omega
      have hj':=hj
      rw [List.getElem?_take_of_lt hjn] at hj'
      obtain ⟨d2,D2,h1,h2,_,h4⟩:=hparts' j o' hjn hj'
      rw [hDj] at h2
      obtain rfl:=Option.some.inj h2
      have:=hds j o' hj
      rw [h1] at this
      obtain rfl:=Option.some.inj this
      exact h4
    have hknow:Know N (factsC (l.take n) Ds F n) a':=by
      refine ⟨inv.know.1,inv.know.2,fun s v hv=>?_⟩
      rcases factsC_src (Fc0:=F) hds (by omega) hfr' n (by omega) s v hv with ⟨j,hj,h1,h2⟩ | ⟨h1,h2⟩
      · obtain ⟨h4,h5⟩:=inv.done j s _ hj (hall j hj) (by rw [hdsA j hj,h1]) h2
        rw [h4,h5.1]
      · exact inv.base s v h1 fun j hj _ hdj=>by
          rw [hdsA j hj] at hdj
          exact h2 j hj (Option.some.inj hdj)
    have hfe:∀ i,i≤n→∃ L'',FeOk (factsE (l.take n) Ds i) a' w' L''∧L''.Perm ((List.range i).flatMap ents):=by
      intro i
      induction i with
      | zero=>intro _; exact ⟨[],rfl,by simp⟩
      | succ i ih =>
        intro hi
        obtain ⟨L'',h1,h2⟩:=ih (by omega)
        have hil:i < (l.take n).length:=by omega
        have ho:(l.take n)[i]?=some (l.take n)[i]:=List.getElem?_eq_getElem hil
        have hD:Ds[i]?=some (Ds[i]'(by omega)):=List.getElem?_eq_getElem (by omega)
        have hdi:=hds i _ ho
        obtain ⟨h4,h5⟩:=inv.done i (ds i) _ (by omega) (hall i (by omega)) (hdsA i (by omega)) hD
        simp only [factsE,ho,hD,hdi,List.range_succ,List.flatMap_append]
        generalize Ds[i]'(by omega)=D at *
        cases D with
        | c u=>exact ⟨L'',h1,by simp [h5.2]; exact h2⟩
        | e E st =>
          refine ⟨ents i++L'',⟨vals i,ents i,L'',h4,h5,h1,rfl⟩,?_⟩
          simp only [List.flatMap_cons,List.flatMap_nil,List.append_nil]
          exact (List.Perm.append_left _ h2).trans List.perm_append_comm
    obtain ⟨L'',hf1,hf2⟩:=hfe n (Nat.le_refl _)
    have hhas:Has w.heap.size w' L'':=by
      have:(List.range n).flatMap (fun j=>if listed.getD j false=true then ents j else [])=(List.range n).flatMap ents:=flatMap_same _ _ _ fun j hj=>by rw [if_pos (hall j (List.mem_range.1 hj))]
      have hh:=inv.has
      rw [this] at hh
      exact hh.perm hf2
    have hst:St N (factsC (l.take n) Ds F n) (L''++L) M w0 a' w':=⟨hknow,(hs.has.new inv.fr (Nat.zero_le _) hhas),fun e he k hk=>by
      rcases List.mem_append.1 he with he | he
      · exact .inl (Nat.le_trans hs.fr.size (hhas.ge e he k hk))
      · exact hs.own e he k hk,hs.fr.trans0 inv.fr⟩
    refine hK a' w' L'' inv.fr hf1 hst ⟨fun j oj dj s hj hoj hdj hos hsf=>?_,fun j oj dj hj hoj hdj hbj hsf=>?_⟩
    · obtain ⟨d2,D2,h1,h2,_,_⟩:=hparts' j oj hj hoj
      rw [hdj] at h1
      obtain rfl:=Option.some.inj h1
      exact ⟨vals j,(inv.done j dj D2 hj (hall j hj) (by simp [dstAt,hoj,hdj]) h2).1,inv.links j oj s hj hoj (hall j hj) hos hsf⟩
    · obtain ⟨d2,D2,h1,h2,_,_⟩:=hparts' j oj hj hoj
      rw [hdj] at h1
      obtain rfl:=Option.some.inj h1
      obtain ⟨w1,w2,h3⟩:=inv.links2 j oj hj hoj (hall j hj) hbj hsf
      exact ⟨vals j,w1,w2,(inv.done j dj D2 hj (hall j hj) (by simp [dstAt,hoj,hdj]) h2).1,h3⟩
  · intro j
    simp
    intro hj
    simp [Array.getElem?_replicate,hj]
  · refine ⟨by simp,⟨hs.know.size,hs.know.defers⟩,fun j d D hj hl'=>?_,fun s v hv _=>hs.know.at_ s v hv,?_,hdr,fun t _=>?_,fun j o _ hl'=>?_,fun j o s _ _ hl'=>?_,fun j o _ _ hl'=>?_⟩
    · simp [Array.getElem?_replicate] at hl'
      split at hl' <;> simp at hl'
    · have:∀ r:List Nat,r.flatMap (fun j=>if (Array.replicate l.toArray.size false).getD j false=true then ([]:List Ent) else [])=[]:=fun r=>by induction r with | nil=>rfl | cons x t ih=>simp
      rw [this]
      exact .nil _ _
    · simp [Array.getElem?_replicate]
      split <;> simp
    · simp [Array.getElem?_replicate] at hl'
      split at hl' <;> simp at hl'
    · simp [Array.getElem?_replicate] at hl'
      split at hl' <;> simp at hl'
    · simp [Array.getElem?_replicate] at hl'
      split at hl' <;> simp at hl'
theorem wp_region_rgL {id:Nat} {F:List (Nat × Value)} {L:List Ent} {M:Nat→Prop} {w0 w:World} {a:Act} (hm:P.follows .mixedOrders=true) (n:Nat) (hB:rgB l.toArray n=true) (hd:dstB (l.take n) N=true) (hs:St N F L M w0 a w)
    (h:RG P l.toArray N w.heap.size w (fun Fc Fe=>∀ a' w' L',Fr0 w w'→FeOk Fe a' w' L'→St N Fc (L'++L) M w0 a' w'→Links P l n a'→wpList P l.toArray Q (l.drop n) a' w') F [] (l.take n)) :
    (Code.region id l.toArray true).wp P Q a w:=wp_region_any hm (any_rgL n hB hd hs h)
theorem wp_region_rgX {J:List Nat} {on:Oper} {id:Nat} {F:List (Nat × Value)} {L:List Ent} {M:Nat→Prop} {w0 w:World} {a:Act} (hm:P.follows .mixedOrders=true) (n:Nat) (hB:rgBL l.toArray n J=true) (hJ:lateB l n J=true) (hon:l[n]?=some on) (hd:dstB (l.take n) N=true) (hs:St N F L M w0 a w)
    (h:RG P l.toArray N w.heap.size w (fun Fc Fe=>∀ a' w' L',Fr0 w w'→FeOk Fe a' w' L'→St N Fc (L'++L) M w0 a' w'→Links P l n a'→First P l.toArray Q l J on (l.drop (n + 1)) a' w') F [] (l.take n)) :
    (Code.region id l.toArray true).wp P Q a w:=wp_region_any hm (any_rgX n hB hJ hon hd hs h)
theorem wp_region_rg {id:Nat} {F:List (Nat × Value)} {L:List Ent} {M:Nat→Prop} {w0 w:World} {a:Act} (hm:P.follows .mixedOrders=true) (n:Nat) (hB:rgB l.toArray n=true) (hd:dstB (l.take n) N=true) (hs:St N F L M w0 a w)
    (h:RG P l.toArray N w.heap.size w (fun Fc Fe=>∀ a' w' L',Fr0 w w'→FeOk Fe a' w' L'→St N Fc (L'++L) M w0 a' w'→wpList P l.toArray Q (l.drop n) a' w') F [] (l.take n)) :
    (Code.region id l.toArray true).wp P Q a w :=
  wp_region_rgL hm n hB hd hs (RG.mono (fun _ _ hk a' w' L' h1 h2 h3 _=>hk a' w' L' h1 h2 h3) _ _ _ h)
end
end Go.Fw
end

section
/- The steps of a region's walk; what a slice reads as; append,make. -/
namespace Go.Fw
open Go
section
variable {P:Program} {ops:Array Oper} {N B1:Nat} {w1:World} {K:List (Nat × Value)→Fes→Prop} {Fc:List (Nat × Value)} {Fe:Fes} {rest:List Oper}
variable {d:Tmp} {op:Op} {ty:TypeId} {pos:String} {aft:Array Edge} {x y z:Operand} {t u:TypeId}
theorem RC.ev {o:Oper} {a:Act} {w:World} {x:Operand} {v:Value} (h:RC N Fc Fe o B1 w1 a w) (hx:ev Fc x=some v):a.eval x=v:=h.know.eval hx
theorem RC.blk {o:Oper} {a:Act} {w:World} {g:Nat} {b:Obj} (h:RC N Fc Fe o B1 w1 a w) (hb:w1.heap[g]?=some b):w.heap[g]?=some b:=by
  rw [h.fr.block g (Array.getElem?_eq_some_iff.1 hb).1 id]; exact hb
theorem rg_nil (h:K Fc Fe):RG P ops N B1 w1 K Fc Fe []:=h
theorem rg_q {v:Value} (h:∀ a w,RC N Fc Fe ⟨some d,op,ty,pos,aft,none⟩ B1 w1 a w→(execOp a.eval ⟨some d,op,ty,pos,aft,none⟩).run P w=.ok (.value v) w) (hE:lookE Fe d=none)
    (k:RG P ops N B1 w1 K ((d,v)::Fc) Fe rest):RG P ops N B1 w1 K Fc Fe (⟨some d,op,ty,pos,aft,none⟩::rest) :=
  ⟨d,.c v,rfl,⟨.inl ⟨rfl,fun a w hc=>by rw [h a w hc]; exact ⟨[],⟨rfl,rfl⟩,.refl _ _,.nil _ _⟩⟩,fun _ a w hc=>⟨v,h a w hc⟩⟩,hE,k⟩
theorem rg_yes {v:Value} {j s:Nat} {b:Bool} (hj:(ops[j]?).bind (·.dst)=some s) (hb:look Fc s=some (.bool b))
    (h:∀ a w,RC N Fc Fe ⟨some d,op,ty,pos,aft,some (j,b)⟩ B1 w1 a w→(execOp a.eval ⟨some d,op,ty,pos,aft,some (j,b)⟩).run P w=.ok (.value v) w) (hE:lookE Fe d=none)
    (k:RG P ops N B1 w1 K ((d,v)::Fc) Fe rest):RG P ops N B1 w1 K Fc Fe (⟨some d,op,ty,pos,aft,some (j,b)⟩::rest) :=
  ⟨d,.c v,rfl,⟨.inl ⟨by simp [wantedAs,hj,hb],fun a w hc=>by rw [h a w hc]; exact ⟨[],⟨rfl,rfl⟩,.refl _ _,.nil _ _⟩⟩,fun h=>by cases h⟩,hE,k⟩
theorem rg_no {j s:Nat} {b c:Bool} (hj:(ops[j]?).bind (·.dst)=some s) (hb:look Fc s=some (.bool c)) (hne:c=!b) (hE:lookE Fe d=none)
    (k:RG P ops N B1 w1 K ((d,undef)::Fc) Fe rest):RG P ops N B1 w1 K Fc Fe (⟨some d,op,ty,pos,aft,some (j,b)⟩::rest) :=
  ⟨d,.c undef,rfl,⟨.inr ⟨by subst hne; cases b <;> simp [wantedAs,hj,hb],rfl⟩,fun h=>by cases h⟩,hE,k⟩
theorem rg_e (E:Value→List Ent→World→Prop) (st:∀ v L w w',Fr0 w w'→E v L w→E v L w')
    (h:∀ a w,RC N Fc Fe ⟨some d,op,ty,pos,aft,none⟩ B1 w1 a w→Yl P (fun v w'=>∃ L',E v L' w'∧Fr0 w w'∧Has w.heap.size w' L') ((execOp a.eval ⟨some d,op,ty,pos,aft,none⟩).run P w)) (hC:look Fc d=none)
    (k:RG P ops N B1 w1 K Fc ((d,E)::Fe) rest) (hq:needQ ⟨some d,op,ty,pos,aft,none⟩=false:=by rfl):RG P ops N B1 w1 K Fc Fe (⟨some d,op,ty,pos,aft,none⟩::rest) :=
  ⟨d,.e E st,rfl,⟨.inl ⟨rfl,h⟩,fun h=>by rw [hq] at h; cases h⟩,hC,k⟩
theorem rg_alloc {td:TypeDesc} {sz bytes:Nat} {zs:List Value} (hT:Ty P t td sz bytes zs) (hC:look Fc d=none)
    (k:RG P ops N B1 w1 K Fc ((d,fun v L _=>∃ g,v=.pointer (some ⟨g,0,none⟩)∧L=[.seg g zs t])::Fe) rest):RG P ops N B1 w1 K Fc Fe (⟨some d,.alloc t,ty,pos,aft,none⟩::rest) :=
  rg_e _ (fun _ _ _ _ _ h=>h) (fun a w hc=>by rw [c_alloc hT]; exact ⟨_,⟨_,rfl,rfl⟩,.alloc _ _,has_alloc⟩) hC k
theorem rg_bslice {E:TypeId} {ed:TypeDesc} {s bytes n:Nat} {z zs:List Value} {ps:Array (Nat × Operand)} {vs:List Value} (hu:P.underlying t=some (.slice E)) (hE:Ty P E ed s bytes z)
    (hps:∀ a w,RC N Fc Fe ⟨some d,.buildSlice t n ps,ty,pos,aft,none⟩ B1 w1 a w→Evp a 0 ps.toList vs) (hn:vs.length=n) (hv:∀ v∈vs,v.cells.size=s) (hsmall:n * s≤16777216) (hz:flatCells vs=zs) (hC:look Fc d=none)
    (k:RG P ops N B1 w1 K Fc ((d,fun v L _=>∃ g,v=.slice (some ⟨g,0,none⟩) n n∧L=[.seg g zs E])::Fe) rest):RG P ops N B1 w1 K Fc Fe (⟨some d,.buildSlice t n ps,ty,pos,aft,none⟩::rest) :=
  rg_e _ (fun _ _ _ _ _ h=>h) (fun a w hc=>by rw [c_bslice hu hE (hps a w hc) hn hv hsmall,hz]; exact ⟨_,⟨_,rfl,rfl⟩,.alloc _ _,has_alloc⟩) hC k
theorem rg_call {f:FuncId} {args:Array Operand} {vs:List Value} {tys:Array TypeId} {c:Value} (hF:Fun P f)
    (hargs:∀ a w,RC N Fc Fe ⟨some d,.call { callee:=.value (.func f),args:=args,argTypes:=tys },ty,pos,aft,none⟩ B1 w1 a w→Evs a args.toList vs)
    (hc:∀ w,Fr0 w1 w→Ctr P f vs w (fun _=>False) fun v _=>v=c) (hE:lookE Fe d=none)
    (k:RG P ops N B1 w1 K ((d,c)::Fc) Fe rest):RG P ops N B1 w1 K Fc Fe (⟨some d,.call { callee:=.value (.func f),args:=args,argTypes:=tys },ty,pos,aft,none⟩::rest) :=
  ⟨d,.c c,rfl,⟨.inl ⟨rfl,fun a w h=>by
    rw [run_call hF (hargs a w h)]
    exact Calls.mono (hc w h.fr) fun e w' ⟨v,he,hf,hv⟩=>⟨v,he,[],⟨hv,rfl⟩,hf,.nil _ _⟩⟩,fun h=>by cases h⟩,hE,k⟩
end
/-! ### What a slice reads as -/
def Rd (w:World) (v:Value) (n:Nat) (cs:List Value):Prop :=
  ∃ ad cap,v=.slice ad n cap∧n≤cap∧cap≤maxLen∧(ad=none→cap=0)∧(cs=[]∨∃ b o T fr all,ad=some ⟨b,o,none⟩∧w.heap[b]?=some (.cells all T fr)∧(all.toList.drop o).take cs.length=cs)
theorem Rd.fr {M:Nat→Prop} {w w':World} {v:Value} {n:Nat} {cs:List Value} (h:Rd w v n cs) (hf:Fr M w w') (hm:∀ k,v.ownBlock=some k→¬ M k):Rd w' v n cs:=by
  obtain ⟨ad,cap,hv,h1,h2,h0,h3⟩:=h
  refine ⟨ad,cap,hv,h1,h2,h0,h3.imp id ?_⟩
  rintro ⟨b,o,T,fr,all,rfl,hb,hc⟩
  refine ⟨b,o,T,fr,all,rfl,?_,hc⟩
  rw [hf.block b (Array.getElem?_eq_some_iff.1 hb).1 (hm b (by simp [hv,Value.ownBlock]))]
  exact hb
theorem Rd.fr0 {w w':World} {v:Value} {n:Nat} {cs:List Value} (h:Rd w v n cs) (hf:Fr0 w w'):Rd w' v n cs:=h.fr hf fun _ _=>id
theorem Rd.of_seg {w:World} {g cap n:Nat} {T:TypeId} {fr:Nat × Nat} {cs all:List Value} (hb:w.heap[g]?=some (.cells all.toArray T fr)) (hn:n≤cap) (hm:cap≤maxLen) (hc:all.take cs.length=cs):Rd w (.slice (some ⟨g,0,none⟩) n cap) n cs :=
  ⟨_,cap,rfl,hn,hm,fun h=>(by cases h),.inr ⟨g,0,T,fr,_,rfl,hb,by simpa using hc⟩⟩
theorem Rd.of_row {w:World} {v:Value} {n sz:Nat} {T:TypeId} {xs:List Value} (h:w.ownsRow 0 T sz v n xs):Rd w v n xs:=by
  obtain ⟨h1,h2⟩:=h
  rcases h2 with ⟨rfl,rfl⟩ | ⟨g,cap,cur,rfl,_,hc,hn,hm,hs,ht⟩
  · exact ⟨none,0,rfl,Nat.le_refl _,Nat.zero_le _,fun _=>rfl,.inl (List.eq_nil_of_length_eq_zero (by simpa using h1))⟩
  · exact ⟨_,cap,rfl,hn,hm,fun h=>(by cases h),.inr ⟨g,0,T,(0,0),cur,rfl,hc,by simpa [h1] using ht⟩⟩
theorem Rd.at_ {w:World} {v:Value} {n:Nat} {cs:List Value} (h:Rd w v n cs) (hne:cs ≠ []):∃ b o cap T fr all,v=.slice (some ⟨b,o,none⟩) n cap∧n≤cap∧cap≤maxLen∧w.heap[b]?=some (.cells all T fr)∧(all.toList.drop o).take cs.length=cs:=by
  obtain ⟨ad,cap,hv,h1,h2,_,h3⟩:=h
  rcases h3 with h3 | ⟨b,o,T,fr,all,rfl,hb,hc⟩
  · exact absurd h3 hne
  · exact ⟨b,o,cap,T,fr,all,hv,h1,h2,hb,hc⟩
theorem Rd.cut {w:World} {ad:Option Addr} {n cap i sz:Nat} {cs:List Value} (h:Rd w (.slice ad n cap) n cs) (hi:i≤n) (hsz:cs.length=n * sz) (hlt:i * sz≤cs.length) :
    Rd w (.slice (if cap=i then ad else ad.map (·.add (i * sz))) (n - i) (cap - i)) (n - i) (cs.drop (i * sz)):=by
  obtain ⟨ad',cap',hv,h1,h2,h0,h3⟩:=h
  cases hv
  refine ⟨_,_,rfl,by omega,by omega,fun hn=>?_,?_⟩
  · split at hn
    · have:=h0 hn; omega
    · have:=h0 (by simpa using hn); omega
  rcases h3 with h3 | ⟨b,o,T,fr,all,rfl,hb,hc⟩
  · left; rw [h3]; simp
  · by_cases e:cap=i
    · left
      have:i=n:=by omega
      subst this
      simp [← hsz]
    · right
      refine ⟨b,o + i * sz,T,fr,all,by simp [e,add_lit],hb,?_⟩
      rw [← hc]
      simp only [List.length_drop,List.drop_take,List.drop_drop,List.length_take]
      congr 1
      have:cs.length≤(all.toList.drop o).length:=by rw [← hc]; simp only [List.length_take]; omega
      simp only [List.length_drop] at this ⊢
      omega
section
variable {P:Program} {a:Act} {w:World} {d:Option Tmp} {ty:TypeId} {pos:String} {aft:Array Edge} {g:Option (Nat × Bool)} {x y z:Operand} {t u:TypeId}
theorem c_lenR {T E:TypeId} {v:Value} {n:Nat} {cs:List Value} (hu:P.underlying T=some (.slice E)) (hx:a.eval x=v) (hr:Rd w v n cs) :
    (execOp a.eval ⟨d,.call { callee:=.builtin .len,args:=#[x],argTypes:=#[T] },ty,pos,aft,g⟩).run P w=.ok (.value (I n)) w:=by
  obtain ⟨ad,cap,rfl,_⟩:=hr
  exact c_lenS hu hx
end
/-! ### append,make -/
section
variable {P:Program} {ops:Array Oper} {Q:Exit→Act→World→Prop} {rest:List Oper} {N:Nat} {F F':List (Nat × Value)} {L L':List Ent} {M:Nat→Prop} {w0 w:World} {a:Act}
variable {d:Tmp} {op:Op} {ty:TypeId} {pos:String} {aft:Array Edge} {x y z:Operand} {t u:TypeId}
theorem ownBlock_row {w:World} {T:TypeId} {sz n:Nat} {v:Value} {xs:List Value} (h:w.ownsRow 0 T sz v n xs):∀ k,v.ownBlock=some k→k < w.heap.size:=fun k hk=>(h.lt k hk).2
theorem Rd.src {w:World} {u:Value} {m:Nat} {news:List Value} (hr:Rd w u m news):(u=.slice none 0 0∧m=0∧news=[])∨∃ ad cap,u=.slice (some ad) m cap∧∀ j v,news[j]?=some v→w.cell? (ad.add j)=some v:=by
  obtain ⟨ad,cap,hv,h1,h2,h0,h3⟩:=hr
  cases ad with
  | none =>
    have hc:=h0 rfl
    subst hc
    have hm:m=0:=by omega
    subst hm
    refine .inl ⟨hv,rfl,?_⟩
    rcases h3 with h3 | ⟨b,o,T,fr,all,h,_⟩
    · exact h3
    · cases h
  | some ad =>
    refine .inr ⟨ad,cap,hv,fun j v hj=>?_⟩
    rcases h3 with h3 | ⟨b,o,T,fr,all,h,hb,hc⟩
    · subst h3; simp at hj
    · cases h
      have hlt:j < news.length:=(List.getElem?_eq_some_iff.1 hj).1
      rw [add_lit,cell_of hb]
      rw [← hc,List.getElem?_take_of_lt hlt,List.getElem?_drop] at hj
      simpa using hj
theorem run_append2 {ty E:TypeId} {ed:TypeDesc} {sz bytes n m:Nat} {zs xs news:List Value} {v u:Value} (hu:P.underlying t=some (.slice E)) (hE:Ty P E ed sz bytes zs) (hsz:0 < sz)
    (hown:w.ownsRow 0 E sz v n xs) (hr:Rd w u m news) (hl:news.length=m * sz) (h1:news.all (·.oneCell')=true) (h63:n + m≤maxLen) (hby:(n + m) * bytes≤140737488355328) :
    ∃ v' w',(Builtin.append_ #[t,t] ty #[v,u]).run P w=.ok v' w'∧w'.ownsRow 0 E sz v' (n + m) (xs++news)∧w.grownBy w' v.ownBlock∧(v'=.slice none 0 0 ↔ v=.slice none 0 0∧m=0) ∧
      (∀ k,v'.ownBlock=some k→v.ownBlock=some k∨w.heap.size≤k):=by
  obtain ⟨inf,hi1,hi2,hi3,zv,hi4,hi5⟩:=hE.info
  have hzs:zv.cells.size=sz:=by rw [hi5]; simp [hE.len]
  rcases hr.src with ⟨rfl,rfl,rfl⟩ | ⟨ad,cap,rfl,hnews⟩
  · exact ⟨v,w,run_append_owned_none w 0 t ty E inf sz hu hi1 v n xs hown,by simpa using hown,⟨rfl,rfl,rfl,Nat.le_refl _,fun _ _ _=>rfl⟩,by simp,fun k hk=>.inl hk⟩
  · have h1':∀ u∈news,u.oneCell'=true:=fun u hu=>List.all_eq_true.1 h1 u hu
    obtain ⟨v',w',hrun,ho,hg,hnil⟩:=run_append_own (P:=P) w 0 t ty E inf zv sz bytes hu hi1 hi4 hi2 hi3 hzs hsz v n xs hown ad m cap news hl hnews h1' h63 hby (Nat.zero_le _)
    refine ⟨v',w',hrun,ho,hg,hnil,fun k hk=>?_⟩
    have hml:n + m≤9223372036854775807:=by simp only [maxLen] at h63; omega
    rcases hown.2 with ⟨rfl,rfl⟩ | ⟨g,cp,cur,rfl,hbg,hgc,hnc,hcm,hcs,htake⟩
    · by_cases hm:m=0
      · have:=hnil.2 ⟨rfl,hm⟩
        rw [this] at hk
        cases hk
      · have hr2:=run_append_nil (P:=P) w t ty E inf zv hu hi1 hi4 ad m cap news (by rw [hl,hi2]) hnews (by omega) (by omega) (by rw [hi3]; simp only [Nat.zero_add] at hby; omega)
        rw [hrun] at hr2
        have:=(Result.ok.inj hr2).1
        subst this
        simp [Value.ownBlock] at hk
        omega
    · by_cases hroom:n + m≤cp
      · have hfit:n * inf.size + news.length≤cur.size:=by rw [hl,hi2,hcs,← Nat.add_mul]; exact Nat.mul_le_mul_right _ hroom
        have hr2:=run_append_room (P:=P) w t ty E inf hu hi1 g n cp cur hgc ad m cap news (by rw [hl,hi2]) hnews h1' hroom hfit
        rw [hrun] at hr2
        have:=(Result.ok.inj hr2).1
        subst this
        exact .inl hk
      · have holds:∀ j u,xs[j]?=some u→w.cell? ((⟨g,0,none⟩:Addr).add j)=some u:=hown.cells (g:=g) rfl
        have hr2:=run_append_grow (P:=P) w t ty E inf zv hu hi1 hi4 ⟨g,0,none⟩ n cp xs (by rw [hown.1,hi2]) holds ad m cap news (by rw [hl,hi2]) hnews (by omega) (by omega) (growslice_fits (by omega) (by rw [hi3]; exact hby))
        rw [hrun] at hr2
        have:=(Result.ok.inj hr2).1
        subst this
        simp [Value.ownBlock] at hk
        omega
theorem s_append {i:Nat} {s0 x0:Operand} {E ty:TypeId} {ed:TypeDesc} {sz bytes n m:Nat} {zs xs news:List Value} {v u:Value} (hs:St N F L M w0 a w) (hu:P.underlying t=some (.slice E)) (hE:Ty P E ed sz bytes zs) (hsz:0 < sz)
    (hv:ev F s0=some v) (hx:ev F x0=some u) (hi:L[i]?=some (.row v n xs E sz)) (hr:Rd w u m news) (hl:news.length=m * sz) (h1:news.all (·.oneCell')=true)
    (h63:n + m≤maxLen) (hby:(n + m) * bytes≤140737488355328) (hd:Nat.blt d N=true)
    (k:∀ a w' v',Fr (Ent.keys (.row v n xs E sz)) w w'→(v'=.slice none 0 0 ↔ v=.slice none 0 0∧m=0)→St N ((d,v')::F) (L.set i (.row v' (n + m) (xs++news) E sz)) M w0 a w'→wpList P ops Q rest a w') :
    wpList P ops Q (⟨some d,.call { callee:=.builtin .append,args:=#[s0,x0],argTypes:=#[t,t] },ty,pos,aft,none⟩::rest) a w:=by
  have hown:w.ownsRow 0 E sz v n xs:=hs.get hi
  obtain ⟨v',w',hrun,ho',hg,hnil,hblk⟩:=run_append2 (P:=P) (w:=w) (ty:=ty) hu hE hsz hown hr hl h1 h63 hby
  have hrun':(execOp a.eval ⟨some d,.call { callee:=.builtin .append,args:=#[s0,x0],argTypes:=#[t,t] },ty,pos,aft,none⟩).run P w=.ok (.value v') w':=by
    simp [execOp,resolve,invoke,builtin,hs.ev hv,hs.ev hx,hrun]
  refine wpList_plain rfl fun K hK=>upon_value hrun' (hK _ _ (k _ _ v' (.grown hg) hnil ?_))
  exact (hs.mod (e':=.row v' (n + m) (xs++news) E sz) hi (Fr.grown hg) ho' fun k hk=>⟨hblk k hk,ownBlock_row ho' k hk⟩).put (lt_of_blt hd) v'
theorem St.nilrow (hs:St N F L M w0 a w) (E:TypeId) (sz:Nat):St N F (.row (.slice none 0 0) 0 [] E sz::L) M w0 a w :=
  hs.new (L':=[.row (.slice none 0 0) 0 [] E sz]) (.refl _ _) ⟨by intro e he; simp at he; subst he; exact World.ownsRow_nil _ _ _ _,List.pairwise_singleton _ _,(by intro e he k hk; simp at he; subst he; cases hk),(by intro e he k hk; simp at he; subst he; cases hk)⟩
theorem St.segrow {i gb n sz:Nat} {cs:List Value} {E:TypeId} (hs:St N F L M w0 a w) (hi:L[i]?=some (.seg gb cs E)) (hl:cs.length=n * sz) (hn:n≤maxLen) :
    St N F (L.set i (.row (.slice (some ⟨gb,0,none⟩) n n) n cs E sz)) M w0 a w :=
  hs.mod hi (.refl _ _) ⟨hl,.inr ⟨gb,n,cs.toArray,rfl,Nat.zero_le _,hs.seg hi,Nat.le_refl _,hn,by simp [hl],by simp [← hl]⟩⟩ fun k hk=>by
    have h2:=hs.has.lt _ (List.mem_of_getElem? hi)
    simp [Ent.keys,Value.ownBlock] at hk
    subst hk
    exact ⟨.inl rfl,h2 gb rfl⟩
theorem flatten_rep {α:Type} (zs:List α) {sz:Nat} (hz:zs.length=sz) (hpos:0 < sz):∀ (n j:Nat),j < n * sz→(List.replicate n zs).flatten[j]?=zs[j % sz]?
  | 0,j,h=>by omega
  | n + 1,j,h=>by
    rw [List.replicate_succ,List.flatten_cons]
    by_cases hjs:j < sz
    · rw [List.getElem?_append_left (by omega),Nat.mod_eq_of_lt hjs]
    · rw [List.getElem?_append_right (by omega),hz,flatten_rep zs hz hpos n (j - sz) (by rw [Nat.succ_mul] at h; omega)]
      congr 1
      rw [← Nat.mod_eq_sub_mod (by omega)]
theorem s_make {E:TypeId} {ed:TypeDesc} {sz bytes n:Nat} {zs:List Value} {k1 k2:IntKind} {i1 i2:Int} (hs:St N F L M w0 a w) (hu:P.underlying t=some (.slice E)) (hE:Ty P E ed sz bytes zs) (h1:ev F x=some (.int k1 i1)) (h2:ev F y=some (.int k2 i2))
    (hi1:i1=(n:Int)) (hi2:i2=(n:Int)) (hby:bytes * n≤281474976710656) (h63:n≤maxLen) (hd:Nat.blt d N=true)
    (k:∀ a w gb,St N ((d,.slice (some ⟨gb,0,none⟩) n n)::F) (.seg gb (List.replicate n zs).flatten E::L) M w0 a w→wpList P ops Q rest a w) :
    wpList P ops Q (⟨some d,.makeSlice t x y,ty,pos,aft,none⟩::rest) a w:=by
  subst hi1; subst hi2
  obtain ⟨inf,hi1,hi2,hi3,zv,hi4,hi5⟩:=hE.info
  have h63':(n:Int)≤9223372036854775807:=by simp only [maxLen] at h63; omega
  have hb':(inf.bytes:Int) * (n:Int)≤281474976710656:=by
    have h:((bytes * n:Nat):Int)≤281474976710656:=by omega
    rwa [Int.natCast_mul,← hi3] at h
  have hr:=run_make (P:=P) w t E inf zv hu hi1 hi4 k1 k2 n n (by omega) (Int.le_refl _) hb' h63'
  simp only [Int.toNat_natCast] at hr
  have hcells:madeCells zv.cells (n * inf.size)=(List.replicate n zs).flatten.toArray:=by
    rw [hi5,hi2]
    apply Array.ext'
    apply List.ext_getElem?
    intro j
    have hzl:=hE.len
    by_cases hj:j < n * sz
    · have hpos:0 < sz:=by
        by_cases e:sz=0
        · subst e; omega
        · omega
      have e1:=flatten_rep zs hzl hpos n j hj
      have hm:j % sz < zs.length:=by rw [hzl]; exact Nat.mod_lt _ hpos
      simp only [madeCells,Array.toList_map,Array.toList_range,e1]
      rw [List.getElem?_map,List.getElem?_range hj]
      simp [hzl,List.getElem?_eq_getElem hm]
    · have e2:(List.replicate n zs).flatten.length=n * sz:=by simp [hzl]
      rw [List.getElem?_eq_none (by simp [madeCells]; omega),List.getElem?_eq_none (by simp [hzl]; omega)]
  rw [hcells] at hr
  refine s_new hs (L':=[.seg w.heap.size _ E]) (w':=w.alloc (.cells (List.replicate n zs).flatten.toArray E)) ?_ hd (.alloc _ _) has_alloc fun a hs=>k a _ _ hs
  simp [execOp,hs.ev h1,hs.ev h2,hr]
end
end Go.Fw
end

section
/- Closed facts on the program's tables; comparisons of arrays; what else the walks want. -/
namespace Go.Fw
open Go
def dOf (P:Program) (T:TypeId):TypeDesc:=(P.underlying T).getD .invalid
theorem Ty.of {P:Program} {T:TypeId} {d:TypeDesc} {sz bytes:Nat} {v:Value} {z:List Value} (h1:P.underlying T=some d) (h2:(P.info? T).map (fun i=>(i.zero,i.size,i.bytes))=some (some v,sz,bytes))
    (h3:v.cells=z.toArray) (h4:z.length=sz) (h5:z.all (·.oneCell')=true):Ty P T d sz bytes z:=by
  cases hi:P.info? T with
  | none=>rw [hi] at h2; cases h2
  | some i =>
    rw [hi] at h2
    simp at h2
    exact ⟨h1,⟨i,hi,h2.2.1,h2.2.2,v,h2.1,h3⟩,h4,h5⟩
theorem und_of {P:Program} {T:TypeId} (h:(P.underlying T).isSome=true):P.underlying T=some (dOf P T):=by
  unfold dOf
  cases hu:P.underlying T with
  | none=>rw [hu] at h; cases h
  | some d=>rfl
def fldB (P:Program) (S:TypeId) (f off:Nat):Bool :=
  match P.underlying S with
  | some (.struct fs)=>match fs[f]? with
    | some fl=>Nat.beq fl.offset off && (match P.info? fl.type with | some i=>!Nat.beq i.size 0 | none=>false)
    | none=>false
  | _=>false
theorem Fld.of {P:Program} {S:TypeId} {f off:Nat} (h:fldB P S f off=true):Fld P S f off:=by
  unfold fldB at h
  split at h
  · rename_i fs hu
    split at h
    · rename_i fl hf
      simp only [Bool.and_eq_true] at h
      cases hi:P.info? fl.type with
      | none=>rw [hi] at h; cases h.2
      | some i =>
        rw [hi] at h
        refine ⟨fs,fl,i,hu,hf,Nat.eq_of_beq_eq_true h.1,hi,fun e=>?_⟩
        have h2:=h.2
        dsimp only at h2
        rw [e] at h2
        cases h2
    · cases h
  · cases h
section
variable {N:Nat} {F F':List (Nat × Value)} {L L':List Ent} {M:Nat→Prop} {w0 w w':World} {a:Act}
theorem St.add {n:Nat} {v:Value} (h:St N F L M w0 a w) (hv:a.tmps[n]?=some v):St N ((n,v)::F) L M w0 a w:=by
  refine ⟨⟨h.know.size,h.know.defers,fun k u hk=>?_⟩,h.has,h.own,h.fr⟩
  simp only [look] at hk
  by_cases e:n=k
  · subst e
    simp at hk
    rw [← hk]
    exact hv
  · rw [Nat.beq_eq_false_of e] at hk
    exact h.know.at_ k u hk
end
/-! loops -/
theorem s_loop {P:Program} {Q:Exit→Act→World→Prop} {N:Nat} {F:List (Nat × Value)} {L:List Ent} {M:Nat→Prop} {w0 w:World} {a:Act} {c:Code} {X:Type}
    (hs:St N F L M w0 a w) (Fm:X→List (Nat × Value)) (Fb:List (Nat × Value)) (Lm:X→List Ent) (ok:Nat→X→Prop) (n:Nat) (x:X) (h0:ok n x) (hF:Sub F (Fm x++Fb)) (hL:L=Lm x)
    (round:∀ n x a w,ok n x→St N (Fm x++Fb) (Lm x) M w0 a w→c.wp P (Exit.then (fun a' w'=>∃ m,m < n∧∃ x',ok m x'∧St N (Fm x'++Fb) (Lm x') M w0 a' w') Q) a w):(Code.loop c).wp P Q a w:=by
  refine wp_loop_ix (fun n a w=>∃ x,ok n x∧St N (Fm x++Fb) (Lm x) M w0 a w) n ⟨x,h0,(hs.sub hF).toL hL⟩ ?_
  rintro n a w ⟨x,hx,hs⟩
  exact round n x a w hx hs
section
variable {Q:Exit→Act→World→Prop} {K:Act→World→Prop} {a:Act} {w:World}
theorem then_n (h:K a w):Exit.then K Q .normal a w:=h
theorem then_e {id:Nat} (h:Q (.exit id) a w):Exit.then K Q (.exit id) a w:=h
theorem then_r (h:Q .ret a w):Exit.then K Q .ret a w:=h
theorem blk_n {id:Nat} (h:Q .normal a w):Exit.inBlock id Q .normal a w:=h
theorem blk_r {id:Nat} (h:Q .ret a w):Exit.inBlock id Q .ret a w:=h
theorem blk_hit {id:Nat} (h:Q .normal a w):Exit.inBlock id Q (.exit id) a w:=by simp only [Exit.inBlock,if_true]; exact h
theorem blk_miss {id id':Nat} (hne:Nat.beq id' id=false) (h:Q (.exit id') a w):Exit.inBlock id Q (.exit id') a w:=by
  have:id' ≠ id:=fun e=>by subst e; simp at hne
  simp only [Exit.inBlock,if_neg this]; exact h
end
/-! more of int -/
section
variable {P:Program} {a:Act} {w:World} {d:Option Tmp} {ty:TypeId} {pos:String} {aft:Array Edge} {g:Option (Nat × Bool)} {x y z:Operand} {t u:TypeId}
theorem c_shrI {i:Int} {k:IntKind} {n:Nat} (hx:a.eval x=I i) (hy:a.eval y=.int k (n:Int)) (hn:n < 64) :
    (execOp a.eval ⟨d,.binOp .shr t x y u,ty,pos,aft,g⟩).run P w=.ok (.value (I (i / 2 ^ n))) w:=by
  have hm:min n 64=n:=by omega
  simp [execOp,hx,hy,eqGuard,binOp,Op.shift,IntKind.bits,hm]
theorem eqpn {E:TypeId} (hu:P.underlying t=some (.pointer E)) (p:Addr) (n:Nat):(Op.equalIn (n + 1) t (.pointer (some p)) (.pointer none)).run P w=.ok false w:=by simp [Op.equalIn,run_underlying hu]
theorem c_eqlNil {p:Addr} {E:TypeId} (hu:P.underlying t=some (.pointer E)) (hx:a.eval x=.pointer (some p)) (hy:a.eval y=.pointer none) :
    (execOp a.eval ⟨d,.binOp .eql t x y u,ty,pos,aft,g⟩).run P w=.ok (.value (.bool false)) w:=by
  have e:(Op.equal t (.pointer (some p)) (.pointer none)).run P w=.ok false w:=by
    exact eqpn hu p 9999
  simp [execOp,hx,hy,eqGuard,binOp,e]
theorem c_neqT {s s':ByteArray} (hx:a.eval x=.string s) (hy:a.eval y=.string s') :
    (execOp a.eval ⟨d,.binOp .neq t x y u,ty,pos,aft,g⟩).run P w=.ok (.value (.bool (!(s.toList == s'.toList)))) w:=by
  simp [execOp,hx,hy,eqGuard,binOp,Op.stringOp]
end
end Go.Fw
end

section
/- Literals of structs and arrays; small laws on lists of cells. -/
namespace Go.Fw
open Go
def Pl (place:Nat→Option (Nat × Nat)):Nat→Nat→List Value→Prop
  | _,_,[]=>True
  | k,off,v::t=>place k=some (off,v.cells.size)∧Pl place (k + 1) (off + v.cells.size) t
theorem fill_seq (place:Nat→Option (Nat × Nat)):∀ (vs:List Value) (k:Nat) (done zeros:List Value),Pl place k done.length vs→(flatCells vs).length≤zeros.length →
    Instr.fill place (done++zeros).toArray (pairsFrom k vs)=some (done++flatCells vs++zeros.drop (flatCells vs).length).toArray
  | [],k,done,zeros,_,_=>by simp [Instr.fill,pairsFrom,flatCells]
  | v::t,k,done,zeros,⟨hp,ht⟩,hz=>by
    have hfc:flatCells (v::t)=v.cells.toList++flatCells t:=by simp [flatCells]
    rw [hfc,List.length_append,Array.length_toList] at hz
    have step:=array_foldl_set done.length v.cells (done++zeros).toArray (by simp; omega)
    have e1:((done++zeros).toArray.toList.take done.length++v.cells.toList++(done++zeros).toArray.toList.drop (done.length + v.cells.size))=(done++v.cells.toList)++zeros.drop v.cells.size:=by
      simp
    have ih:=fill_seq place t (k + 1) (done++v.cells.toList) (zeros.drop v.cells.size) (by simpa using ht) (by simp; omega)
    have hn:¬ (v.cells.size ≠ v.cells.size∨done.length + v.cells.size > (done++zeros).toArray.size):=by
      simp only [List.size_toArray,List.length_append]
      intro h
      rcases h with h | h
      · exact h rfl
      · omega
    simp only [pairsFrom,Instr.fill,hp]
    rw [if_neg (by simpa using hn),step,e1,ih,hfc]
    simp [List.drop_drop]
section
variable {P:Program} {a:Act} {w:World} {d:Option Tmp} {ty:TypeId} {pos:String} {aft:Array Edge} {g:Option (Nat × Bool)} {x y z:Operand} {t u:TypeId}
theorem pl_arr {s:Nat}:∀ (vs:List Value) (k off:Nat),off=k * s→(∀ v∈vs,v.cells.size=s)→Pl (fun i=>some (i * s,s)) k off vs
  | [],_,_,_,_=>trivial
  | v::t,k,off,h,hv=>⟨by rw [hv v (by simp),h],pl_arr t (k + 1) _ (by rw [hv v (by simp),h,Nat.succ_mul]) fun u hu=>hv u (by simp [hu])⟩
theorem c_buildA {n s bytes by2 sz:Nat} {E:TypeId} {ed td:TypeDesc} {ze zs zc:List Value} {ps:Array (Nat × Operand)} {vs:List Value} (hT:Ty P t td sz bytes zs) (hu:P.underlying t=some (.array n E)) (hE:Ty P E ed s by2 ze)
    (hps:Evp a 0 ps.toList vs) (hv:∀ v∈vs,v.cells.size=s) (hle:(flatCells vs).length≤sz) (hz:flatCells vs++zs.drop (flatCells vs).length=zc) :
    (execOp a.eval ⟨d,.build t ps,ty,pos,aft,g⟩).run P w=.ok (.value (.agg zc.toArray)) w:=by
  obtain ⟨v,hzv,hzc⟩:=hT.zero (w:=w)
  have hf:=fill_seq (fun i=>some (i * s,s)) vs 0 [] zs (pl_arr vs 0 0 (by simp) hv) (by rw [hT.len]; exact hle)
  simp only [List.nil_append,hz] at hf
  simp [execOp,Instr.build,hzv,hzc,run_underlying hu,hE.size,hps.map,hf]
def fsOf:TypeDesc→Array Field
  | .struct fs=>fs
  | _=>#[]
def BP (P:Program) (T:TypeId) (places:Array (Nat × Nat)):Prop:=P.underlying T=some (.struct (fsOf (dOf P T)))∧∀ w,((fsOf (dOf P T)).mapM (m:=Sem) fun f=>do pure (f.offset,← sizeOf f.type)).run P w=.ok places w
theorem c_buildS {bytes sz:Nat} {td:TypeDesc} {zs zc:List Value} {pl:Array (Nat × Nat)} {ps:Array (Nat × Operand)} {vs:List Value} (hT:Ty P t td sz bytes zs) (hB:BP P t pl)
    (hps:Evp a 0 ps.toList vs) (hpl:Pl (fun i=>pl[i]?) 0 0 vs) (hle:(flatCells vs).length≤sz) (hz:flatCells vs++zs.drop (flatCells vs).length=zc) :
    (execOp a.eval ⟨d,.build t ps,ty,pos,aft,g⟩).run P w=.ok (.value (.agg zc.toArray)) w:=by
  obtain ⟨v,hzv,hzc⟩:=hT.zero (w:=w)
  obtain ⟨hb1,hb2⟩:=hB
  have hf:=fill_seq (fun i=>pl[i]?) vs 0 [] zs hpl (by rw [hT.len]; exact hle)
  simp only [List.nil_append,hz] at hf
  have hb3:=hb2 w
  simp only [bind_pure_comp] at hb3
  simp [execOp,Instr.build,hzv,hzc,run_underlying hb1,hb3,hps.map,hf]
end
/-! lists of cells -/
theorem seg_get {α:Type} {f:α→Value} {all:Array Value} {l:List α} {o i:Nat} (d:α) (h:(all.toList.drop o).take (l.map f).length=l.map f) (hi:i < l.length):all.toList[o + i * 1]?=some (f (l.getD i d)):=by
  have h2:(l.map f)[i]?=some (f (l.getD i d)):=by simp [List.getD,hi]
  rw [← h,List.getElem?_take_of_lt (by simpa using hi),List.getElem?_drop] at h2
  simpa using h2
theorem map_get {α:Type} {f:α→Value} {l:List α} {i:Nat} (d:α) (hi:i < l.length):(l.map f)[0 + i * 1]?=some (f (l.getD i d)):=by simp [List.getD,hi]
theorem map_set {α:Type} {f:α→Value} {l:List α} {i:Nat} (x:α) (hi:i < l.length):(l.map f).take (0 + i * 1)++[f x]++(l.map f).drop (0 + i * 1 + 1)=(l.set i x).map f:=by
  have:i < (l.map f).length:=by simpa using hi
  rw [List.map_set,Nat.mul_one,Nat.zero_add,List.set_eq_take_append_cons_drop,if_pos this]
  simp
theorem all_map_B (l:List UInt8):(l.map B).all (·.oneCell')=true:=by simp [Value.oneCell']
theorem St.old {N:Nat} {F:List (Nat × Value)} {L:List Ent} {M:Nat→Prop} {w0 w:World} {a:Act} {g:Nat} {o:Obj} (hs:St N F L M w0 a w) (h:w0.heap[g]?=some o) (hm:¬ M g):w.heap[g]?=some o:=by
  rw [hs.fr.block g (Array.getElem?_eq_some_iff.1 h).1 hm]; exact h
abbrev RdB (w:World) (v:Value) (l:List UInt8):Prop:=Rd w v l.length (l.map B)
theorem RdB.at_ {w:World} {v:Value} {l:List UInt8} (h:RdB w v l) (hne:0 < l.length):∃ b o cap T fr all,v=.slice (some ⟨b,o,none⟩) l.length cap∧l.length≤cap∧cap≤maxLen∧w.heap[b]?=some (.cells all T fr)∧(all.toList.drop o).take (l.map B).length=l.map B :=
  Rd.at_ h (by intro e; simp at e; subst e; simp at hne)
theorem Rd.le {w:World} {v:Value} {n:Nat} {cs:List Value} (h:Rd w v n cs):n≤9223372036854775807:=by
  obtain ⟨ad,cap,hv,h1,h2,_⟩:=h
  simp only [maxLen] at h2
  omega
end Go.Fw
end

section
/- Stores of whole variables; more on blocks. -/
namespace Go.Fw
open Go
section
variable {P:Program} {ops:Array Oper} {Q:Exit→Act→World→Prop} {rest:List Oper} {N:Nat} {F F':List (Nat × Value)} {L L':List Ent} {M:Nat→Prop} {w0 w:World} {a:Act}
variable {d:Tmp} {op:Op} {ty:TypeId} {pos:String} {aft:Array Edge} {x y z:Operand} {t u:TypeId}
theorem St.next (hs:St N F L M w0 a w) (hF:Sub F F') (hL:L=L'):St N F' L' M w0 a w:=(hs.sub hF).toL hL
theorem s_storeW {i:Nat} {T':TypeId} {td:TypeDesc} {sz bytes:Nat} {zz:List Value} {gb:Nat} {cs c:List Value} (hs:St N F L M w0 a w) (hT:Ty P t td sz bytes zz)
    (hx:ev F x=some (.pointer (some ⟨gb,0,none⟩))) (hy:ev F y=some (.agg c.toArray)) (hi:L[i]?=some (.seg gb cs T')) (hl:c.length=sz) (h1:c.all (·.oneCell')=true) (hcs:cs.length=sz)
    (k:∀ w,St N F (L.set i (.seg gb c T')) M w0 a w→wpList P ops Q rest a w) :
    wpList P ops Q (⟨none,.store t x y,ty,pos,aft,none⟩::rest) a w :=
  s_store hs hT hx hy hi (by simp [Value.cells]) hl h1 (by omega) (by simp [hcs]) k
end
end Go.Fw
end

section
/- Comparisons of arrays and of bools; guarded steps of a region. -/
namespace Go.Fw
open Go
section
variable {P:Program} {a:Act} {w:World} {d:Option Tmp} {ty:TypeId} {pos:String} {aft:Array Edge} {g:Option (Nat × Bool)} {x y z:Operand} {t u:TypeId}
theorem eq_bool (hu:P.underlying t=some .bool) (b c:Bool) (n:Nat):(Op.equalIn (n + 1) t (.bool b) (.bool c)).run P w=.ok (b == c) w:=by simp [Op.equalIn,run_underlying hu]
theorem c_eqlbool {b c:Bool} (hu:P.underlying t=some .bool) (hx:a.eval x=.bool b) (hy:a.eval y=.bool c) :
    (execOp a.eval ⟨d,.binOp .eql t x y u,ty,pos,aft,g⟩).run P w=.ok (.value (.bool (b == c))) w:=by
  have e:(Op.equal t (.bool b) (.bool c)).run P w=.ok (b == c) w:=eq_bool hu b c 9999
  simp [execOp,hx,hy,eqGuard,binOp,e]
end
section
variable {P:Program} {ops:Array Oper} {N B1:Nat} {w1:World} {K:List (Nat × Value)→Fes→Prop} {Fc:List (Nat × Value)} {Fe:Fes} {rest:List Oper}
variable {d:Tmp} {op:Op} {ty:TypeId} {pos:String} {aft:Array Edge}
theorem rg_g {v:Value} {j s:Nat} {b c:Bool} (hj:(ops[j]?).bind (·.dst)=some s) (hb:look Fc s=some (.bool c))
    (h:c=b→∀ a w,RC N Fc Fe ⟨some d,op,ty,pos,aft,some (j,b)⟩ B1 w1 a w→(execOp a.eval ⟨some d,op,ty,pos,aft,some (j,b)⟩).run P w=.ok (.value v) w) (hE:lookE Fe d=none)
    (k:RG P ops N B1 w1 K ((d,if c=b then v else undef)::Fc) Fe rest):RG P ops N B1 w1 K Fc Fe (⟨some d,op,ty,pos,aft,some (j,b)⟩::rest):=by
  by_cases e:c=b
  · subst e
    exact rg_yes hj hb (h rfl) hE (by simpa using k)
  · exact rg_no hj hb (by cases c <;> cases b <;> simp_all) hE (by simpa [e] using k)
end
end Go.Fw
end

section
/- Small laws for walks: masks,arrays that are filled. -/
namespace Go.Fw
open Go
section
variable {P:Program} {a:Act} {w:World} {d:Option Tmp} {ty:TypeId} {pos:String} {aft:Array Edge} {g:Option (Nat × Bool)} {x y z:Operand} {t u:TypeId}
end
end Go.Fw
namespace Go.Fw
open Go
theorem c_tt {r:Result Next} {b:Bool} {w:World} (h:r=.ok (.value (.bool b)) w) (hb:b=true):r=.ok (.value (.bool true)) w:=by rw [h,hb]
theorem c_ff {r:Result Next} {b:Bool} {w:World} (h:r=.ok (.value (.bool b)) w) (hb:b=false):r=.ok (.value (.bool false)) w:=by rw [h,hb]
theorem c_to {r:Result Next} {u v:Value} {w:World} (h:r=.ok (.value u) w) (hb:u=v):r=.ok (.value v) w:=by rw [h,hb]
end Go.Fw
end

section
/- What an argument is,read off the statement's own reading of it. -/
namespace Go.Fw
open Go Go.ChangeShapes Go.WideShapes Go.ChangeAt Go.RowKit
theorem ofB {n:Int} (h:(Lit.int .u8 n).wf=true):∃ b:UInt8,Value.int .u8 n=B b:=by
  obtain ⟨h0,h1⟩:=bounds_u8 h
  exact ⟨i8 n,by unfold B; rw [i8_toNat]; congr 1; omega⟩
theorem ofU {n:Int} (h:(Lit.int .u32 n).wf=true):∃ b:UInt32,Value.int .u32 n=U b:=by
  obtain ⟨h0,h1⟩:=bounds_u32 h
  exact ⟨i32 n,by unfold U; rw [i32_toNat]; congr 1; omega⟩
theorem ofBs:∀ {cs:List Value},(∀ v∈cs,∃ b:UInt8,v=B b)→∃ l:List UInt8,cs=l.map B
  | [],_=>⟨[],rfl⟩
  | v::t,h=>by
    obtain ⟨b,rfl⟩:=h v (by simp)
    obtain ⟨l,rfl⟩:=ofBs (cs:=t) fun v hv=>h v (by simp [hv])
    exact ⟨b::l,rfl⟩
section
variable {H:Type} {enc:TypeId × Value→H} {P:Program} {w:World} {base:Nat} {spare:Nat→Bool} {held:Bool} {fuel:Nat} {t e:TypeId} {cs:List Value} {x:DataW H × List MemPlace} {v:Value} {d:DataW H} {ps:List MemPlace} {r:Reach} {b0:Nat}
theorem trodBs {n:Nat} (ht:P.underlying t=some (.array n e)) (he:P.underlying e=some (.int .u8)) (hc:P.cellsOf e=1) (hn:P.cellsOf t=n)
    (h:DataW.trod enc P w base spare held fuel t cs=some x):∃ l:List UInt8,l.length=n∧cs=l.map B:=by
  obtain ⟨xs,m,_,_,hl,hxl,hx⟩:=DataW.trod_array ht h
  obtain ⟨l,rfl⟩:=ofBs (cs:=cs) fun u hu=>by
    obtain ⟨i,hi,rfl⟩:=List.getElem_of_mem hu
    have h1:=hx i (by omega)
    rw [hc,Nat.mul_one] at h1
    rw [List.getElem?_eq_getElem (by omega)] at h1
    obtain ⟨z,hz,_,hw⟩:=DataW.trod_int he h1
    have h2:(cs.drop i).take 1=[cs[i]]:=by rw [List.drop_eq_getElem_cons hi]; rfl
    rw [h2] at hz
    simp only [List.cons.injEq,and_true] at hz
    rw [hz]
    exact ofB hw
  exact ⟨l,by simpa [hn] using hl,rfl⟩
theorem row_of {a:Addr} {n:Nat} (hp:0 < n) (hcs:cs.length=n) (h:∀ i,i < n→w.cell? (a.add i)=cs[i]?) :
    ∃ b o T fr all,a=⟨b,o,none⟩∧w.heap[b]?=some (.cells all T fr)∧(all.toList.drop o).take cs.length=cs:=by
  have h0:=h 0 hp
  rw [List.getElem?_eq_getElem (by omega)] at h0
  have hs:=World.cell?_spot h0
  obtain ⟨b,o,s⟩:=a
  have hs':s=none:=by simpa [Addr.add] using hs
  subst hs'
  have hcell:∀ i,i < n→w.cell? ⟨b,o + i,none⟩=cs[i]?:=fun i hi=>by
    have:=h i hi
    simp only [Addr.add] at this
    by_cases e:i=0
    · subst e; simpa using this
    · simpa [e] using this
  have h1:=hcell 0 hp
  rw [List.getElem?_eq_getElem (by omega)] at h1
  unfold World.cell? at h1 hcell
  simp only at h1 hcell
  cases hb:w.heap[b]? with
  | none=>rw [hb] at h1; simp at h1
  | some ob =>
    cases ob with
    | cells all T fr =>
      refine ⟨b,o,T,fr,all,rfl,by rw [hb],?_⟩
      have hh:∀ i,i < n→all[o + i]?=cs[i]?:=fun i hi=>by have:=hcell i hi; rw [hb] at this; simpa using this
      refine List.ext_getElem? fun i=>?_
      by_cases hi:i < n
      · rw [List.getElem?_take_of_lt (by omega),List.getElem?_drop]
        simpa using hh i hi
      · rw [List.getElem?_eq_none (by simp; omega),List.getElem?_eq_none (by omega)]
    | _=>rw [hb] at h1; simp at h1
theorem trodSl (ht:P.underlying t=some (.slice e)) (he:P.underlying e=some (.int .u8)) (hc:P.cellsOf e=1) 
    (h:DataW.trod enc P w base spare held fuel t [v]=some x):∃ l:List UInt8,RdB w v l∧(l=[]∨∃ es sp,x.1=.slice es sp∧es.length=l.length):=by
  rcases Deep.open_slice ht h with ⟨h1,rfl⟩ | ⟨a,len,cap,m,n,D,Pl,h1,hb,hl,hm,hmm,rfl,hx⟩
  · simp only [List.cons.injEq,and_true] at h1
    exact ⟨[],⟨none,0,h1,Nat.le_refl _,Nat.zero_le _,fun _=>rfl,.inl rfl⟩,.inl rfl⟩
  · simp only [List.cons.injEq,and_true] at h1
    have hlm:len≤m:=by rw [hmm]; split <;> omega
    have each:∀ i,i < len→∃ b:UInt8,w.cell? (a.add i)=some (B b):=fun i hi=>by
      obtain ⟨cs',h2,h3⟩:=hx i (by omega)
      rw [hc,Nat.mul_one] at h2
      obtain ⟨z,rfl,_,hw⟩:=DataW.trod_int he h3
      obtain ⟨b,hb'⟩:=ofB hw
      exact ⟨b,by rw [cell_of_cells?_one h2,hb']⟩
    obtain ⟨f,hf⟩:=Deep.choose_lt (α:=UInt8) (p:=fun i b=>w.cell? (a.add i)=some (B b)) each
    have hll:((List.range len).map f).length=len:=by simp
    refine ⟨(List.range len).map f,?_,.inr ⟨_,_,rfl,by simp⟩⟩
    unfold RdB
    rw [hll]
    refine ⟨some a,cap,h1,hl,hm,(fun h=>by cases h),?_⟩
    by_cases hp:len=0
    · left; subst hp; rfl
    · right
      obtain ⟨b,o,T,fr,all,rfl,h5,h6⟩:=row_of (w:=w) (a:=a) (cs:=((List.range len).map f).map B) (n:=len) (by omega) (by simp) (fun i hi=>by
        rw [hf i hi]; simp [hi])
      exact ⟨b,o,T,fr,all,rfl,h5,h6⟩
end
end Go.Fw
end

section
/- Closed facts on the tables of types and functions of this program. Written by a program of ours (facts.py). -/
namespace Go.Proofs.Ytkecdcmjkghddaa
open Go Go.Fw
theorem pmix:Try.prog.follows .mixedOrders=true:=by kernel_rfl
theorem un2:Try.prog.underlying 2=some (.int .i64):=by kernel_rfl
theorem ty2:Ty Try.prog 2 (.int .i64) 1 8 ([I 0]):=Ty.of (v:=I 0) un2 (by kernel_rfl) (by kernel_rfl) (by kernel_rfl) (by kernel_rfl)
theorem un3:Try.prog.underlying 3=some (.int .i64):=by kernel_rfl
theorem ty3:Ty Try.prog 3 (.int .i64) 1 8 ([I 0]):=Ty.of (v:=I 0) un3 (by kernel_rfl) (by kernel_rfl) (by kernel_rfl) (by kernel_rfl)
theorem un4:Try.prog.underlying 4=some (.bool):=by kernel_rfl
theorem ty4:Ty Try.prog 4 (.bool) 1 1 ([Value.bool false]):=Ty.of (v:=Value.bool false) un4 (by kernel_rfl) (by kernel_rfl) (by kernel_rfl) (by kernel_rfl)
theorem un5:Try.prog.underlying 5=some (.int .u8):=by kernel_rfl
theorem ty5:Ty Try.prog 5 (.int .u8) 1 1 ([B 0]):=Ty.of (v:=B 0) un5 (by kernel_rfl) (by kernel_rfl) (by kernel_rfl) (by kernel_rfl)
theorem un9:Try.prog.underlying 9=some (.string):=by kernel_rfl
theorem un23:Try.prog.underlying 23=some (.pointer 72):=by kernel_rfl
theorem un28:Try.prog.underlying 28=some (.array 64 5):=by kernel_rfl
theorem un29:Try.prog.underlying 29=some (.array 64 5):=by kernel_rfl
theorem ty29:Ty Try.prog 29 (.array 64 5) 64 64 ((List.replicate 64 (0:UInt8)).map B):=Ty.of (v:=.agg ((List.replicate 64 (0:UInt8)).map B).toArray) un29 (by kernel_rfl) (by kernel_rfl) (by kernel_rfl) (by kernel_rfl)
theorem un33:Try.prog.underlying 33=some (.int .u64):=by kernel_rfl
theorem un38:Try.prog.underlying 38=some (.slice 5):=by kernel_rfl
theorem ty38:Ty Try.prog 38 (.slice 5) 1 24 ([Value.slice none 0 0]):=Ty.of (v:=Value.slice none 0 0) un38 (by kernel_rfl) (by kernel_rfl) (by kernel_rfl) (by kernel_rfl)
theorem un51:Try.prog.underlying 51=some (.slice 38):=by kernel_rfl
theorem ty51:Ty Try.prog 51 (.slice 38) 1 24 ([Value.slice none 0 0]):=Ty.of (v:=Value.slice none 0 0) un51 (by kernel_rfl) (by kernel_rfl) (by kernel_rfl) (by kernel_rfl)
theorem un53:Try.prog.underlying 53=some (.int .u32):=by kernel_rfl
theorem ty53:Ty Try.prog 53 (.int .u32) 1 4 ([U 0]):=Ty.of (v:=U 0) un53 (by kernel_rfl) (by kernel_rfl) (by kernel_rfl) (by kernel_rfl)
theorem un55:Try.prog.underlying 55=some (dOf Try.prog 55):=und_of (by kernel_rfl)
theorem ty55:Ty Try.prog 55 (dOf Try.prog 55) 70 144 ([I 0]++[Value.slice none 0 0]++[U 0]++[Value.slice none 0 0]++List.replicate 2 (I 0)++(List.replicate 64 (0:UInt8)).map B):=Ty.of (v:=.agg ([I 0]++[Value.slice none 0 0]++[U 0]++[Value.slice none 0 0]++List.replicate 2 (I 0)++(List.replicate 64 (0:UInt8)).map B).toArray) un55 (by kernel_rfl) (by kernel_rfl) (by kernel_rfl) (by kernel_rfl)
theorem ag55:aggD (dOf Try.prog 55)=true:=by kernel_rfl
theorem fl55_0:Fld Try.prog 55 0 0:=Fld.of (by kernel_rfl)
theorem fl55_1:Fld Try.prog 55 1 1:=Fld.of (by kernel_rfl)
theorem fl55_3:Fld Try.prog 55 3 3:=Fld.of (by kernel_rfl)
theorem fl55_4:Fld Try.prog 55 4 4:=Fld.of (by kernel_rfl)
theorem fl55_5:Fld Try.prog 55 5 5:=Fld.of (by kernel_rfl)
theorem un56:Try.prog.underlying 56=some (.pointer 83):=by kernel_rfl
theorem un67:Try.prog.underlying 67=some (.slice 55):=by kernel_rfl
theorem un69:Try.prog.underlying 69=some (.slice 29):=by kernel_rfl
theorem un70:Try.prog.underlying 70=some (.slice 74):=by kernel_rfl
theorem ty70:Ty Try.prog 70 (.slice 74) 1 24 ([Value.slice none 0 0]):=Ty.of (v:=Value.slice none 0 0) un70 (by kernel_rfl) (by kernel_rfl) (by kernel_rfl) (by kernel_rfl)
theorem un72:Try.prog.underlying 72=some (dOf Try.prog 72):=und_of (by kernel_rfl)
theorem ty72:Ty Try.prog 72 (dOf Try.prog 72) 5 72 (List.replicate 2 (Value.slice none 0 0)++[I 0]++[Value.bool false]++[I 0]):=Ty.of (v:=.agg (List.replicate 2 (Value.slice none 0 0)++[I 0]++[Value.bool false]++[I 0]).toArray) un72 (by kernel_rfl) (by kernel_rfl) (by kernel_rfl) (by kernel_rfl)
theorem fl72_0:Fld Try.prog 72 0 0:=Fld.of (by kernel_rfl)
theorem fl72_1:Fld Try.prog 72 1 1:=Fld.of (by kernel_rfl)
theorem fl72_2:Fld Try.prog 72 2 2:=Fld.of (by kernel_rfl)
theorem fl72_3:Fld Try.prog 72 3 3:=Fld.of (by kernel_rfl)
theorem fl72_4:Fld Try.prog 72 4 4:=Fld.of (by kernel_rfl)
theorem un74:Try.prog.underlying 74=some (dOf Try.prog 74):=und_of (by kernel_rfl)
theorem ty74:Ty Try.prog 74 (dOf Try.prog 74) 65 72 ([I 0]++(List.replicate 64 (0:UInt8)).map B):=Ty.of (v:=.agg ([I 0]++(List.replicate 64 (0:UInt8)).map B).toArray) un74 (by kernel_rfl) (by kernel_rfl) (by kernel_rfl) (by kernel_rfl)
theorem ag74:aggD (dOf Try.prog 74)=true:=by kernel_rfl
theorem fl74_0:Fld Try.prog 74 0 0:=Fld.of (by kernel_rfl)
theorem fl74_1:Fld Try.prog 74 1 1:=Fld.of (by kernel_rfl)
theorem un83:Try.prog.underlying 83=some (dOf Try.prog 83):=und_of (by kernel_rfl)
theorem ty83:Ty Try.prog 83 (dOf Try.prog 83) 3 24 ([Value.pointer none]++[U 0]++[I 0]):=Ty.of (v:=.agg ([Value.pointer none]++[U 0]++[I 0]).toArray) un83 (by kernel_rfl) (by kernel_rfl) (by kernel_rfl) (by kernel_rfl)
theorem fl83_0:Fld Try.prog 83 0 0:=Fld.of (by kernel_rfl)
theorem fl83_1:Fld Try.prog 83 1 1:=Fld.of (by kernel_rfl)
theorem fl83_2:Fld Try.prog 83 2 2:=Fld.of (by kernel_rfl)
theorem un88:Try.prog.underlying 88=some (dOf Try.prog 88):=und_of (by kernel_rfl)
theorem ty88:Ty Try.prog 88 (dOf Try.prog 88) 3 40 ([U 0]++[Value.slice none 0 0]++[Value.bool false]):=Ty.of (v:=.agg ([U 0]++[Value.slice none 0 0]++[Value.bool false]).toArray) un88 (by kernel_rfl) (by kernel_rfl) (by kernel_rfl) (by kernel_rfl)
theorem ag88:aggD (dOf Try.prog 88)=true:=by kernel_rfl
theorem fl88_0:Fld Try.prog 88 0 0:=Fld.of (by kernel_rfl)
theorem fl88_1:Fld Try.prog 88 1 1:=Fld.of (by kernel_rfl)
theorem fl88_2:Fld Try.prog 88 2 2:=Fld.of (by kernel_rfl)
theorem un89:Try.prog.underlying 89=some (.array 2 88):=by kernel_rfl
theorem ty89:Ty Try.prog 89 (.array 2 88) 6 80 ([U 0]++[Value.slice none 0 0]++[Value.bool false]++[U 0]++[Value.slice none 0 0]++[Value.bool false]):=Ty.of (v:=.agg ([U 0]++[Value.slice none 0 0]++[Value.bool false]++[U 0]++[Value.slice none 0 0]++[Value.bool false]).toArray) un89 (by kernel_rfl) (by kernel_rfl) (by kernel_rfl) (by kernel_rfl)
theorem un100:Try.prog.underlying 100=some (.int .u16):=by kernel_rfl
theorem fu9:Fun Try.prog 9:=⟨_,Try.func9,by kernel_rfl,rfl⟩
theorem fu11:Fun Try.prog 11:=⟨_,Try.func11,by kernel_rfl,rfl⟩
theorem fu12:Fun Try.prog 12:=⟨_,Try.func12,by kernel_rfl,rfl⟩
theorem fu13:Fun Try.prog 13:=⟨_,Try.func13,by kernel_rfl,rfl⟩
theorem fu14:Fun Try.prog 14:=⟨_,Try.func14,by kernel_rfl,rfl⟩
theorem fu15:Fun Try.prog 15:=⟨_,Try.func15,by kernel_rfl,rfl⟩
theorem fu20:Fun Try.prog 20:=⟨_,Try.func20,by kernel_rfl,rfl⟩
theorem fu24:Fun Try.prog 24:=⟨_,Try.func24,by kernel_rfl,rfl⟩
theorem fu25:Fun Try.prog 25:=⟨_,Try.func25,by kernel_rfl,rfl⟩
theorem fu26:Fun Try.prog 26:=⟨_,Try.func26,by kernel_rfl,rfl⟩
theorem fu27:Fun Try.prog 27:=⟨_,Try.func27,by kernel_rfl,rfl⟩
theorem fu28:Fun Try.prog 28:=⟨_,Try.func28,by kernel_rfl,rfl⟩
theorem fu29:Fun Try.prog 29:=⟨_,Try.func29,by kernel_rfl,rfl⟩
theorem fu30:Fun Try.prog 30:=⟨_,Try.func30,by kernel_rfl,rfl⟩
theorem fu31:Fun Try.prog 31:=⟨_,Try.func31,by kernel_rfl,rfl⟩
theorem fu34:Fun Try.prog 34:=⟨_,Try.func34,by kernel_rfl,rfl⟩
theorem fu35:Fun Try.prog 35:=⟨_,Try.func35,by kernel_rfl,rfl⟩
theorem fu36:Fun Try.prog 36:=⟨_,Try.func36,by kernel_rfl,rfl⟩
theorem fu37:Fun Try.prog 37:=⟨_,Try.func37,by kernel_rfl,rfl⟩
theorem fu43:Fun Try.prog 43:=⟨_,Try.func43,by kernel_rfl,rfl⟩
theorem fu44:Fun Try.prog 44:=⟨_,Try.func44,by kernel_rfl,rfl⟩
theorem fu45:Fun Try.prog 45:=⟨_,Try.func45,by kernel_rfl,rfl⟩
theorem fu46:Fun Try.prog 46:=⟨_,Try.func46,by kernel_rfl,rfl⟩
theorem fu49:Fun Try.prog 49:=⟨_,Try.func49,by kernel_rfl,rfl⟩
theorem fu50:Fun Try.prog 50:=⟨_,Try.func50,by kernel_rfl,rfl⟩
theorem fu51:Fun Try.prog 51:=⟨_,Try.func51,by kernel_rfl,rfl⟩
theorem fu52:Fun Try.prog 52:=⟨_,Try.func52,by kernel_rfl,rfl⟩
theorem fu53:Fun Try.prog 53:=⟨_,Try.func53,by kernel_rfl,rfl⟩
theorem fu54:Fun Try.prog 54:=⟨_,Try.func54,by kernel_rfl,rfl⟩
end Go.Proofs.Ytkecdcmjkghddaa
end

section
/- Several things as one; what a call turns. -/
namespace Go.Fw
open Go
theorem heap_lt {w:World} {k:Nat} {o:Obj} (h:w.heap[k]?=some o):k < w.heap.size:=(Array.getElem?_eq_some_iff.1 h).1
theorem Has.loc {w w':World} {L:List Ent} (h:Has 0 w L) (hb:∀ e∈L,∀ k,e.keys k→w'.heap[k]?=w.heap[k]?):Has 0 w' L :=
  ⟨fun e he=>e.loc (hb e he) (h.holds e he),h.apart,fun e he k hk=>by
    have h1:=h.lt e he k hk
    have h2:=hb e he k hk
    rw [Array.getElem?_eq_getElem h1] at h2
    exact heap_lt h2,fun _ _ _ _=>Nat.zero_le _⟩
def Ent.grp (L:List Ent):Ent:=.pr (fun k=>∃ e∈L,e.keys k) (fun w=>Has 0 w L) fun w w' hb h=>h.loc fun e he k hk=>hb k ⟨e,he,hk⟩
section
variable {N:Nat} {F F':List (Nat × Value)} {L L':List Ent} {M:Nat→Prop} {w0 w w':World} {a:Act}
theorem St.startG (hk:Know N F a) (h:Has 0 w L):St N F L (Ent.grp L).keys w a w :=
  ⟨hk,h,fun e he k hke=>.inr ⟨e,he,hke⟩,.refl _ _⟩
theorem St.grp (h:St N F L M w0 a w):Has 0 w L∧∀ k,(Ent.grp L).keys k→M k∨w0.heap.size≤k :=
  ⟨h.has,fun k ⟨e,he,hk⟩=>(h.own e he k hk).symm⟩
theorem grp_lt (h:Has 0 w L):∀ k,(Ent.grp L).keys k→k < w.heap.size:=fun k ⟨e,he,hk⟩=>h.lt e he k hk
theorem Has.grp (h:Has 0 w L) {B:Nat} (hB:∀ e∈L,∀ k,e.keys k→B≤k):Has B w [Ent.grp L] :=
  ⟨by intro e he; simp only [List.mem_singleton] at he; subst he; exact h,List.pairwise_singleton _ _,
   by intro e he k hk; simp only [List.mem_singleton] at he; subst he; exact grp_lt h k hk,
   by intro e he k hk; simp only [List.mem_singleton] at he; subst he; obtain ⟨e,he,hk⟩:=hk; exact hB e he k hk⟩
theorem Has.grp' {B:Nat} (h:Has B w L):Has B w [Ent.grp L]:=(h.mono (Nat.zero_le _)).grp h.ge
end
section
variable {P:Program} {ops:Array Oper} {Q:Exit→Act→World→Prop} {rest:List Oper} {N:Nat} {F F':List (Nat × Value)} {L L':List Ent} {M:Nat→Prop} {w0 w:World} {a:Act}
variable {d:Tmp} {op:Op} {ty:TypeId} {pos:String} {aft:Array Edge} {x y z:Operand} {t u:TypeId}
theorem s_appB {i:Nat} {s0 x0:Operand} {E:TypeId} {ed:TypeDesc} {zs:List Value} {l p:List UInt8} {v u:Value} (hs:St N F L M w0 a w) (hu:P.underlying t=some (.slice E)) (hE:Ty P E ed 1 1 zs)
    (hv:ev F s0=some v) (hx:ev F x0=some u) (hi:L[i]?=some (.row v l.length (l.map B) E 1)) (hr:RdB w u p) (hle:l.length + p.length≤140737488355328) (hd:Nat.blt d N=true)
    (k:∀ a w' v',Fr (Ent.keys (.row v l.length (l.map B) E 1)) w w'→(v'=.slice none 0 0 ↔ v=.slice none 0 0∧p.length=0)→St N ((d,v')::F) (L.set i (.row v' (l++p).length ((l++p).map B) E 1)) M w0 a w'→wpList P ops Q rest a w') :
    wpList P ops Q (⟨some d,.call { callee:=.builtin .append,args:=#[s0,x0],argTypes:=#[t,t] },ty,pos,aft,none⟩::rest) a w:=by
  refine s_append hs hu hE (by decide) hv hx hi hr (by simp) (all_map_B p) (by unfold maxLen; omega) (by omega) hd fun a w' v' hf hn hs=>?_
  refine k a w' v' hf hn (hs.toL ?_)
  rw [List.length_append,List.map_append]
end
theorem RdB.seg {w:World} {g:Nat} {T:TypeId} {l:List UInt8} (h:w.heap[g]?=some (.cells (l.map B).toArray T (0,0))) (hn:l.length≤maxLen):RdB w (.slice (some ⟨g,0,none⟩) l.length l.length) l :=
  Rd.of_seg h (Nat.le_refl _) hn (List.take_of_length_le (by simp))
theorem RdB.row {w:World} {v:Value} {T:TypeId} {l:List UInt8} (h:w.ownsRow 0 T 1 v l.length (l.map B)):RdB w v l:=Rd.of_row h
theorem RdB.cut {w:World} {ad:Option Addr} {cap i:Nat} {l:List UInt8} (h:RdB w (.slice ad l.length cap) l) (hi:i≤l.length) :
    RdB w (.slice (if cap=i then ad else ad.map (·.add (i * 1))) (l.length - i) (cap - i)) (l.drop i):=by
  have:=Rd.cut (i:=i) (sz:=1) h hi (by simp) (by simpa using hi)
  unfold RdB
  rw [List.length_drop,List.map_drop]
  simpa using this
theorem Rd.sl {w:World} {v:Value} {n:Nat} {cs:List Value} (h:Rd w v n cs):∃ ad cap,v=.slice ad n cap∧n≤cap∧cap≤maxLen:=by
  obtain ⟨ad,cap,hv,h1,h2,_⟩:=h
  exact ⟨ad,cap,hv,h1,h2⟩
end Go.Fw
namespace Go.Fw
open Go
section
variable {N:Nat} {F F':List (Nat × Value)} {L L':List Ent} {M:Nat→Prop} {w0 w w':World} {a:Act}
end
end Go.Fw
end

section
/- Where the fields of each struct lie. Written by a program of ours (facts2.py). -/
namespace Go.Proofs.Ytkecdcmjkghddaa
open Go Go.Fw
theorem bp72:BP Try.prog 72 #[(0,1),(1,1),(2,1),(3,1),(4,1)]:=⟨by kernel_rfl,fun w=>by kernel_rfl⟩
theorem bp74:BP Try.prog 74 #[(0,1),(1,64)]:=⟨by kernel_rfl,fun w=>by kernel_rfl⟩
theorem bp83:BP Try.prog 83 #[(0,1),(1,1),(2,1)]:=⟨by kernel_rfl,fun w=>by kernel_rfl⟩
theorem bp88:BP Try.prog 88 #[(0,1),(1,1),(2,1)]:=⟨by kernel_rfl,fun w=>by kernel_rfl⟩
end Go.Proofs.Ytkecdcmjkghddaa
end

section
/- Strings. -/
namespace Go.Fw
open Go
abbrev T (l:List UInt8):Value:=.string ⟨l.toArray⟩
theorem push_all:∀ (l:List UInt8) (s:ByteArray),(l.map fun b=>(b.toNat:Int)).foldl (fun r n=>r.push (UInt8.ofNat n.toNat)) s=⟨(s.data.toList++l).toArray⟩
  | [],s=>by simp
  | b::l,s=>by
    simp only [List.map_cons,List.foldl_cons]
    rw [push_all l]
    simp [ByteArray.push]
theorem Rd.cells {w:World} {u:Value} {m:Nat} {news:List Value} (hr:Rd w u m news):(∃ cap,u=.slice none m cap∧m=0∧news=[])∨∃ ad cap,u=.slice (some ad) m cap∧∀ j v,news[j]?=some v→w.cell? (ad.add j)=some v:=by
  rcases hr.src with ⟨h1,h2,h3⟩ | ⟨ad,cap,h1,h2⟩
  · exact .inl ⟨0,by rw [h1,h2],h2,h3⟩
  · exact .inr ⟨ad,cap,h1,h2⟩
section
variable {P:Program} {a:Act} {w:World} {d:Option Tmp} {ty:TypeId} {pos:String} {aft:Array Edge} {g:Option (Nat × Bool)} {x y z:Operand} {t u:TypeId}
theorem c_cvST {E:TypeId} {v:Value} {l:List UInt8} (hu:P.underlying t=some (.slice E)) (hE:P.underlying E=some (.int .u8)) (hd:P.underlying u=some .string) (hx:a.eval x=v) (hr:RdB w v l) :
    (execOp a.eval ⟨d,.convert t u x,ty,pos,aft,g⟩).run P w=.ok (.value (T l)) w:=by
  rcases Rd.cells hr with ⟨cap,rfl,_,h0⟩ | ⟨ad,cap,rfl,hc⟩
  · have hl:l=[]:=by simpa using h0
    subst hl
    simp [execOp,hx,run_convert_bytes_string w t u E none _ cap hu hE hd,Conv.bytesToString]
    rfl
  · have hm:l.map B=(l.map fun b=>(b.toNat:Int)).map (Value.int .u8):=by simp [B]
    have h1:(loadCells ad l.length).run P w=.ok ((l.map fun b=>(b.toNat:Int)).map (Value.int .u8)).toArray w:=by
      have:=run_loadCells_list (P:=P) (w:=w) ad (l.map B) hc
      rw [List.length_map,hm] at this
      exact this
    have h2:=run_bytesToString w ad l.length cap _ h1
    rw [push_all] at h2
    simp [execOp,hx,run_convert_bytes_string w t u E (some ad) l.length cap hu hE hd,h2]
theorem c_neqTT {l m:List UInt8} (hx:a.eval x=T l) (hy:a.eval y=T m):(execOp a.eval ⟨d,.binOp .neq t x y u,ty,pos,aft,g⟩).run P w=.ok (.value (.bool (l != m))) w:=by
  rw [c_neqT hx hy]; simp [bne]
end
section
variable {P:Program} {ops:Array Oper} {Q:Exit→Act→World→Prop} {rest:List Oper} {N:Nat} {F F':List (Nat × Value)} {L L':List Ent} {M:Nat→Prop} {w0 w:World} {a:Act}
variable {d:Tmp} {op:Op} {ty:TypeId} {pos:String} {aft:Array Edge} {x y z:Operand} {t u:TypeId}
end
theorem RdB.take {w:World} {ad:Option Addr} {cap m:Nat} {l:List UInt8} (h:RdB w (.slice ad l.length cap) l) (hm:m≤l.length):RdB w (.slice ad m cap) (l.take m):=by
  obtain ⟨ad',cap',hv,h1,h2,h0,h3⟩:=h
  cases hv
  have hl:(l.take m).length=m:=by simp; omega
  unfold RdB
  rw [hl]
  refine ⟨ad,cap,rfl,by omega,h2,h0,?_⟩
  rcases h3 with h3 | ⟨b,o,T,fr,all,rfl,hb,hc⟩
  · left; simp at h3; subst h3; simp
  · right
    refine ⟨b,o,T,fr,all,rfl,hb,?_⟩
    rw [List.map_take,← hc]
    simp only [List.length_take,List.length_map,List.take_take]
    have h5:l.length≤all.toList.length - o:=by
      have:=congrArg List.length hc
      simp only [List.length_take,List.length_map,List.length_drop] at this
      omega
    congr 1
    simp only [List.length_drop]
    omega
theorem RdB.mid {w:World} {ad:Option Addr} {cap i j:Nat} {l:List UInt8} (h:RdB w (.slice ad l.length cap) l) (hij:i≤j) (hj:j≤l.length) :
    RdB w (.slice (if cap=i then ad else ad.map (·.add (i * 1))) (j - i) (cap - i)) ((l.drop i).take (j - i)):=by
  have h1:=RdB.cut (i:=i) h (by omega)
  have h2:(l.drop i).length=l.length - i:=List.length_drop
  rw [← h2] at h1
  exact RdB.take h1 (by omega)
end Go.Fw
end

section
/- Copying; rows of rows of bytes. -/
namespace Go.Fw
open Go
section
variable {P:Program} {ops:Array Oper} {Q:Exit→Act→World→Prop} {rest:List Oper} {N:Nat} {F F':List (Nat × Value)} {L L':List Ent} {M:Nat→Prop} {w0 w:World} {a:Act}
variable {d:Tmp} {op:Op} {ty:TypeId} {pos:String} {aft:Array Edge} {x y z:Operand} {t u:TypeId}
end
/-! ### Rows of rows -/
def RdP (w:World) (v:Value) (ps:List (Value × List UInt8)):Prop:=Rd w v ps.length (ps.map (·.1))∧∀ q∈ps,RdB w q.1 q.2
theorem RdP.fr0 {w w':World} {v:Value} {ps:List (Value × List UInt8)} (h:RdP w v ps) (hf:Fr0 w w'):RdP w' v ps:=⟨h.1.fr0 hf,fun q hq=>(h.2 q hq).fr0 hf⟩
theorem RdP.sl {w:World} {v:Value} {ps:List (Value × List UInt8)} (h:RdP w v ps):∃ ad cap,v=.slice ad ps.length cap∧ps.length≤cap∧cap≤maxLen:=h.1.sl
theorem RdP.at' {w:World} {ad:Option Addr} {cap:Nat} {ps:List (Value × List UInt8)} (h:RdP w (.slice ad ps.length cap) ps) (hne:0 < ps.length) :
    ∃ b o T fr all,ad=some ⟨b,o,none⟩∧w.heap[b]?=some (.cells all T fr)∧(all.toList.drop o).take (ps.map (·.1)).length=ps.map (·.1):=by
  obtain ⟨b,o,cap',T,fr,all,e,_,_,hb,hc⟩:=Rd.at_ h.1 (by intro e; simp at e; subst e; simp at hne)
  cases e
  exact ⟨b,o,T,fr,all,rfl,hb,hc⟩
theorem RdP.get {w:World} {v:Value} {ps:List (Value × List UInt8)} (h:RdP w v ps) {k:Nat} (hk:k < ps.length):RdB w (ps.getD k (.nilIface,[])).1 (ps.getD k (.nilIface,[])).2:=by
  have:ps.getD k (.nilIface,[])∈ps:=by simp [List.getD,hk]
  exact h.2 _ this
theorem seg_get1 {α:Type} {f:α→Value} {all:Array Value} {l:List α} {o i:Nat} (d:α) (h:(all.toList.drop o).take (l.map f).length=l.map f) (hi:i < l.length):all.toList[o + i * 1]?=some (f (l.getD i d)):=seg_get d h hi
end Go.Fw
end

section
/- Things that lie apart. -/
namespace Go.Fw
open Go
section
variable {N:Nat} {F F':List (Nat × Value)} {L L':List Ent} {M:Nat→Prop} {w0 w w':World} {a:Act}
theorem pairwise_at {R:Ent→Ent→Prop}:∀ {L:List Ent} {i j:Nat} {a b:Ent},L.Pairwise R→L[i]?=some a→L[j]?=some b→i < j→R a b
  | [],i,j,a,b,_,hi,_,_=>by simp at hi
  | x::t,0,j + 1,a,b,h,hi,hj,_=>by
    simp at hi hj
    subst hi
    exact (List.pairwise_cons.1 h).1 b (List.mem_of_getElem? hj)
  | x::t,i + 1,j + 1,a,b,h,hi,hj,hij=>by
    simp at hi hj
    exact pairwise_at (List.pairwise_cons.1 h).2 hi hj (by omega)
  | x::t,i,0,_,_,_,_,_,hij=>by omega
end
theorem RdB.segn {w:World} {g n:Nat} {T:TypeId} {l:List UInt8} (h:w.heap[g]?=some (.cells (l.map B).toArray T (0,0))) (hl:l.length=n) (hn:n≤maxLen):RdB w (.slice (some ⟨g,0,none⟩) n n) l:=by
  subst hl; exact RdB.seg h hn
end Go.Fw
namespace Go.Fw
open Go
section
variable {P:Program} {a:Act} {w:World} {d:Option Tmp} {ty:TypeId} {pos:String} {aft:Array Edge} {g:Option (Nat × Bool)} {x y z:Operand} {t u:TypeId}
theorem c_sliceAH {n:Nat} {E:TypeId} {s bytes:Nat} {ed:TypeDesc} {z:List Value} {ad:Addr} {j:Nat} {k:IntKind} {m:Int} (hu:P.underlying t=some (.array n E)) (hE:Ty P E ed s bytes z)
    (hx:a.eval x=.pointer (some ad)) (hy:a.eval y=.int k m) (hm:m=(j:Int)) (hj:j≤n) :
    (execOp a.eval ⟨d,.slice t x none (some y) none,ty,pos,aft,g⟩).run P w=.ok (.value (.slice (some ad) j n)) w:=by
  subst hm
  simp [execOp,Instr.sliceAt,Instr.slice,Instr.sureAddr,hx,hy,run_underlying hu,Instr.sliceBounds,Instr.sliceBound,asIntOf,hE.size,hj,Addr.add]
end
end Go.Fw
end

section
/- Stores into the elements of a slice that may grow. -/
namespace Go.Fw
open Go
section
variable {P:Program} {ops:Array Oper} {Q:Exit→Act→World→Prop} {rest:List Oper} {N:Nat} {F F':List (Nat × Value)} {L L':List Ent} {M:Nat→Prop} {w0 w:World} {a:Act}
variable {d:Tmp} {op:Op} {ty:TypeId} {pos:String} {aft:Array Edge} {x y z:Operand} {t u:TypeId}
theorem St.row_at {i n sz:Nat} {v:Value} {xs:List Value} {T:TypeId} (hs:St N F L M w0 a w) (hi:L[i]?=some (.row v n xs T sz)) (hn:0 < n) :
    ∃ g cap cur,v=.slice (some ⟨g,0,none⟩) n cap∧w.heap[g]?=some (.cells cur T (0,0))∧n≤cap∧cap≤maxLen∧cur.size=cap * sz∧cur.toList.take (n * sz)=xs:=by
  have h:w.ownsRow 0 T sz v n xs:=hs.get hi
  obtain ⟨h1,h2⟩:=h
  rcases h2 with ⟨_,h3⟩ | ⟨g,cap,cur,h3,_,h4,h5,h6,h7,h8⟩
  · omega
  · exact ⟨g,cap,cur,h3,h4,h5,h6,h7,h8⟩
end
end Go.Fw
end

section
/- Things joined; slices of slices of bytes that grow,with all that they own. -/
namespace Go.Fw
open Go
def Ent.none:Ent:=.pr (fun _=>False) (fun _=>True) fun _ _ _ _=>trivial
theorem apart_at {L:List Ent} (h:L.Pairwise Ent.apart) {i j:Nat} {a b:Ent} (hi:L[i]?=some a) (hj:L[j]?=some b) (hij:i ≠ j):a.apart b:=by
  rcases Nat.lt_or_gt_of_ne hij with h1 | h1
  · exact pairwise_at h hi hj h1
  · exact Ent.apart_symm (pairwise_at h hj hi h1)
theorem set2_at {L:List Ent} {i j p:Nat} {e x:Ent} (hi:i < L.length) (hj:j < L.length) (h:((L.set i e).set j .none)[p]?=some x):x=.none∨(p=i∧x=e)∨(p ≠ i∧p ≠ j∧L[p]?=some x):=by
  by_cases h1:p=j
  · subst h1; left
    rw [List.getElem?_set_self (by simpa using hj)] at h
    exact (Option.some.inj h).symm
  · rw [List.getElem?_set_ne (Ne.symm h1)] at h
    by_cases h2:p=i
    · subst h2; right; left
      rw [List.getElem?_set_self hi] at h
      exact ⟨rfl,(Option.some.inj h).symm⟩
    · rw [List.getElem?_set_ne (Ne.symm h2)] at h
      exact .inr (.inr ⟨h2,h1,h⟩)
theorem Has.join {B:Nat} {w:World} {L:List Ent} {i j:Nat} {a b e:Ent} (h:Has B w L) (hi:L[i]?=some a) (hj:L[j]?=some b) (hij:i ≠ j) (he:e.holds w) (hk:∀ k,e.keys k→a.keys k∨b.keys k):Has B w ((L.set i e).set j .none):=by
  have li:=(List.getElem?_eq_some_iff.1 hi).1
  have lj:=(List.getElem?_eq_some_iff.1 hj).1
  have mem:∀ x∈(L.set i e).set j .none,∃ p,((L.set i e).set j .none)[p]?=some x:=fun x hx=>by
    obtain ⟨p,hp,rfl⟩:=List.getElem_of_mem hx
    exact ⟨p,List.getElem?_eq_getElem hp⟩
  have key:∀ (p q:Nat) (x y:Ent),((L.set i e).set j .none)[p]?=some x→((L.set i e).set j .none)[q]?=some y→p ≠ q→Ent.apart x y:=by
    intro p q x y hp hq hpq
    rcases set2_at li lj hp with rfl | ⟨h1,rfl⟩ | ⟨h1,h2,h3⟩
    · exact fun k hk _=>hk
    · rcases set2_at li lj hq with rfl | ⟨h4,_⟩ | ⟨h4,h5,h6⟩
      · exact fun k _ hk=>hk
      · exact absurd (h1.trans h4.symm) hpq
      · exact fun k hxk hyk=>(hk k hxk).elim (fun r=>apart_at h.apart hi h6 (Ne.symm h4) k r hyk) (fun r=>apart_at h.apart hj h6 (Ne.symm h5) k r hyk)
    · rcases set2_at li lj hq with rfl | ⟨h4,rfl⟩ | ⟨h4,h5,h6⟩
      · exact fun k _ hk=>hk
      · exact fun k hxk hyk=>(hk k hyk).elim (fun r=>apart_at h.apart hi h3 (Ne.symm h1) k r hxk) (fun r=>apart_at h.apart hj h3 (Ne.symm h2) k r hxk)
      · exact apart_at h.apart h3 h6 hpq
  refine ⟨fun x hx=>?_,?_,fun x hx k hxk=>?_,fun x hx k hxk=>?_⟩
  · obtain ⟨p,hp⟩:=mem x hx
    rcases set2_at li lj hp with rfl | ⟨_,rfl⟩ | ⟨_,_,h1⟩
    · trivial
    · exact he
    · exact h.holds x (List.mem_of_getElem? h1)
  · exact List.pairwise_iff_getElem.2 fun p q hp hq hpq=>key p q _ _ (List.getElem?_eq_getElem hp) (List.getElem?_eq_getElem hq) (by omega)
  · obtain ⟨p,hp⟩:=mem x hx
    rcases set2_at li lj hp with rfl | ⟨_,rfl⟩ | ⟨_,_,h1⟩
    · exact hxk.elim
    · exact (hk k hxk).elim (h.lt a (List.mem_of_getElem? hi) k) (h.lt b (List.mem_of_getElem? hj) k)
    · exact h.lt x (List.mem_of_getElem? h1) k hxk
  · obtain ⟨p,hp⟩:=mem x hx
    rcases set2_at li lj hp with rfl | ⟨_,rfl⟩ | ⟨_,_,h1⟩
    · exact hxk.elim
    · exact (hk k hxk).elim (h.ge a (List.mem_of_getElem? hi) k) (h.ge b (List.mem_of_getElem? hj) k)
    · exact h.ge x (List.mem_of_getElem? h1) k hxk
theorem Has.cons {B:Nat} {w:World} {L:List Ent} {e:Ent} (h:Has B w L) (he:e.holds w) (hlt:∀ k,e.keys k→k < w.heap.size) (hge:∀ k,e.keys k→B≤k) (hap:∀ x∈L,e.apart x):Has B w (e::L) :=
  ⟨fun x hx=>(List.mem_cons.1 hx).elim (fun r=>r ▸ he) (h.holds x),List.pairwise_cons.2 ⟨hap,h.apart⟩,fun x hx=>(List.mem_cons.1 hx).elim (fun r=>r ▸ hlt) (h.lt x),fun x hx=>(List.mem_cons.1 hx).elim (fun r=>r ▸ hge) (h.ge x)⟩
def Ent.part (T:TypeId) (q:Value × List UInt8):Ent:=.row q.1 q.2.length (q.2.map B) T 1
def textsL {α:Type} (E:TypeId) (pt:Value × α→Ent) (v:Value) (ps:List (Value × α)):List Ent:=.row v ps.length (ps.map (·.1)) E 1::ps.map pt
def Ent.texts {α:Type} (E:TypeId) (pt:Value × α→Ent) (v:Value) (ps:List (Value × α)):Ent:=.grp (textsL E pt v ps)
theorem RdP.texts {E T:TypeId} {v:Value} {ps:List (Value × List UInt8)} {w:World} (h:(Ent.texts E (Ent.part T) v ps).holds w):RdP w v ps:=by
  have h:Has 0 w (textsL E (Ent.part T) v ps):=h
  have h0:w.ownsRow 0 E 1 v ps.length (ps.map (fun q=>q.1)):=h.holds (.row v ps.length (ps.map (fun q:Value × List UInt8=>q.1)) E 1) (by simp [textsL])
  refine ⟨Rd.of_row h0,fun q hq=>RdB.row (T:=T) (h.holds (Ent.part T q) (by simp only [textsL,List.mem_cons,List.mem_map]; exact .inr ⟨q,hq,rfl⟩))⟩
theorem Has.parts {α:Type} {B:Nat} {E:TypeId} {pt:Value × α→Ent} {v:Value} {ps:List (Value × α)} {w:World} (h:Has B w (textsL E pt v ps)):Has B w (ps.map pt):=h.pick (List.sublist_cons_self _ _)
section
variable {P:Program} {ops:Array Oper} {Q:Exit→Act→World→Prop} {rest:List Oper} {N:Nat} {F F':List (Nat × Value)} {L L':List Ent} {M:Nat→Prop} {w0 w:World} {a:Act}
variable {d:Tmp} {op:Op} {ty:TypeId} {pos:String} {aft:Array Edge} {x y z:Operand} {t u:TypeId}
theorem St.join {i j:Nat} {b c e:Ent} (hs:St N F L M w0 a w) (hi:L[i]?=some b) (hj:L[j]?=some c) (hij:i ≠ j) (he:e.holds w) (hk:∀ k,e.keys k→b.keys k∨c.keys k):St N F ((L.set i e).set j .none) M w0 a w:=by
  refine ⟨hs.know,hs.has.join hi hj hij he hk,fun x hx k hxk=>?_,hs.fr⟩
  obtain ⟨p,hp,rfl⟩:=List.getElem_of_mem hx
  rcases set2_at (List.getElem?_eq_some_iff.1 hi).1 (List.getElem?_eq_some_iff.1 hj).1 (List.getElem?_eq_getElem hp) with h | ⟨_,h⟩ | ⟨_,_,h⟩
  · rw [h] at hxk; exact hxk.elim
  · rw [h] at hxk
    exact (hk k hxk).elim (hs.own b (List.mem_of_getElem? hi) k) (hs.own c (List.mem_of_getElem? hj) k)
  · exact hs.own _ (List.mem_of_getElem? h) k hxk
theorem St.grpn {A:List Ent} (hs:St N F (A++L) M w0 a w):St N F (.grp A::L) M w0 a w:=by
  obtain ⟨h1,h2⟩:=hs.has.cons_app
  refine ⟨hs.know,h2.cons h1 (grp_lt h1) (fun _ _=>Nat.zero_le _) fun x hx k ⟨e,he,hk⟩ hxk=>(List.pairwise_append.1 hs.has.apart).2.2 e he x hx k hk hxk,fun x hx k hxk=>?_,hs.fr⟩
  rcases List.mem_cons.1 hx with rfl | hx
  · obtain ⟨e,he,hk⟩:=hxk
    exact hs.own e (List.mem_append.2 (.inl he)) k hk
  · exact hs.own x (List.mem_append.2 (.inr hx)) k hxk
theorem St.texts0 {α:Type} (hs:St N F L M w0 a w) (E:TypeId) (pt:Value × α→Ent):St N F (.texts E pt (.slice none 0 0) []::L) M w0 a w:=St.grpn (A:=textsL E pt (.slice none 0 0) []) (hs.nilrow E 1)
theorem s_appG {α:Type} {pt:Value × α→Ent} {i j bytes:Nat} {s0 x0:Operand} {E:TypeId} {ed:TypeDesc} {zs:List Value} {ps qs:List (Value × α)} {v u:Value} {b:Ent} (hs:St N F L M w0 a w) (hu:P.underlying t=some (.slice E)) (hE:Ty P E ed 1 bytes zs)
    (hv:ev F s0=some v) (hx:ev F x0=some u) (hi:L[i]?=some (.texts E pt v ps)) (hj:L[j]?=some b) (hij:Nat.beq i j=false) (hb:Has 0 w (qs.map pt)) (hbk:∀ q∈qs,∀ k,(pt q).keys k→b.keys k)
    (hr:Rd w u qs.length (qs.map (·.1))) (h1:(qs.map (·.1)).all (·.oneCell')=true) (hml:ps.length + qs.length≤maxLen) (hby:(ps.length + qs.length) * bytes≤140737488355328) (hd:Nat.blt d N=true)
    (k:∀ a w' v',St N ((d,v')::F) ((L.set i (.texts E pt v' (ps++qs))).set j .none) M w0 a w'→wpList P ops Q rest a w') :
    wpList P ops Q (⟨some d,.call { callee:=.builtin .append,args:=#[s0,x0],argTypes:=#[t,t] },ty,pos,aft,none⟩::rest) a w:=by
  have hij:i ≠ j:=fun e=>by simp [e] at hij
  have hA:Has 0 w (textsL E pt v ps):=hs.get hi
  have hown:w.ownsRow 0 E 1 v ps.length (ps.map (·.1)):=hA.holds (.row v ps.length (ps.map (fun q:Value × α=>q.1)) E 1) (by simp [textsL])
  obtain ⟨v',w',hrun,ho,hg,_,hblk⟩:=run_append2 (P:=P) (w:=w) (ty:=ty) hu hE (by decide) hown hr (by simp) h1 hml hby
  have hrun':(execOp a.eval ⟨some d,.call { callee:=.builtin .append,args:=#[s0,x0],argTypes:=#[t,t] },ty,pos,aft,none⟩).run P w=.ok (.value v') w':=by
    simp [execOp,resolve,invoke,builtin,hs.ev hv,hs.ev hx,hrun]
  have hap:(Ent.texts E pt v ps).apart b:=apart_at hs.has.apart hi hj hij
  have hfr:=Fr.grown hg
  have hrow:∀ k,v.ownBlock=some k→(Ent.texts E pt v ps).keys k:=fun k hk=>⟨.row v ps.length (ps.map (fun q:Value × α=>q.1)) E 1,by simp [textsL],hk⟩
  have hpk:∀ q∈ps,∀ k,(pt q).keys k→(Ent.texts E pt v ps).keys k:=fun q hq k hk=>⟨pt q,by simp only [textsL,List.mem_cons,List.mem_map]; exact .inr ⟨q,hq,rfl⟩,hk⟩
  have hne:∀ e∈ps.map pt++qs.map pt,∀ k,e.keys k→¬ v.ownBlock=some k:=by
    intro e he k hk hvk
    rcases List.mem_append.1 he with he | he
    · exact (List.pairwise_cons.1 hA.apart).1 e he k hvk hk
    · obtain ⟨q,hq,rfl⟩:=List.mem_map.1 he
      exact hap k (hrow k hvk) (hbk q hq k hk)
  have hmid:Has 0 w (ps.map pt++qs.map pt):=by
    have h2:=hA.parts
    refine ⟨fun e he=>?_,List.pairwise_append.2 ⟨h2.apart,hb.apart,fun x hx y hy k hxk hyk=>?_⟩,fun e he k hk=>?_,fun _ _ _ _=>Nat.zero_le _⟩
    · exact (List.mem_append.1 he).elim (h2.holds e) (hb.holds e)
    · obtain ⟨p,hp,rfl⟩:=List.mem_map.1 hx
      obtain ⟨q,hq,rfl⟩:=List.mem_map.1 hy
      exact hap k (hpk p hp k hxk) (hbk q hq k hyk)
    · exact (List.mem_append.1 he).elim (fun r=>h2.lt e r k hk) (fun r=>hb.lt e r k hk)
  have hmid':Has 0 w' (ps.map pt++qs.map pt):=hmid.same hfr.size fun e he k hk=>hfr.block k (hmid.lt e he k hk) fun hm=>hne e he k hk hm
  have hnew:Has 0 w' (textsL E pt v' (ps++qs)):=by
    have ho2:w'.ownsRow 0 E 1 v' (ps++qs).length ((ps++qs).map (·.1)):=by rw [List.length_append,List.map_append]; exact ho
    have:=hmid'.cons (e:=.row v' (ps++qs).length ((ps++qs).map (fun q:Value × α=>q.1)) E 1) ho2 (fun k hk=>ownBlock_row ho2 k hk) (fun _ _=>Nat.zero_le _) fun e he k hk hek=>by
      rcases hblk k hk with h3 | h3
      · exact hne e he k hek h3
      · have:=hmid.lt e he k hek; omega
    rw [← List.map_append] at this
    exact this
  refine wpList_plain rfl fun K hK=>upon_value hrun' (hK _ _ (k _ _ v' (St.put ?_ (lt_of_blt hd) v')))
  have hL:Has 0 w [Ent.texts E pt v ps,b]:=((Has.nil 0 w).cons (hs.get hj) (hs.has.lt b (List.mem_of_getElem? hj)) (fun _ _=>Nat.zero_le _) (by simp)).cons (hs.get hi) (hs.has.lt _ (List.mem_of_getElem? hi)) (fun _ _=>Nat.zero_le _) (by intro x hx; simp at hx; subst hx; exact hap)
  have hs1:=hs.join (e:=.grp [Ent.texts E pt v ps,b]) hi hj hij hL (fun k ⟨e,he,hk⟩=>by
    rcases List.mem_cons.1 he with rfl | he
    · exact .inl hk
    · rcases List.mem_cons.1 he with rfl | he
      · exact .inr hk
      · cases he)
  have li:=(List.getElem?_eq_some_iff.1 hi).1
  have hi1:((L.set i (.grp [Ent.texts E pt v ps,b])).set j .none)[i]?=some (.grp [Ent.texts E pt v ps,b]):=by
    rw [List.getElem?_set_ne (Ne.symm hij),List.getElem?_set_self li]
  have hs2:=hs1.mod (w':=w') (e':=.texts E pt v' (ps++qs)) hi1 (hfr.mono fun k _ hk=>⟨_,List.mem_cons_self,hrow k hk⟩) hnew fun k hk=>by
    refine ⟨?_,grp_lt hnew k hk⟩
    obtain ⟨e,he,hek⟩:=hk
    simp only [textsL,List.mem_cons,List.mem_map] at he
    rcases he with rfl | ⟨q,hq,rfl⟩
    · exact (hblk k hek).imp (fun r=>⟨_,List.mem_cons_self,hrow k r⟩) id
    · rcases List.mem_append.1 hq with hq | hq
      · exact .inl ⟨_,List.mem_cons_self,hpk q hq k hek⟩
      · exact .inl ⟨b,by simp,hbk q hq k hek⟩
  refine hs2.toL ?_
  rw [List.set_comm _ _ hij,List.set_set,List.set_comm _ _ hij.symm]
theorem s_appT {i j g:Nat} {s0 x0:Operand} {E T T':TypeId} {ed:TypeDesc} {zs:List Value} {ps:List (Value × List UInt8)} {v tv:Value} {l:List UInt8} (hs:St N F L M w0 a w) (hu:P.underlying t=some (.slice E)) (hE:Ty P E ed 1 24 zs)
    (hv:ev F s0=some v) (hx:ev F x0=some (.slice (some ⟨g,0,none⟩) 1 1)) (hi:L[i]?=some (.texts E (Ent.part T) v ps)) (hj:L[j]?=some (.row tv l.length (l.map B) T 1)) (hij:Nat.beq i j=false)
    (hg:w.heap[g]?=some (.cells #[tv] T' (0,0))) (h1:tv.oneCell'=true) (hml:ps.length≤1000000) (hd:Nat.blt d N=true)
    (k:∀ a w' v',St N ((d,v')::F) ((L.set i (.texts E (Ent.part T) v' (ps++[(tv,l)]))).set j .none) M w0 a w'→wpList P ops Q rest a w') :
    wpList P ops Q (⟨some d,.call { callee:=.builtin .append,args:=#[s0,x0],argTypes:=#[t,t] },ty,pos,aft,none⟩::rest) a w :=
  s_appG (qs:=[(tv,l)]) (b:=.row tv l.length (l.map B) T 1) hs hu hE hv hx hi hj hij
    (by
      have:=hs.has.lt _ (List.mem_of_getElem? hj)
      exact (Has.nil 0 w).cons (hs.get hj) this (fun _ _=>Nat.zero_le _) (by simp))
    (fun q hq k hk=>by simp only [List.mem_singleton] at hq; subst hq; exact hk)
    (Rd.of_seg (all:=[tv]) hg (Nat.le_refl _) (by decide) rfl) (by simpa using h1) (by simp only [List.length_cons,List.length_nil,maxLen]; omega) (by simp only [List.length_cons,List.length_nil]; omega) hd k
end
end Go.Fw
end

section
/- A region's text in another order; appends that are the first operation of a tail. -/
namespace Go.Fw
open Go
section
variable {P:Program} {Q:Exit→Act→World→Prop} {l:List Oper} {σ:List Nat}
end
section
variable {P:Program} {ops:Array Oper} {Q:Exit→Act→World→Prop} {rest:List Oper} {N:Nat} {F F':List (Nat × Value)} {L L':List Ent} {M:Nat→Prop} {w0 w:World} {a:Act}
variable {d:Tmp} {op:Op} {ty:TypeId} {pos:String} {aft:Array Edge} {x y z:Operand} {t u:TypeId}
theorem sk_append {i:Nat} {l:List Oper} {J:List Nat} {s0 x0:Operand} {E ty:TypeId} {ed:TypeDesc} {sz bytes n m:Nat} {zs xs news:List Value} {v u:Value} (hs:St N F L M w0 a w) (hu:P.underlying t=some (.slice E)) (hE:Ty P E ed sz bytes zs) (hsz:0 < sz)
    (hv:ev F s0=some v) (hx:ev F x0=some u) (hi:L[i]?=some (.row v n xs E sz)) (hr:Rd w u m news) (hl:news.length=m * sz) (h1:news.all (·.oneCell')=true)
    (h63:n + m≤maxLen) (hby:(n + m) * bytes≤140737488355328) (hd:Nat.blt d N=true)
    (hlate:∀ a w' v',Fr (Ent.keys (.row v n xs E sz)) w w'→(v'=.slice none 0 0 ↔ v=.slice none 0 0∧m=0)→St N ((d,v')::F) (L.set i (.row v' (n + m) (xs++news) E sz)) M w0 a w'→lateOk P l a w' J)
    (k:∀ a w' v',Fr (Ent.keys (.row v n xs E sz)) w w'→(v'=.slice none 0 0 ↔ v=.slice none 0 0∧m=0)→St N ((d,v')::F) (L.set i (.row v' (n + m) (xs++news) E sz)) M w0 a w'→wpList P ops Q rest a w') :
    First P ops Q l J ⟨some d,.call { callee:=.builtin .append,args:=#[s0,x0],argTypes:=#[t,t] },ty,pos,aft,none⟩ rest a w:=by
  have hown:w.ownsRow 0 E sz v n xs:=hs.get hi
  obtain ⟨v',w',hrun,ho',hg,hnil,hblk⟩:=run_append2 (P:=P) (w:=w) (ty:=ty) hu hE hsz hown hr hl h1 h63 hby
  have hrun':(execOp a.eval ⟨some d,.call { callee:=.builtin .append,args:=#[s0,x0],argTypes:=#[t,t] },ty,pos,aft,none⟩).run P w=.ok (.value v') w':=by
    simp [execOp,resolve,invoke,builtin,hs.ev hv,hs.ev hx,hrun]
  have hs2:=(hs.mod (e':=.row v' (n + m) (xs++news) E sz) hi (Fr.grown hg) ho' fun k hk=>⟨hblk k hk,ownBlock_row ho' k hk⟩).put (lt_of_blt hd) v'
  exact ⟨_,_,v',hrun',.inr rfl,hlate _ _ _ (.grown hg) hnil hs2,k _ _ _ (.grown hg) hnil hs2⟩
end
end Go.Fw
end

section
/- Regions that draw their order and hold a call that turns what was there: as Fw6 to Fw9,with a frame of their own (Fk) in the place of 'nothing that was there has turned'. -/
namespace Go.FwK
open Go Go.Fw
structure FrK (Fk:World→World→Prop) (B1:Nat):Prop where
  trans:∀ {a b c:World},Fk a b→Fk b c→Fk a c
  of0:∀ {a b:World},Fr0 a b→Fk a b
  size:∀ {a b:World},Fk a b→a.heap.size≤b.heap.size
  has:∀ {a b:World} {L:List Ent},Has B1 a L→Fk a b→Has B1 b L
theorem Has.newK {B:Nat} {w w':World} {L L':List Ent} (h':Has B w' L) (h:Has B w L) (hB:B≤w.heap.size) (hn:Has w.heap.size w' L'):Has B w' (L'++L):=by
  refine ⟨fun e he=>?_,?_,fun e he k hk=>?_,fun e he k hk=>?_⟩
  · rcases List.mem_append.1 he with he | he
    · exact hn.holds e he
    · exact h'.holds e he
  · refine List.pairwise_append.2 ⟨hn.apart,h'.apart,fun a ha b hb k hka hkb=>?_⟩
    have h1:=hn.ge a ha k hka
    have h2:=h.lt b hb k hkb
    omega
  · rcases List.mem_append.1 he with he | he
    · exact hn.lt e he k hk
    · exact h'.lt e he k hk
  · rcases List.mem_append.1 he with he | he
    · exact Nat.le_trans hB (hn.ge e he k hk)
    · exact h'.ge e he k hk
inductive DV (Fk:World→World→Prop) where
  | c (v:Value)
  | e (E:Value→List Ent→World→Prop) (st:∀ v L w w',Fk w w'→E v L w→E v L w')
def DV.ok {Fk:World→World→Prop}:DV Fk→Value→List Ent→World→Prop
  | .c u,v,L,_=>v=u∧L=[]
  | .e E _,v,L,w=>E v L w
theorem DV.ok_stable {Fk:World→World→Prop} {D:DV Fk} {v:Value} {L:List Ent} {w w':World} (hf:Fk w w') (h:D.ok v L w):D.ok v L w':=by
  cases D with
  | c u=>exact h
  | e E st=>exact st v L w w' hf h
def Links (l:List Oper) (n:Nat) (a:Act):Prop:=∀ j o d s,j < n→l[j]?=some o→o.dst=some d→opnd o=some s→safeB l.toArray n j s=true→∃ v,a.tmps[d]?=some v∧LinkV o (a.tmps.getD s undef) v
structure RC (Fk:World→World→Prop) (N:Nat) (Fc:List (Nat × Value)) (Fe:Fes) (o:Oper) (B1:Nat) (w1:World) (a:Act) (w:World):Prop where
  know:Know N Fc a
  fr:Fk w1 w
  ents:∀ n E,lookE Fe n=some E→(tmpsOf o).any (Nat.beq n)=true→∃ v L',a.tmps[n]?=some v∧E v L' w∧Has B1 w L'
def Meets {Fk:World→World→Prop} (D:DV Fk) (w:World) (v:Value) (w':World):Prop:=∃ L',D.ok v L' w'∧Fk w w'∧Has w.heap.size w' L'
def Ob {Fk:World→World→Prop} (P:Program) (ops:Array Oper) (N:Nat) (B1:Nat) (w1:World) (Fc:List (Nat × Value)) (Fe:Fes) (o:Oper) (D:DV Fk):Prop :=
  ((wantedAs ops Fc o=some true∧∀ a w,RC Fk N Fc Fe o B1 w1 a w→Yl P (Meets D w) ((execOp a.eval o).run P w))∨(wantedAs ops Fc o=some false∧D=.c undef)) ∧
  (needQ o=true→∃ v,∀ a w,RC Fk N Fc Fe o B1 w1 a w→(execOp a.eval o).run P w=.ok (.value v) w)
def addC {Fk:World→World→Prop} (Fc:List (Nat × Value)) (d:Nat):DV Fk→List (Nat × Value)
  | .c v=>(d,v)::Fc
  | .e _ _=>Fc
def addE {Fk:World→World→Prop} (Fe:Fes) (d:Nat):DV Fk→Fes
  | .c _=>Fe
  | .e E _=>(d,E)::Fe
def fresh {Fk:World→World→Prop} (Fc:List (Nat × Value)) (Fe:Fes) (d:Nat):DV Fk→Prop
  | .c _=>lookE Fe d=none
  | .e _ _=>Fw.look Fc d=none
def RG (Fk:World→World→Prop) (P:Program) (ops:Array Oper) (N B1:Nat) (w1:World) (K:List (Nat × Value)→Fes→Prop):List (Nat × Value)→Fes→List Oper→Prop
  | Fc,Fe,[]=>K Fc Fe
  | Fc,Fe,o::rest=>∃ (d:Nat) (D:DV Fk),o.dst=some d∧Ob P ops N B1 w1 Fc Fe o D∧fresh Fc Fe d D∧RG Fk P ops N B1 w1 K (addC Fc d D) (addE Fe d D) rest
/-! the facts ahead of operation i -/
def factsC {Fk:World→World→Prop} (ops:List Oper) (Ds:List (DV Fk)) (Fc0:List (Nat × Value)):Nat→List (Nat × Value)
  | 0=>Fc0
  | i + 1=>match ops[i]?,Ds[i]? with
    | some o,some D=>(match o.dst with | some d=>addC (factsC ops Ds Fc0 i) d D | none=>factsC ops Ds Fc0 i)
    | _,_=>factsC ops Ds Fc0 i
def factsE {Fk:World→World→Prop} (ops:List Oper) (Ds:List (DV Fk)):Nat→Fes
  | 0=>[]
  | i + 1=>match ops[i]?,Ds[i]? with
    | some o,some D=>(match o.dst with | some d=>addE (factsE ops Ds i) d D | none=>factsE ops Ds i)
    | _,_=>factsE ops Ds i
theorem RG.parts {Fk:World→World→Prop} {P:Program} {opsA:Array Oper} {N B1:Nat} {w1:World} {K:List (Nat × Value)→Fes→Prop} (Fc0:List (Nat × Value)):∀ (rest pre:List Oper) (Ds:List (DV Fk)),pre.length=Ds.length →
    RG Fk P opsA N B1 w1 K (factsC (pre++rest) Ds Fc0 pre.length) (factsE (pre++rest) Ds pre.length) rest →
    ∃ Ds':List (DV Fk),(Ds++Ds').length=(pre++rest).length∧K (factsC (pre++rest) (Ds++Ds') Fc0 (pre++rest).length) (factsE (pre++rest) (Ds++Ds') (pre++rest).length) ∧
      ∀ i o,pre.length≤i→(pre++rest)[i]?=some o→∃ (d:Nat) (D:DV Fk),o.dst=some d∧(Ds++Ds')[i]?=some D∧Ob P opsA N B1 w1 (factsC (pre++rest) (Ds++Ds') Fc0 i) (factsE (pre++rest) (Ds++Ds') i) o D ∧
        fresh (factsC (pre++rest) (Ds++Ds') Fc0 i) (factsE (pre++rest) (Ds++Ds') i) d D
  | [],pre,Ds,hl,h=>by
    refine ⟨[],by simp [hl],?_,fun i o hi ho=>?_⟩
    · simpa [RG] using h
    · simp at ho
      have:=(List.getElem?_eq_some_iff.1 ho).1
      omega
  | o::rest,pre,Ds,hl,h=>by
    obtain ⟨d,D,hd,hob,hfr,hk⟩:=h
    have ext:∀ (X Y:List (DV Fk)) (i:Nat),i≤X.length→factsC (pre++o::rest) (X++Y) Fc0 i=factsC (pre++o::rest) X Fc0 i∧factsE (pre++o::rest) (X++Y) i=factsE (pre++o::rest) X i:=by
      intro X Y i
      induction i with
      | zero=>intro _; exact ⟨rfl,rfl⟩
      | succ i ih =>
        intro hi
        have h1:=ih (by omega)
        have h2:(X++Y)[i]?=X[i]?:=List.getElem?_append_left (by omega)
        simp only [factsC,factsE,h2,h1.1,h1.2]
        exact ⟨trivial,trivial⟩
    have hget:(pre++o::rest)[pre.length]?=some o:=by simp
    have e1:=ext Ds [D] pre.length (by omega)
    have hDget:(Ds++[D])[pre.length]?=some D:=by rw [hl]; simp
    have hc:factsC (pre++o::rest) (Ds++[D]) Fc0 (pre.length + 1)=addC (factsC (pre++o::rest) Ds Fc0 pre.length) d D:=by
      simp only [factsC,hget,hDget,hd,e1.1]
    have he:factsE (pre++o::rest) (Ds++[D]) (pre.length + 1)=addE (factsE (pre++o::rest) Ds pre.length) d D:=by
      simp only [factsE,hget,hDget,hd,e1.2]
    have heq:pre++o::rest=(pre++[o])++rest:=by simp
    have hk':RG Fk P opsA N B1 w1 K (factsC ((pre++[o])++rest) (Ds++[D]) Fc0 (pre++[o]).length) (factsE ((pre++[o])++rest) (Ds++[D]) (pre++[o]).length) rest:=by
      rw [← heq,show (pre++[o]).length=pre.length + 1 by simp,hc,he]
      exact hk
    obtain ⟨Ds',hl',hK',hall⟩:=RG.parts Fc0 rest (pre++[o]) (Ds++[D]) (by simp [hl]) hk'
    rw [← heq] at hl' hK' hall
    rw [List.append_assoc] at hl' hK' hall
    refine ⟨[D]++Ds',hl',hK',fun i o' hi ho'=>?_⟩
    by_cases hip:i=pre.length
    · subst hip
      rw [hget] at ho'
      obtain rfl:=Option.some.inj ho'
      have e2:=ext Ds ([D]++Ds') pre.length (by omega)
      refine ⟨d,D,hd,?_,?_,?_⟩
      · rw [List.getElem?_append_right (by omega)]
        simp [hl]
      · rw [e2.1,e2.2]; exact hob
      · rw [e2.1,e2.2]; exact hfr
    · exact hall i o' (by simp; omega) ho'
section
variable {P:Program} {l:List Oper} {n N B1:Nat} {w1:World} {Fc0:List (Nat × Value)} {Fk:World→World→Prop} {Ds:List (DV Fk)} {Q:Exit→Act→World→Prop} {late:List Nat}
theorem factsC_src {lh:List Oper} {ds:Nat→Nat} (hds:∀ i o,lh[i]?=some o→o.dst=some (ds i)) (hl:Ds.length=lh.length) (hfr:∀ i o D,lh[i]?=some o→Ds[i]?=some D→fresh (factsC lh Ds Fc0 i) (factsE lh Ds i) (ds i) D) :
    ∀ i,i≤lh.length→∀ s v,Fw.look (factsC lh Ds Fc0 i) s=some v→(∃ j,j < i∧ds j=s∧Ds[j]?=some (.c v))∨(Fw.look Fc0 s=some v∧∀ j,j < i→ds j ≠ s):=by
  intro i
  induction i with
  | zero=>intro _ s v h; exact .inr ⟨h,fun j hj=>by omega⟩
  | succ i ih =>
    intro hi s v h
    have hlt:i < lh.length:=by omega
    have ho:lh[i]?=some lh[i]:=List.getElem?_eq_getElem hlt
    have hD:Ds[i]?=some (Ds[i]'(by omega)):=List.getElem?_eq_getElem (by omega)
    have hd:=hds i _ ho
    have hf:=hfr i _ _ ho hD
    simp only [factsC,ho,hD,hd] at h
    generalize hDD:Ds[i]'(by omega)=D at *
    cases D with
    | c u =>
      simp only [addC,Fw.look] at h
      by_cases e:ds i=s
      · subst e
        simp at h
        subst h
        exact .inl ⟨i,by omega,rfl,hD⟩
      · rw [Nat.beq_eq_false_of e] at h
        rcases ih (by omega) s v h with ⟨j,hj,h1,h2⟩ | ⟨h1,h2⟩
        · exact .inl ⟨j,by omega,h1,h2⟩
        · exact .inr ⟨h1,fun j hj=>by
            by_cases hji:j=i
            · subst hji; exact e
            · exact h2 j (by omega)⟩
    | e E st =>
      simp only [addC] at h
      simp only [fresh] at hf
      have e:ds i ≠ s:=fun e=>by subst e; rw [hf] at h; cases h
      rcases ih (by omega) s v h with ⟨j,hj,h1,h2⟩ | ⟨h1,h2⟩
      · exact .inl ⟨j,by omega,h1,h2⟩
      · exact .inr ⟨h1,fun j hj=>by
          by_cases hji:j=i
          · subst hji; exact e
          · exact h2 j (by omega)⟩
theorem factsE_src {lh:List Oper} {ds:Nat→Nat} (hds:∀ i o,lh[i]?=some o→o.dst=some (ds i)) (hl:Ds.length=lh.length) :
    ∀ i,i≤lh.length→∀ s E,lookE (factsE lh Ds i) s=some E→∃ j,j < i∧ds j=s∧∃ st,Ds[j]?=some (.e E st):=by
  intro i
  induction i with
  | zero=>intro _ s v h; simp [factsE,lookE] at h
  | succ i ih =>
    intro hi s v h
    have hlt:i < lh.length:=by omega
    have ho:lh[i]?=some lh[i]:=List.getElem?_eq_getElem hlt
    have hD:Ds[i]?=some (Ds[i]'(by omega)):=List.getElem?_eq_getElem (by omega)
    have hd:=hds i _ ho
    simp only [factsE,ho,hD,hd] at h
    generalize hDD:Ds[i]'(by omega)=D at *
    cases D with
    | c u =>
      simp only [addE] at h
      obtain ⟨j,hj,h1,h2⟩:=ih (by omega) s v h
      exact ⟨j,by omega,h1,h2⟩
    | e E st =>
      simp only [addE,lookE] at h
      by_cases e:ds i=s
      · subst e
        simp at h
        subst h
        exact ⟨i,by omega,rfl,st,hD⟩
      · rw [Nat.beq_eq_false_of e] at h
        obtain ⟨j,hj,h1,h2⟩:=ih (by omega) s v h
        exact ⟨j,by omega,h1,h2⟩
/-! the head: any order -/
structure Inv {Fk:World→World→Prop} (l:List Oper) (n N B1:Nat) (w1:World) (Fc0:List (Nat × Value)) (Ds:List (DV Fk)) (vals:Nat→Value) (ents:Nat→List Ent) (listed:Array Bool) (a:Act) (w:World):Prop where
  size:listed.size=l.length
  know:a.tmps.size=N∧a.defers=[]
  done:∀ j d D,j < n→listed.getD j false=true→dstAt l.toArray j=some d→Ds[j]?=some D→a.tmps[d]?=some (vals j)∧D.ok (vals j) (ents j) w
  base:∀ s v,Fw.look Fc0 s=some v→(∀ j,j < n→listed.getD j false=true→dstAt l.toArray j ≠ some s)→a.tmps[s]?=some v
  has:Has B1 w ((List.range n).flatMap fun j=>if listed.getD j false=true then ents j else [])
  fr:Fk w1 w
  tail:∀ t,n≤t→listed.getD t false=false
  closed:∀ j o,l[j]?=some o→listed.getD j false=true→∀ e∈o.after,Region.binds .any e=true→listed.getD e.on false=true
  links:∀ j o s,j < n→l[j]?=some o→listed.getD j false=true→opnd o=some s→safeB l.toArray n j s=true→LinkV o (a.tmps.getD s undef) (vals j)
theorem Inv.step0 (hF:FrK Fk B1) {vals:Nat→Value} {ents:Nat→List Ent} {listed:Array Bool} {a:Act} {w:World} {i:Nat} {o:Oper} (hok:RgOk l.toArray n late) (hl:Ds.length=n)
    (hparts:∀ i o,i < n→l[i]?=some o→∃ (d:Nat) (D:DV Fk),o.dst=some d∧Ds[i]?=some D∧Ob P l.toArray N B1 w1 (factsC (l.take n) Ds Fc0 i) (factsE (l.take n) Ds i) o D∧fresh (factsC (l.take n) Ds Fc0 i) (factsE (l.take n) Ds i) d D)
    (hN:∀ i o d,i < n→l[i]?=some o→o.dst=some d→d < N) (hB:B1≤w1.heap.size)
    (inv:Inv l n N B1 w1 Fc0 Ds vals ents listed a w) (hi:i < n) (hr:i∈Region.ready .any l.toArray listed)
    (hol:l[i]?=some o) :
    (Region.wanted o (yielded l.toArray a.tmps)=true∧Yl P (fun v w'=>∃ L',Inv l n N B1 w1 Fc0 Ds (fun j=>if j=i then v else vals j) (fun j=>if j=i then L' else ents j) (listed.setIfInBounds i true) (a.put o.dst v) w') ((execOp a.eval o).run P w)∧(needQ o=true→∃ v,(execOp a.eval o).run P w=.ok (.value v) w)) ∨
    (Region.wanted o (yielded l.toArray a.tmps)=false∧Inv l n N B1 w1 Fc0 Ds (fun j=>if j=i then undef else vals j) (fun j=>if j=i then [] else ents j) (listed.setIfInBounds i true) (a.put o.dst undef) w):=by
  obtain ⟨hun,o',ho,hall⟩:=mem_ready.1 hr
  have hil:i < l.length:=by have:=hok.le; simp at this; omega
  have hol':l[i]?=some o':=by simpa using ho
  rw [hol] at hol'
  obtain rfl:=Option.some.inj hol'
  have hunf:listed.getD i false=false:=by rw [← getD_both_iff (by rw [inv.size]; exact hil)]; exact hun
  obtain ⟨d,D,hd,hD,hob,hfr⟩:=hparts i o hi hol
  have hdi:dstAt l.toArray i=some d:=by simp [dstAt,hol,hd]
  -- the slots, as the text has them
  have hds:∃ ds:Nat→Nat,∀ j,j < n→dstAt l.toArray j=some (ds j):=by
    refine ⟨fun j=>(dstAt l.toArray j).getD 0,fun j hj=>?_⟩
    have hjl:j < l.length:=by have:=hok.le; simp at this; omega
    obtain ⟨d',hd'⟩:=hok.dst j l[j] (by simp [hjl]) hj
    simp [dstAt,hjl,hd']
  obtain ⟨ds,hds⟩:=hds
  have htake:(l.take n).length=n:=by have:=hok.le; simp at this; simp [this]
  have hds':∀ j o,(l.take n)[j]?=some o→o.dst=some (ds j):=by
    intro j o' hj
    have hjn:j < n:=by have:=(List.getElem?_eq_some_iff.1 hj).1; omega
    rw [List.getElem?_take_of_lt hjn] at hj
    have:=hds j hjn
    simpa [dstAt,hj] using this
  have hfr':∀ j o D,(l.take n)[j]?=some o→Ds[j]?=some D→fresh (factsC (l.take n) Ds Fc0 j) (factsE (l.take n) Ds j) (ds j) D:=by
    intro j o' D' hj hDj
    have hjn:j < n:=by have:=(List.getElem?_eq_some_iff.1 hj).1; omega
    have hj':=hj
    rw [List.getElem?_take_of_lt hjn] at hj'
    obtain ⟨d2,D2,h1,h2,_,h4⟩:=hparts j o' hjn hj'
    rw [hDj] at h2
    obtain rfl:=Option.some.inj h2
    have:=hds' j o' hj
    rw [h1] at this
    obtain rfl:=Option.some.inj this
    exact h4
  have listed_of:∀ j s,j < n→j ≠ i→s∈looks l.toArray o→dstAt l.toArray j=some s→(j < i∧listed.getD j false=true)∨(i < j∧listed.getD j false=false):=by
    intro j s hj hne hs hdj
    rcases hok.use i o s j ho hi hs hj hne hdj with ⟨h1,h2⟩ | ⟨h1,oj,h2,h3⟩
    · obtain ⟨e,he,hb,hon⟩:=waits_spec h2
      exact .inl ⟨h1,hon ▸ hall e he hb⟩
    · refine .inr ⟨h1,?_⟩
      obtain ⟨e,he,hb,hon⟩:=waits_spec h3
      cases hj2:listed.getD j false with
      | false=>rfl
      | true =>
        have:=inv.closed j oj (by simpa using h2) hj2 e he hb
        rw [hon,hunf] at this
        cases this
  have valueC:∀ s v,s∈looks l.toArray o→Fw.look (factsC (l.take n) Ds Fc0 i) s=some v→a.tmps[s]?=some v:=by
    intro s v hs hv
    rcases factsC_src (Fc0:=Fc0) hds' (by rw [hl,htake]) hfr' i (by omega) s v hv with ⟨j,hj,h1,h2⟩ | ⟨h1,h2⟩
    · have hjn:j < n:=by omega
      rcases listed_of j s hjn (by omega) hs (by rw [hds j hjn,h1]) with ⟨_,h3⟩ | ⟨h3,_⟩
      · obtain ⟨h4,h5⟩:=inv.done j s _ hjn h3 (by rw [hds j hjn,h1]) h2
        rw [h4,h5.1]
      · omega
    · refine inv.base s v h1 fun j hjn hj2 hdj=>?_
      by_cases hji:j=i
      · subst hji; rw [hunf] at hj2; cases hj2
      · rcases listed_of j s hjn hji hs hdj with ⟨h3,_⟩ | ⟨_,h3⟩
        · rw [hds j hjn] at hdj
          exact h2 j h3 (Option.some.inj hdj)
        · rw [h3] at hj2; cases hj2
  have hwant:∀ b,wantedAs l.toArray (factsC (l.take n) Ds Fc0 i) o=some b→Region.wanted o (yielded l.toArray a.tmps)=b:=by
    intro b hb
    unfold wantedAs at hb
    unfold Region.wanted
    cases hg:o.guard with
    | none=>rw [hg] at hb; simpa using hb
    | some gw =>
      obtain ⟨j,wt⟩:=gw
      rw [hg] at hb
      dsimp only at hb ⊢
      cases hs:(l.toArray[j]?).bind (·.dst) with
      | none=>rw [hs] at hb; simp at hb
      | some s =>
        rw [hs] at hb
        simp only [Option.bind_some] at hb
        cases hv:Fw.look (factsC (l.take n) Ds Fc0 i) s with
        | none=>rw [hv] at hb; simp at hb
        | some v =>
          rw [hv] at hb
          have h5:=valueC s _ (List.mem_append_right _ (by rw [hg]; dsimp only; rw [hs]; simp)) hv
          unfold yielded
          rw [hs]
          simp only [Option.bind_some,h5]
          cases v with
          | bool c =>
            simp at hb
            rw [← hb]
            cases c <;> cases wt <;> rfl
          | _ =>
            simp at hb
            subst hb
            rfl
  have next:∀ v L' w',D.ok v L' w'→Fk w w'→Has w.heap.size w' L'→(∀ s,opnd o=some s→LinkV o (a.tmps.getD s undef) v)→Inv l n N B1 w1 Fc0 Ds (fun j=>if j=i then v else vals j) (fun j=>if j=i then L' else ents j) (listed.setIfInBounds i true) (a.put (some d) v) w':=by
    intro v L' w' hv hf hn hlk
    have hdN:=hN i o d hi hol hd
    refine ⟨by simpa using inv.size,⟨by simpa [Act.put] using inv.know.1,inv.know.2⟩,fun j dj Dj hj hlj hdj hDj=>?_,fun s u hu hne=>?_,?_,hF.trans inv.fr hf,fun t ht=>?_,fun j oj hj hlj e he hb=>?_,fun j oj s hj hlj hlst hos hsf=>?_⟩
    · by_cases hji:j=i
      · subst hji
        rw [hdi] at hdj
        obtain rfl:=Option.some.inj hdj
        rw [hD] at hDj
        obtain rfl:=Option.some.inj hDj
        refine ⟨?_,by simpa using hv⟩
        simp [Act.put,inv.know.1,hdN]
      · rw [getD_set_ne false (Ne.symm hji)] at hlj
        obtain ⟨h1,h2⟩:=inv.done j dj Dj hj hlj hdj hDj
        have hne:d ≠ dj:=fun e=>hji (hok.uniq j i d hj hi (by rw [hdj,e]) hdi)
        refine ⟨?_,by simpa [hji] using DV.ok_stable hf h2⟩
        simp only [Act.put,if_neg hji]
        rw [Array.getElem?_setIfInBounds,if_neg hne]
        exact h1
    · have hsd:d ≠ s:=fun e=>hne i hi (by simp [show i < listed.size by rw [inv.size]; exact hil]) (by rw [hdi,e])
      simp only [Act.put]
      rw [Array.getElem?_setIfInBounds,if_neg hsd]
      refine inv.base s u hu fun j hj hlj=>?_
      by_cases hji:j=i
      · subst hji; rw [hunf] at hlj; cases hlj
      · exact hne j hj (by rw [getD_set_ne false (Ne.symm hji)]; exact hlj)
    · have hp:=flatMap_set_perm (fun j=>if listed.getD j false=true then ents j else []) (fun j=>if (listed.setIfInBounds i true).getD j false=true then (if j=i then L' else ents j) else []) i L'
        (by simp only [hunf]; simp) (by simp [show i < listed.size by rw [inv.size]; exact hil]) (fun j hji=>by simp only [getD_set_ne false (Ne.symm hji),if_neg hji]) (List.range n) List.nodup_range (List.mem_range.2 hi)
      exact (Has.newK (hF.has inv.has hf) inv.has (Nat.le_trans hB (hF.size inv.fr)) hn).perm hp
    · rw [getD_set_ne false (by omega)]
      exact inv.tail t ht
    · by_cases hji:j=i
      · subst hji
        rw [hol] at hj
        obtain rfl:=Option.some.inj hj
        have hlt:=hok.back j o ho e he hb
        rw [getD_set_ne false (by omega)]
        exact hall e he hb
      · rw [getD_set_ne false (Ne.symm hji)] at hlj
        have h9:=inv.closed j oj hj hlj e he hb
        by_cases hei:i=e.on
        · rw [← hei,hunf] at h9; cases h9
        · rw [getD_set_ne false hei]; exact h9
    · have hsi:d=s→i < j:=fun e=>by
        have h1:=List.all_eq_true.1 hsf i (List.mem_range.2 hi)
        rw [hdi,e] at h1
        simpa [Nat.blt_eq] using h1
      by_cases hji:j=i
      · subst hji
        rw [hol] at hlj
        obtain rfl:=Option.some.inj hlj
        have hne:d ≠ s:=fun e=>absurd (hsi e) (by omega)
        rw [getD_put hne]
        simpa using hlk s hos
      · rw [getD_set_ne false (Ne.symm hji)] at hlst
        have hne:d ≠ s:=fun e=>by
          have hlt:=hsi e
          rcases hok.use j oj s i (by simpa using hlj) hj (opnd_looks hos) hi (Ne.symm hji) (by rw [hdi,e]) with ⟨_,h2⟩ | ⟨h2,_⟩
          · obtain ⟨e2,he2,hb2,hon⟩:=waits_spec h2
            have:=inv.closed j oj hlj hlst e2 he2 hb2
            rw [hon,hunf] at this
            cases this
          · omega
        rw [getD_put hne]
        simp only [if_neg hji]
        exact inv.links j oj s hj hlj hlst hos hsf
  obtain ⟨hob,hqt⟩:=hob
  rcases hob with ⟨hw,hy⟩ | ⟨hw,rfl⟩
  · refine .inl ⟨hwant true hw,?_⟩
    -- a frame that has the text's facts, and that the operation cannot tell from this one
    obtain ⟨a',hsz,hdf,ha1,ha2⟩:∃ a':Act,a'.tmps.size=N∧a'.defers=[]∧(∀ s v,Fw.look (factsC (l.take n) Ds Fc0 i) s=some v→a'.tmps[s]?=some v)∧(∀ s,s∈tmpsOf o→a'.tmps[s]?=a.tmps[s]?):=by
      have hlk:∀ s v,Fw.look (factsC (l.take n) Ds Fc0 i) s=some v→s < N:=by
        intro s v hv
        rcases factsC_src (Fc0:=Fc0) hds' (by rw [hl,htake]) hfr' i (by omega) s v hv with ⟨j,hj,h1,h2⟩ | ⟨h1,h2⟩
        · have hjl:j < l.length:=by omega
          exact hN j l[j] s (by omega) (by simp [hjl]) (by have:=hds j (by omega); rw [h1] at this; simpa [dstAt,hjl] using this)
        · by_cases hex:∃ j,j < n∧dstAt l.toArray j=some s
          · obtain ⟨j,hj,hdj⟩:=hex
            have hjl:j < l.length:=by have:=hok.le; simp at this; omega
            exact hN j l[j] s hj (by simp [hjl]) (by simpa [dstAt,hjl] using hdj)
          · have:=inv.base s v h1 (fun j hj _ hdj=>hex ⟨j,hj,hdj⟩)
            have:=(Array.getElem?_eq_some_iff.1 this).1
            rw [inv.know.1] at this
            exact this
      refine ⟨⟨Array.ofFn (n:=N) fun s=>if (tmpsOf o).any (Nat.beq s.1)=true then a.tmps.getD s.1 undef else (Fw.look (factsC (l.take n) Ds Fc0 i) s.1).getD (a.tmps.getD s.1 undef),[]⟩,by simp,rfl,fun s v hv=>?_,fun s hs=>?_⟩
      · have hsN:=hlk s v hv
        simp only [Array.getElem?_ofFn,hsN,dif_pos]
        by_cases hu:(tmpsOf o).any (Nat.beq s)=true
        · rw [if_pos hu]
          have hmem:s∈tmpsOf o:=by
            obtain ⟨x,hx,hb⟩:=List.any_eq_true.1 hu
            rw [Nat.eq_of_beq_eq_true hb]; exact hx
          have:=valueC s v (List.mem_append_left _ hmem) hv
          simp [this]
        · rw [if_neg hu,hv]; rfl
      · have hu:(tmpsOf o).any (Nat.beq s)=true:=List.any_eq_true.2 ⟨s,hs,by simp⟩
        by_cases hsN:s < N
        · simp only [Array.getElem?_ofFn,hsN,dif_pos]
          rw [if_pos hu]
          have:s < a.tmps.size:=by rw [inv.know.1]; exact hsN
          simp [this]
        · simp only [Array.getElem?_ofFn,hsN]
          rw [Array.getElem?_eq_none (by rw [inv.know.1]; omega)]
          simp
    have hev:execOp a.eval o=execOp a'.eval o:=by
      refine execOp_congr o (not_select (hok.sel i o ho)) fun x hx=>?_
      cases x with
      | tmp s =>
        have:=ha2 s (mem_tmpsOf hx)
        simp only [Act.eval,Array.getD_eq_getD_getElem?,this]
      | _=>rfl
    have hrc:RC Fk N (factsC (l.take n) Ds Fc0 i) (factsE (l.take n) Ds i) o B1 w1 a' w:=by
      refine ⟨⟨hsz,hdf,ha1⟩,inv.fr,fun s E hE hu=>?_⟩
      have hmem:s∈tmpsOf o:=by
        obtain ⟨x,hx,hb⟩:=List.any_eq_true.1 hu
        rw [Nat.eq_of_beq_eq_true hb]; exact hx
      obtain ⟨j,hj,h1,_,h2⟩:=factsE_src hds' (by rw [hl,htake]) i (by omega) s E hE
      have hjn:j < n:=by omega
      rcases listed_of j s hjn (by omega) (List.mem_append_left _ hmem) (by rw [hds j hjn,h1]) with ⟨_,h3⟩ | ⟨h3,_⟩
      · obtain ⟨h4,h5⟩:=inv.done j s _ hjn h3 (by rw [hds j hjn,h1]) h2
        have hsub:=sublist_flatMap (fun j=>if listed.getD j false=true then ents j else []) j (List.range n) (List.mem_range.2 hjn)
        simp only [h3,if_true] at hsub
        exact ⟨vals j,ents j,by rw [ha2 s hmem]; exact h4,h5,inv.has.pick hsub⟩
      · omega
    have hyl:=hy a' w hrc
    rw [← hev] at hyl
    have hyl2:Yl P (fun v w'=>Meets D w v w'∧∀ s,opnd o=some s→LinkV o (a.tmps.getD s undef) v) ((execOp a.eval o).run P w):=by
      cases ho2:opnd o with
      | none=>exact hyl.mono fun v w' h=>⟨h,fun s hs=>by cases hs⟩
      | some s=>exact (yl_link ho2 hyl).mono fun v w' h=>⟨h.1,fun s' hs'=>by cases hs'; exact h.2⟩
    exact ⟨hyl2.mono fun v w' ⟨⟨L',h1,h2,h3⟩,h4⟩=>⟨L',by rw [hd]; exact next v L' w' h1 h2 h3 h4⟩,fun hq=>by
      obtain ⟨v,hv⟩:=hqt hq
      exact ⟨v,by rw [hev]; exact hv a' w hrc⟩⟩
  · refine .inr ⟨hwant false hw,?_⟩
    rw [hd]
    exact next undef [] w ⟨rfl,rfl⟩ (hF.of0 (.refl _ _)) (.nil _ _) fun s hs=>by
      unfold wantedAs at hw
      rw [opnd_guard hs] at hw
      cases hw
theorem Inv.step (hF:FrK Fk B1) {vals:Nat→Value} {ents:Nat→List Ent} {listed:Array Bool} {a:Act} {w:World} {i:Nat} {K:Act→World→Prop} (hok:RgOk l.toArray n late) (hl:Ds.length=n)
    (hparts:∀ i o,i < n→l[i]?=some o→∃ (d:Nat) (D:DV Fk),o.dst=some d∧Ds[i]?=some D∧Ob P l.toArray N B1 w1 (factsC (l.take n) Ds Fc0 i) (factsE (l.take n) Ds i) o D∧fresh (factsC (l.take n) Ds Fc0 i) (factsE (l.take n) Ds i) d D)
    (hN:∀ i o d,i < n→l[i]?=some o→o.dst=some d→d < N) (hB:B1≤w1.heap.size)
    (inv:Inv l n N B1 w1 Fc0 Ds vals ents listed a w) (hi:i < n) (hr:i∈Region.ready .any l.toArray listed)
    (k:∀ v L' a' w',Inv l n N B1 w1 Fc0 Ds (fun j=>if j=i then v else vals j) (fun j=>if j=i then L' else ents j) (listed.setIfInBounds i true) a' w'→K a' w'):wpOp P l.toArray Q i K a w:=by
  obtain ⟨hun,o,ho,hall⟩:=mem_ready.1 hr
  have hol:l[i]?=some o:=by simpa using ho
  unfold wpOp
  rw [ho]
  dsimp only
  rcases inv.step0 hF hok hl hparts hN hB hi hr hol with ⟨hw,hy,_⟩ | ⟨hw,h⟩
  · rw [if_pos hw]
    left
    exact wp_of_yl hy fun v w' ⟨L',h⟩=>k v L' _ _ h
  · rw [hw]
    simp only [Bool.false_eq_true,if_false]
    exact k undef [] _ _ h
end
section
variable {P:Program} {l:List Oper} {n N B1:Nat} {w1:World} {Fc0:List (Nat × Value)} {Fk:World→World→Prop} {Ds:List (DV Fk)} {Q:Exit→Act→World→Prop} {late:List Nat}
theorem wpAny_head (hF:FrK Fk B1) (hok:RgOk l.toArray n []) (hl:Ds.length=n)
    (hparts:∀ i o,i < n→l[i]?=some o→∃ (d:Nat) (D:DV Fk),o.dst=some d∧Ds[i]?=some D∧Ob P l.toArray N B1 w1 (factsC (l.take n) Ds Fc0 i) (factsE (l.take n) Ds i) o D∧fresh (factsC (l.take n) Ds Fc0 i) (factsE (l.take n) Ds i) d D)
    (hN:∀ i o d,i < n→l[i]?=some o→o.dst=some d→d < N) (hB:B1≤w1.heap.size)
    (fin:∀ vals ents listed a w,Inv l n N B1 w1 Fc0 Ds vals ents listed a w→(∀ j,j < n→listed.getD j false=true)→wpList P l.toArray Q (l.drop n) a w) :
    ∀ (m:Nat) (U:List Nat) (vals:Nat→Value) (ents:Nat→List Ent) (listed:Array Bool) (a:Act) (w:World),U.length=m→U.Nodup→(∀ j,j∈U ↔ j < l.length∧listed.getD j false=false) →
      Inv l n N B1 w1 Fc0 Ds vals ents listed a w→wpAny P .any l.toArray Q m listed a w:=by
  intro m
  induction m with
  | zero =>
    intro U vals ents listed a w hU hnd hmem inv
    have hU0:U=[]:=List.eq_nil_of_length_eq_zero hU
    subst hU0
    have hall:∀ j,j < l.length→listed.getD j false=true:=fun j hj=>by
      cases hx:listed.getD j false with
      | true=>rfl
      | false=>have:=(hmem j).2 ⟨hj,hx⟩; simp at this
    have hn:n=l.length:=by
      have h1:=hok.le
      simp at h1
      by_cases e:n < l.length
      · have:=inv.tail n (Nat.le_refl _); rw [hall n e] at this; cases this
      · omega
    have h:=fin vals ents listed a w inv (fun j hj=>hall j (by omega))
    refine wpAny_tail hok 0 l.length listed a w (by omega) (by omega) inv.size (fun j hj=>?_) (by rw [← hn]; exact h)
    rw [getD_both_iff (by rw [inv.size]; exact hj),hall j hj]
    simp [hj]
  | succ m ih =>
    intro U vals ents listed a w hU hnd hmem inv
    by_cases hall:∀ j,j < n→listed.getD j false=true
    · have h:=fin vals ents listed a w inv hall
      have hle:=hok.le
      simp at hle
      have hcount:m + 1=l.length - n:=by
        rw [← hU]
        have:U.Perm ((List.range (l.length - n)).map (· + n)):=by
          refine (List.perm_ext_iff_of_nodup hnd ?_).2 fun j=>?_
          · exact List.Pairwise.map (R:=(· ≠ ·)) (S:=(· ≠ ·)) (· + n) (fun x y h=>by simp; exact h) List.nodup_range
          · rw [hmem]
            simp only [List.mem_map,List.mem_range]
            constructor
            · rintro ⟨h1,h2⟩
              refine ⟨j - n,?_,?_⟩
              · by_cases e:j < n
                · rw [hall j e] at h2; cases h2
                · omega
              · by_cases e:j < n
                · rw [hall j e] at h2; cases h2
                · omega
            · rintro ⟨x,h1,rfl⟩
              exact ⟨by omega,inv.tail _ (by omega)⟩
        rw [this.length_eq]; simp
      refine wpAny_tail hok (m + 1) n listed a w (by omega) (Nat.le_refl _) inv.size (fun j hj=>?_) h
      rw [getD_both_iff (by rw [inv.size]; exact hj)]
      by_cases e:j < n
      · rw [hall j e]; simp [e]
      · rw [inv.tail j (by omega)]; simp [e]
    · obtain ⟨j0,hj0,hl0⟩:∃ j,j < n∧listed.getD j false=false:=by
        apply Classical.byContradiction
        intro hn
        apply hall
        intro j hj
        cases hx:listed.getD j false with
        | true=>rfl
        | false=>exact absurd ⟨j,hj,hx⟩ hn
      have hle:=hok.le
      simp at hle
      refine ⟨fun h0=>?_,fun i hi=>?_⟩
      · obtain ⟨i,hi⟩:=exists_ready hok inv.size j0 (by omega) hl0
        rw [h0] at hi; cases hi
      · have hin:i < n:=by
          apply Classical.byContradiction
          intro hge
          obtain ⟨_,o,ho,hall2⟩:=mem_ready.1 hi
          have key:=anc_closed (ops:=l.toArray) (S:=fun j=>listed.getD j false=true) (fun i' o' hi' hs' e he hb=>inv.closed i' o' (by simpa using hi') hs' e he hb) 24 o j0 (fun e he hb=>hall2 e he hb) ((hok.tail i o ho (by omega) j0 (by omega)).resolve_left fun h=>by cases h)
          rw [hl0] at key
          cases key
        have hil:i < l.length:=by omega
        have hiU:i∈U:=(hmem i).2 ⟨hil,by
          have h1:=(mem_ready.1 hi).1
          rw [getD_both_iff (by rw [inv.size]; exact hil)] at h1
          exact h1⟩
        refine inv.step hF hok hl hparts hN hB hin hi fun v L' a' w' inv'=>?_
        refine ih (U.erase i) _ _ _ _ _ ?_ (hnd.erase i) (fun j=>?_) inv'
        · rw [List.length_erase_of_mem hiU,hU]; simp
        · rw [hnd.mem_erase_iff,hmem]
          by_cases e:j=i
          · subst e
            simp [show j < listed.size by rw [inv.size]; exact hil]
          · rw [getD_set_ne false (Ne.symm e)]
            simp [e]
theorem RG.mono {Fk:World→World→Prop} {P:Program} {ops:Array Oper} {K K':List (Nat × Value)→Fes→Prop} (hm:∀ Fc Fe,K Fc Fe→K' Fc Fe):∀ (rest:List Oper) (Fc:List (Nat × Value)) (Fe:Fes),RG Fk P ops N B1 w1 K Fc Fe rest→RG Fk P ops N B1 w1 K' Fc Fe rest
  | [],Fc,Fe,h=>hm Fc Fe h
  | o::rest,Fc,Fe,⟨d,D,h1,h2,h3,h4⟩=>⟨d,D,h1,h2,h3,RG.mono hm rest _ _ h4⟩
end
end Go.FwK
end

section
/- The steps of such regions. -/
namespace Go.FwK
open Go Go.Fw
section
variable {P:Program} {l:List Oper} {n N:Nat} {Q:Exit→Act→World→Prop} {Fk:World→World→Prop}
end
section
variable {P:Program} {ops:Array Oper} {N B1:Nat} {w1:World} {Fk:World→World→Prop} {K:List (Nat × Value)→Fes→Prop} {Fc:List (Nat × Value)} {Fe:Fes} {rest:List Oper}
variable {d:Tmp} {op:Op} {ty:TypeId} {pos:String} {aft:Array Edge} {x y z:Operand} {t u:TypeId}
theorem RC.ev {o:Oper} {a:Act} {w:World} {x:Operand} {v:Value} (h:RC Fk N Fc Fe o B1 w1 a w) (hx:ev Fc x=some v):a.eval x=v:=h.know.eval hx
theorem rg_nil (h:K Fc Fe):RG Fk P ops N B1 w1 K Fc Fe []:=h
theorem rg_q (hK:FrK Fk B1) {v:Value} (h:∀ a w,RC Fk N Fc Fe ⟨some d,op,ty,pos,aft,none⟩ B1 w1 a w→(execOp a.eval ⟨some d,op,ty,pos,aft,none⟩).run P w=.ok (.value v) w) (hE:lookE Fe d=none)
    (k:RG Fk P ops N B1 w1 K ((d,v)::Fc) Fe rest):RG Fk P ops N B1 w1 K Fc Fe (⟨some d,op,ty,pos,aft,none⟩::rest) :=
  ⟨d,.c v,rfl,⟨.inl ⟨rfl,fun a w hc=>by rw [h a w hc]; exact ⟨[],⟨rfl,rfl⟩,hK.of0 (.refl _ _),.nil _ _⟩⟩,fun _=>⟨v,h⟩⟩,hE,k⟩
theorem rg_yes (hK:FrK Fk B1) {v:Value} {j s:Nat} {b:Bool} (hj:(ops[j]?).bind (·.dst)=some s) (hb:Fw.look Fc s=some (.bool b))
    (h:∀ a w,RC Fk N Fc Fe ⟨some d,op,ty,pos,aft,some (j,b)⟩ B1 w1 a w→(execOp a.eval ⟨some d,op,ty,pos,aft,some (j,b)⟩).run P w=.ok (.value v) w) (hE:lookE Fe d=none)
    (k:RG Fk P ops N B1 w1 K ((d,v)::Fc) Fe rest):RG Fk P ops N B1 w1 K Fc Fe (⟨some d,op,ty,pos,aft,some (j,b)⟩::rest) :=
  ⟨d,.c v,rfl,⟨.inl ⟨by simp [wantedAs,hj,hb],fun a w hc=>by rw [h a w hc]; exact ⟨[],⟨rfl,rfl⟩,hK.of0 (.refl _ _),.nil _ _⟩⟩,fun h=>by cases h⟩,hE,k⟩
theorem rg_no (hK:FrK Fk B1) {j s:Nat} {b c:Bool} (hj:(ops[j]?).bind (·.dst)=some s) (hb:Fw.look Fc s=some (.bool c)) (hne:c=!b) (hE:lookE Fe d=none)
    (k:RG Fk P ops N B1 w1 K ((d,undef)::Fc) Fe rest):RG Fk P ops N B1 w1 K Fc Fe (⟨some d,op,ty,pos,aft,some (j,b)⟩::rest) :=
  ⟨d,.c undef,rfl,⟨.inr ⟨by subst hne; cases b <;> simp [wantedAs,hj,hb],rfl⟩,fun h=>by cases h⟩,hE,k⟩
theorem rg_e (hK:FrK Fk B1) (E:Value→List Ent→World→Prop) (st:∀ v L w w',Fk w w'→E v L w→E v L w')
    (h:∀ a w,RC Fk N Fc Fe ⟨some d,op,ty,pos,aft,none⟩ B1 w1 a w→Yl P (fun v w'=>∃ L',E v L' w'∧Fk w w'∧Has w.heap.size w' L') ((execOp a.eval ⟨some d,op,ty,pos,aft,none⟩).run P w)) (hC:Fw.look Fc d=none)
    (k:RG Fk P ops N B1 w1 K Fc ((d,E)::Fe) rest) (hq:needQ ⟨some d,op,ty,pos,aft,none⟩=false:=by rfl):RG Fk P ops N B1 w1 K Fc Fe (⟨some d,op,ty,pos,aft,none⟩::rest) :=
  ⟨d,.e E st,rfl,⟨.inl ⟨rfl,h⟩,fun h=>by rw [hq] at h; cases h⟩,hC,k⟩
theorem rg_alloc (hK:FrK Fk B1) {td:TypeDesc} {sz bytes:Nat} {zs:List Value} (hT:Ty P t td sz bytes zs) (hC:Fw.look Fc d=none)
    (k:RG Fk P ops N B1 w1 K Fc ((d,fun v L _=>∃ g,v=.pointer (some ⟨g,0,none⟩)∧L=[.seg g zs t])::Fe) rest):RG Fk P ops N B1 w1 K Fc Fe (⟨some d,.alloc t,ty,pos,aft,none⟩::rest) :=
  rg_e hK _ (fun _ _ _ _ _ h=>h) (fun a w hc=>by rw [c_alloc hT]; exact ⟨_,⟨_,rfl,rfl⟩,hK.of0 (.alloc _ _),has_alloc⟩) hC k
theorem rg_bslice (hK:FrK Fk B1) {E:TypeId} {ed:TypeDesc} {s bytes n:Nat} {z zs:List Value} {ps:Array (Nat × Operand)} {vs:List Value} (hu:P.underlying t=some (.slice E)) (hE:Ty P E ed s bytes z)
    (hps:∀ a w,RC Fk N Fc Fe ⟨some d,.buildSlice t n ps,ty,pos,aft,none⟩ B1 w1 a w→Evp a 0 ps.toList vs) (hn:vs.length=n) (hv:∀ v∈vs,v.cells.size=s) (hsmall:n * s≤16777216) (hz:flatCells vs=zs) (hC:Fw.look Fc d=none)
    (k:RG Fk P ops N B1 w1 K Fc ((d,fun v L _=>∃ g,v=.slice (some ⟨g,0,none⟩) n n∧L=[.seg g zs E])::Fe) rest):RG Fk P ops N B1 w1 K Fc Fe (⟨some d,.buildSlice t n ps,ty,pos,aft,none⟩::rest) :=
  rg_e hK _ (fun _ _ _ _ _ h=>h) (fun a w hc=>by rw [c_bslice hu hE (hps a w hc) hn hv hsmall,hz]; exact ⟨_,⟨_,rfl,rfl⟩,hK.of0 (.alloc _ _),has_alloc⟩) hC k
theorem rg_call (hK:FrK Fk B1) {f:FuncId} {args:Array Operand} {vs:List Value} {tys:Array TypeId} {c:Value} (hF:Fun P f)
    (hargs:∀ a w,RC Fk N Fc Fe ⟨some d,.call { callee:=.value (.func f),args:=args,argTypes:=tys },ty,pos,aft,none⟩ B1 w1 a w→Evs a args.toList vs)
    (hc:∀ w,Fk w1 w→Ctr P f vs w (fun _=>False) fun v _=>v=c) (hE:lookE Fe d=none)
    (k:RG Fk P ops N B1 w1 K ((d,c)::Fc) Fe rest):RG Fk P ops N B1 w1 K Fc Fe (⟨some d,.call { callee:=.value (.func f),args:=args,argTypes:=tys },ty,pos,aft,none⟩::rest) :=
  ⟨d,.c c,rfl,⟨.inl ⟨rfl,fun a w h=>by
    rw [run_call hF (hargs a w h)]
    exact Calls.mono (hc w h.fr) fun e w' ⟨v,he,hf,hv⟩=>⟨v,he,[],⟨hv,rfl⟩,hK.of0 hf,.nil _ _⟩⟩,fun h=>by cases h⟩,hE,k⟩
end
section
variable {P:Program} {ops:Array Oper} {N B1:Nat} {w1:World} {Fk:World→World→Prop} {K:List (Nat × Value)→Fes→Prop} {Fc:List (Nat × Value)} {Fe:Fes} {rest:List Oper}
variable {d:Tmp} {op:Op} {ty:TypeId} {pos:String} {aft:Array Edge} {x y z:Operand} {t u:TypeId}
end
end Go.FwK
end

section
/- Calls that turn what was there,met in laws; slices made in regions that draw; three whole numbers handed in. -/
namespace Go.Fw
open Go
section
variable {P:Program} {a:Act} {w:World} {d:Option Tmp} {ty:TypeId} {pos:String} {aft:Array Edge} {g:Option (Nat × Bool)} {x y z:Operand} {t u:TypeId}
theorem c_neqNil {p:Addr} {E:TypeId} (hu:P.underlying t=some (.pointer E)) (hx:a.eval x=.pointer (some p)) (hy:a.eval y=.pointer none) :
    (execOp a.eval ⟨d,.binOp .neq t x y u,ty,pos,aft,g⟩).run P w=.ok (.value (.bool true)) w:=by
  have e:(Op.equal t (.pointer (some p)) (.pointer none)).run P w=.ok false w:=eqpn hu p 9999
  simp [execOp,hx,hy,eqGuard,binOp,e]
end
section
variable {P:Program} {ops:Array Oper} {N B1:Nat} {w1:World} {K:List (Nat × Value)→Fes→Prop} {Fc:List (Nat × Value)} {Fe:Fes} {rest:List Oper}
variable {d:Tmp} {op:Op} {ty:TypeId} {pos:String} {aft:Array Edge} {x y z:Operand} {t u:TypeId}
end
section
variable {P:Program} {ops:Array Oper} {Q:Exit→Act→World→Prop} {rest:List Oper} {N:Nat} {F F':List (Nat × Value)} {L L':List Ent} {M:Nat→Prop} {w0 w:World} {a:Act}
variable {d:Tmp} {op:Op} {ty:TypeId} {pos:String} {aft:Array Edge} {x y z:Operand} {t u:TypeId}
end
section
open Go.ChangeShapes Go.WideShapes Go.ChangeAt Go.RowKit
variable {H:Type} {enc:TypeId × Value→H} {P:Program} {w:World} {base:Nat} {spare:Nat→Bool} {held:Bool} {fuel:Nat} {t e u:TypeId} {cs:List Value} {x:DataW H × List MemPlace} {v:Value} {d:DataW H} {ps:List MemPlace} {r:Reach} {b0:Nat}
end
end Go.Fw
end

section
/- Guarded calls in a region that draws,whatever the guard; reading rows of many cells. -/
namespace Go.Fw
open Go
section
variable {P:Program} {ops:Array Oper} {N B1:Nat} {w1:World} {K:List (Nat × Value)→Fes→Prop} {Fc:List (Nat × Value)} {Fe:Fes} {rest:List Oper}
variable {d:Tmp} {op:Op} {ty:TypeId} {pos:String} {aft:Array Edge}
theorem rg_gcall {f:FuncId} {args:Array Operand} {vs:List Value} {tys:Array TypeId} {v:Value} {j s:Nat} {b c:Bool} (hj:(ops[j]?).bind (·.dst)=some s) (hb:look Fc s=some (.bool c)) (hF:Fun P f)
    (hargs:c=b→∀ a w,RC N Fc Fe ⟨some d,.call { callee:=.value (.func f),args:=args,argTypes:=tys },ty,pos,aft,some (j,b)⟩ B1 w1 a w→Evs a args.toList vs)
    (hc:c=b→∀ w,Fr0 w1 w→Ctr P f vs w (fun _=>False) fun u _=>u=v) (hE:lookE Fe d=none)
    (k:RG P ops N B1 w1 K ((d,if c=b then v else undef)::Fc) Fe rest):RG P ops N B1 w1 K Fc Fe (⟨some d,.call { callee:=.value (.func f),args:=args,argTypes:=tys },ty,pos,aft,some (j,b)⟩::rest):=by
  by_cases e:c=b
  · rw [if_pos e] at k
    refine ⟨d,.c v,rfl,⟨.inl ⟨by subst e; simp [wantedAs,hj,hb],fun a w h=>?_⟩,fun h=>by cases h⟩,hE,k⟩
    rw [run_call hF (hargs e a w h)]
    exact Calls.mono (hc e w h.fr) fun e w' ⟨u,he,hf,hv⟩=>⟨u,he,[],⟨hv,rfl⟩,hf,.nil _ _⟩
  · rw [if_neg e] at k
    exact rg_no hj hb (by cases c <;> cases b <;> simp_all) hE k
end
end Go.Fw
end

section
/- More conversions. -/
namespace Go.Fw
open Go
section
variable {P:Program} {a:Act} {w:World} {d:Option Tmp} {ty:TypeId} {pos:String} {aft:Array Edge} {g:Option (Nat × Bool)} {x y z:Operand} {t u:TypeId}
theorem c_cvVI {ds:TypeDesc} {b:UInt64} (hs:P.underlying t=some ds) (hd:P.underlying u=some (.int .i64)) (hx:a.eval x=V b) (hb:b.toNat≤9223372036854775807):(execOp a.eval ⟨d,.convert t u x,ty,pos,aft,g⟩).run P w=.ok (.value (I b.toNat)) w:=by
  rw [c_conv hs hd hx,wrap64_in (by omega) (by omega)]
end
end Go.Fw
end

section
/- Rows of rows of many cells. -/
namespace Go.Fw
open Go
theorem owns_at {n sz:Nat} {v:Value} {xs:List Value} {T:TypeId} {w:World} (h:w.ownsRow 0 T sz v n xs) (hn:0 < n) :
    ∃ g cap cur,v=.slice (some ⟨g,0,none⟩) n cap∧w.heap[g]?=some (.cells cur T (0,0))∧n≤cap∧cap≤maxLen∧cur.toList.take (n * sz)=xs:=by
  obtain ⟨h1,h2⟩:=h
  rcases h2 with ⟨_,h3⟩ | ⟨g,cap,cur,h3,_,h4,h5,h6,h7,h8⟩
  · omega
  · exact ⟨g,cap,cur,h3,h4,h5,h6,h8⟩
section
variable {P:Program} {ops:Array Oper} {Q:Exit→Act→World→Prop} {rest:List Oper} {N:Nat} {F F':List (Nat × Value)} {L L':List Ent} {M:Nat→Prop} {w0 w:World} {a:Act}
variable {d:Tmp} {op:Op} {ty:TypeId} {pos:String} {aft:Array Edge} {x y z:Operand} {t u:TypeId}
theorem s_appP {α:Type} {pt:Value × α→Ent} {i j g:Nat} {s0 x0:Operand} {E T':TypeId} {ed:TypeDesc} {zs:List Value} {ps:List (Value × α)} {v tv:Value} {z:α} (hs:St N F L M w0 a w) (hu:P.underlying t=some (.slice E)) (hE:Ty P E ed 1 24 zs)
    (hv:ev F s0=some v) (hx:ev F x0=some (.slice (some ⟨g,0,none⟩) 1 1)) (hi:L[i]?=some (.texts E pt v ps)) (hj:L[j]?=some (pt (tv,z))) (hij:Nat.beq i j=false)
    (hg:w.heap[g]?=some (.cells #[tv] T' (0,0))) (h1:tv.oneCell'=true) (hml:ps.length≤1000000) (hd:Nat.blt d N=true)
    (k:∀ a w' v',St N ((d,v')::F) ((L.set i (.texts E pt v' (ps++[(tv,z)]))).set j .none) M w0 a w'→wpList P ops Q rest a w') :
    wpList P ops Q (⟨some d,.call { callee:=.builtin .append,args:=#[s0,x0],argTypes:=#[t,t] },ty,pos,aft,none⟩::rest) a w :=
  s_appG (qs:=[(tv,z)]) (b:=pt (tv,z)) hs hu hE hv hx hi hj hij
    (by
      have:=hs.has.lt _ (List.mem_of_getElem? hj)
      exact (Has.nil 0 w).cons (hs.get hj) this (fun _ _=>Nat.zero_le _) (by simp))
    (fun q hq k hk=>by simp only [List.mem_singleton] at hq; subst hq; exact hk)
    (Rd.of_seg (all:=[tv]) hg (Nat.le_refl _) (by decide) rfl) (by simpa using h1) (by simp only [List.length_cons,List.length_nil,maxLen]; omega) (by simp only [List.length_cons,List.length_nil]; omega) hd k
end
theorem flatZ (n m:Nat):(List.replicate n ((List.replicate m (0:UInt8)).map B)).flatten=(List.replicate (n * m) (0:UInt8)).map B:=by
  simp
end Go.Fw
end

section
/- Operations whose guard was not told: they are not done. -/
namespace Go.Fw
open Go
section
variable {P:Program} {ops:Array Oper} {Q:Exit→Act→World→Prop} {rest:List Oper} {N:Nat} {F F':List (Nat × Value)} {L L':List Ent} {M:Nat→Prop} {w0 w:World} {a:Act}
variable {d:Tmp} {op:Op} {ty:TypeId} {pos:String} {aft:Array Edge} {x y z:Operand} {t u:TypeId}
theorem s_noU {j s:Nat} {b:Bool} (hs:St N F L M w0 a w) (hj:(ops[j]?).bind (·.dst)=some s) (hb:look F s=some undef) (hd:Nat.blt d N=true)
    (k:∀ a,St N ((d,undef)::F) L M w0 a w→wpList P ops Q rest a w):wpList P ops Q (⟨some d,op,ty,pos,aft,some (j,b)⟩::rest) a w:=by
  have hy:yielded ops a.tmps j=none:=by
    have:=hs.know.at_ s _ hb
    simp [yielded,hj,this,undef]
  unfold wpList
  have hw:Region.wanted ⟨some d,op,ty,pos,aft,some (j,b)⟩ (yielded ops a.tmps)=false:=by simp [Region.wanted,hy]
  rw [if_neg (by rw [hw]; simp)]
  exact k _ (hs.put (lt_of_blt hd) undef)
end
end Go.Fw
end

section
/- Openings: slices of arrays of bytes. -/
namespace Go.Fw
open Go Go.ChangeShapes Go.WideShapes Go.ChangeAt Go.RowKit
section
variable {H:Type} {enc:TypeId × Value→H} {P:Program} {w:World} {base:Nat} {spare:Nat→Bool} {held:Bool} {fuel:Nat} {t e u:TypeId} {cs:List Value} {x:DataW H × List MemPlace} {v:Value} {d:DataW H} {ps:List MemPlace} {r:Reach} {b0:Nat}
theorem add_add (a:Addr) (i j:Nat) (hs:a.spot=none):(a.add i).add j=a.add (i + j):=by
  obtain ⟨b,o,s⟩:=a
  simp only at hs
  subst hs
  rw [add_lit,add_lit,add_lit,Nat.add_assoc]
end
end Go.Fw
end
