/- Own texts of this seat,laid together for one claim (with what its proof uses alone). -/
import Derived.JoinedOf
import Derived.KernelRfl
import Derived.Test.YtklajbdbnnceiaaGreatRows
import Derived.WalkKit
import Derived.Below
import Derived.Laws.AppendOwnNone
import Derived.ProofKit
import Derived.OpenShut
import Derived.ShutString
import Derived.ChangeOld
import Derived.SizedLaws
import Derived.Deep.Slices
import Derived.Test.YtklajbdbnnceiaaGreatProg
import Derived.Laws.BytesString
import Derived.Laws.CopyRow
import Derived.ChangeSame
import Derived.Deep.Strs
import Derived.ChangeMaps5
import Derived.DataReads
import Derived.Lib.SmallJoins
import Derived.Maps.OwnSet
import Derived.DeepKeys4
set_option linter.unusedSimpArgs false
set_option linter.unusedVariables false
set_option maxRecDepth 100000
section
/- The closed facts of a row,in parts: a long list of roots in a program's first words is more than the kernel holds at one stroke. -/
namespace Go.Fw
open Go
theorem wordsSigns_ne (l:List Char):wordsSigns l ≠ []:=by
  unfold wordsSigns
  split
  · simp
  · simp
  · split <;> simp
theorem wordsSigns_app:∀ (l r:List Char),wordsSigns (l++Char.ofNat 32::r)=wordsSigns l++wordsSigns r
  | [],r=>rfl
  | c::l,r=>by
    have ih:=wordsSigns_app l r
    by_cases e:c=Char.ofNat 32
    · subst e
      show []::wordsSigns (l++Char.ofNat 32::r)=([]::wordsSigns l)++wordsSigns r
      rw [ih]; rfl
    · have h1:∀ t:List Char,wordsSigns (c::t)=match wordsSigns t with
          | w::ws=>(c::w)::ws
          | []=>[[c]]:=fun t=>by
        rw [wordsSigns.eq_3]
        · rfl
        · exact fun h=>e h
      rw [List.cons_append,h1,h1,ih]
      cases h2:wordsSigns l with
      | nil=>exact absurd h2 (wordsSigns_ne l)
      | cons w ws=>rfl
theorem words_cut {P:Program} {X Y:List Nat} {a b:List Char} (hio:P.initOrder=String.ofList (X.map Char.ofNat++Char.ofNat 32::Y.map Char.ofNat))
    (hx : wordsSigns (X.map Char.ofNat) = [a, b, "cut".toList, "at".toList]) (hm : ((a == "harness".toList || a == "ownmain".toList) && isSumSigns b) = true) :
    behindMainWord (wordsSigns P.initOrder.toList) = "cut".toList :: ("at".toList :: wordsSigns (Y.map Char.ofNat)) := by
  rw [hio,String.toList_ofList,wordsSigns_app,hx]
  show behindMainWord (a :: b :: ("cut".toList :: ("at".toList :: wordsSigns (Y.map Char.ofNat)))) = _
  rw [behindMainWord,if_pos hm]
theorem strip_cut (W : List (List Char)) : stripLifts liftWords ("cut".toList :: W) = ([], "cut".toList :: W) := rfl
theorem headLifts_cut {P : Program} {W : List (List Char)} (h : behindMainWord (wordsSigns P.initOrder.toList) = "cut".toList :: W) : P.headLifts = [] := by
  unfold Program.headLifts
  rw [h,strip_cut]
  rfl
theorem mayEnter_cut {P : Program} {W : List (List Char)} (h : behindMainWord (wordsSigns P.initOrder.toList) = "cut".toList :: W) (hl : P.laysLater = false) (hr : P.bearsReflect = false) (hd : P.doorFits [] = true) : P.mayEnter = true := by
  unfold Program.mayEnter
  rw [h]
  simp only [strip_cut,hl,hr,hd]
  rfl
theorem liftsFinal_cut {P : Program} {W : List (List Char)} (h : behindMainWord (wordsSigns P.initOrder.toList) = "cut".toList :: W) : P.liftsFinal = false := by
  unfold Program.liftsFinal
  rw [h,headLifts_cut h]
  rfl
theorem make_cut {P : Program} {W : List (List Char)} (h : behindMainWord (wordsSigns P.initOrder.toList) = "cut".toList :: W) : P.make = some .cut := by
  unfold Program.make
  rw [h]
  rfl
structure Whole (P:Program) (pk:Bool):Prop where
  laid:laidOutB P=true
  maps:mapsRowed P=true
  stops:(P.stops == [])=true
  knobs:(P.stopKnobs == [])=true
  keys:P.plainKeys=pk
  heard:P.stopsHeard=true
  enter:P.mayEnter=true
  final:P.liftsFinal=false
  make:P.make=some .cut
def rowB (pk:Bool) (P:Program) (f:FuncId) (fn:Func) (s:ChangeSpec) (c:OpenClaim):Bool :=
  c.wf (OpenSpec.ofChange s) && fn.params.all (P.readableRec ·) && namedTie P c.named s.vars &&
  (c.stops == []) && (c.knobs == []) && (c.named == P.varsNamed f) &&
  (c.maps == (fn.params.toList++s.plain.varTypes P).any (P.mapsRec ·)) && (c.ifaces == (fn.params.toList++s.plain.varTypes P).any (P.ifacesRec ·)) && (c.mapsOut == P.mapsAmong fn.resultTypes.toList) &&
  (c.loops == (fn.params.toList++s.plain.varTypes P).any (P.loopsFrom ·)) && (c.wideKeys == (fn.params.toList++s.plain.varTypes P++fn.resultTypes.toList).any (P.wideKeysFrom ·)) &&
  s.vars.all (P.varReadable ·) && fn.resultTypes.all (fun t=>P.readableRec t && decide (t < P.types.size)) && (c.ifacesOut == fn.resultTypes.toList.any (P.ifacesRec ·)) && (c.loopsOut == fn.resultTypes.toList.any (P.loopsFrom ·)) && (c.plainKeys == pk) && c.shortTexts.isNone && (c.lifted == false) && (some Make.cut == some c.make) &&
  (c.kinds == (if c.domain.isEmpty then [] else fn.params.toList.map fun t=>match P.underlying t with | some (.int k)=>some k | _=>none)) && (c.pinned == c.pinnedBy) &&
  (c.veiled == (fn.params.toList++s.plain.varTypes P++fn.resultTypes.toList).any (P.veiledRec ·)) && c.veiledFits P fn.params.toList (fn.params.toList++s.plain.varTypes P++fn.resultTypes.toList)
theorem joined_of {P:Program} {pk:Bool} {f:FuncId} {fn:Func} {s:ChangeSpec} {c:OpenClaim} (w:Whole P pk) (h1:(c.inPlace == P.inPlace f)=true) (h2:(c.unfollowed == P.unfollowed f)=true) (h3:(c.recurses == P.recurses f)=true) (h:rowB pk P f fn s c=true) :
    joinedFacts P f fn s c=true:=by
  unfold rowB at h
  unfold joinedFacts
  simp only [w.laid,w.maps,w.stops,w.knobs,w.keys,w.heard,w.enter,w.final,w.make,h1,h2,h3,Bool.and_true,Bool.true_and,Bool.and_assoc] at h ⊢
  exact h
end Go.Fw
end

section
/- Closed facts of the whole program. Written by a program of ours (closed.py). -/
namespace Go.Proofs.YtklajbdbnnceiaaGreat
open Go Go.Fw
theorem io:Tryz.prog.initOrder=String.ofList (([104,97,114,110,101,115,115,32,48,54,56,102,48,98,54,54,99,100,54,57,101,102,53,100,50,97,102,56,54,48,50,48,49,49,55,56,98,102,50,100,97,101,49,54,102,49,99,53,97,56,57,97,52,102,55,98,97,57,100,54,102,56,50,100,55,52,100,53,54,102,97,52,32,99,117,116,32,97,116]:List Nat).map Char.ofNat++Char.ofNat 32::([102,105,110,103,101,114,112,111,115,116,47,102,105,110,103,101,114,112,111,115,116,108,97,119,48,56,46,83,112,114,105,110,103,69,108,101,109,101,110,116,115,32,102,105,110,103,101,114,112,111,115,116,47,102,105,110,103,101,114,112,111,115,116,108,97,119,48,57,46,80,114,111,111,102,73,115,115,117,101,115,32,102,105,110,103,101,114,112,111,115,116,47,102,105,110,103,101,114,112,111,115,116,108,97,119,48,57,46,80,114,111,111,102,80,97,115,115,101,115,32,102,105,110,103,101,114,112,111,115,116,47,102,105,110,103,101,114,112,111,115,116,108,97,119,48,57,46,80,114,111,111,102,83,111,117,110,100,32,102,105,110,103,101,114,112,111,115,116,47,102,105,110,103,101,114,112,111,115,116,108,97,119,48,57,46,80,114,111,111,102,67,104,101,99,107,115,32,102,105,110,103,101,114,112,111,115,116,47,102,105,110,103,101,114,112,111,115,116,108,97,119,50,56,46,84,114,117,116,104,74,117,100,103,101,115,32,102,105,110,103,101,114,112,111,115,116,47,102,105,110,103,101,114,112,111,115,116,108,97,119,50,56,46,84,114,117,116,104,79,119,110,115,32,102,105,110,103,101,114,112,111,115,116,47,102,105,110,103,101,114,112,111,115,116,108,97,119,50,56,46,84,114,117,116,104,80,97,115,115,101,115]:List Nat).map Char.ofNat):=by kernel_rfl
theorem wordsOf : behindMainWord (wordsSigns Tryz.prog.initOrder.toList) = "cut".toList :: ("at".toList :: wordsSigns (([102, 105, 110, 103, 101, 114, 112, 111, 115, 116, 47, 102, 105, 110, 103, 101, 114, 112, 111, 115, 116, 108, 97, 119, 48, 56, 46, 83, 112, 114, 105, 110, 103, 69, 108, 101, 109, 101, 110, 116, 115, 32, 102, 105, 110, 103, 101, 114, 112, 111, 115, 116, 47, 102, 105, 110, 103, 101, 114, 112, 111, 115, 116, 108, 97, 119, 48, 57, 46, 80, 114, 111, 111, 102, 73, 115, 115, 117, 101, 115, 32, 102, 105, 110, 103, 101, 114, 112, 111, 115, 116, 47, 102, 105, 110, 103, 101, 114, 112, 111, 115, 116, 108, 97, 119, 48, 57, 46, 80, 114, 111, 111, 102, 80, 97, 115, 115, 101, 115, 32, 102, 105, 110, 103, 101, 114, 112, 111, 115, 116, 47, 102, 105, 110, 103, 101, 114, 112, 111, 115, 116, 108, 97, 119, 48, 57, 46, 80, 114, 111, 111, 102, 83, 111, 117, 110, 100, 32, 102, 105, 110, 103, 101, 114, 112, 111, 115, 116, 47, 102, 105, 110, 103, 101, 114, 112, 111, 115, 116, 108, 97, 119, 48, 57, 46, 80, 114, 111, 111, 102, 67, 104, 101, 99, 107, 115, 32, 102, 105, 110, 103, 101, 114, 112, 111, 115, 116, 47, 102, 105, 110, 103, 101, 114, 112, 111, 115, 116, 108, 97, 119, 50, 56, 46, 84, 114, 117, 116, 104, 74, 117, 100, 103, 101, 115, 32, 102, 105, 110, 103, 101, 114, 112, 111, 115, 116, 47, 102, 105, 110, 103, 101, 114, 112, 111, 115, 116, 108, 97, 119, 50, 56, 46, 84, 114, 117, 116, 104, 79, 119, 110, 115, 32, 102, 105, 110, 103, 101, 114, 112, 111, 115, 116, 47, 102, 105, 110, 103, 101, 114, 112, 111, 115, 116, 108, 97, 119, 50, 56, 46, 84, 114, 117, 116, 104, 80, 97, 115, 115, 101, 115] : List Nat).map Char.ofNat)) :=
  words_cut (a := "harness".toList) (b := "068f0b66cd69ef5d2af860201178bf2dae16f1c5a89a4f7ba9d6f82d74d56fa4".toList) io (by decide +kernel) (by decide +kernel)
theorem later:Tryz.prog.laysLater=false:=by kernel_rfl
theorem reflects:Tryz.prog.bearsReflect=false:=by kernel_rfl
theorem doors:Tryz.prog.doorFits []=true:=by kernel_rfl
theorem laid:laidOutB Tryz.prog=true:=by kernel_rfl
theorem rowed:mapsRowed Tryz.prog=true:=by kernel_rfl
theorem stops:(Tryz.prog.stops == [])=true:=by kernel_rfl
theorem knobs:(Tryz.prog.stopKnobs == [])=true:=by kernel_rfl
theorem keysPlain:Tryz.prog.plainKeys=false:=by kernel_rfl
theorem heard:Tryz.prog.stopsHeard=true:=by kernel_rfl
theorem ownK:ownKnob Tryz.prog.godebug=none:=by kernel_rfl
theorem whole:Whole Tryz.prog false:=⟨laid,rowed,stops,knobs,keysPlain,heard,mayEnter_cut wordsOf later reflects doors,liftsFinal_cut wordsOf,make_cut wordsOf⟩
end Go.Proofs.YtklajbdbnnceiaaGreat
end

section
/- A small frame of proof over any program: what is known of the slots ('Know'),what stands in memory ('Has'),what has stayed ('Fr'),and all three together ('St'). -/
namespace Go.Fw
open Go
def look:List (Nat × Value)→Nat→Option Value
  | [],_=>none
  | (k,v)::t,n=>bif Nat.beq k n then some v else look t n
theorem _root_.Nat.beq_eq_false_of {a b:Nat} (h:¬ a=b):Nat.beq a b=false:=by
  cases e:Nat.beq a b with
  | false=>rfl
  | true=>exact absurd (Nat.eq_of_beq_eq_true e) h
structure Know (N:Nat) (F:List (Nat × Value)) (a:Act):Prop where
  size:a.tmps.size=N
  defers:a.defers=[]
  at_:∀ n v,look F n=some v→a.tmps[n]?=some v
def ev (F:List (Nat × Value)):Operand→Option Value
  | .tmp n=>look F n
  | .const v=>some v
  | .global g=>some (.pointer (some ⟨g,0,none⟩))
  | .func f=>some (.func (.func f) #[] #[])
theorem Know.eval {N F a x v} (h:Know N F a) (hx:ev F x=some v):a.eval x=v:=by
  cases x with
  | tmp n=>have:=h.at_ n v hx; simp [Act.eval,this]
  | const u=>simpa [ev,Act.eval] using hx
  | global g=>simpa [ev,Act.eval] using hx
  | func f=>simpa [ev,Act.eval] using hx
theorem Know.put {N F a d} (h:Know N F a) (hd:d < N) (v:Value):Know N ((d,v)::F) (a.put (some d) v):=by
  refine ⟨by simpa [Act.put] using h.size,h.defers,fun n u hn=>?_⟩
  simp only [Act.put]
  rw [Array.getElem?_setIfInBounds]
  simp only [look] at hn
  by_cases e:d=n
  · subst e
    simp at hn
    rw [if_pos rfl,if_pos (by rw [h.size]; exact hd),hn]
  · rw [if_neg e]
    have:Nat.beq d n=false:=Nat.beq_eq_false_of e
    rw [this] at hn
    exact h.at_ n u hn
def Sub (F:List (Nat × Value)):List (Nat × Value)→Prop
  | []=>True
  | (k,v)::t=>look F k=some v∧Sub F t
theorem Sub.look {F:List (Nat × Value)}:∀ {F':List (Nat × Value)},Sub F F'→∀ n v,look F' n=some v→look F n=some v
  | [],_,n,v,h=>by simp [Fw.look] at h
  | (k,u)::t,hs,n,v,h=>by
    simp only [Fw.look] at h
    by_cases e:k=n
    · subst e
      simp at h
      rw [← h]
      exact hs.1
    · have:Nat.beq k n=false:=Nat.beq_eq_false_of e
      rw [this] at h
      exact hs.2.look n v h
theorem Know.sub {N F F' a} (h:Know N F a) (hs:Sub F F'):Know N F' a:=⟨h.size,h.defers,fun n v hn=>h.at_ n v (hs.look n v hn)⟩
/-! ### Memory -/
structure Fr (M:Nat→Prop) (w w':World):Prop where
  os:w'.os=w.os
  tape:w'.tape=w.tape
  output:w'.output=w.output
  size:w.heap.size≤w'.heap.size
  block:∀ k,k < w.heap.size→¬ M k→w'.heap[k]?=w.heap[k]?
abbrev Fr0:=Fr (fun _=>False)
theorem Fr.refl (M:Nat→Prop) (w:World):Fr M w w:=⟨rfl,rfl,rfl,Nat.le_refl _,fun _ _ _=>rfl⟩
theorem Fr.trans {M S:Nat→Prop} {a b c:World} (h:Fr M a b) (k:Fr S b c) (hs:∀ i,i < a.heap.size→S i→M i):Fr M a c :=
  ⟨k.os.trans h.os,k.tape.trans h.tape,k.output.trans h.output,Nat.le_trans h.size k.size,fun i hi hm =>
    (k.block i (Nat.lt_of_lt_of_le hi h.size) (fun s=>hm (hs i hi s))).trans (h.block i hi hm)⟩
theorem Fr.trans0 {M:Nat→Prop} {a b c:World} (h:Fr M a b) (k:Fr0 b c):Fr M a c:=h.trans k (fun _ _ s=>s.elim)
theorem Fr.mono {M M':Nat→Prop} {a b:World} (h:Fr M a b) (hm:∀ k,k < a.heap.size→M k→M' k):Fr M' a b :=
  ⟨h.os,h.tape,h.output,h.size,fun k hk hn=>h.block k hk (fun s=>hn (hm k hk s))⟩
theorem Fr.below {w w':World} (h:Fr0 w w'):RowKit.Below w.heap.size w w':=⟨h.os,h.tape,h.output,h.size,fun k hk=>h.block k hk id⟩
theorem Fr.drew (w:World):Fr0 w w.drew:=⟨rfl,rfl,rfl,Nat.le_refl _,fun _ _ _=>rfl⟩
theorem Fr.alloc (w:World) (o:Obj):Fr0 w (w.alloc o):=⟨rfl,rfl,rfl,by simp,fun k hk _=>RowKit.Below.heap_alloc w o k hk⟩
theorem Fr.setRow (w:World) (g:Nat) (cs:Array Value):Fr (·=g) w (w.setRow g cs) :=
  ⟨rfl,rfl,rfl,by simp,fun k _ hk=>setRow_other w g k cs hk⟩
theorem Fr.grown {w w':World} {r:Option Nat} (h:w.grownBy w' r):Fr (fun k=>r=some k) w w' :=
  ⟨h.os,h.tape,h.output,h.size,fun k hk hm=>h.block k hk (fun e=>hm e.symm)⟩
inductive Ent where
  | seg (g:Nat) (cs:List Value) (T:TypeId)
  | row (v:Value) (n:Nat) (xs:List Value) (T:TypeId) (sz:Nat)
  | pr (keys:Nat→Prop) (holds:World→Prop) (loc:∀ w w':World,(∀ k,keys k→w'.heap[k]?=w.heap[k]?)→holds w→holds w')
def Ent.keys:Ent→Nat→Prop
  | .seg g _ _,k=>k=g
  | .row v _ _ _ _,k=>v.ownBlock=some k
  | .pr ks _ _,k=>ks k
def Ent.holds:Ent→World→Prop
  | .seg g cs T,w=>w.heap[g]?=some (.cells cs.toArray T (0,0))
  | .row v n xs T sz,w=>w.ownsRow 0 T sz v n xs
  | .pr _ h _,w=>h w
theorem Ent.loc (e:Ent) {w w':World} (h:∀ k,e.keys k→w'.heap[k]?=w.heap[k]?) (hh:e.holds w):e.holds w':=by
  cases e with
  | seg g cs T=>exact (h g rfl).trans hh
  | row v n xs T sz =>
    obtain ⟨h1,h2⟩:=hh
    refine ⟨h1,?_⟩
    rcases h2 with h2 | ⟨g,cap,cur,hv,hg,hc,r⟩
    · exact .inl h2
    · exact .inr ⟨g,cap,cur,hv,hg,(h g (by simp [Ent.keys,hv,Value.ownBlock])).trans hc,r⟩
  | pr ks hd loc=>exact loc w w' h hh
def Ent.apart (a b:Ent):Prop:=∀ k,a.keys k→¬ b.keys k
structure Has (B:Nat) (w:World) (L:List Ent):Prop where
  holds:∀ e∈L,e.holds w
  apart:L.Pairwise Ent.apart
  lt:∀ e∈L,∀ k,e.keys k→k < w.heap.size
  ge:∀ e∈L,∀ k,e.keys k→B≤k
theorem Has.nil (B:Nat) (w:World):Has B w []:=⟨by simp,.nil,by simp,by simp⟩
theorem Has.mono {B B':Nat} {w:World} {L:List Ent} (h:Has B w L) (hB:B'≤B):Has B' w L:=⟨h.holds,h.apart,h.lt,fun e he k hk=>Nat.le_trans hB (h.ge e he k hk)⟩
theorem Has.same {B:Nat} {w w':World} {L:List Ent} (h:Has B w L) (hs:w.heap.size≤w'.heap.size) (hb:∀ e∈L,∀ k,e.keys k→w'.heap[k]?=w.heap[k]?):Has B w' L :=
  ⟨fun e he=>e.loc (hb e he) (h.holds e he),h.apart,fun e he k hk=>Nat.lt_of_lt_of_le (h.lt e he k hk) hs,h.ge⟩
theorem Has.fr0 {B:Nat} {w w':World} {L:List Ent} (h:Has B w L) (hf:Fr0 w w'):Has B w' L :=
  h.same hf.size fun e he k hk=>hf.block k (h.lt e he k hk) id
theorem Has.new {B:Nat} {w w':World} {L L':List Ent} (h:Has B w L) (hf:Fr0 w w') (hB:B≤w.heap.size) (hn:Has w.heap.size w' L'):Has B w' (L'++L):=by
  have h':=h.fr0 hf
  refine ⟨fun e he=>?_,?_,fun e he k hk=>?_,fun e he k hk=>?_⟩
  · rcases List.mem_append.1 he with he | he
    · exact hn.holds e he
    · exact h'.holds e he
  · refine List.pairwise_append.2 ⟨hn.apart,h'.apart,fun a ha b hb k hka hkb=>?_⟩
    have h1:=hn.ge a ha k hka
    have h2:=h.lt b hb k hkb
    omega
  · rcases List.mem_append.1 he with he | he
    · exact hn.lt e he k hk
    · exact h'.lt e he k hk
  · rcases List.mem_append.1 he with he | he
    · exact Nat.le_trans hB (hn.ge e he k hk)
    · exact h.ge e he k hk
theorem pairwise_set {α:Type} {R:α→α→Prop}:∀ {L:List α} {i:Nat} {e e':α},L[i]?=some e→L.Pairwise R→(∀ b∈L,R e b→R e' b)→(∀ b∈L,R b e→R b e')→(L.set i e').Pairwise R
  | [],i,e,e',h,_,_,_=>by simp at h
  | x::t,0,e,e',h,hp,h1,h2=>by
    simp at h
    subst h
    rw [List.pairwise_cons] at hp
    simp only [List.set_cons_zero]
    exact List.pairwise_cons.2 ⟨fun b hb=>h1 b (by simp [hb]) (hp.1 b hb),hp.2⟩
  | x::t,i + 1,e,e',h,hp,h1,h2=>by
    simp at h
    rw [List.pairwise_cons] at hp
    simp only [List.set_cons_succ]
    refine List.pairwise_cons.2 ⟨fun b hb=>?_,pairwise_set h hp.2 (fun b hb r=>h1 b (by simp [hb]) r) (fun b hb r=>h2 b (by simp [hb]) r)⟩
    rcases List.mem_or_eq_of_mem_set hb with hb | rfl
    · exact hp.1 b hb
    · exact h2 x (by simp) (hp.1 e (List.mem_of_getElem? h))
theorem Has.mod {B:Nat} {w w':World} {L:List Ent} {i:Nat} {e e':Ent} (h:Has B w L) (hi:L[i]?=some e) (hf:Fr e.keys w w') (he':e'.holds w')
    (hk:∀ k,e'.keys k→(e.keys k∨(w.heap.size≤k∧B≤k))∧k < w'.heap.size):Has B w' (L.set i e'):=by
  have hmem:=List.mem_of_getElem? hi
  have key:∀ b∈L,∀ k,e'.keys k→b.keys k→e.keys k:=fun b hb k h1 h2=>by
    rcases (hk k h1).1 with h3 | h3
    · exact h3
    · have:=h.lt b hb k h2; omega
  have hne:∀ j b,L[j]?=some b→j ≠ i→∀ k,b.keys k→¬ e.keys k:=by
    intro j b hj hji k h1 h2
    have hp:=List.pairwise_iff_getElem.1 h.apart
    obtain ⟨lj,ej⟩:=List.getElem?_eq_some_iff.1 hj
    obtain ⟨li,ei⟩:=List.getElem?_eq_some_iff.1 hi
    rcases Nat.lt_or_gt_of_ne hji with hlt | hlt
    · exact hp j i lj li hlt k (by rw [ej]; exact h1) (by rw [ei]; exact h2)
    · exact hp i j li lj hlt k (by rw [ei]; exact h2) (by rw [ej]; exact h1)
  have hmem':∀ b∈L.set i e',b=e'∨∃ j,L[j]?=some b∧j ≠ i:=by
    intro b hb
    obtain ⟨j,hj,rfl⟩:=List.getElem_of_mem hb
    simp only [List.length_set] at hj
    by_cases hji:j=i
    · subst hji; left; simp
    · right; exact ⟨j,by rw [List.getElem_set_ne (Ne.symm hji)]; exact List.getElem?_eq_getElem hj,hji⟩
  refine ⟨fun b hb=>?_,?_,fun b hb k hkb=>?_,fun b hb k hkb=>?_⟩
  · rcases hmem' b hb with rfl | ⟨j,hj,hji⟩
    · exact he'
    · have hbm:=List.mem_of_getElem? hj
      exact b.loc (fun k hkb=>hf.block k (h.lt b hbm k hkb) (hne j b hj hji k hkb)) (h.holds b hbm)
  · refine pairwise_set hi h.apart (fun b hb r k h1 h2=>r k (key b hb k h1 h2) h2) (fun b hb r k h1 h2=>r k h1 (key b hb k h2 h1))
  · rcases hmem' b hb with rfl | ⟨j,hj,hji⟩
    · exact (hk k hkb).2
    · exact Nat.lt_of_lt_of_le (h.lt b (List.mem_of_getElem? hj) k hkb) hf.size
  · rcases hmem' b hb with rfl | ⟨j,hj,hji⟩
    · rcases (hk k hkb).1 with h3 | h3
      · exact h.ge e hmem k h3
      · exact h3.2
    · exact h.ge b (List.mem_of_getElem? hj) k hkb
theorem Has.pick {B:Nat} {w:World} {L L':List Ent} (h:Has B w L) (hs:L'.Sublist L):Has B w L' :=
  ⟨fun e he=>h.holds e (hs.subset he),h.apart.sublist hs,fun e he=>h.lt e (hs.subset he),fun e he=>h.ge e (hs.subset he)⟩
theorem Ent.apart_symm {a b:Ent} (h:a.apart b):b.apart a:=fun k h1 h2=>h k h2 h1
theorem Has.perm {B:Nat} {w:World} {L L':List Ent} (h:Has B w L) (hp:L'.Perm L):Has B w L' :=
  ⟨fun e he=>h.holds e (hp.mem_iff.1 he),(List.Perm.pairwise_iff (fun h=>Ent.apart_symm h) hp).2 h.apart,fun e he=>h.lt e (hp.mem_iff.1 he),fun e he=>h.ge e (hp.mem_iff.1 he)⟩
theorem Has.cons_app {B:Nat} {w:World} {A C:List Ent} (h:Has B w (A++C)):Has B w A∧Has B w C :=
  ⟨h.pick (List.sublist_append_left _ _),h.pick (List.sublist_append_right _ _)⟩
/-! ### The state -/
structure St (N:Nat) (F:List (Nat × Value)) (L:List Ent) (M:Nat→Prop) (w0:World) (a:Act) (w:World):Prop where
  know:Know N F a
  has:Has 0 w L
  own:∀ e∈L,∀ k,e.keys k→w0.heap.size≤k∨M k
  fr:Fr M w0 w
section
variable {N:Nat} {F F':List (Nat × Value)} {L L':List Ent} {M:Nat→Prop} {w0 w w':World} {a:Act}
theorem St.put {d:Nat} (h:St N F L M w0 a w) (hd:d < N) (v:Value):St N ((d,v)::F) L M w0 (a.put (some d) v) w:=⟨h.know.put hd v,h.has,h.own,h.fr⟩
theorem St.sub (h:St N F L M w0 a w) (hs:Sub F F'):St N F' L M w0 a w:=⟨h.know.sub hs,h.has,h.own,h.fr⟩
theorem St.pick (h:St N F L M w0 a w) (hs:L'.Sublist L):St N F L' M w0 a w:=⟨h.know,h.has.pick hs,fun e he=>h.own e (hs.subset he),h.fr⟩
theorem St.perm (h:St N F L M w0 a w) (hs:L'.Perm L):St N F L' M w0 a w:=⟨h.know,h.has.perm hs,fun e he=>h.own e (hs.mem_iff.1 he),h.fr⟩
theorem St.toL (h:St N F L M w0 a w) (e:L=L'):St N F L' M w0 a w:=e ▸ h
theorem St.new (h:St N F L M w0 a w) (hf:Fr0 w w') (hn:Has w.heap.size w' L'):St N F (L'++L) M w0 a w':=by
  refine ⟨h.know,h.has.new hf (Nat.zero_le _) hn,fun e he k hk=>?_,h.fr.trans0 hf⟩
  rcases List.mem_append.1 he with he | he
  · exact .inl (Nat.le_trans h.fr.size (hn.ge e he k hk))
  · exact h.own e he k hk
theorem St.mod {i:Nat} {e e':Ent} (h:St N F L M w0 a w) (hi:L[i]?=some e) (hf:Fr e.keys w w') (he':e'.holds w')
    (hk:∀ k,e'.keys k→(e.keys k∨w.heap.size≤k)∧k < w'.heap.size):St N F (L.set i e') M w0 a w':=by
  have hmem:=List.mem_of_getElem? hi
  refine ⟨h.know,h.has.mod hi hf he' (fun k hk'=>⟨(hk k hk').1.imp id (fun x=>⟨x,Nat.zero_le _⟩),(hk k hk').2⟩),fun b hb k hkb=>?_,h.fr.trans hf fun j hj hs=>(h.own e hmem j hs).elim (fun x=>absurd hj (by omega)) id⟩
  rcases List.mem_or_eq_of_mem_set hb with hb | rfl
  · exact h.own b hb k hkb
  · rcases (hk k hkb).1 with h3 | h3
    · exact h.own e hmem k h3
    · exact .inl (Nat.le_trans h.fr.size h3)
theorem St.get {i:Nat} {e:Ent} (h:St N F L M w0 a w) (hi:L[i]?=some e):e.holds w:=h.has.holds e (List.mem_of_getElem? hi)
theorem St.start (hk:Know N F a) (w:World):St N F [] (fun _=>False) w a w:=⟨hk,.nil _ _,by simp,.refl _ _⟩
theorem St.made (h:St N F L (fun _=>False) w0 a w):Has w0.heap.size w L :=
  ⟨h.has.holds,h.has.apart,h.has.lt,fun e he k hk=>(h.own e he k hk).elim id False.elim⟩
end
end Go.Fw
end

section
/- The operations,one law each: what an operation comes to,its operands' values given. -/
namespace Go.Fw
open Go
abbrev I (n:Int):Value:=.int .i64 n
abbrev B (b:UInt8):Value:=.int .u8 (b.toNat:Int)
abbrev U (x:UInt32):Value:=.int .u32 (x.toNat:Int)
abbrev V (x:UInt64):Value:=.int .u64 (x.toNat:Int)
def Fun (P : Program) (f : FuncId) : Prop := ∃ fn, P.funcs[f]? = some fn ∧ (fn.name == "runtime.NumGoroutine") = false ∧ fn.body.isNone = false
def aggD:TypeDesc→Bool
  | .struct _ | .array _ _=>true
  | _=>false
structure Ty (P:Program) (T:TypeId) (d:TypeDesc) (sz bytes:Nat) (z:List Value):Prop where
  und:P.underlying T=some d
  info:∃ i,P.info? T=some i∧i.size=sz∧i.bytes=bytes∧∃ v,i.zero=some v∧v.cells=z.toArray
  len:z.length=sz
  one:z.all (·.oneCell')=true
section
variable {P:Program} {a:Act} {w:World} {d:Option Tmp} {ty:TypeId} {pos:String} {aft:Array Edge} {g:Option (Nat × Bool)} {x y z:Operand}
theorem c_move {v:Value} (hx:a.eval x=v):(execOp a.eval ⟨d,.move x,ty,pos,aft,g⟩).run P w=.ok (.value v) w:=by simp [execOp,hx]
theorem c_assign {v:Value} (hx:a.eval x=v):(execOp a.eval ⟨d,.assign x,ty,pos,aft,g⟩).run P w=.ok (.value v) w:=by simp [execOp,hx]
theorem c_pick {b:Bool} {u v:Value} (hc:a.eval x=.bool b) (hu:a.eval y=u) (hv:a.eval z=v) :
    (execOp a.eval ⟨d,.pick x y z,ty,pos,aft,g⟩).run P w=.ok (.value (if b then u else v)) w:=by
  cases b <;> simp [execOp,hc,hu,hv,asBool]
theorem c_nil {p:Addr} (hx:a.eval x=.pointer (some p)):(execOp a.eval ⟨d,.nilCheck x,ty,pos,aft,g⟩).run P w=.ok (.value (.pointer (some p))) w:=by simp [execOp,hx]
theorem c_extract {vs:Array Value} {i:Nat} {v:Value} (hx:a.eval x=.tuple vs) (hv:vs[i]?=some v):(execOp a.eval ⟨d,.extract x i,ty,pos,aft,g⟩).run P w=.ok (.value v) w:=by
  simp [execOp,hx,Instr.extract,hv]
theorem c_not {b:Bool} {t:TypeId} (hx:a.eval x=.bool b):(execOp a.eval ⟨d,.unOp .not t x,ty,pos,aft,g⟩).run P w=.ok (.value (.bool (!b))) w:=by
  simp [execOp,hx,Op.unary]
/-! int -/
section
variable {i j:Int} {t u:TypeId}
theorem wrap64_in {n:Int} (h1:-9223372036854775808≤n) (h2:n < 9223372036854775808):IntKind.i64.wrap n=n:=by
  simp only [IntKind.wrap,IntKind.bits,IntKind.signed]; simp; omega
theorem c_addI (hx:a.eval x=I i) (hy:a.eval y=I j) (h1:-9223372036854775808≤i + j) (h2:i + j < 9223372036854775808) :
    (execOp a.eval ⟨d,.binOp .add t x y u,ty,pos,aft,g⟩).run P w=.ok (.value (I (i + j))) w:=by
  simp [execOp,hx,hy,eqGuard,binOp,Op.intArith,wrap64_in h1 h2]
theorem c_subI (hx:a.eval x=I i) (hy:a.eval y=I j) (h1:-9223372036854775808≤i - j) (h2:i - j < 9223372036854775808) :
    (execOp a.eval ⟨d,.binOp .sub t x y u,ty,pos,aft,g⟩).run P w=.ok (.value (I (i - j))) w:=by
  simp [execOp,hx,hy,eqGuard,binOp,Op.intArith,wrap64_in h1 h2]
theorem c_mulI (hx:a.eval x=I i) (hy:a.eval y=I j) (h1:-9223372036854775808≤i * j) (h2:i * j < 9223372036854775808) :
    (execOp a.eval ⟨d,.binOp .mul t x y u,ty,pos,aft,g⟩).run P w=.ok (.value (I (i * j))) w:=by
  simp [execOp,hx,hy,eqGuard,binOp,Op.intArith,wrap64_in h1 h2]
theorem c_quoI (hx:a.eval x=I i) (hy:a.eval y=I j) (hi:0≤i) (hj:0 < j) (h2:i < 9223372036854775808) :
    (execOp a.eval ⟨d,.binOp .quo t x y u,ty,pos,aft,g⟩).run P w=.ok (.value (I (i / j))) w:=by
  have h3:i.tdiv j=i / j:=Int.tdiv_eq_ediv_of_nonneg hi
  have h4:0≤i / j:=Int.ediv_nonneg hi (by omega)
  have h5:i / j≤i:=Int.ediv_le_self j hi
  simp [execOp,hx,hy,eqGuard,binOp,Op.intDiv,show j ≠ 0 by omega,h3,wrap64_in (n:=i / j) (by omega) (by omega)]
theorem c_remI (hx:a.eval x=I i) (hy:a.eval y=I j) (hi:0≤i) (hj:0 < j) :
    (execOp a.eval ⟨d,.binOp .rem t x y u,ty,pos,aft,g⟩).run P w=.ok (.value (I (i % j))) w:=by
  have h3:i.tmod j=i % j:=Int.tmod_eq_emod_of_nonneg hi
  simp [execOp,hx,hy,eqGuard,binOp,Op.intDiv,show j ≠ 0 by omega,h3]
theorem c_lssI (hx:a.eval x=I i) (hy:a.eval y=I j):(execOp a.eval ⟨d,.binOp .lss t x y u,ty,pos,aft,g⟩).run P w=.ok (.value (.bool (decide (i < j)))) w:=by
  simp [execOp,hx,hy,eqGuard,binOp,Op.intCmp]
theorem c_leqI (hx:a.eval x=I i) (hy:a.eval y=I j):(execOp a.eval ⟨d,.binOp .leq t x y u,ty,pos,aft,g⟩).run P w=.ok (.value (.bool (decide (i≤j)))) w:=by
  simp [execOp,hx,hy,eqGuard,binOp,Op.intCmp]
theorem c_gtrI (hx:a.eval x=I i) (hy:a.eval y=I j):(execOp a.eval ⟨d,.binOp .gtr t x y u,ty,pos,aft,g⟩).run P w=.ok (.value (.bool (decide (j < i)))) w:=by
  simp [execOp,hx,hy,eqGuard,binOp,Op.intCmp]
theorem c_geqI (hx:a.eval x=I i) (hy:a.eval y=I j):(execOp a.eval ⟨d,.binOp .geq t x y u,ty,pos,aft,g⟩).run P w=.ok (.value (.bool (decide (j≤i)))) w:=by
  simp [execOp,hx,hy,eqGuard,binOp,Op.intCmp]
theorem c_eqlI (hx:a.eval x=I i) (hy:a.eval y=I j):(execOp a.eval ⟨d,.binOp .eql t x y u,ty,pos,aft,g⟩).run P w=.ok (.value (.bool (decide (i=j)))) w:=by
  simp [execOp,hx,hy,eqGuard,binOp,Op.intCmp]
  rfl
theorem c_neqI (hx:a.eval x=I i) (hy:a.eval y=I j):(execOp a.eval ⟨d,.binOp .neq t x y u,ty,pos,aft,g⟩).run P w=.ok (.value (.bool (!decide (i=j)))) w:=by
  simp [execOp,hx,hy,eqGuard,binOp,Op.intCmp]
  rfl
end
end
end Go.Fw
end

section
/- The operations on uint8,uint32,uint64,one law each. -/
namespace Go.Fw
open Go
section
variable {P:Program} {a:Act} {w:World} {d:Option Tmp} {ty:TypeId} {pos:String} {aft:Array Edge} {g:Option (Nat × Bool)} {x y z:Operand} {t u:TypeId}
theorem wrapU {n:Int}:IntKind.u32.wrap n=n % 4294967296:=by simp [IntKind.wrap,IntKind.bits,IntKind.signed]
theorem wrapB {n:Int}:IntKind.u8.wrap n=n % 256:=by simp [IntKind.wrap,IntKind.bits,IntKind.signed]
theorem wrapV {n:Int}:IntKind.u64.wrap n=n % 18446744073709551616:=by simp [IntKind.wrap,IntKind.bits,IntKind.signed]
theorem bvU (b:UInt32):IntKind.u32.wrap ((b.toBitVec.toNat:Nat):Int)=(b.toNat:Int):=by
  have:=b.toNat_lt
  rw [wrapU]
  show ((b.toNat:Nat):Int) % _=_
  omega
theorem bvB (b:UInt8):IntKind.u8.wrap ((b.toBitVec.toNat:Nat):Int)=(b.toNat:Int):=by
  have:=b.toNat_lt
  rw [wrapB]
  show ((b.toNat:Nat):Int) % _=_
  omega
theorem ofInt32 (b:UInt32):BitVec.ofInt 32 (b.toNat:Int)=b.toBitVec:=by
  apply BitVec.eq_of_toNat_eq
  simp
theorem ofInt8 (b:UInt8):BitVec.ofInt 8 (b.toNat:Int)=b.toBitVec:=by
  apply BitVec.eq_of_toNat_eq
  simp
theorem ib_xorU (p q:UInt32):Op.intBits .xor .u32 (p.toNat:Int) (q.toNat:Int)=pure (U (p ^^^ q)):=by
  show (pure (.int .u32 (IntKind.u32.wrap ((BitVec.ofInt 32 (p.toNat:Int) ^^^ BitVec.ofInt 32 (q.toNat:Int)).toNat:Nat))):Sem Value)=_
  rw [ofInt32,ofInt32]
  exact congrArg (fun i:Int=>(pure (.int .u32 i):Sem Value)) (bvU (p ^^^ q))
theorem ib_andU (p q:UInt32):Op.intBits .and .u32 (p.toNat:Int) (q.toNat:Int)=pure (U (p &&& q)):=by
  show (pure (.int .u32 (IntKind.u32.wrap ((BitVec.ofInt 32 (p.toNat:Int) &&& BitVec.ofInt 32 (q.toNat:Int)).toNat:Nat))):Sem Value)=_
  rw [ofInt32,ofInt32]
  exact congrArg (fun i:Int=>(pure (.int .u32 i):Sem Value)) (bvU (p &&& q))
theorem ib_orU (p q:UInt32):Op.intBits .or .u32 (p.toNat:Int) (q.toNat:Int)=pure (U (p ||| q)):=by
  show (pure (.int .u32 (IntKind.u32.wrap ((BitVec.ofInt 32 (p.toNat:Int) ||| BitVec.ofInt 32 (q.toNat:Int)).toNat:Nat))):Sem Value)=_
  rw [ofInt32,ofInt32]
  exact congrArg (fun i:Int=>(pure (.int .u32 i):Sem Value)) (bvU (p ||| q))
theorem ib_xorB (p q:UInt8):Op.intBits .xor .u8 (p.toNat:Int) (q.toNat:Int)=pure (B (p ^^^ q)):=by
  show (pure (.int .u8 (IntKind.u8.wrap ((BitVec.ofInt 8 (p.toNat:Int) ^^^ BitVec.ofInt 8 (q.toNat:Int)).toNat:Nat))):Sem Value)=_
  rw [ofInt8,ofInt8]
  exact congrArg (fun i:Int=>(pure (.int .u8 i):Sem Value)) (bvB (p ^^^ q))
theorem ib_orB (p q:UInt8):Op.intBits .or .u8 (p.toNat:Int) (q.toNat:Int)=pure (B (p ||| q)):=by
  show (pure (.int .u8 (IntKind.u8.wrap ((BitVec.ofInt 8 (p.toNat:Int) ||| BitVec.ofInt 8 (q.toNat:Int)).toNat:Nat))):Sem Value)=_
  rw [ofInt8,ofInt8]
  exact congrArg (fun i:Int=>(pure (.int .u8 i):Sem Value)) (bvB (p ||| q))
/-! uint32 -/
section
variable {p q:UInt32}
theorem c_addU (hx:a.eval x=U p) (hy:a.eval y=U q):(execOp a.eval ⟨d,.binOp .add t x y u,ty,pos,aft,g⟩).run P w=.ok (.value (U (p + q))) w:=by
  simp [execOp,hx,hy,eqGuard,binOp,Op.intArith,wrapU,UInt32.toNat_add]
theorem c_mulU (hx:a.eval x=U p) (hy:a.eval y=U q):(execOp a.eval ⟨d,.binOp .mul t x y u,ty,pos,aft,g⟩).run P w=.ok (.value (U (p * q))) w:=by
  simp [execOp,hx,hy,eqGuard,binOp,Op.intArith,wrapU,UInt32.toNat_mul]
theorem c_xorU (hx:a.eval x=U p) (hy:a.eval y=U q):(execOp a.eval ⟨d,.binOp .xor t x y u,ty,pos,aft,g⟩).run P w=.ok (.value (U (p ^^^ q))) w:=by
  simp [execOp,hx,hy,eqGuard,binOp,ib_xorU]
theorem c_andU (hx:a.eval x=U p) (hy:a.eval y=U q):(execOp a.eval ⟨d,.binOp .and t x y u,ty,pos,aft,g⟩).run P w=.ok (.value (U (p &&& q))) w:=by
  simp [execOp,hx,hy,eqGuard,binOp,ib_andU]
theorem c_orU (hx:a.eval x=U p) (hy:a.eval y=U q):(execOp a.eval ⟨d,.binOp .or t x y u,ty,pos,aft,g⟩).run P w=.ok (.value (U (p ||| q))) w:=by
  simp [execOp,hx,hy,eqGuard,binOp,ib_orU]
theorem c_notU (hx:a.eval x=U p):(execOp a.eval ⟨d,.unOp .xor t x,ty,pos,aft,g⟩).run P w=.ok (.value (U (~~~p))) w:=by
  have e:Op.unary .xor (U p)=pure (U (~~~p)):=by
    show (pure (.int .u32 (IntKind.u32.wrap ((BitVec.ofInt 32 (4294967295:Int) ^^^ BitVec.ofInt 32 (p.toNat:Int)).toNat:Nat))):Sem Value)=_
    rw [ofInt32,show BitVec.ofInt 32 (4294967295:Int)=BitVec.allOnes 32 from rfl,BitVec.allOnes_xor]
    exact congrArg (fun i:Int=>(pure (.int .u32 i):Sem Value)) (bvU (~~~p))
  simp [execOp,hx,e]
theorem c_shrU {k:IntKind} {n:Nat} (hx:a.eval x=U p) (hy:a.eval y=.int k (n:Int)) (hn:n < 32) :
    (execOp a.eval ⟨d,.binOp .shr t x y u,ty,pos,aft,g⟩).run P w=.ok (.value (U (p >>> UInt32.ofNat n))) w:=by
  have e:(p >>> UInt32.ofNat n).toNat=p.toNat / 2 ^ n:=by
    rw [UInt32.toNat_shiftRight,Nat.shiftRight_eq_div_pow]
    simp [Nat.mod_eq_of_lt (a:=n) (b:=4294967296) (by omega),Nat.mod_eq_of_lt hn]
  have hm:min n 32=n:=by omega
  simp [execOp,hx,hy,eqGuard,binOp,Op.shift,IntKind.bits,hm,e]
theorem c_shlU {k:IntKind} {n:Nat} (hx:a.eval x=U p) (hy:a.eval y=.int k (n:Int)) (hn:n < 32) :
    (execOp a.eval ⟨d,.binOp .shl t x y u,ty,pos,aft,g⟩).run P w=.ok (.value (U (p <<< UInt32.ofNat n))) w:=by
  have e:(p <<< UInt32.ofNat n).toNat=p.toNat * 2 ^ n % 4294967296:=by
    rw [UInt32.toNat_shiftLeft,Nat.shiftLeft_eq]
    simp [Nat.mod_eq_of_lt (a:=n) (b:=4294967296) (by omega),Nat.mod_eq_of_lt hn]
  have hm:min n 32=n:=by omega
  simp [execOp,hx,hy,eqGuard,binOp,Op.shift,IntKind.bits,hm,e,wrapU]
theorem c_quoU (hx:a.eval x=U p) (hy:a.eval y=U q) (hq:q ≠ 0):(execOp a.eval ⟨d,.binOp .quo t x y u,ty,pos,aft,g⟩).run P w=.ok (.value (U (p / q))) w:=by
  have h0:q.toNat ≠ 0:=fun e=>hq (UInt32.toNat_inj.1 (by simpa using e))
  have h1:=p.toNat_lt
  have h2:(0:Int)≤(p.toNat:Int) / (q.toNat:Int):=Int.ediv_nonneg (by omega) (by omega)
  have h3:(p.toNat:Int) / (q.toNat:Int)≤p.toNat:=Int.ediv_le_self _ (by omega)
  simp [execOp,hx,hy,eqGuard,binOp,Op.intDiv,wrapU,h0,UInt32.toNat_div]
  omega
theorem c_remU (hx:a.eval x=U p) (hy:a.eval y=U q) (hq:q ≠ 0):(execOp a.eval ⟨d,.binOp .rem t x y u,ty,pos,aft,g⟩).run P w=.ok (.value (U (p % q))) w:=by
  have h0:q.toNat ≠ 0:=fun e=>hq (UInt32.toNat_inj.1 (by simpa using e))
  simp [execOp,hx,hy,eqGuard,binOp,Op.intDiv,h0,UInt32.toNat_mod]
  exact Int.tmod_eq_emod_of_nonneg (by omega)
theorem c_eqlU (hx:a.eval x=U p) (hy:a.eval y=U q):(execOp a.eval ⟨d,.binOp .eql t x y u,ty,pos,aft,g⟩).run P w=.ok (.value (.bool (decide (p=q)))) w:=by
  simp [execOp,hx,hy,eqGuard,binOp,Op.intCmp,← UInt32.toNat_inj]
  rw [Bool.eq_iff_iff]; simp; omega
theorem c_lssU (hx:a.eval x=U p) (hy:a.eval y=U q):(execOp a.eval ⟨d,.binOp .lss t x y u,ty,pos,aft,g⟩).run P w=.ok (.value (.bool (decide (p.toNat < q.toNat)))) w:=by
  simp [execOp,hx,hy,eqGuard,binOp,Op.intCmp]
theorem c_leqU (hx:a.eval x=U p) (hy:a.eval y=U q):(execOp a.eval ⟨d,.binOp .leq t x y u,ty,pos,aft,g⟩).run P w=.ok (.value (.bool (decide (p.toNat≤q.toNat)))) w:=by
  simp [execOp,hx,hy,eqGuard,binOp,Op.intCmp]
theorem c_gtrU (hx:a.eval x=U p) (hy:a.eval y=U q):(execOp a.eval ⟨d,.binOp .gtr t x y u,ty,pos,aft,g⟩).run P w=.ok (.value (.bool (decide (q.toNat < p.toNat)))) w:=by
  simp [execOp,hx,hy,eqGuard,binOp,Op.intCmp]
end
/-! UInt8 -/
section
variable {p q:UInt8}
theorem c_xorB (hx:a.eval x=B p) (hy:a.eval y=B q):(execOp a.eval ⟨d,.binOp .xor t x y u,ty,pos,aft,g⟩).run P w=.ok (.value (B (p ^^^ q))) w:=by
  simp [execOp,hx,hy,eqGuard,binOp,ib_xorB]
theorem c_orB (hx:a.eval x=B p) (hy:a.eval y=B q):(execOp a.eval ⟨d,.binOp .or t x y u,ty,pos,aft,g⟩).run P w=.ok (.value (B (p ||| q))) w:=by
  simp [execOp,hx,hy,eqGuard,binOp,ib_orB]
theorem c_eqlB (hx:a.eval x=B p) (hy:a.eval y=B q):(execOp a.eval ⟨d,.binOp .eql t x y u,ty,pos,aft,g⟩).run P w=.ok (.value (.bool (decide (p=q)))) w:=by
  simp [execOp,hx,hy,eqGuard,binOp,Op.intCmp,← UInt8.toNat_inj]
  rw [Bool.eq_iff_iff]; simp; omega
end
/-! UInt64 -/
section
variable {p q:UInt64}
theorem c_addV (hx:a.eval x=V p) (hy:a.eval y=V q):(execOp a.eval ⟨d,.binOp .add t x y u,ty,pos,aft,g⟩).run P w=.ok (.value (V (p + q))) w:=by
  simp [execOp,hx,hy,eqGuard,binOp,Op.intArith,wrapV,UInt64.toNat_add]
theorem c_mulV (hx:a.eval x=V p) (hy:a.eval y=V q):(execOp a.eval ⟨d,.binOp .mul t x y u,ty,pos,aft,g⟩).run P w=.ok (.value (V (p * q))) w:=by
  simp [execOp,hx,hy,eqGuard,binOp,Op.intArith,wrapV,UInt64.toNat_mul]
theorem c_subV (hx:a.eval x=V p) (hy:a.eval y=V q):(execOp a.eval ⟨d,.binOp .sub t x y u,ty,pos,aft,g⟩).run P w=.ok (.value (V (p - q))) w:=by
  have h1:=p.toNat_lt; have h2:=q.toNat_lt
  simp [execOp,hx,hy,eqGuard,binOp,Op.intArith,wrapV,UInt64.toNat_sub]
  omega
theorem c_shrV {k:IntKind} {n:Nat} (hx:a.eval x=V p) (hy:a.eval y=.int k (n:Int)) (hn:n < 64) :
    (execOp a.eval ⟨d,.binOp .shr t x y u,ty,pos,aft,g⟩).run P w=.ok (.value (V (p >>> UInt64.ofNat n))) w:=by
  have e:(p >>> UInt64.ofNat n).toNat=p.toNat / 2 ^ n:=by
    rw [UInt64.toNat_shiftRight,Nat.shiftRight_eq_div_pow]
    simp [Nat.mod_eq_of_lt (a:=n) (b:=18446744073709551616) (by omega),Nat.mod_eq_of_lt hn]
  have hm:min n 64=n:=by omega
  simp [execOp,hx,hy,eqGuard,binOp,Op.shift,IntKind.bits,hm,e]
theorem c_quoV (hx:a.eval x=V p) (hy:a.eval y=V q) (hq:q ≠ 0):(execOp a.eval ⟨d,.binOp .quo t x y u,ty,pos,aft,g⟩).run P w=.ok (.value (V (p / q))) w:=by
  have h0:q.toNat ≠ 0:=fun e=>hq (UInt64.toNat_inj.1 (by simpa using e))
  have h1:=p.toNat_lt
  have h2:(0:Int)≤(p.toNat:Int) / (q.toNat:Int):=Int.ediv_nonneg (by omega) (by omega)
  have h3:(p.toNat:Int) / (q.toNat:Int)≤p.toNat:=Int.ediv_le_self _ (by omega)
  simp [execOp,hx,hy,eqGuard,binOp,Op.intDiv,wrapV,h0,UInt64.toNat_div]
  omega
theorem c_remV (hx:a.eval x=V p) (hy:a.eval y=V q) (hq:q ≠ 0):(execOp a.eval ⟨d,.binOp .rem t x y u,ty,pos,aft,g⟩).run P w=.ok (.value (V (p % q))) w:=by
  have h0:q.toNat ≠ 0:=fun e=>hq (UInt64.toNat_inj.1 (by simpa using e))
  simp [execOp,hx,hy,eqGuard,binOp,Op.intDiv,h0,UInt64.toNat_mod]
  exact Int.tmod_eq_emod_of_nonneg (by omega)
theorem c_lssV (hx:a.eval x=V p) (hy:a.eval y=V q):(execOp a.eval ⟨d,.binOp .lss t x y u,ty,pos,aft,g⟩).run P w=.ok (.value (.bool (decide (p.toNat < q.toNat)))) w:=by
  simp [execOp,hx,hy,eqGuard,binOp,Op.intCmp]
end
end
end Go.Fw
end

section
/- The operations that touch memory,one law each; conversions. -/
namespace Go.Fw
open Go
def i8 (n:Int):UInt8:=UInt8.ofNat (n % 256).toNat
def i32 (n:Int):UInt32:=UInt32.ofNat (n % 4294967296).toNat
def i64 (n:Int):UInt64:=UInt64.ofNat (n % 18446744073709551616).toNat
theorem i8_toNat (n:Int):((i8 n).toNat:Int)=n % 256:=by
  unfold i8; rw [UInt8.toNat_ofNat']; omega
theorem i32_toNat (n:Int):((i32 n).toNat:Int)=n % 4294967296:=by
  unfold i32; rw [UInt32.toNat_ofNat']; omega
theorem i64_toNat (n:Int):((i64 n).toNat:Int)=n % 18446744073709551616:=by
  unfold i64; rw [UInt64.toNat_ofNat']; omega
inductive Evs (a:Act):List Operand→List Value→Prop
  | nil:Evs a [] []
  | cons {x:Operand} {v:Value} {xs:List Operand} {vs:List Value} (h:a.eval x=v) (t:Evs a xs vs):Evs a (x::xs) (v::vs)
theorem Evs.map {a:Act} {xs:List Operand} {vs:List Value} (h:Evs a xs vs):xs.map a.eval=vs:=by
  induction h with
  | nil=>rfl
  | cons h _ ih=>simp [h,ih]
inductive Evp (a:Act):Nat→List (Nat × Operand)→List Value→Prop
  | nil {k:Nat}:Evp a k [] []
  | cons {k:Nat} {x:Operand} {v:Value} {xs:List (Nat × Operand)} {vs:List Value} (h:a.eval x=v) (t:Evp a (k + 1) xs vs):Evp a k ((k,x)::xs) (v::vs)
def pairsFrom:Nat→List Value→List (Nat × Value)
  | _,[]=>[]
  | k,v::t=>(k,v)::pairsFrom (k + 1) t
theorem Evp.map {a:Act} {k:Nat} {xs:List (Nat × Operand)} {vs:List Value} (h:Evp a k xs vs):(xs.map fun p=>(p.1,a.eval p.2))=pairsFrom k vs:=by
  induction h with
  | nil=>rfl
  | cons h _ ih=>simp [h,ih,pairsFrom]
def flatCells (vs:List Value):List Value:=vs.flatMap (·.cells.toList)
theorem foldl_set_cells (off:Nat):∀ (c:List Value) (j:Nat) (cur:List Value),off + j + c.length≤cur.length →
    (c.zipIdx j).foldl (fun (cs:List Value) p=>cs.set (off + p.2) p.1) cur=cur.take (off + j)++c++cur.drop (off + j + c.length)
  | [],j,cur,h=>by simp
  | v::t,j,cur,h=>by
    simp only [List.length_cons] at h
    simp only [List.zipIdx_cons,List.foldl_cons]
    rw [foldl_set_cells off t (j + 1) _ (by simp; omega)]
    have h1:(cur.set (off + j) v).take (off + (j + 1))=cur.take (off + j)++[v]:=by
      rw [← Nat.add_assoc,List.take_succ_eq_append_getElem (by simp; omega)]
      simp [List.take_set_of_le]
    have h2:(cur.set (off + j) v).drop (off + (j + 1) + t.length)=cur.drop (off + j + (t.length + 1)):=by
      rw [List.drop_set_of_lt (by omega)]
      congr 1
      omega
    rw [h1,h2]
    simp [Nat.add_assoc]
theorem array_foldl_set (off:Nat) (v:Array Value) (cur:Array Value) (h:off + v.size≤cur.size) :
    v.zipIdx.foldl (fun (cs:Array Value) (p:Value × Nat)=>cs.setIfInBounds (off + p.2) p.1) cur=(cur.toList.take off++v.toList++cur.toList.drop (off + v.size)).toArray:=by
  have e:∀ (l:List (Value × Nat)) (c:Array Value),(l.foldl (fun (cs:Array Value) (p:Value × Nat)=>cs.setIfInBounds (off + p.2) p.1) c).toList=l.foldl (fun (cs:List Value) p=>cs.set (off + p.2) p.1) c.toList:=by
    intro l
    induction l with
    | nil=>intro c; rfl
    | cons x t ih=>intro c; simp only [List.foldl_cons]; rw [ih]; simp
  rw [← Array.foldl_toList]
  apply Array.ext'
  rw [e,Array.toList_zipIdx,foldl_set_cells off v.toList 0 cur.toList (by simpa using h)]
  simp
theorem fill_row (s:Nat):∀ (vs:List Value) (k:Nat) (done zeros:List Value),(∀ v∈vs,v.cells.size=s)→done.length=k * s→zeros.length=vs.length * s →
    Instr.fill (fun i=>some (i * s,s)) (done++zeros).toArray (pairsFrom k vs)=some (done++flatCells vs).toArray
  | [],k,done,zeros,_,_,hz=>by
    have:zeros=[]:=List.eq_nil_of_length_eq_zero (by simpa using hz)
    subst this
    simp [Instr.fill,pairsFrom,flatCells]
  | v::t,k,done,zeros,hv,hd,hz=>by
    have h1:v.cells.size=s:=hv v (by simp)
    have hlen:zeros.length=t.length * s + s:=by rw [hz,List.length_cons,Nat.succ_mul]
    have hfit:k * s + v.cells.size≤(done++zeros).length:=by simp [hd,h1]; omega
    have step:=array_foldl_set (k * s) v.cells (done++zeros).toArray (by simpa using hfit)
    have e1:((done++zeros).toArray.toList.take (k * s)++v.cells.toList++(done++zeros).toArray.toList.drop (k * s + v.cells.size))=(done++v.cells.toList)++zeros.drop s:=by
      simp [← hd,h1]
    have ih:=fill_row s t (k + 1) (done++v.cells.toList) (zeros.drop s) (fun u hu=>hv u (by simp [hu])) (by simp [hd,h1,Nat.succ_mul]) (by simp [hlen])
    have hn:¬ (v.cells.size ≠ s∨k * s + v.cells.size > (done++zeros).toArray.size):=by
      simp only [List.size_toArray]
      intro h
      rcases h with h | h
      · exact h h1
      · omega
    simp only [pairsFrom,Instr.fill]
    rw [if_neg (by simpa using hn),step,e1,ih]
    simp [flatCells]
section
variable {P:Program} {a:Act} {w:World} {d:Option Tmp} {ty:TypeId} {pos:String} {aft:Array Edge} {g:Option (Nat × Bool)} {x y z:Operand} {t u:TypeId}
/-! conversions -/
theorem c_conv {k k':IntKind} {n:Int} {ds:TypeDesc} (hs:P.underlying t=some ds) (hd:P.underlying u=some (.int k)) (hx:a.eval x=.int k' n) :
    (execOp a.eval ⟨d,.convert t u x,ty,pos,aft,g⟩).run P w=.ok (.value (.int k (k.wrap n))) w:=by
  simp [execOp,hx,convert,run_underlying hs,run_underlying hd,Conv.intToInt]
section
variable {ds:TypeDesc} (hs:P.underlying t=some ds)
include hs
theorem c_cvBU {b:UInt8} (hd:P.underlying u=some (.int .u32)) (hx:a.eval x=B b):(execOp a.eval ⟨d,.convert t u x,ty,pos,aft,g⟩).run P w=.ok (.value (U b.toUInt32)) w:=by
  have:=b.toNat_lt
  rw [c_conv hs hd hx,wrapU]; simp; omega
theorem c_cvUB {b:UInt32} (hd:P.underlying u=some (.int .u8)) (hx:a.eval x=U b):(execOp a.eval ⟨d,.convert t u x,ty,pos,aft,g⟩).run P w=.ok (.value (B b.toUInt8)) w:=by
  rw [c_conv hs hd hx,wrapB]; simp
theorem c_cvUV {b:UInt32} (hd:P.underlying u=some (.int .u64)) (hx:a.eval x=U b):(execOp a.eval ⟨d,.convert t u x,ty,pos,aft,g⟩).run P w=.ok (.value (V b.toUInt64)) w:=by
  have:=b.toNat_lt
  rw [c_conv hs hd hx,wrapV]; simp; omega
theorem c_cvUI {b:UInt32} (hd:P.underlying u=some (.int .i64)) (hx:a.eval x=U b):(execOp a.eval ⟨d,.convert t u x,ty,pos,aft,g⟩).run P w=.ok (.value (I b.toNat)) w:=by
  have:=b.toNat_lt
  rw [c_conv hs hd hx,wrap64_in (by omega) (by omega)]
theorem c_cvVB {b:UInt64} (hd:P.underlying u=some (.int .u8)) (hx:a.eval x=V b):(execOp a.eval ⟨d,.convert t u x,ty,pos,aft,g⟩).run P w=.ok (.value (B b.toUInt8)) w:=by
  rw [c_conv hs hd hx,wrapB]; simp
theorem c_cvIB {n:Int} (hd:P.underlying u=some (.int .u8)) (hx:a.eval x=I n):(execOp a.eval ⟨d,.convert t u x,ty,pos,aft,g⟩).run P w=.ok (.value (B (i8 n))) w:=by
  rw [c_conv hs hd hx,wrapB,← i8_toNat]
theorem c_cvIU {n:Int} (hd:P.underlying u=some (.int .u32)) (hx:a.eval x=I n):(execOp a.eval ⟨d,.convert t u x,ty,pos,aft,g⟩).run P w=.ok (.value (U (i32 n))) w:=by
  rw [c_conv hs hd hx,wrapU,← i32_toNat]
theorem c_cvIV {n:Int} (hd:P.underlying u=some (.int .u64)) (hx:a.eval x=I n):(execOp a.eval ⟨d,.convert t u x,ty,pos,aft,g⟩).run P w=.ok (.value (V (i64 n))) w:=by
  rw [c_conv hs hd hx,wrapV,← i64_toNat]
end
/-! memory -/
theorem Ty.zero {T:TypeId} {td:TypeDesc} {sz bytes:Nat} {z:List Value} (h:Ty P T td sz bytes z):∃ v,(zeroValue T).run P w=.ok v w∧v.cells=z.toArray:=by
  obtain ⟨i,hi,h1,h2,v,hv,hz⟩:=h.info
  exact ⟨v,by simp [zeroValue,typeInfo,hi,hv],hz⟩
theorem Ty.size {T:TypeId} {td:TypeDesc} {sz bytes:Nat} {z:List Value} (h:Ty P T td sz bytes z):(sizeOf T).run P w=.ok sz w:=by
  obtain ⟨i,hi,h1,h2,v,hv,hz⟩:=h.info
  simp [sizeOf,typeInfo,hi,h1]
theorem c_alloc {td:TypeDesc} {sz bytes:Nat} {z:List Value} (hT:Ty P t td sz bytes z) :
    (execOp a.eval ⟨d,.alloc t,ty,pos,aft,g⟩).run P w=.ok (.value (.pointer (some ⟨w.heap.size,0,none⟩))) (w.alloc (.cells z.toArray t)):=by
  obtain ⟨v,hv,hz⟩:=hT.zero (w:=w)
  simp [execOp,Instr.alloc,hv,newVar,newRow,hz]
theorem c_box {v:Value} (hx:a.eval x=v) :
    (execOp a.eval ⟨d,.box t x,ty,pos,aft,g⟩).run P w=.ok (.value (.pointer (some ⟨w.heap.size,0,none⟩))) (w.alloc (.cells v.cells t)):=by
  simp [execOp,Instr.box,hx,newVar,newRow]
theorem cell_of {w:World} {gb o:Nat} {cs:Array Value} {T:TypeId} {fr:Nat × Nat} (h:w.heap[gb]?=some (.cells cs T fr)):w.cell? ⟨gb,o,none⟩=cs[o]?:=by
  simp [World.cell?,h]
theorem run_loadS {T T':TypeId} {td:TypeDesc} {gb o:Nat} {cs:Array Value} {fr:Nat × Nat} {v:Value} (hu:P.underlying T=some td) (hd:aggD td=false)
    (hc:w.heap[gb]?=some (.cells cs T' fr)) (hv:cs.toList[o]?=some v):(loadVar T ⟨gb,o,none⟩).run P w=.ok v w:=by
  have hagg:(isAgg T).run P w=.ok false w:=by
    unfold isAgg
    rw [Sem.run_bind,run_underlying hu w]
    cases td <;> simp_all [aggD]
  have hv':cs[o]?=some v:=by simpa using hv
  simp [loadVar,Sem.run_bind,hagg,cell_of hc,hv']
theorem run_loadA {T T':TypeId} {td:TypeDesc} {sz bytes:Nat} {z:List Value} {gb o:Nat} {cs:Array Value} {fr:Nat × Nat} {c:List Value} (hT:Ty P T td sz bytes z) (hd:aggD td=true)
    (hc:w.heap[gb]?=some (.cells cs T' fr)) (hv:(cs.toList.drop o).take sz=c) (hl:c.length=sz):(loadVar T ⟨gb,o,none⟩).run P w=.ok (.agg c.toArray) w:=by
  have hagg:(isAgg T).run P w=.ok true w:=by
    unfold isAgg
    rw [Sem.run_bind,run_underlying hT.und w]
    cases td <;> simp_all [aggD]
  have hl2:=run_loadCells_list (P:=P) w ⟨gb,o,none⟩ c (fun j v hj=>by
    have e:(⟨gb,o,none⟩:Addr).add j=⟨gb,o + j,none⟩:=by unfold Addr.add; split <;> simp_all
    rw [e,cell_of hc]
    have hlt:j < sz:=by rw [← hl]; exact (List.getElem?_eq_some_iff.1 hj).1
    rw [← hv,List.getElem?_take_of_lt hlt,List.getElem?_drop] at hj
    simpa using hj)
  rw [hl] at hl2
  simp [loadVar,Sem.run_bind,hagg,hT.size,hl2]
theorem c_loadS {T':TypeId} {td:TypeDesc} {gb o:Nat} {cs:Array Value} {fr:Nat × Nat} {v:Value} (hu:P.underlying t=some td) (hd:aggD td=false) (hx:a.eval x=.pointer (some ⟨gb,o,none⟩))
    (hc:w.heap[gb]?=some (.cells cs T' fr)) (hv:cs.toList[o]?=some v):(execOp a.eval ⟨d,.load t x,ty,pos,aft,g⟩).run P w=.ok (.value v) w:=by
  simp [execOp,Instr.loadAt,Instr.sureAddr,hx,run_loadS hu hd hc hv]
theorem c_loadA {T':TypeId} {td:TypeDesc} {sz bytes:Nat} {z:List Value} {gb o:Nat} {cs:Array Value} {fr:Nat × Nat} {c:List Value} (hT:Ty P t td sz bytes z) (hd:aggD td=true) (hx:a.eval x=.pointer (some ⟨gb,o,none⟩))
    (hc:w.heap[gb]?=some (.cells cs T' fr)) (hv:(cs.toList.drop o).take sz=c) (hl:c.length=sz):(execOp a.eval ⟨d,.load t x,ty,pos,aft,g⟩).run P w=.ok (.value (.agg c.toArray)) w:=by
  simp [execOp,Instr.loadAt,Instr.sureAddr,hx,run_loadA hT hd hc hv hl]
theorem c_loadW {T':TypeId} {td:TypeDesc} {sz bytes:Nat} {z:List Value} {gb:Nat} {c:List Value} {fr:Nat × Nat} (hT:Ty P t td sz bytes z) (hd:aggD td=true) (hx:a.eval x=.pointer (some ⟨gb,0,none⟩))
    (hc:w.heap[gb]?=some (.cells c.toArray T' fr)) (hl:c.length=sz):(execOp a.eval ⟨d,.load t x,ty,pos,aft,g⟩).run P w=.ok (.value (.agg c.toArray)) w :=
  c_loadA hT hd hx hc (by simp [← hl]) hl
theorem c_store {T':TypeId} {td:TypeDesc} {sz bytes:Nat} {z:List Value} {gb o:Nat} {cs:List Value} {v:Value} {c:List Value} (hT:Ty P t td sz bytes z) (hx:a.eval x=.pointer (some ⟨gb,o,none⟩)) (hy:a.eval y=v)
    (hv:v.cells.toList=c) (hl:c.length=sz) (h1:c.all (·.oneCell')=true)
    (hc:w.heap[gb]?=some (.cells cs.toArray T' (0,0))) (hfit:o + sz≤cs.length) :
    (execOp a.eval ⟨d,.store t x y,ty,pos,aft,g⟩).run P w=.ok .skip (w.setRow gb (cs.take o++c++cs.drop (o + sz)).toArray):=by
  have hst:=run_storeCells_at P gb o T' c 0 cs.toArray w hc (by simpa [hl] using hfit) (fun v hv=>List.all_eq_true.1 h1 v hv)
  have hs:v.cells.size=sz:=by rw [← hl,← hv]; simp
  simp only [Nat.add_zero,hl] at hst
  simp [execOp,Instr.storeAt,Instr.sureAddr,hx,hy,storeVar,hT.size,hs,hv,hst]
theorem add_lit {gb o n:Nat}:(⟨gb,o,none⟩:Addr).add n=⟨gb,o + n,none⟩:=by unfold Addr.add; split <;> simp_all
theorem c_idxA {n:Nat} {E:TypeId} {s bytes:Nat} {ed:TypeDesc} {z:List Value} {gb o j:Nat} {k:IntKind} {i:Int} (hu:P.underlying t=some (.array n E)) (hE:Ty P E ed s bytes z)
    (hx:a.eval x=.pointer (some ⟨gb,o,none⟩)) (hy:a.eval y=.int k i) (hj:i=(j:Int)) (hlt:j < n) :
    (execOp a.eval ⟨d,.indexAddr t x y,ty,pos,aft,g⟩).run P w=.ok (.value (.pointer (some ⟨gb,o + j * s,none⟩))) w:=by
  subst hj
  have h1:(j:Int) < (n:Int):=by omega
  simp [execOp,Instr.indexAt,hx,hy,asIntOf,run_underlying hu,Instr.sureAddr,hE.size,hlt,add_lit]
theorem c_idxS {E:TypeId} {s bytes:Nat} {ed:TypeDesc} {z:List Value} {gb o j len cap:Nat} {k:IntKind} {i:Int} (hu:P.underlying t=some (.slice E)) (hE:Ty P E ed s bytes z)
    (hx:a.eval x=.slice (some ⟨gb,o,none⟩) len cap) (hy:a.eval y=.int k i) (hj:i=(j:Int)) (hlt:j < len) :
    (execOp a.eval ⟨d,.indexAddr t x y,ty,pos,aft,g⟩).run P w=.ok (.value (.pointer (some ⟨gb,o + j * s,none⟩))) w:=by
  subst hj
  simp [execOp,Instr.indexAt,hx,hy,asIntOf,run_underlying hu,hE.size,hlt,add_lit]
def Fld (P:Program) (S:TypeId) (f off:Nat):Prop:=∃ fs fl i,P.underlying S=some (.struct fs)∧fs[f]?=some fl∧fl.offset=off∧P.info? fl.type=some i∧i.size ≠ 0
theorem c_fld {f off gb o:Nat} (hF:Fld P t f off) (hx:a.eval x=.pointer (some ⟨gb,o,none⟩)) :
    (execOp a.eval ⟨d,.fieldAddr t x f,ty,pos,aft,g⟩).run P w=.ok (.value (.pointer (some ⟨gb,o + off,none⟩))) w:=by
  obtain ⟨fs,fl,i,h1,h2,rfl,h4,h5⟩:=hF
  simp [execOp,Instr.fieldAt,hx,run_underlying h1,h2,Instr.sureAddr,fieldPlace,sizeOf,typeInfo,h4,h5,add_lit]
theorem c_sliceA {n:Nat} {E:TypeId} {s bytes:Nat} {ed:TypeDesc} {z:List Value} {gb o:Nat} (hu:P.underlying t=some (.array n E)) (hE:Ty P E ed s bytes z) (hx:a.eval x=.pointer (some ⟨gb,o,none⟩)) :
    (execOp a.eval ⟨d,.slice t x none none none,ty,pos,aft,g⟩).run P w=.ok (.value (.slice (some ⟨gb,o,none⟩) n n)) w:=by
  simp [execOp,Instr.sliceAt,hx,run_underlying hu,Instr.sureAddr,Instr.sliceBounds,hE.size,add_lit]
theorem c_sliceS {z':Operand} {E:TypeId} {s bytes:Nat} {ed:TypeDesc} {z:List Value} {ad:Option Addr} {len cap i j:Nat} {k k':IntKind} {m n:Int} (hu:P.underlying t=some (.slice E)) (hE:Ty P E ed s bytes z)
    (hx:a.eval x=.slice ad len cap) (hy:a.eval y=.int k m) (hz:a.eval z'=.int k' n) (hm:m=(i:Int)) (hn:n=(j:Int)) (hij:i≤j) (hj:j≤cap) :
    (execOp a.eval ⟨d,.slice t x (some y) (some z') none,ty,pos,aft,g⟩).run P w=.ok (.value (.slice (if cap=i then ad else ad.map (·.add (i * s))) (j - i) (cap - i))) w:=by
  subst hm; subst hn
  simp [execOp,Instr.sliceAt,Instr.slice,hx,hy,hz,run_underlying hu,Instr.sliceBounds,Instr.sliceBound,asIntOf,hE.size,hij,hj]
theorem c_sliceL {E:TypeId} {s bytes:Nat} {ed:TypeDesc} {z:List Value} {ad:Option Addr} {len cap i:Nat} {k:IntKind} {m:Int} (hu:P.underlying t=some (.slice E)) (hE:Ty P E ed s bytes z)
    (hx:a.eval x=.slice ad len cap) (hy:a.eval y=.int k m) (hm:m=(i:Int)) (hi:i≤len) :
    (execOp a.eval ⟨d,.slice t x (some y) none none,ty,pos,aft,g⟩).run P w=.ok (.value (.slice (if cap=i then ad else ad.map (·.add (i * s))) (len - i) (cap - i))) w:=by
  subst hm
  simp [execOp,Instr.sliceAt,Instr.slice,hx,hy,run_underlying hu,Instr.sliceBounds,Instr.sliceBound,asIntOf,hE.size,hi]
theorem c_sliceH {E:TypeId} {s bytes:Nat} {ed:TypeDesc} {z:List Value} {ad:Option Addr} {len cap j:Nat} {k:IntKind} {n:Int} (hu:P.underlying t=some (.slice E)) (hE:Ty P E ed s bytes z)
    (hx:a.eval x=.slice ad len cap) (hz:a.eval y=.int k n) (hn:n=(j:Int)) (hj:j≤cap) :
    (execOp a.eval ⟨d,.slice t x none (some y) none,ty,pos,aft,g⟩).run P w=.ok (.value (.slice (if cap=0 then ad else ad.map (·.add 0)) j cap)) w:=by
  subst hn
  simp [execOp,Instr.sliceAt,Instr.slice,hx,hz,run_underlying hu,Instr.sliceBounds,Instr.sliceBound,asIntOf,hE.size,hj]
theorem c_lenS {T E:TypeId} {ad:Option Addr} {len cap:Nat} (hu:P.underlying T=some (.slice E)) (hx:a.eval x=.slice ad len cap) :
    (execOp a.eval ⟨d,.call { callee:=.builtin .len,args:=#[x],argTypes:=#[T] },ty,pos,aft,g⟩).run P w=.ok (.value (I len)) w:=by
  simp [execOp,resolve,invoke,builtin,hx,Builtin.len_,run_underlying hu,goInt]
theorem c_idxS1 {n:Nat} {E:TypeId} {ed:TypeDesc} {bytes:Nat} {z:List Value} {cs:Array Value} {v:Value} {j:Nat} {k:IntKind} {i:Int} (hu:P.underlying t=some (.array n E)) (hE:Ty P E ed 1 bytes z) (hd:aggD ed=false)
    (hx:a.eval x=.agg cs) (hy:a.eval y=.int k i) (hj:i=(j:Int)) (hlt:j < n) (hv:cs[j]?=some v) :
    (execOp a.eval ⟨d,.index t x y,ty,pos,aft,g⟩).run P w=.ok (.value v) w:=by
  subst hj
  have hagg:(isAgg E).run P w=.ok false w:=by
    unfold isAgg
    rw [Sem.run_bind,run_underlying hE.und w]
    cases ed <;> simp_all [aggD]
  simp [execOp,Instr.index,hx,hy,asIntOf,run_underlying hu,hlt,hE.size,part,hagg,hv]
theorem c_bslice {E:TypeId} {ed:TypeDesc} {s bytes n:Nat} {z:List Value} {ps:Array (Nat × Operand)} {vs:List Value} (hu:P.underlying t=some (.slice E)) (hE:Ty P E ed s bytes z)
    (hps:Evp a 0 ps.toList vs) (hn:vs.length=n) (hv:∀ v∈vs,v.cells.size=s) (hsmall:n * s≤16777216) :
    (execOp a.eval ⟨d,.buildSlice t n ps,ty,pos,aft,g⟩).run P w=.ok (.value (.slice (some ⟨w.heap.size,0,none⟩) n n)) (w.alloc (.cells (flatCells vs).toArray E)):=by
  have hm:(ps.map fun p=>(p.1,a.eval p.2)).toList=pairsFrom 0 vs:=by rw [← hps.map]; simp
  obtain ⟨v,hz,hzc⟩:=hE.zero (w:=w)
  have hf:=fill_row s vs 0 [] ((Array.range (n * s)).map (v.cells[· % v.cells.size]!)).toList hv (by simp) (by simp [hn])
  have hf0:n * s=0→Instr.fill (fun i=>some (i * s,s)) #[] (pairsFrom 0 vs)=some (flatCells vs).toArray:=fun h0=>by
    have:=fill_row s vs 0 [] [] hv (by simp) (by simp [hn,h0])
    simpa using this
  simp only [List.nil_append,Array.toArray_toList] at hf
  have hn2:¬ (16777216 < n * s):=by omega
  by_cases h0:n * s=0
  · have h:=hf0 h0
    simp [execOp,Instr.buildSlice,run_underlying hu,hE.size,hn2,h0,hps.map,newRow,h,Array.range_zero']
  · simp [execOp,Instr.buildSlice,run_underlying hu,hE.size,hn2,h0,hz,hps.map,newRow,hf]
end
end Go.Fw
end

section
/- The steps: one operation after the other,in the order of the text; calls; loops; the end. -/
namespace Go.Fw
open Go
def Ctr (P:Program) (f:FuncId) (vs:List Value) (w:World) (M:Nat→Prop) (Post:Value→World→Prop):Prop :=
  Calls P f vs.toArray w fun e w'=>∃ v,e=.returned v∧Fr M w w'∧Post v w'
section
variable {P:Program} {ops:Array Oper} {Q:Exit→Act→World→Prop} {rest:List Oper} {N:Nat} {F F':List (Nat × Value)} {L L':List Ent} {M:Nat→Prop} {w0 w:World} {a:Act}
variable {d:Tmp} {op:Op} {ty:TypeId} {pos:String} {aft:Array Edge} {x y z:Operand} {t u:TypeId}
theorem St.ev {v:Value} (hs:St N F L M w0 a w) (hx:ev F x=some v):a.eval x=v:=hs.know.eval hx
theorem St.seg {i:Nat} {g:Nat} {cs:List Value} {T:TypeId} (hs:St N F L M w0 a w) (hi:L[i]?=some (.seg g cs T)):w.heap[g]?=some (.cells cs.toArray T (0,0)):=hs.get hi
theorem upon_value {o:Oper} {v:Value} {w':World} {K:Act→World→Prop} (hr:(execOp a.eval o).run P w=.ok (.value v) w') (h:K (a.put o.dst v) w'):o.wp P a w K Q:=by
  unfold Oper.wp; rw [hr]; exact h
theorem upon_skip {o:Oper} {w':World} {K:Act→World→Prop} (hr:(execOp a.eval o).run P w=.ok .skip w') (h:K (a.put o.dst undef) w'):o.wp P a w K Q:=by
  unfold Oper.wp; rw [hr]; exact h
theorem lt_of_blt {d N:Nat} (h:Nat.blt d N=true):d < N:=by simpa [Nat.blt_eq] using h
theorem s_q {v:Value} (hs:St N F L M w0 a w) (hr:(execOp a.eval ⟨some d,op,ty,pos,aft,none⟩).run P w=.ok (.value v) w) (hd:Nat.blt d N=true)
    (k:∀ a,St N ((d,v)::F) L M w0 a w→wpList P ops Q rest a w):wpList P ops Q (⟨some d,op,ty,pos,aft,none⟩::rest) a w :=
  wpList_plain rfl fun K hK=>upon_value hr (hK _ _ (k _ (hs.put (lt_of_blt hd) v)))
theorem s_yes {j s:Nat} {b:Bool} {dd:Option Tmp} (hs:St N F L M w0 a w) (hj:(ops[j]?).bind (·.dst)=some s) (hb:look F s=some (.bool b))
    (k:wpList P ops Q (⟨dd,op,ty,pos,aft,none⟩::rest) a w):wpList P ops Q (⟨dd,op,ty,pos,aft,some (j,b)⟩::rest) a w:=by
  have hy:yielded ops a.tmps j=some b:=by
    have:=hs.know.at_ s _ hb
    simp [yielded,hj,this]
  unfold wpList at k ⊢
  have hw:Region.wanted ⟨dd,op,ty,pos,aft,some (j,b)⟩ (yielded ops a.tmps)=true:=by simp [Region.wanted,hy]
  rw [if_pos hw]
  rw [if_pos (by simp [Region.wanted])] at k
  exact k
theorem s_no {j s:Nat} {b c:Bool} (hs:St N F L M w0 a w) (hj:(ops[j]?).bind (·.dst)=some s) (hb:look F s=some (.bool c)) (hne:c=!b) (hd:Nat.blt d N=true)
    (k:∀ a,St N ((d,undef)::F) L M w0 a w→wpList P ops Q rest a w):wpList P ops Q (⟨some d,op,ty,pos,aft,some (j,b)⟩::rest) a w:=by
  have hy:yielded ops a.tmps j=some c:=by
    have:=hs.know.at_ s _ hb
    simp [yielded,hj,this]
  unfold wpList
  have hw:Region.wanted ⟨some d,op,ty,pos,aft,some (j,b)⟩ (yielded ops a.tmps)=false:=by subst hne; cases b <;> simp [Region.wanted,hy]
  rw [if_neg (by rw [hw]; simp)]
  exact k _ (hs.put (lt_of_blt hd) undef)
theorem s_g {j s:Nat} {b c:Bool} {v:Value} (hs:St N F L M w0 a w) (hj:(ops[j]?).bind (·.dst)=some s) (hb:look F s=some (.bool c))
    (hr:c=b→(execOp a.eval ⟨some d,op,ty,pos,aft,none⟩).run P w=.ok (.value v) w) (hd:Nat.blt d N=true)
    (k:∀ a,St N ((d,if c=b then v else undef)::F) L M w0 a w→wpList P ops Q rest a w):wpList P ops Q (⟨some d,op,ty,pos,aft,some (j,b)⟩::rest) a w:=by
  by_cases e:c=b
  · subst e
    refine s_yes hs hj hb (s_q hs (hr rfl) hd fun a hs=>k a ?_)
    simpa using hs
  · refine s_no hs hj hb (by cases c <;> cases b <;> simp_all) hd fun a hs=>k a ?_
    simpa [e] using hs
theorem gev {c b:Bool} {v u:Value} (hx:a.eval x=if c=b then v else u) (h:c=b):a.eval x=v:=by rw [hx,if_pos h]
theorem c_and {b c:Bool} {u0:Value} {g:Option (Nat × Bool)} {d:Option Tmp} (hx:a.eval x=.bool b) (hy:a.eval y=if b=true then .bool c else u0) :
    (execOp a.eval ⟨d,.pick x y (.const (.bool false)),ty,pos,aft,g⟩).run P w=.ok (.value (.bool (b && c))) w:=by
  rw [c_pick hx hy (v:=.bool false) rfl]
  cases b <;> simp
theorem c_or {b c:Bool} {u0:Value} {g:Option (Nat × Bool)} {d:Option Tmp} (hx:a.eval x=.bool b) (hy:a.eval y=if b=false then .bool c else u0) :
    (execOp a.eval ⟨d,.pick x (.const (.bool true)) y,ty,pos,aft,g⟩).run P w=.ok (.value (.bool (b || c))) w:=by
  rw [c_pick hx (u:=.bool true) rfl hy]
  cases b <;> simp
theorem s_new {v:Value} {w':World} (hs:St N F L M w0 a w) (hr:(execOp a.eval ⟨some d,op,ty,pos,aft,none⟩).run P w=.ok (.value v) w') (hd:Nat.blt d N=true) (hf:Fr0 w w') (hn:Has w.heap.size w' L')
    (k:∀ a,St N ((d,v)::F) (L'++L) M w0 a w'→wpList P ops Q rest a w'):wpList P ops Q (⟨some d,op,ty,pos,aft,none⟩::rest) a w :=
  wpList_plain rfl fun K hK=>upon_value hr (hK _ _ (k _ ((hs.new hf hn).put (lt_of_blt hd) v)))
theorem has_alloc {z:List Value}:Has w.heap.size (w.alloc (.cells z.toArray t)) [.seg w.heap.size z t] :=
  ⟨by intro e he; simp at he; subst he; exact heap_alloc_new w _,List.pairwise_singleton _ _,by intro e he k hk; simp at he; subst he; cases hk; simp,by intro e he k hk; simp at he; subst he; cases hk; simp⟩
theorem s_alloc {td:TypeDesc} {sz bytes:Nat} {zs:List Value} (hs:St N F L M w0 a w) (hT:Ty P t td sz bytes zs) (hd:Nat.blt d N=true)
    (k:∀ a w gb,St N ((d,.pointer (some ⟨gb,0,none⟩))::F) (.seg gb zs t::L) M w0 a w→wpList P ops Q rest a w):wpList P ops Q (⟨some d,.alloc t,ty,pos,aft,none⟩::rest) a w :=
  s_new hs (c_alloc hT) hd (.alloc _ _) has_alloc fun a hs=>k a _ _ hs
theorem s_box {v:Value} {zs:List Value} (hs:St N F L M w0 a w) (hx:ev F x=some v) (hz:v.cells=zs.toArray) (hd:Nat.blt d N=true)
    (k:∀ a w gb,St N ((d,.pointer (some ⟨gb,0,none⟩))::F) (.seg gb zs t::L) M w0 a w→wpList P ops Q rest a w):wpList P ops Q (⟨some d,.box t x,ty,pos,aft,none⟩::rest) a w :=
  s_new hs (hz ▸ c_box (hs.ev hx)) hd (.alloc _ _) has_alloc fun a hs=>k a _ _ hs
theorem s_bslice {E:TypeId} {ed:TypeDesc} {s bytes n:Nat} {z zs:List Value} {ps:Array (Nat × Operand)} {vs:List Value} (hs:St N F L M w0 a w) (hu:P.underlying t=some (.slice E)) (hE:Ty P E ed s bytes z)
    (hps:Evp a 0 ps.toList vs) (hn:vs.length=n) (hv:∀ v∈vs,v.cells.size=s) (hsmall:n * s≤16777216) (hz:flatCells vs=zs) (hd:Nat.blt d N=true)
    (k:∀ a w gb,St N ((d,.slice (some ⟨gb,0,none⟩) n n)::F) (.seg gb zs E::L) M w0 a w→wpList P ops Q rest a w):wpList P ops Q (⟨some d,.buildSlice t n ps,ty,pos,aft,none⟩::rest) a w :=
  s_new hs (hz ▸ c_bslice hu hE hps hn hv hsmall) hd (.alloc _ _) has_alloc fun a hs=>k a _ _ hs
theorem s_store {i:Nat} {T':TypeId} {td:TypeDesc} {sz bytes:Nat} {zz:List Value} {gb o:Nat} {cs cs' c:List Value} {v:Value} (hs:St N F L M w0 a w) (hT:Ty P t td sz bytes zz)
    (hx:ev F x=some (.pointer (some ⟨gb,o,none⟩))) (hy:ev F y=some v) (hi:L[i]?=some (.seg gb cs T')) (hv:v.cells.toList=c) (hl:c.length=sz) (h1:c.all (·.oneCell')=true) (hfit:o + sz≤cs.length)
    (hcs:cs.take o++c++cs.drop (o + sz)=cs') (k:∀ w,St N F (L.set i (.seg gb cs' T')) M w0 a w→wpList P ops Q rest a w) :
    wpList P ops Q (⟨none,.store t x y,ty,pos,aft,none⟩::rest) a w:=by
  have hr:=c_store (P:=P) (w:=w) (d:=none) (ty:=ty) (pos:=pos) (aft:=aft) (g:=none) hT (hs.ev hx) (hs.ev hy) hv hl h1 (hs.seg hi) hfit
  rw [hcs] at hr
  refine wpList_plain rfl fun K hK=>upon_skip hr (hK _ _ (k _ ?_))
  exact hs.mod hi (.setRow w gb _) (setRow_heap w gb _ _ _ _ (hs.seg hi)) (fun j hj=>⟨.inl hj,by
    have h2:gb < w.heap.size:=hs.has.lt _ (List.mem_of_getElem? hi) gb rfl
    cases hj
    simpa using h2⟩)
theorem run_call {f:FuncId} {args:Array Operand} {vs:List Value} {tys:Array TypeId} {d:Option Tmp} {g:Option (Nat × Bool)} (hF:Fun P f) (hargs:Evs a args.toList vs) :
    (execOp a.eval ⟨d,.call { callee:=.value (.func f),args:=args,argTypes:=tys },ty,pos,aft,g⟩).run P w=.ok (.enter f vs.toArray) w:=by
  obtain ⟨fn,h1,h2,h3⟩:=hF
  have he:args.map a.eval=vs.toArray:=by
    apply Array.ext'
    rw [Array.toList_map,hargs.map]
  have h2' : ¬ fn.name = "runtime.NumGoroutine" := by simpa using h2
  have h3':¬ fn.body=none:=fun e=>by simp [e] at h3
  simp [execOp,resolve,he,Act.eval,Deferred.ofValue,invoke,callFunc,h1,h2',h3']
theorem s_call {f:FuncId} {args:Array Operand} {vs:List Value} {tys:Array TypeId} {Post:Value→World→Prop} (hs:St N F L M w0 a w) (hF:Fun P f) (hargs:Evs a args.toList vs)
    (hc:Ctr P f vs w (fun _=>False) Post) (hd:Nat.blt d N=true)
    (k:∀ a w' v,Fr0 w w'→Post v w'→(∀ L',Has w.heap.size w' L'→St N ((d,v)::F) (L'++L) M w0 a w')→wpList P ops Q rest a w') :
    wpList P ops Q (⟨some d,.call { callee:=.value (.func f),args:=args,argTypes:=tys },ty,pos,aft,none⟩::rest) a w:=by
  refine wpList_plain rfl fun K hK=>?_
  unfold Oper.wp
  rw [run_call hF hargs]
  refine hc.mono fun e w' ⟨v,he,hf,hp⟩=>?_
  subst he
  exact hK _ _ (k _ _ v hf hp fun L' hn=>(hs.new hf hn).put (lt_of_blt hd) v)
theorem s_callM {f:FuncId} {args:Array Operand} {vs:List Value} {tys:Array TypeId} {Post:Value→World→Prop} {i:Nat} {e:Ent} (hs:St N F L M w0 a w) (hF:Fun P f) (hargs:Evs a args.toList vs)
    (hi:L[i]?=some e) (hc:Ctr P f vs w e.keys Post) (hd:Nat.blt d N=true)
    (k:∀ a w' v,Fr e.keys w w'→Post v w'→(∀ e':Ent,e'.holds w'→(∀ k,e'.keys k→(e.keys k∨w.heap.size≤k)∧k < w'.heap.size)→St N ((d,v)::F) (L.set i e') M w0 a w')→wpList P ops Q rest a w') :
    wpList P ops Q (⟨some d,.call { callee:=.value (.func f),args:=args,argTypes:=tys },ty,pos,aft,none⟩::rest) a w:=by
  refine wpList_plain rfl fun K hK=>?_
  unfold Oper.wp
  rw [run_call hF hargs]
  refine hc.mono fun e' w' ⟨v,he,hf,hp⟩=>?_
  subst he
  exact hK _ _ (k _ _ v hf hp fun e' h1 h2=>(hs.mod hi hf h1 h2).put (lt_of_blt hd) v)
theorem s_end (h:Q .normal a w):wpList P ops Q [] a w:=h
/-! code -/
theorem wp_reg {id:Nat} {l:List Oper} (h:wpList P l.toArray Q l a w):(Code.region id l.toArray false).wp P Q a w:=wp_region_lit h
theorem wp_loop_ix {c:Code} (J:Nat→Act→World→Prop) (n:Nat) (h0:J n a w)
    (round:∀ n a w,J n a w→c.wp P (Exit.then (fun a' w'=>∃ m,m < n∧J m a' w') Q) a w):(Code.loop c).wp P Q a w:=by
  intro b k cs
  have key:∀ n a w,J n a w→∃ e a' w',Q e a' w'∧Arrives P (lone (b.at a (.code c::.inLoop c::k)) cs w) b k cs e a' w':=by
    intro n
    induction n using Nat.strongRecOn with
    | _ n ih =>
      intro a w hJ
      obtain ⟨e,a₁,w₁,hq,harr⟩:=round n a w hJ b (.inLoop c::k) cs
      cases e with
      | normal =>
        obtain ⟨m,hm,hJ'⟩:=hq
        obtain ⟨e₂,a₂,w₂,hq₂,harr₂⟩:=ih m hm a₁ w₁ hJ'
        exact ⟨e₂,a₂,w₂,hq₂,.of_steps (Steps.trans harr (.one step_inLoop)) harr₂⟩
      | exit id=>exact ⟨_,a₁,w₁,hq,.pass (x:=.inLoop c) rfl (fun _ _=>.inl (by simp)) harr⟩
      | goto l=>exact ⟨_,a₁,w₁,hq,.pass (x:=.inLoop c) rfl (fun _ _=>.inl (by simp)) harr⟩
      | ret=>exact ⟨_,a₁,w₁,hq,.pass (x:=.inLoop c) rfl (fun _ _=>.inl (by simp)) harr⟩
      | panic ch=>exact ⟨_,a₁,w₁,hq,.pass (x:=.inLoop c) rfl (fun _ _=>.inl (by simp)) harr⟩
      | outgrown=>exact ⟨_,a₁,w₁,hq,.pass (x:=.inLoop c) rfl (fun _ _=>.inl (by simp)) harr⟩
  obtain ⟨e,a',w',hq,harr⟩:=key n _ _ h0
  exact ⟨e,a',w',hq,.of_steps (.one step_loop) harr⟩
theorem s_cond {b:Bool} {c1 c2:Code} (hs:St N F L M w0 a w) (hx:ev F x=some (.bool b)) (h1:b=true→c1.wp P Q a w) (h2:b=false→c2.wp P Q a w):(Code.cond x c1 c2).wp P Q a w :=
  wp_cond_split (hs.ev hx) h1 h2
/-! the end -/
inductive Res (P:Program) (tmps:Array Value) (w:World):List ResultVar→List Value→Prop
  | nil:Res P tmps w [] []
  | tmp {k:Tmp} {v:Value} {rs:List ResultVar} {vs:List Value} (h:tmps[k]?=some v) (t:Res P tmps w rs vs):Res P tmps w (.tmp k::rs) (v::vs)
  | cell {k:Tmp} {T:TypeId} {ad:Addr} {v:Value} {rs:List ResultVar} {vs:List Value} (h:tmps[k]?=some (.pointer (some ad))) (hl:(loadVar T ad).run P w=.ok v w) (t:Res P tmps w rs vs) :
      Res P tmps w (.cell k T::rs) (v::vs)
def resF (tmps:Array Value):ResultVar→Sem Value
  | .tmp t=>pure (tmps.getD t undef)
  | .cell a t=>do loadVar t (← asAddr (tmps.getD a undef))
theorem run_mapM_res {tmps:Array Value}:∀ {rs:List ResultVar} {vs:List Value},Res P tmps w rs vs→(rs.mapM (resF tmps)).run P w=.ok vs w
  | _,_,.nil=>by simp
  | _,_,.tmp h t=>by
    have ih:=run_mapM_res t
    simp [List.mapM_cons,resF,h,ih]
  | _,_,.cell (k:=k) (ad:=ad) h hl t=>by
    have ih:=run_mapM_res t
    have e:(asAddr (tmps.getD k undef)).run P w=.ok ad w:=by simp [h,asAddr]
    simp only [List.mapM_cons,resF,Sem.run_bind,e,Result.andThen_ok,hl,ih,Sem.run_pure]
theorem run_results {fn:Func} {tmps:Array Value} {rs:List ResultVar} {vs:List Value} {v:Value} (hr:fn.results=rs.toArray) (h:Res P tmps w rs vs) (hv:(if h:vs.toArray.size=1 then vs.toArray[0] else .tuple vs.toArray)=v) :
    (results fn tmps).run P w=.ok v w:=by
  have:=run_mapM_res h
  have e:results fn tmps=(do let vs ← rs.toArray.mapM (resF tmps); pure (if h:vs.size=1 then vs[0] else .tuple vs)):=by
    unfold results
    rw [hr]
    rfl
  rw [e]
  subst hv
  simp only [List.mapM_toArray,Sem.run_bind]
  simp [this]
theorem s_ret {fn:Func} {R:Ending→World→Prop} {rs:List ResultVar} {vs:List Value} {v:Value} (hs:St N F L M w0 a w) (hr:fn.results=rs.toArray) (h:Res P a.tmps w rs vs)
    (hv:(if h:vs.toArray.size=1 then vs.toArray[0] else .tuple vs.toArray)=v) (hR:R (.returned v) w):bodyPost P fn R .ret a w :=
  ⟨hs.know.defers,v,run_results hr h hv,hR⟩
theorem s_ret_end {fn:Func} {R:Ending→World→Prop} {rs:List ResultVar} {vs:List Value} {v:Value} (hs:St N F L M w0 a w) (hr:fn.results=rs.toArray) (h:Res P a.tmps w rs vs)
    (hv:(if h:vs.toArray.size=1 then vs.toArray[0] else .tuple vs.toArray)=v) (hR:R (.returned v) w):bodyPost P fn R .normal a w :=
  ⟨hs.know.defers,v,run_results hr h hv,hR⟩
theorem St.tmp {n:Nat} {v:Value} (hs:St N F L M w0 a w) (h:look F n=some v):a.tmps[n]?=some v:=hs.know.at_ n v h
def argF:Nat→List Value→List (Nat × Value)
  | _,[]=>[]
  | k,v::t=>(k,v)::argF (k + 1) t
theorem look_argF:∀ (vs:List Value) (k n:Nat) (v:Value),look (argF k vs) n=some v→k≤n∧vs[n - k]?=some v
  | [],k,n,v,h=>by simp [argF,look] at h
  | u::t,k,n,v,h=>by
    simp only [argF,look] at h
    by_cases e:k=n
    · subst e
      simp at h
      simp [h]
    · rw [Nat.beq_eq_false_of e] at h
      have:=look_argF t (k + 1) n v h
      refine ⟨by omega,?_⟩
      rw [show n - k=(n - (k + 1)) + 1 from by omega]
      simpa using this.2
theorem fn_start {f:FuncId} {fn:Func} {c:Code} {vs:List Value} {M:Nat→Prop} {Post:Value→World→Prop} (hf:P.funcs[f]?=some fn) (hb:fn.body=some c) (hn:fn.ntmps=N) (hle:Nat.ble vs.length N=true)
    (h:∀ a,Know N (argF 0 vs) a→c.wp P (bodyPost P fn fun e w'=>∃ v,e=.returned v∧Fr M w w'∧Post v w') a w):Ctr P f vs w M Post:=by
  refine calls_of_wp hf hb (h _ ?_)
  have hle':vs.length≤N:=by simpa using hle
  refine ⟨by simp [hn]; omega,rfl,fun n v hl=>?_⟩
  have h2:=look_argF vs 0 n v hl
  have hlt:n < vs.length:=(List.getElem?_eq_some_iff.1 h2.2).1
  have h3:=h2.2
  simp at h3
  rw [Array.getElem?_append_left (by simpa using hlt)]
  simpa using h3
theorem Ctr.mono {f:FuncId} {vs:List Value} {M:Nat→Prop} {Post Post':Value→World→Prop} (h:Ctr P f vs w M Post) (hp:∀ v w',Fr M w w'→Post v w'→Post' v w'):Ctr P f vs w M Post' :=
  Calls.mono h fun _ _ ⟨v,he,hf,hh⟩=>⟨v,he,hf,hp v _ hf hh⟩
end
end Go.Fw
end

section
namespace Go.Fw
open Go
section
variable {P:Program} {ops:Array Oper} {Q:Exit→Act→World→Prop} {rest:List Oper} {N:Nat} {F:List (Nat × Value)} {L:List Ent} {M:Nat→Prop} {w0 w:World} {a:Act}
variable {d:Tmp} {ty:TypeId} {pos:String} {aft:Array Edge} {x:Operand}
theorem zM {v:Value} (hs:St N F L M w0 a w) (k:∀ a,St N ((d,v)::F) L M w0 a w→wpList P ops Q rest a w) (hx:ev F x=some v:=by exact rfl) (hd:Nat.blt d N=true:=by exact rfl):wpList P ops Q (⟨some d,.move x,ty,pos,aft,none⟩::rest) a w :=
  s_q hs (c_move (hs.ev hx)) hd k
theorem zA {v:Value} (hs:St N F L M w0 a w) (k:∀ a,St N ((d,v)::F) L M w0 a w→wpList P ops Q rest a w) (hx:ev F x=some v:=by exact rfl) (hd:Nat.blt d N=true:=by exact rfl):wpList P ops Q (⟨some d,.assign x,ty,pos,aft,none⟩::rest) a w :=
  s_q hs (c_assign (hs.ev hx)) hd k
end
theorem z1 {p:Prop} [Decidable p]:(decide p=true)=p:=propext decide_eq_true_iff
theorem z2 {p:Prop} [Decidable p]:(decide p=false)=¬ p:=propext decide_eq_false_iff_not
theorem z3 {b:Bool}:((!b)=true)=(b=false):=by cases b <;> simp
theorem z4 {b:Bool}:((!b)=false)=(b=true):=by cases b <;> simp
theorem z5 {a b:Bool}:((a && b)=true)=(a=true∧b=true):=by cases a <;> cases b <;> simp
theorem z6 {a b:Bool}:((a || b)=true)=(a=true∨b=true):=by cases a <;> cases b <;> simp
theorem z7 {a b:Bool}:((a || b)=false)=(a=false∧b=false):=by cases a <;> cases b <;> simp
end Go.Fw
end

section
/- A region that draws its order: each operation is shown,in whatever order it comes up,to yield a known value,or a value with new things; behind them a tail in the order of the text. -/
namespace Go.Fw
open Go
inductive DV where
  | c (v:Value)
  | e (E:Value→List Ent→World→Prop) (st:∀ v L w w',Fr0 w w'→E v L w→E v L w')
def DV.ok:DV→Value→List Ent→World→Prop
  | .c u,v,L,_=>v=u∧L=[]
  | .e E _,v,L,w=>E v L w
theorem DV.ok_stable {D:DV} {v:Value} {L:List Ent} {w w':World} (hf:Fr0 w w') (h:D.ok v L w):D.ok v L w':=by
  cases D with
  | c u=>exact h
  | e E st=>exact st v L w w' hf h
abbrev Fes:=List (Nat × (Value→List Ent→World→Prop))
def lookE:Fes→Nat→Option (Value→List Ent→World→Prop)
  | [],_=>none
  | (k,v)::t,n=>bif Nat.beq k n then some v else lookE t n
def Yl (P:Program) (R:Value→World→Prop):Result Next→Prop
  | .ok (.value v) w'=>R v w'
  | .ok .skip w'=>R undef w'
  | .ok (.enter f args) w'=>Calls P f args w' fun e w''=>∃ v,e=.returned v∧R v w''
  | _=>False
theorem wp_of_yl {P:Program} {R:Value→World→Prop} {o:Oper} {a:Act} {w:World} {K:Act→World→Prop} {Q:Exit→Act→World→Prop}
    (h:Yl P R ((execOp a.eval o).run P w)) (k:∀ v w',R v w'→K (a.put o.dst v) w'):o.wp P a w K Q:=by
  unfold Oper.wp
  generalize (execOp a.eval o).run P w=r at *
  cases r with
  | ok nx w' =>
    cases nx <;> simp only [Yl] at h <;> simp only [Oper.upon]
    case value v=>exact k v w' h
    case skip=>exact k undef w' h
    case enter f args=>exact h.mono fun e w'' ⟨v,he,hr⟩=>by subst he; exact k v w'' hr
  | halt x w'=>simp [Yl] at h
def tmpsOf (o:Oper):List Nat:=o.op.operands.toList.filterMap fun | .tmp t=>some t | _=>none
structure RC (N:Nat) (Fc:List (Nat × Value)) (Fe:Fes) (o:Oper) (B1:Nat) (w1:World) (a:Act) (w:World):Prop where
  know:Know N Fc a
  fr:Fr0 w1 w
  ents:∀ n E,lookE Fe n=some E→(tmpsOf o).any (Nat.beq n)=true→∃ v L',a.tmps[n]?=some v∧E v L' w∧Has B1 w L'
def Meets (D:DV) (w:World) (v:Value) (w':World):Prop:=∃ L',D.ok v L' w'∧Fr0 w w'∧Has w.heap.size w' L'
def wantedAs (ops:Array Oper) (Fc:List (Nat × Value)) (o:Oper):Option Bool :=
  match o.guard with
  | none=>some true
  | some (j,wt)=>match ((ops[j]?).bind (·.dst)).bind (look Fc) with
    | some (.bool b)=>some (b == wt)
    | some _=>some false
    | none=>none
def needQ (o:Oper):Bool:=match o.guard,o.op with
  | none,.load ..=>true
  | none,.slice ..=>true
  | none,.build ..=>true
  | none,.convert ..=>true
  | none,.binOp ..=>true
  | none,.fieldAddr ..=>true
  | _,_=>false
def Ob (P:Program) (ops:Array Oper) (N:Nat) (B1:Nat) (w1:World) (Fc:List (Nat × Value)) (Fe:Fes) (o:Oper) (D:DV):Prop :=
  ((wantedAs ops Fc o=some true∧∀ a w,RC N Fc Fe o B1 w1 a w→Yl P (Meets D w) ((execOp a.eval o).run P w))∨(wantedAs ops Fc o=some false∧D=.c undef)) ∧
  (needQ o=true→∀ a w,RC N Fc Fe o B1 w1 a w→∃ v,(execOp a.eval o).run P w=.ok (.value v) w)
def addC (Fc:List (Nat × Value)) (d:Nat):DV→List (Nat × Value)
  | .c v=>(d,v)::Fc
  | .e _ _=>Fc
def addE (Fe:Fes) (d:Nat):DV→Fes
  | .c _=>Fe
  | .e E _=>(d,E)::Fe
def fresh (Fc:List (Nat × Value)) (Fe:Fes) (d:Nat):DV→Prop
  | .c _=>lookE Fe d=none
  | .e _ _=>look Fc d=none
def RG (P:Program) (ops:Array Oper) (N B1:Nat) (w1:World) (K:List (Nat × Value)→Fes→Prop):List (Nat × Value)→Fes→List Oper→Prop
  | Fc,Fe,[]=>K Fc Fe
  | Fc,Fe,o::rest=>∃ d D,o.dst=some d∧Ob P ops N B1 w1 Fc Fe o D∧fresh Fc Fe d D∧RG P ops N B1 w1 K (addC Fc d D) (addE Fe d D) rest
def looks (ops:Array Oper) (o:Oper):List Nat:=tmpsOf o++(match o.guard with | none=>[] | some (j,_)=>((ops[j]?).bind (·.dst)).toList)
def waits (o:Oper) (j:Nat):Bool:=o.after.toList.any fun e=>Region.binds .any e && Nat.beq e.on j
def anc (ops:Array Oper):Nat→Oper→Nat→Bool
  | 0,o,j=>waits o j
  | n + 1,o,j=>waits o j || o.after.toList.any fun e=>Region.binds .any e && (match ops[e.on]? with | none=>false | some k=>anc ops n k j)
def notSelect (o:Oper):Bool:=match o.op with | .select ..=>false | _=>true
def dstAt (ops:Array Oper) (j:Nat):Option Nat:=(ops[j]?).bind (·.dst)
def rgBL (ops:Array Oper) (n:Nat) (late:List Nat):Bool :=
  Nat.ble n ops.size && late.all (fun j=>Nat.blt j n) && (List.range ops.size).all fun i=>match ops[i]? with
    | none=>false
    | some o=>notSelect o && (o.after.toList.all fun e=>!Region.binds .any e || Nat.blt e.on i) &&
      (if i < n then
        (match o.dst with
          | none=>false
          | some d=>(List.range n).all fun j=>Nat.beq j i || !(dstAt ops j == some d)) &&
        (looks ops o).all fun s=>(List.range n).all fun j=>Nat.beq j i || !(dstAt ops j == some s) || (if j < i then waits o j else match ops[j]? with | none=>false | some oj=>waits oj i)
      else (List.range i).all fun j=>late.any (Nat.beq j) || anc ops 24 o j)
def rgB (ops:Array Oper) (n:Nat):Bool:=rgBL ops n []
theorem waits_spec {o:Oper} {j:Nat} (h:waits o j=true):∃ e∈o.after,Region.binds .any e=true∧e.on=j:=by
  unfold waits at h
  obtain ⟨e,he,hb⟩:=List.any_eq_true.1 h
  simp only [Bool.and_eq_true] at hb
  exact ⟨e,by simpa using he,hb.1,Nat.eq_of_beq_eq_true hb.2⟩
theorem anc_spec {ops:Array Oper}:∀ {n:Nat} {o:Oper} {j:Nat},anc ops n o j=true→(∃ e∈o.after,Region.binds .any e=true∧e.on=j)∨∃ m,m < n∧∃ e∈o.after,Region.binds .any e=true∧∃ k,ops[e.on]?=some k∧anc ops m k j=true
  | 0,o,j,h=>.inl (waits_spec h)
  | n + 1,o,j,h=>by
    unfold anc at h
    rw [Bool.or_eq_true] at h
    rcases h with h | h
    · exact .inl (waits_spec h)
    · obtain ⟨e,he,hb⟩:=List.any_eq_true.1 h
      simp only [Bool.and_eq_true] at hb
      refine .inr ⟨n,Nat.lt_succ_self n,e,by simpa using he,hb.1,?_⟩
      cases hk:ops[e.on]? with
      | none=>rw [hk] at hb; cases hb.2
      | some k=>rw [hk] at hb; exact ⟨k,rfl,hb.2⟩
structure RgOk (ops:Array Oper) (n:Nat) (late:List Nat):Prop where
  le:n≤ops.size
  lateLt:∀ j∈late,j < n
  sel:∀ (i:Nat) (o:Oper),ops[i]?=some o→notSelect o=true
  back:∀ (i:Nat) (o:Oper),ops[i]?=some o→∀ e∈o.after,Region.binds .any e=true→e.on < i
  dst:∀ (i:Nat) (o:Oper),ops[i]?=some o→i < n→∃ d,o.dst=some d
  uniq:∀ (i j d:Nat),i < n→j < n→dstAt ops i=some d→dstAt ops j=some d→i=j
  use:∀ (i:Nat) (o:Oper) (s j:Nat),ops[i]?=some o→i < n→s∈looks ops o→j < n→j ≠ i→dstAt ops j=some s→(j < i∧waits o j=true)∨(i < j∧∃ oj,ops[j]?=some oj∧waits oj i=true)
  tail:∀ (i:Nat) (o:Oper),ops[i]?=some o→n≤i→∀ j,j < i→j∈late∨anc ops 24 o j=true
theorem anc_closed {ops:Array Oper} {S:Nat→Prop} (hc:∀ (i:Nat) (o:Oper),ops[i]?=some o→S i→∀ e∈o.after,Region.binds .any e=true→S e.on):∀ (m:Nat) (o:Oper) (j:Nat),(∀ e∈o.after,Region.binds .any e=true→S e.on)→anc ops m o j=true→S j:=by
  intro m
  induction m using Nat.strongRecOn with
  | _ m ih =>
    intro o j hs h
    rcases anc_spec h with ⟨e,he,hb,rfl⟩ | ⟨m',hm,e,he,hb,k,hk,ha⟩
    · exact hs e he hb
    · exact ih m' hm k j (fun e2 he2 hb2=>hc e.on k hk (hs e he hb) e2 he2 hb2) ha
theorem rgB_spec {ops:Array Oper} {n:Nat} {late:List Nat} (h:rgBL ops n late=true):RgOk ops n late:=by
  unfold rgBL at h
  simp only [Bool.and_eq_true] at h
  obtain ⟨⟨h0,hlt0⟩,h1⟩:=h
  have hle:n≤ops.size:=by simpa using h0
  have get:∀ i o,ops[i]?=some o→notSelect o=true∧(∀ e∈o.after,Region.binds .any e=true→e.on < i)∧(if i < n then
        (match o.dst with
          | none=>false
          | some d=>(List.range n).all fun j=>Nat.beq j i || !(dstAt ops j == some d)) &&
        (looks ops o).all fun s=>(List.range n).all fun j=>Nat.beq j i || !(dstAt ops j == some s) || (if j < i then waits o j else match ops[j]? with | none=>false | some oj=>waits oj i)
      else (List.range i).all fun j=>late.any (Nat.beq j) || anc ops 24 o j)=true:=by
    intro i o hi
    have hlt:i < ops.size:=(Array.getElem?_eq_some_iff.1 hi).1
    have h2:=List.all_eq_true.1 h1 i (List.mem_range.2 hlt)
    simp only [hi,Bool.and_eq_true] at h2
    refine ⟨h2.1.1,fun e he hb=>?_,h2.2⟩
    have h3:=List.all_eq_true.1 h2.1.2 e (by simpa using he)
    simp only [hb,Bool.not_true,Bool.false_or] at h3
    simpa [Nat.blt_eq] using h3
  have head:∀ i o,ops[i]?=some o→i < n→(match o.dst with
          | none=>false
          | some d=>(List.range n).all fun j=>Nat.beq j i || !(dstAt ops j == some d))=true ∧
        ((looks ops o).all fun s=>(List.range n).all fun j=>Nat.beq j i || !(dstAt ops j == some s) || (if j < i then waits o j else match ops[j]? with | none=>false | some oj=>waits oj i))=true:=by
    intro i o hi hin
    have h2:=(get i o hi).2.2
    rw [if_pos hin,Bool.and_eq_true] at h2
    exact h2
  refine ⟨hle,fun j hj=>by simpa [Nat.blt_eq] using List.all_eq_true.1 hlt0 j hj,fun i o hi=>(get i o hi).1,fun i o hi=>(get i o hi).2.1,fun i o hi hin=>?_,fun i j d hi hj hdi hdj=>?_,fun i o s j hi hin hs hj hne hd=>?_,fun i o hi hin j hj=>?_⟩
  · have h2:=(head i o hi hin).1
    cases hd:o.dst with
    | none=>rw [hd] at h2; cases h2
    | some d=>exact ⟨d,rfl⟩
  · obtain ⟨o,ho⟩:∃ o,ops[i]?=some o:=⟨ops[i]'(by omega),by simp [show i < ops.size by omega]⟩
    have h2:=(head i o ho hi).1
    have hod:o.dst=some d:=by simpa [dstAt,ho] using hdi
    rw [hod] at h2
    have h3:=List.all_eq_true.1 h2 j (List.mem_range.2 hj)
    simp only [hdj,beq_self_eq_true,Bool.not_true,Bool.or_false] at h3
    exact (Nat.eq_of_beq_eq_true h3).symm
  · have h2:=(head i o hi hin).2
    have h3:=List.all_eq_true.1 (List.all_eq_true.1 h2 s hs) j (List.mem_range.2 hj)
    rw [Nat.beq_eq_false_of hne,hd] at h3
    simp only [beq_self_eq_true,Bool.not_true,Bool.or_false,Bool.false_or] at h3
    by_cases hlt:j < i
    · rw [if_pos hlt] at h3
      exact .inl ⟨hlt,h3⟩
    · rw [if_neg hlt] at h3
      cases ho:ops[j]? with
      | none=>rw [ho] at h3; cases h3
      | some oj=>rw [ho] at h3; exact .inr ⟨by omega,oj,rfl,h3⟩
  · have h2:=(get i o hi).2.2
    rw [if_neg (by omega)] at h2
    have h3:=List.all_eq_true.1 h2 j (List.mem_range.2 hj)
    rw [Bool.or_eq_true] at h3
    exact h3.imp (fun h=>by
      obtain ⟨x,hx,hb⟩:=List.any_eq_true.1 h
      rw [Nat.eq_of_beq_eq_true hb]; exact hx) id
/-! Plain turnings of an operand: the slot's value is told by the operand's,in whatever order. -/
def opnd (o:Oper):Option Nat:=match o.guard,o.op with
  | none,.move (.tmp s)=>some s
  | none,.assign (.tmp s)=>some s
  | none,.extract (.tmp s) _=>some s
  | _,_=>none
def LinkV (o:Oper) (x v:Value):Prop:=match o.op with
  | .move _=>v=x
  | .assign _=>v=x
  | .extract _ k=>∀ vs u,x=.tuple vs→vs[k]?=some u→v=u
  | _=>True
def safeB (ops:Array Oper) (n j s:Nat):Bool:=(List.range n).all fun i=>!(dstAt ops i == some s) || Nat.blt i j
theorem opnd_guard {o:Oper} {s:Nat} (h:opnd o=some s):o.guard=none:=by
  unfold opnd at h
  cases hg:o.guard with
  | none=>rfl
  | some g=>rw [hg] at h; simp at h
theorem opnd_looks {ops:Array Oper} {o:Oper} {s:Nat} (h:opnd o=some s):s∈looks ops o:=by
  obtain ⟨d,op,ty,pos,aft,g⟩:=o
  refine List.mem_append_left _ ?_
  cases g with
  | some g=>simp [opnd] at h
  | none=>cases op with
    | move x=>cases x <;> simp [opnd] at h <;> subst h <;> simp [tmpsOf,Op.operands]
    | assign x=>cases x <;> simp [opnd] at h <;> subst h <;> simp [tmpsOf,Op.operands]
    | extract x k=>cases x <;> simp [opnd] at h <;> subst h <;> simp [tmpsOf,Op.operands]
    | _=>simp [opnd] at h
theorem Yl.mono {P:Program} {R R':Value→World→Prop} {r:Result Next} (h:Yl P R r) (hm:∀ v w,R v w→R' v w):Yl P R' r:=by
  cases r with
  | ok nx w =>
    cases nx with
    | value v=>exact hm _ _ h
    | skip=>exact hm _ _ h
    | enter f args=>exact Calls.mono h fun e w'' ⟨v,he,hr⟩=>⟨v,he,hm _ _ hr⟩
    | _=>simp [Yl] at h
  | halt x w=>simp [Yl] at h
theorem yl_link {P:Program} {R:Value→World→Prop} {o:Oper} {a:Act} {w:World} {s:Nat} (ho:opnd o=some s) (h:Yl P R ((execOp a.eval o).run P w)) :
    Yl P (fun v w'=>R v w'∧LinkV o (a.tmps.getD s undef) v) ((execOp a.eval o).run P w):=by
  obtain ⟨d,op,ty,pos,aft,g⟩:=o
  cases g with
  | some g=>simp [opnd] at ho
  | none=>cases op with
    | move x=>cases x with
      | tmp s' =>
        simp [opnd] at ho; subst ho
        rw [c_move (P:=P) (w:=w) (x:=.tmp s') rfl] at h ⊢
        exact ⟨h,rfl⟩
      | _=>simp [opnd] at ho
    | assign x=>cases x with
      | tmp s' =>
        simp [opnd] at ho; subst ho
        rw [c_assign (P:=P) (w:=w) (x:=.tmp s') rfl] at h ⊢
        exact ⟨h,rfl⟩
      | _=>simp [opnd] at ho
    | extract x k=>cases x with
      | tmp s' =>
        simp [opnd] at ho; subst ho
        by_cases hex:∃ vs u,a.eval (.tmp s')=.tuple vs∧vs[k]?=some u
        · obtain ⟨vs,u,h1,h2⟩:=hex
          rw [c_extract (P:=P) (w:=w) h1 h2] at h ⊢
          refine ⟨h,fun vs' u' h3 h4=>?_⟩
          have h5:(Value.tuple vs)=.tuple vs':=h1.symm.trans h3
          cases h5
          rw [h2] at h4
          exact Option.some.inj h4
        · exact h.mono fun v w' hr=>⟨hr,fun vs u h3 h4=>absurd ⟨vs,u,h3,h4⟩ hex⟩
      | _=>simp [opnd] at ho
    | _=>simp [opnd] at ho
theorem getD_put {a:Act} {d s:Nat} {v:Value} (h:d ≠ s):(a.put (some d) v).tmps.getD s undef=a.tmps.getD s undef:=by
  simp [Act.put,Array.getD_eq_getD_getElem?,Array.getElem?_setIfInBounds,h]
def bldB (o:Oper):Bool:=match o.guard,o.op with
  | none,.build _ _=>true
  | _,_=>false
def Links (P:Program) (l:List Oper) (n:Nat) (a:Act):Prop :=
  (∀ j o d s,j < n→l[j]?=some o→o.dst=some d→opnd o=some s→safeB l.toArray n j s=true→∃ v,a.tmps[d]?=some v∧LinkV o (a.tmps.getD s undef) v) ∧
  ∀ j o d,j < n→l[j]?=some o→o.dst=some d→bldB o=true→(∀ s∈tmpsOf o,safeB l.toArray n j s=true)→∃ v w1 w2,a.tmps[d]?=some v∧(execOp a.eval o).run P w1=.ok (.value v) w2
theorem bldB_guard {o:Oper} (h:bldB o=true):o.guard=none:=by
  unfold bldB at h
  cases hg:o.guard with
  | none=>rfl
  | some g=>rw [hg] at h; simp at h
theorem yl_bld {P:Program} {R:Value→World→Prop} {o:Oper} {a:Act} {w:World} (ho:bldB o=true) (h:Yl P R ((execOp a.eval o).run P w)) :
    Yl P (fun v w'=>R v w'∧∃ w1 w2,(execOp a.eval o).run P w1=.ok (.value v) w2) ((execOp a.eval o).run P w):=by
  obtain ⟨d,op,ty,pos,aft,g⟩:=o
  cases g with
  | some g=>simp [bldB] at ho
  | none=>cases op with
    | build t ps =>
      cases hr:(execOp a.eval ⟨d,.build t ps,ty,pos,aft,none⟩).run P w with
      | ok nx w' =>
        cases nx with
        | value v=>rw [hr] at h; exact ⟨h,w,w',hr⟩
        | _ =>
          exfalso
          simp only [execOp,Sem.run_bind] at hr
          cases hb:(Instr.build t (ps.map fun q=>(q.1,a.eval q.2))).run P w <;> rw [hb] at hr <;> simp at hr
      | halt x w'=>rw [hr] at h; simp [Yl] at h
    | _=>simp [bldB] at ho
theorem lk_move {P:Program} {l:List Oper} {n j d s:Nat} {a:Act} {ty:TypeId} {pos:String} {aft:Array Edge} {v x:Value} (h:Links P l n a) (hj:j < n) (ho:l[j]?=some ⟨some d,.move (.tmp s),ty,pos,aft,none⟩) (hs:safeB l.toArray n j s=true)
    (hv:a.tmps[d]?=some v) (hx:a.tmps[s]?=some x):v=x:=by
  obtain ⟨u,h1,h2⟩:=h.1 j _ d s hj ho rfl rfl hs
  rw [hv] at h1
  obtain rfl:=Option.some.inj h1
  have h2:v=a.tmps.getD s undef:=h2
  rw [h2]
  simp [Array.getD_eq_getD_getElem?,hx]
theorem lk_assign {P:Program} {l:List Oper} {n j d s:Nat} {a:Act} {ty:TypeId} {pos:String} {aft:Array Edge} {v x:Value} (h:Links P l n a) (hj:j < n) (ho:l[j]?=some ⟨some d,.assign (.tmp s),ty,pos,aft,none⟩) (hs:safeB l.toArray n j s=true)
    (hv:a.tmps[d]?=some v) (hx:a.tmps[s]?=some x):v=x:=by
  obtain ⟨u,h1,h2⟩:=h.1 j _ d s hj ho rfl rfl hs
  rw [hv] at h1
  obtain rfl:=Option.some.inj h1
  have h2:v=a.tmps.getD s undef:=h2
  rw [h2]
  simp [Array.getD_eq_getD_getElem?,hx]
theorem lk_ext {P:Program} {l:List Oper} {n j d s k:Nat} {a:Act} {ty:TypeId} {pos:String} {aft:Array Edge} {v u:Value} {vs:Array Value} (h:Links P l n a) (hj:j < n) (ho:l[j]?=some ⟨some d,.extract (.tmp s) k,ty,pos,aft,none⟩) (hs:safeB l.toArray n j s=true)
    (hv:a.tmps[d]?=some v) (hx:a.tmps[s]?=some (.tuple vs)) (hu:vs[k]?=some u):v=u:=by
  obtain ⟨u',h1,h2⟩:=h.1 j _ d s hj ho rfl rfl hs
  rw [hv] at h1
  obtain rfl:=Option.some.inj h1
  exact h2 vs u (by simp [Array.getD_eq_getD_getElem?,hx]) hu
theorem lk_build {P:Program} {l:List Oper} {n j d:Nat} {a:Act} {t ty:TypeId} {ps:Array (Nat × Operand)} {pos:String} {aft:Array Edge} {v u:Value} (h:Links P l n a) (hj:j < n) (ho:l[j]?=some ⟨some d,.build t ps,ty,pos,aft,none⟩) (hs:((tmpsOf ⟨some d,.build t ps,ty,pos,aft,none⟩).all fun s=>safeB l.toArray n j s)=true)
    (hv:a.tmps[d]?=some v) (hr:∀ w,(execOp a.eval ⟨some d,.build t ps,ty,pos,aft,none⟩).run P w=.ok (.value u) w):v=u:=by
  obtain ⟨v',w1,w2,h1,h2⟩:=h.2 j _ d hj ho rfl rfl fun s hm=>List.all_eq_true.1 hs s hm
  rw [hv] at h1
  obtain rfl:=Option.some.inj h1
  rw [hr w1] at h2
  cases h2
  rfl
/-! the facts ahead of operation i -/
def factsC (ops:List Oper) (Ds:List DV) (Fc0:List (Nat × Value)):Nat→List (Nat × Value)
  | 0=>Fc0
  | i + 1=>match ops[i]?,Ds[i]? with
    | some o,some D=>(match o.dst with | some d=>addC (factsC ops Ds Fc0 i) d D | none=>factsC ops Ds Fc0 i)
    | _,_=>factsC ops Ds Fc0 i
def factsE (ops:List Oper) (Ds:List DV):Nat→Fes
  | 0=>[]
  | i + 1=>match ops[i]?,Ds[i]? with
    | some o,some D=>(match o.dst with | some d=>addE (factsE ops Ds i) d D | none=>factsE ops Ds i)
    | _,_=>factsE ops Ds i
theorem RG.parts {P:Program} {opsA:Array Oper} {N B1:Nat} {w1:World} {K:List (Nat × Value)→Fes→Prop} (Fc0:List (Nat × Value)):∀ (rest pre:List Oper) (Ds:List DV),pre.length=Ds.length →
    RG P opsA N B1 w1 K (factsC (pre++rest) Ds Fc0 pre.length) (factsE (pre++rest) Ds pre.length) rest →
    ∃ Ds':List DV,(Ds++Ds').length=(pre++rest).length∧K (factsC (pre++rest) (Ds++Ds') Fc0 (pre++rest).length) (factsE (pre++rest) (Ds++Ds') (pre++rest).length) ∧
      ∀ i o,pre.length≤i→(pre++rest)[i]?=some o→∃ d D,o.dst=some d∧(Ds++Ds')[i]?=some D∧Ob P opsA N B1 w1 (factsC (pre++rest) (Ds++Ds') Fc0 i) (factsE (pre++rest) (Ds++Ds') i) o D ∧
        fresh (factsC (pre++rest) (Ds++Ds') Fc0 i) (factsE (pre++rest) (Ds++Ds') i) d D
  | [],pre,Ds,hl,h=>by
    refine ⟨[],by simp [hl],?_,fun i o hi ho=>?_⟩
    · simpa [RG] using h
    · simp at ho
      have:=(List.getElem?_eq_some_iff.1 ho).1
      omega
  | o::rest,pre,Ds,hl,h=>by
    obtain ⟨d,D,hd,hob,hfr,hk⟩:=h
    have ext:∀ (X Y:List DV) (i:Nat),i≤X.length→factsC (pre++o::rest) (X++Y) Fc0 i=factsC (pre++o::rest) X Fc0 i∧factsE (pre++o::rest) (X++Y) i=factsE (pre++o::rest) X i:=by
      intro X Y i
      induction i with
      | zero=>intro _; exact ⟨rfl,rfl⟩
      | succ i ih =>
        intro hi
        have h1:=ih (by omega)
        have h2:(X++Y)[i]?=X[i]?:=List.getElem?_append_left (by omega)
        simp only [factsC,factsE,h2,h1.1,h1.2]
        exact ⟨trivial,trivial⟩
    have hget:(pre++o::rest)[pre.length]?=some o:=by simp
    have e1:=ext Ds [D] pre.length (by omega)
    have hDget:(Ds++[D])[pre.length]?=some D:=by rw [hl]; simp
    have hc:factsC (pre++o::rest) (Ds++[D]) Fc0 (pre.length + 1)=addC (factsC (pre++o::rest) Ds Fc0 pre.length) d D:=by
      simp only [factsC,hget,hDget,hd,e1.1]
    have he:factsE (pre++o::rest) (Ds++[D]) (pre.length + 1)=addE (factsE (pre++o::rest) Ds pre.length) d D:=by
      simp only [factsE,hget,hDget,hd,e1.2]
    have heq:pre++o::rest=(pre++[o])++rest:=by simp
    have hk':RG P opsA N B1 w1 K (factsC ((pre++[o])++rest) (Ds++[D]) Fc0 (pre++[o]).length) (factsE ((pre++[o])++rest) (Ds++[D]) (pre++[o]).length) rest:=by
      rw [← heq,show (pre++[o]).length=pre.length + 1 by simp,hc,he]
      exact hk
    obtain ⟨Ds',hl',hK',hall⟩:=RG.parts Fc0 rest (pre++[o]) (Ds++[D]) (by simp [hl]) hk'
    rw [← heq] at hl' hK' hall
    rw [List.append_assoc] at hl' hK' hall
    refine ⟨[D]++Ds',hl',hK',fun i o' hi ho'=>?_⟩
    by_cases hip:i=pre.length
    · subst hip
      rw [hget] at ho'
      obtain rfl:=Option.some.inj ho'
      have e2:=ext Ds ([D]++Ds') pre.length (by omega)
      refine ⟨d,D,hd,?_,?_,?_⟩
      · rw [List.getElem?_append_right (by omega)]
        simp [hl]
      · rw [e2.1,e2.2]; exact hob
      · rw [e2.1,e2.2]; exact hfr
    · exact hall i o' (by simp; omega) ho'
end Go.Fw
end

section
/- The walk of a region that draws its order holds for every order. -/
namespace Go.Fw
open Go
section
variable {P:Program} {l:List Oper} {n N B1:Nat} {w1:World} {Fc0:List (Nat × Value)} {Ds:List DV} {Q:Exit→Act→World→Prop} {late:List Nat}
theorem factsC_src {lh:List Oper} {ds:Nat→Nat} (hds:∀ i o,lh[i]?=some o→o.dst=some (ds i)) (hl:Ds.length=lh.length) (hfr:∀ i o D,lh[i]?=some o→Ds[i]?=some D→fresh (factsC lh Ds Fc0 i) (factsE lh Ds i) (ds i) D) :
    ∀ i,i≤lh.length→∀ s v,look (factsC lh Ds Fc0 i) s=some v→(∃ j,j < i∧ds j=s∧Ds[j]?=some (.c v))∨(look Fc0 s=some v∧∀ j,j < i→ds j ≠ s):=by
  intro i
  induction i with
  | zero=>intro _ s v h; exact .inr ⟨h,fun j hj=>by omega⟩
  | succ i ih =>
    intro hi s v h
    have hlt:i < lh.length:=by omega
    have ho:lh[i]?=some lh[i]:=List.getElem?_eq_getElem hlt
    have hD:Ds[i]?=some (Ds[i]'(by omega)):=List.getElem?_eq_getElem (by omega)
    have hd:=hds i _ ho
    have hf:=hfr i _ _ ho hD
    simp only [factsC,ho,hD,hd] at h
    generalize hDD:Ds[i]'(by omega)=D at *
    cases D with
    | c u =>
      simp only [addC,look] at h
      by_cases e:ds i=s
      · subst e
        simp at h
        subst h
        exact .inl ⟨i,by omega,rfl,hD⟩
      · rw [Nat.beq_eq_false_of e] at h
        rcases ih (by omega) s v h with ⟨j,hj,h1,h2⟩ | ⟨h1,h2⟩
        · exact .inl ⟨j,by omega,h1,h2⟩
        · exact .inr ⟨h1,fun j hj=>by
            by_cases hji:j=i
            · subst hji; exact e
            · exact h2 j (by omega)⟩
    | e E st =>
      simp only [addC] at h
      simp only [fresh] at hf
      have e:ds i ≠ s:=fun e=>by subst e; rw [hf] at h; cases h
      rcases ih (by omega) s v h with ⟨j,hj,h1,h2⟩ | ⟨h1,h2⟩
      · exact .inl ⟨j,by omega,h1,h2⟩
      · exact .inr ⟨h1,fun j hj=>by
          by_cases hji:j=i
          · subst hji; exact e
          · exact h2 j (by omega)⟩
theorem factsE_src {lh:List Oper} {ds:Nat→Nat} (hds:∀ i o,lh[i]?=some o→o.dst=some (ds i)) (hl:Ds.length=lh.length) :
    ∀ i,i≤lh.length→∀ s E,lookE (factsE lh Ds i) s=some E→∃ j,j < i∧ds j=s∧∃ st,Ds[j]?=some (.e E st):=by
  intro i
  induction i with
  | zero=>intro _ s v h; simp [factsE,lookE] at h
  | succ i ih =>
    intro hi s v h
    have hlt:i < lh.length:=by omega
    have ho:lh[i]?=some lh[i]:=List.getElem?_eq_getElem hlt
    have hD:Ds[i]?=some (Ds[i]'(by omega)):=List.getElem?_eq_getElem (by omega)
    have hd:=hds i _ ho
    simp only [factsE,ho,hD,hd] at h
    generalize hDD:Ds[i]'(by omega)=D at *
    cases D with
    | c u =>
      simp only [addE] at h
      obtain ⟨j,hj,h1,h2⟩:=ih (by omega) s v h
      exact ⟨j,by omega,h1,h2⟩
    | e E st =>
      simp only [addE,lookE] at h
      by_cases e:ds i=s
      · subst e
        simp at h
        subst h
        exact ⟨i,by omega,rfl,st,hD⟩
      · rw [Nat.beq_eq_false_of e] at h
        obtain ⟨j,hj,h1,h2⟩:=ih (by omega) s v h
        exact ⟨j,by omega,h1,h2⟩
/-! the tail: the order of the text -/
theorem wpAny_tail (hok:RgOk l.toArray n late):∀ (m t:Nat) (listed:Array Bool) (a:Act) (w:World),m + t=l.length→n≤t→listed.size=l.length→(∀ j,j < l.length→listed.getD j true=decide (j < t)) →
    wpList P l.toArray Q (l.drop t) a w→wpAny P .any l.toArray Q m listed a w
  | 0,t,listed,a,w,hm,hn,hsz,hls,h=>by
    have hr:Region.ready .any l.toArray listed=[]:=by
      apply List.eq_nil_iff_forall_not_mem.2
      intro i hi
      obtain ⟨h1,o,ho,_⟩:=mem_ready.1 hi
      have hlt:i < l.length:=by simpa using (Array.getElem?_eq_some_iff.1 ho).1
      rw [hls i hlt] at h1
      simp at h1
      omega
    refine ⟨hr,?_⟩
    rw [List.drop_eq_nil_of_le (by omega)] at h
    exact h
  | m + 1,t,listed,a,w,hm,hn,hsz,hls,h=>by
    have htl:t < l.length:=by omega
    have hready:∀ i,i∈Region.ready .any l.toArray listed→i=t:=by
      intro i hi
      obtain ⟨h1,o,ho,hall⟩:=mem_ready.1 hi
      have hlt:i < l.length:=by simpa using (Array.getElem?_eq_some_iff.1 ho).1
      rw [hls i hlt] at h1
      simp at h1
      by_cases e:i=t
      · exact e
      · exfalso
        have key:=anc_closed (ops:=l.toArray) (S:=fun j=>j < t) (fun i' o' hi' hs' e he hb=>Nat.lt_trans (hok.back i' o' hi' e he hb) hs') 24 o t (fun e he hb=>by
          have h3:=hall e he hb
          have hlt3:=hok.back i o ho e he hb
          have h4:=hls e.on (by omega)
          simp [show e.on < listed.size by omega] at h3 h4
          rw [h3] at h4
          simpa using h4) ((hok.tail i o ho (by omega) t (by omega)).resolve_left fun h=>by have:=hok.lateLt t h; omega)
        omega
    have hmem:t∈Region.ready .any l.toArray listed:=by
      refine mem_ready.2 ⟨by rw [hls t htl]; simp,l[t],by simp [htl],fun e he hb=>?_⟩
      have:=hok.back t l[t] (by simp [htl]) e he hb
      have h4:=hls e.on (by omega)
      simp [show e.on < listed.size by omega] at h4 ⊢
      rw [h4]
      simpa using this
    have hstep:∀ a' w',wpList P l.toArray Q (l.drop (t + 1)) a' w'→wpAny P .any l.toArray Q m (listed.setIfInBounds t true) a' w':=fun a' w' h' =>
      wpAny_tail hok m (t + 1) _ a' w' (by omega) (by omega) (by simpa using hsz) (fun j hj=>by
        by_cases e:t=j
        · subst e
          simp [show t < listed.size by omega]
        · rw [getD_set_ne true e,hls j hj]
          simp
          omega) h'
    refine ⟨(fun h0=>by rw [h0] at hmem; cases hmem),fun i hi=>?_⟩
    obtain rfl:=hready i hi
    rw [List.drop_eq_getElem_cons htl] at h
    unfold wpList at h
    unfold wpOp
    have hg:l.toArray[i]?=some l[i]:=by simp [htl]
    rw [hg]
    dsimp only
    split
    · rename_i hw
      rw [if_pos hw] at h
      exact h.imp (Oper.wp_mono hstep) id
    · rename_i hw
      rw [if_neg hw] at h
      exact hstep _ _ h
/-! the head: any order -/
structure Inv (P:Program) (l:List Oper) (n N B1:Nat) (w1:World) (Fc0:List (Nat × Value)) (Ds:List DV) (vals:Nat→Value) (ents:Nat→List Ent) (listed:Array Bool) (a:Act) (w:World):Prop where
  size:listed.size=l.length
  know:a.tmps.size=N∧a.defers=[]
  done:∀ j d D,j < n→listed.getD j false=true→dstAt l.toArray j=some d→Ds[j]?=some D→a.tmps[d]?=some (vals j)∧D.ok (vals j) (ents j) w
  base:∀ s v,look Fc0 s=some v→(∀ j,j < n→listed.getD j false=true→dstAt l.toArray j ≠ some s)→a.tmps[s]?=some v
  has:Has B1 w ((List.range n).flatMap fun j=>if listed.getD j false=true then ents j else [])
  fr:Fr0 w1 w
  tail:∀ t,n≤t→listed.getD t false=false
  closed:∀ j o,l[j]?=some o→listed.getD j false=true→∀ e∈o.after,Region.binds .any e=true→listed.getD e.on false=true
  links:∀ j o s,j < n→l[j]?=some o→listed.getD j false=true→opnd o=some s→safeB l.toArray n j s=true→LinkV o (a.tmps.getD s undef) (vals j)
  links2:∀ j o,j < n→l[j]?=some o→listed.getD j false=true→bldB o=true→(∀ s∈tmpsOf o,safeB l.toArray n j s=true)→∃ w1 w2,(execOp a.eval o).run P w1=.ok (.value (vals j)) w2
theorem flatMap_same {α:Type} (f f':Nat→List α):∀ (r:List Nat),(∀ j∈r,f' j=f j)→r.flatMap f'=r.flatMap f
  | [],_=>rfl
  | x::t,h=>by simp only [List.flatMap_cons]; rw [h x (by simp),flatMap_same f f' t fun j hj=>h j (by simp [hj])]
theorem flatMap_set_perm {α:Type} (f f':Nat→List α) (i:Nat) (X:List α) (hi:f i=[]) (hi':f' i=X) (hne:∀ j,j ≠ i→f' j=f j):∀ (r:List Nat),r.Nodup→i∈r→(r.flatMap f').Perm (X++r.flatMap f)
  | [],_,h=>by simp at h
  | x::t,hnd,h=>by
    rw [List.nodup_cons] at hnd
    by_cases e:x=i
    · subst e
      have:t.flatMap f'=t.flatMap f:=flatMap_same f f' t fun j hj=>hne j (fun e=>hnd.1 (e ▸ hj))
      simp [hi,hi',this]
    · have hit:i∈t:=by simpa [Ne.symm e] using h
      have ih:=flatMap_set_perm f f' i X hi hi' hne t hnd.2 hit
      simp only [List.flatMap_cons,hne x e]
      refine (List.Perm.append_left _ ih).trans ?_
      rw [← List.append_assoc,← List.append_assoc]
      exact List.Perm.append_right _ List.perm_append_comm
theorem sublist_flatMap {α:Type} (f:Nat→List α) (i:Nat):∀ (r:List Nat),i∈r→(f i).Sublist (r.flatMap f)
  | [],h=>by simp at h
  | x::t,h=>by
    simp only [List.flatMap_cons]
    by_cases e:i=x
    · subst e; exact List.sublist_append_left _ _
    · exact (sublist_flatMap f i t (by simpa [e] using h)).trans (List.sublist_append_right _ _)
theorem mem_tmpsOf {o:Oper} {s:Nat} (h:Operand.tmp s∈o.op.operands):s∈tmpsOf o:=List.mem_filterMap.2 ⟨.tmp s,by simpa using h,rfl⟩
theorem not_select {o:Oper} (h:notSelect o=true):∀ cs b,o.op ≠ .select cs b:=by
  intro cs b e
  simp [notSelect,e] at h
theorem getD_both_iff {listed:Array Bool} {j:Nat} (h:j < listed.size):listed.getD j true=listed.getD j false:=by simp [h]
theorem Inv.step0 {vals:Nat→Value} {ents:Nat→List Ent} {listed:Array Bool} {a:Act} {w:World} {i:Nat} {o:Oper} (hok:RgOk l.toArray n late) (hl:Ds.length=n)
    (hparts:∀ i o,i < n→l[i]?=some o→∃ d D,o.dst=some d∧Ds[i]?=some D∧Ob P l.toArray N B1 w1 (factsC (l.take n) Ds Fc0 i) (factsE (l.take n) Ds i) o D∧fresh (factsC (l.take n) Ds Fc0 i) (factsE (l.take n) Ds i) d D)
    (hN:∀ i o d,i < n→l[i]?=some o→o.dst=some d→d < N) (hB:B1≤w1.heap.size)
    (inv:Inv P l n N B1 w1 Fc0 Ds vals ents listed a w) (hi:i < n) (hr:i∈Region.ready .any l.toArray listed)
    (hol:l[i]?=some o) :
    (Region.wanted o (yielded l.toArray a.tmps)=true∧Yl P (fun v w'=>∃ L',Inv P l n N B1 w1 Fc0 Ds (fun j=>if j=i then v else vals j) (fun j=>if j=i then L' else ents j) (listed.setIfInBounds i true) (a.put o.dst v) w') ((execOp a.eval o).run P w)∧(needQ o=true→∃ v,(execOp a.eval o).run P w=.ok (.value v) w)) ∨
    (Region.wanted o (yielded l.toArray a.tmps)=false∧Inv P l n N B1 w1 Fc0 Ds (fun j=>if j=i then undef else vals j) (fun j=>if j=i then [] else ents j) (listed.setIfInBounds i true) (a.put o.dst undef) w):=by
  obtain ⟨hun,o',ho,hall⟩:=mem_ready.1 hr
  have hil:i < l.length:=by have:=hok.le; simp at this; omega
  have hol':l[i]?=some o':=by simpa using ho
  rw [hol] at hol'
  obtain rfl:=Option.some.inj hol'
  have hunf:listed.getD i false=false:=by rw [← getD_both_iff (by rw [inv.size]; exact hil)]; exact hun
  obtain ⟨d,D,hd,hD,hob,hfr⟩:=hparts i o hi hol
  have hdi:dstAt l.toArray i=some d:=by simp [dstAt,hol,hd]
  -- the slots, as the text has them
  have hds:∃ ds:Nat→Nat,∀ j,j < n→dstAt l.toArray j=some (ds j):=by
    refine ⟨fun j=>(dstAt l.toArray j).getD 0,fun j hj=>?_⟩
    have hjl:j < l.length:=by have:=hok.le; simp at this; omega
    obtain ⟨d',hd'⟩:=hok.dst j l[j] (by simp [hjl]) hj
    simp [dstAt,hjl,hd']
  obtain ⟨ds,hds⟩:=hds
  have htake:(l.take n).length=n:=by have:=hok.le; simp at this; simp [this]
  have hds':∀ j o,(l.take n)[j]?=some o→o.dst=some (ds j):=by
    intro j o' hj
    have hjn:j < n:=by have:=(List.getElem?_eq_some_iff.1 hj).1; omega
    rw [List.getElem?_take_of_lt hjn] at hj
    have:=hds j hjn
    simpa [dstAt,hj] using this
  have hfr':∀ j o D,(l.take n)[j]?=some o→Ds[j]?=some D→fresh (factsC (l.take n) Ds Fc0 j) (factsE (l.take n) Ds j) (ds j) D:=by
    intro j o' D' hj hDj
    have hjn:j < n:=by have:=(List.getElem?_eq_some_iff.1 hj).1; omega
    have hj':=hj
    rw [List.getElem?_take_of_lt hjn] at hj'
    obtain ⟨d2,D2,h1,h2,_,h4⟩:=hparts j o' hjn hj'
    rw [hDj] at h2
    obtain rfl:=Option.some.inj h2
    have:=hds' j o' hj
    rw [h1] at this
    obtain rfl:=Option.some.inj this
    exact h4
  have listed_of:∀ j s,j < n→j ≠ i→s∈looks l.toArray o→dstAt l.toArray j=some s→(j < i∧listed.getD j false=true)∨(i < j∧listed.getD j false=false):=by
    intro j s hj hne hs hdj
    rcases hok.use i o s j ho hi hs hj hne hdj with ⟨h1,h2⟩ | ⟨h1,oj,h2,h3⟩
    · obtain ⟨e,he,hb,hon⟩:=waits_spec h2
      exact .inl ⟨h1,hon ▸ hall e he hb⟩
    · refine .inr ⟨h1,?_⟩
      obtain ⟨e,he,hb,hon⟩:=waits_spec h3
      cases hj2:listed.getD j false with
      | false=>rfl
      | true =>
        have:=inv.closed j oj (by simpa using h2) hj2 e he hb
        rw [hon,hunf] at this
        cases this
  have valueC:∀ s v,s∈looks l.toArray o→look (factsC (l.take n) Ds Fc0 i) s=some v→a.tmps[s]?=some v:=by
    intro s v hs hv
    rcases factsC_src (Fc0:=Fc0) hds' (by rw [hl,htake]) hfr' i (by omega) s v hv with ⟨j,hj,h1,h2⟩ | ⟨h1,h2⟩
    · have hjn:j < n:=by omega
      rcases listed_of j s hjn (by omega) hs (by rw [hds j hjn,h1]) with ⟨_,h3⟩ | ⟨h3,_⟩
      · obtain ⟨h4,h5⟩:=inv.done j s _ hjn h3 (by rw [hds j hjn,h1]) h2
        rw [h4,h5.1]
      · omega
    · refine inv.base s v h1 fun j hjn hj2 hdj=>?_
      by_cases hji:j=i
      · subst hji; rw [hunf] at hj2; cases hj2
      · rcases listed_of j s hjn hji hs hdj with ⟨h3,_⟩ | ⟨_,h3⟩
        · rw [hds j hjn] at hdj
          exact h2 j h3 (Option.some.inj hdj)
        · rw [h3] at hj2; cases hj2
  have hwant:∀ b,wantedAs l.toArray (factsC (l.take n) Ds Fc0 i) o=some b→Region.wanted o (yielded l.toArray a.tmps)=b:=by
    intro b hb
    unfold wantedAs at hb
    unfold Region.wanted
    cases hg:o.guard with
    | none=>rw [hg] at hb; simpa using hb
    | some gw =>
      obtain ⟨j,wt⟩:=gw
      rw [hg] at hb
      dsimp only at hb ⊢
      cases hs:(l.toArray[j]?).bind (·.dst) with
      | none=>rw [hs] at hb; simp at hb
      | some s =>
        rw [hs] at hb
        simp only [Option.bind_some] at hb
        cases hv:look (factsC (l.take n) Ds Fc0 i) s with
        | none=>rw [hv] at hb; simp at hb
        | some v =>
          rw [hv] at hb
          have h5:=valueC s _ (List.mem_append_right _ (by rw [hg]; dsimp only; rw [hs]; simp)) hv
          unfold yielded
          rw [hs]
          simp only [Option.bind_some,h5]
          cases v with
          | bool c =>
            simp at hb
            rw [← hb]
            cases c <;> cases wt <;> rfl
          | _ =>
            simp at hb
            subst hb
            rfl
  have next:∀ v L' w',D.ok v L' w'→Fr0 w w'→Has w.heap.size w' L'→(∀ s,opnd o=some s→LinkV o (a.tmps.getD s undef) v)→(bldB o=true→∃ w1 w2,(execOp a.eval o).run P w1=.ok (.value v) w2)→Inv P l n N B1 w1 Fc0 Ds (fun j=>if j=i then v else vals j) (fun j=>if j=i then L' else ents j) (listed.setIfInBounds i true) (a.put (some d) v) w':=by
    intro v L' w' hv hf hn hlk hlb
    have hdN:=hN i o d hi hol hd
    refine ⟨by simpa using inv.size,⟨by simpa [Act.put] using inv.know.1,inv.know.2⟩,fun j dj Dj hj hlj hdj hDj=>?_,fun s u hu hne=>?_,?_,inv.fr.trans0 hf,fun t ht=>?_,fun j oj hj hlj e he hb=>?_,fun j oj s hj hlj hlst hos hsf=>?_,fun j oj hj hlj hlst hbj hsf=>?_⟩
    · by_cases hji:j=i
      · subst hji
        rw [hdi] at hdj
        obtain rfl:=Option.some.inj hdj
        rw [hD] at hDj
        obtain rfl:=Option.some.inj hDj
        refine ⟨?_,by simpa using hv⟩
        simp [Act.put,inv.know.1,hdN]
      · rw [getD_set_ne false (Ne.symm hji)] at hlj
        obtain ⟨h1,h2⟩:=inv.done j dj Dj hj hlj hdj hDj
        have hne:d ≠ dj:=fun e=>hji (hok.uniq j i d hj hi (by rw [hdj,e]) hdi)
        refine ⟨?_,by simpa [hji] using DV.ok_stable hf h2⟩
        simp only [Act.put,if_neg hji]
        rw [Array.getElem?_setIfInBounds,if_neg hne]
        exact h1
    · have hsd:d ≠ s:=fun e=>hne i hi (by simp [show i < listed.size by rw [inv.size]; exact hil]) (by rw [hdi,e])
      simp only [Act.put]
      rw [Array.getElem?_setIfInBounds,if_neg hsd]
      refine inv.base s u hu fun j hj hlj=>?_
      by_cases hji:j=i
      · subst hji; rw [hunf] at hlj; cases hlj
      · exact hne j hj (by rw [getD_set_ne false (Ne.symm hji)]; exact hlj)
    · have hp:=flatMap_set_perm (fun j=>if listed.getD j false=true then ents j else []) (fun j=>if (listed.setIfInBounds i true).getD j false=true then (if j=i then L' else ents j) else []) i L'
        (by simp only [hunf]; simp) (by simp [show i < listed.size by rw [inv.size]; exact hil]) (fun j hji=>by simp only [getD_set_ne false (Ne.symm hji),if_neg hji]) (List.range n) List.nodup_range (List.mem_range.2 hi)
      exact (inv.has.new hf (Nat.le_trans hB inv.fr.size) hn).perm hp
    · rw [getD_set_ne false (by omega)]
      exact inv.tail t ht
    · by_cases hji:j=i
      · subst hji
        rw [hol] at hj
        obtain rfl:=Option.some.inj hj
        have hlt:=hok.back j o ho e he hb
        rw [getD_set_ne false (by omega)]
        exact hall e he hb
      · rw [getD_set_ne false (Ne.symm hji)] at hlj
        have h9:=inv.closed j oj hj hlj e he hb
        by_cases hei:i=e.on
        · rw [← hei,hunf] at h9; cases h9
        · rw [getD_set_ne false hei]; exact h9
    · have hsi:d=s→i < j:=fun e=>by
        have h1:=List.all_eq_true.1 hsf i (List.mem_range.2 hi)
        rw [hdi,e] at h1
        simpa [Nat.blt_eq] using h1
      by_cases hji:j=i
      · subst hji
        rw [hol] at hlj
        obtain rfl:=Option.some.inj hlj
        have hne:d ≠ s:=fun e=>absurd (hsi e) (by omega)
        rw [getD_put hne]
        simpa using hlk s hos
      · rw [getD_set_ne false (Ne.symm hji)] at hlst
        have hne:d ≠ s:=fun e=>by
          have hlt:=hsi e
          rcases hok.use j oj s i (by simpa using hlj) hj (opnd_looks hos) hi (Ne.symm hji) (by rw [hdi,e]) with ⟨_,h2⟩ | ⟨h2,_⟩
          · obtain ⟨e2,he2,hb2,hon⟩:=waits_spec h2
            have:=inv.closed j oj hlj hlst e2 he2 hb2
            rw [hon,hunf] at this
            cases this
          · omega
        rw [getD_put hne]
        simp only [if_neg hji]
        exact inv.links j oj s hj hlj hlst hos hsf
    · have hcg:∀ q,(∀ s∈tmpsOf q,d ≠ s)→notSelect q=true→execOp (a.put (some d) v).eval q=execOp a.eval q:=fun q hq hns=>execOp_congr q (not_select hns) fun x hx=>by
        cases x with
        | tmp s =>
          show (a.put (some d) v).tmps.getD s undef=a.tmps.getD s undef
          exact getD_put (hq s (mem_tmpsOf hx))
        | _=>rfl
      have hns:notSelect oj=true:=by
        obtain ⟨d2,op2,ty2,pos2,aft2,g2⟩:=oj
        cases g2 with
        | some g=>simp [bldB] at hbj
        | none=>cases op2 <;> first | (simp [bldB] at hbj; done) | rfl
      have hsi:∀ s∈tmpsOf oj,d=s→i < j:=fun s hs e=>by
        have h1:=List.all_eq_true.1 (hsf s hs) i (List.mem_range.2 hi)
        rw [hdi,e] at h1
        simpa [Nat.blt_eq] using h1
      by_cases hji:j=i
      · subst hji
        rw [hol] at hlj
        obtain rfl:=Option.some.inj hlj
        rw [hcg o (fun s hs e=>absurd (hsi s hs e) (by omega)) hns]
        simpa using hlb hbj
      · rw [getD_set_ne false (Ne.symm hji)] at hlst
        have hne:∀ s∈tmpsOf oj,d ≠ s:=fun s hs e=>by
          have hlt:=hsi s hs e
          rcases hok.use j oj s i (by simpa using hlj) hj (List.mem_append_left _ hs) hi (Ne.symm hji) (by rw [hdi,e]) with ⟨_,h2⟩ | ⟨h2,_⟩
          · obtain ⟨e2,he2,hb2,hon⟩:=waits_spec h2
            have:=inv.closed j oj hlj hlst e2 he2 hb2
            rw [hon,hunf] at this
            cases this
          · omega
        rw [hcg oj hne hns]
        simp only [if_neg hji]
        exact inv.links2 j oj hj hlj hlst hbj hsf
  obtain ⟨hob,hqt⟩:=hob
  rcases hob with ⟨hw,hy⟩ | ⟨hw,rfl⟩
  · refine .inl ⟨hwant true hw,?_⟩
    -- a frame that has the text's facts, and that the operation cannot tell from this one
    obtain ⟨a',hsz,hdf,ha1,ha2⟩:∃ a':Act,a'.tmps.size=N∧a'.defers=[]∧(∀ s v,look (factsC (l.take n) Ds Fc0 i) s=some v→a'.tmps[s]?=some v)∧(∀ s,s∈tmpsOf o→a'.tmps[s]?=a.tmps[s]?):=by
      have hlk:∀ s v,look (factsC (l.take n) Ds Fc0 i) s=some v→s < N:=by
        intro s v hv
        rcases factsC_src (Fc0:=Fc0) hds' (by rw [hl,htake]) hfr' i (by omega) s v hv with ⟨j,hj,h1,h2⟩ | ⟨h1,h2⟩
        · have hjl:j < l.length:=by omega
          exact hN j l[j] s (by omega) (by simp [hjl]) (by have:=hds j (by omega); rw [h1] at this; simpa [dstAt,hjl] using this)
        · by_cases hex:∃ j,j < n∧dstAt l.toArray j=some s
          · obtain ⟨j,hj,hdj⟩:=hex
            have hjl:j < l.length:=by have:=hok.le; simp at this; omega
            exact hN j l[j] s hj (by simp [hjl]) (by simpa [dstAt,hjl] using hdj)
          · have:=inv.base s v h1 (fun j hj _ hdj=>hex ⟨j,hj,hdj⟩)
            have:=(Array.getElem?_eq_some_iff.1 this).1
            rw [inv.know.1] at this
            exact this
      refine ⟨⟨Array.ofFn (n:=N) fun s=>if (tmpsOf o).any (Nat.beq s.1)=true then a.tmps.getD s.1 undef else (look (factsC (l.take n) Ds Fc0 i) s.1).getD (a.tmps.getD s.1 undef),[]⟩,by simp,rfl,fun s v hv=>?_,fun s hs=>?_⟩
      · have hsN:=hlk s v hv
        simp only [Array.getElem?_ofFn,hsN,dif_pos]
        by_cases hu:(tmpsOf o).any (Nat.beq s)=true
        · rw [if_pos hu]
          have hmem:s∈tmpsOf o:=by
            obtain ⟨x,hx,hb⟩:=List.any_eq_true.1 hu
            rw [Nat.eq_of_beq_eq_true hb]; exact hx
          have:=valueC s v (List.mem_append_left _ hmem) hv
          simp [this]
        · rw [if_neg hu,hv]; rfl
      · have hu:(tmpsOf o).any (Nat.beq s)=true:=List.any_eq_true.2 ⟨s,hs,by simp⟩
        by_cases hsN:s < N
        · simp only [Array.getElem?_ofFn,hsN,dif_pos]
          rw [if_pos hu]
          have:s < a.tmps.size:=by rw [inv.know.1]; exact hsN
          simp [this]
        · simp only [Array.getElem?_ofFn,hsN]
          rw [Array.getElem?_eq_none (by rw [inv.know.1]; omega)]
          simp
    have hev:execOp a.eval o=execOp a'.eval o:=by
      refine execOp_congr o (not_select (hok.sel i o ho)) fun x hx=>?_
      cases x with
      | tmp s =>
        have:=ha2 s (mem_tmpsOf hx)
        simp only [Act.eval,Array.getD_eq_getD_getElem?,this]
      | _=>rfl
    have hrc:RC N (factsC (l.take n) Ds Fc0 i) (factsE (l.take n) Ds i) o B1 w1 a' w:=by
      refine ⟨⟨hsz,hdf,ha1⟩,inv.fr,fun s E hE hu=>?_⟩
      have hmem:s∈tmpsOf o:=by
        obtain ⟨x,hx,hb⟩:=List.any_eq_true.1 hu
        rw [Nat.eq_of_beq_eq_true hb]; exact hx
      obtain ⟨j,hj,h1,_,h2⟩:=factsE_src hds' (by rw [hl,htake]) i (by omega) s E hE
      have hjn:j < n:=by omega
      rcases listed_of j s hjn (by omega) (List.mem_append_left _ hmem) (by rw [hds j hjn,h1]) with ⟨_,h3⟩ | ⟨h3,_⟩
      · obtain ⟨h4,h5⟩:=inv.done j s _ hjn h3 (by rw [hds j hjn,h1]) h2
        have hsub:=sublist_flatMap (fun j=>if listed.getD j false=true then ents j else []) j (List.range n) (List.mem_range.2 hjn)
        simp only [h3,if_true] at hsub
        exact ⟨vals j,ents j,by rw [ha2 s hmem]; exact h4,h5,inv.has.pick hsub⟩
      · omega
    have hyl:=hy a' w hrc
    rw [← hev] at hyl
    have hyl1:Yl P (fun v w'=>Meets D w v w'∧∀ s,opnd o=some s→LinkV o (a.tmps.getD s undef) v) ((execOp a.eval o).run P w):=by
      cases ho2:opnd o with
      | none=>exact hyl.mono fun v w' h=>⟨h,fun s hs=>by cases hs⟩
      | some s=>exact (yl_link ho2 hyl).mono fun v w' h=>⟨h.1,fun s' hs'=>by cases hs'; exact h.2⟩
    have hyl2:Yl P (fun v w'=>(Meets D w v w'∧∀ s,opnd o=some s→LinkV o (a.tmps.getD s undef) v)∧(bldB o=true→∃ w1 w2,(execOp a.eval o).run P w1=.ok (.value v) w2)) ((execOp a.eval o).run P w):=by
      cases hb2:bldB o with
      | false=>exact hyl1.mono fun v w' h=>⟨h,fun h=>by cases h⟩
      | true=>exact (yl_bld hb2 hyl1).mono fun v w' h=>⟨h.1,fun _=>h.2⟩
    exact ⟨hyl2.mono fun v w' ⟨⟨⟨L',h1,h2,h3⟩,h4⟩,h5⟩=>⟨L',by rw [hd]; exact next v L' w' h1 h2 h3 h4 h5⟩,fun hq=>by
      obtain ⟨v,hv⟩:=hqt hq a' w hrc
      exact ⟨v,by rw [hev]; exact hv⟩⟩
  · refine .inr ⟨hwant false hw,?_⟩
    rw [hd]
    exact next undef [] w ⟨rfl,rfl⟩ (.refl _ _) (.nil _ _) (fun s hs=>by
      unfold wantedAs at hw
      rw [opnd_guard hs] at hw
      cases hw) fun hb=>by
      unfold wantedAs at hw
      rw [bldB_guard hb] at hw
      cases hw
theorem Inv.step {vals:Nat→Value} {ents:Nat→List Ent} {listed:Array Bool} {a:Act} {w:World} {i:Nat} {K:Act→World→Prop} (hok:RgOk l.toArray n late) (hl:Ds.length=n)
    (hparts:∀ i o,i < n→l[i]?=some o→∃ d D,o.dst=some d∧Ds[i]?=some D∧Ob P l.toArray N B1 w1 (factsC (l.take n) Ds Fc0 i) (factsE (l.take n) Ds i) o D∧fresh (factsC (l.take n) Ds Fc0 i) (factsE (l.take n) Ds i) d D)
    (hN:∀ i o d,i < n→l[i]?=some o→o.dst=some d→d < N) (hB:B1≤w1.heap.size)
    (inv:Inv P l n N B1 w1 Fc0 Ds vals ents listed a w) (hi:i < n) (hr:i∈Region.ready .any l.toArray listed)
    (k:∀ v L' a' w',Inv P l n N B1 w1 Fc0 Ds (fun j=>if j=i then v else vals j) (fun j=>if j=i then L' else ents j) (listed.setIfInBounds i true) a' w'→K a' w'):wpOp P l.toArray Q i K a w:=by
  obtain ⟨hun,o,ho,hall⟩:=mem_ready.1 hr
  have hol:l[i]?=some o:=by simpa using ho
  unfold wpOp
  rw [ho]
  dsimp only
  rcases inv.step0 hok hl hparts hN hB hi hr hol with ⟨hw,hy,_⟩ | ⟨hw,h⟩
  · rw [if_pos hw]
    left
    exact wp_of_yl hy fun v w' ⟨L',h⟩=>k v L' _ _ h
  · rw [hw]
    simp only [Bool.false_eq_true,if_false]
    exact k undef [] _ _ h
end
end Go.Fw
end

section
/- The region's law; and the laws by which its walk goes. -/
namespace Go.Fw
open Go
def FeOk:Fes→Act→World→List Ent→Prop
  | [],_,_,L=>L=[]
  | (n,E)::t,a,w,L=>∃ v L1 L2,a.tmps[n]?=some v∧E v L1 w∧FeOk t a w L2∧L=L1++L2
def dstB (l:List Oper) (N:Nat):Bool:=l.all fun o=>match o.dst with | none=>true | some d=>Nat.blt d N
section
variable {P:Program} {l:List Oper} {n N B1:Nat} {w1:World} {Fc0:List (Nat × Value)} {Ds:List DV} {Q:Exit→Act→World→Prop} {late:List Nat}
theorem exists_ready (hok:RgOk l.toArray n late) {listed:Array Bool} (hsz:listed.size=l.length):∀ j,j < l.length→listed.getD j false=false→∃ i,i∈Region.ready .any l.toArray listed:=by
  intro j
  induction j using Nat.strongRecOn with
  | _ j ih =>
    intro hj hl
    by_cases h:∀ e∈(l[j]).after,Region.binds .any e=true→listed.getD e.on false=true
    · exact ⟨j,mem_ready.2 ⟨by rw [getD_both_iff (by omega)]; exact hl,l[j],by simp [hj],h⟩⟩
    · have:∃ e,e∈(l[j]).after∧Region.binds .any e=true∧listed.getD e.on false=false:=by
        apply Classical.byContradiction
        intro hn
        apply h
        intro e he hb
        cases hx:listed.getD e.on false with
        | true=>rfl
        | false=>exact absurd ⟨e,he,hb,hx⟩ hn
      obtain ⟨e,he,hb,hx⟩:=this
      have hlt:=hok.back j l[j] (by simp [hj]) e he hb
      exact ih e.on hlt (by omega) hx
theorem wpAny_head (hok:RgOk l.toArray n []) (hl:Ds.length=n)
    (hparts:∀ i o,i < n→l[i]?=some o→∃ d D,o.dst=some d∧Ds[i]?=some D∧Ob P l.toArray N B1 w1 (factsC (l.take n) Ds Fc0 i) (factsE (l.take n) Ds i) o D∧fresh (factsC (l.take n) Ds Fc0 i) (factsE (l.take n) Ds i) d D)
    (hN:∀ i o d,i < n→l[i]?=some o→o.dst=some d→d < N) (hB:B1≤w1.heap.size)
    (fin:∀ vals ents listed a w,Inv P l n N B1 w1 Fc0 Ds vals ents listed a w→(∀ j,j < n→listed.getD j false=true)→wpList P l.toArray Q (l.drop n) a w) :
    ∀ (m:Nat) (U:List Nat) (vals:Nat→Value) (ents:Nat→List Ent) (listed:Array Bool) (a:Act) (w:World),U.length=m→U.Nodup→(∀ j,j∈U ↔ j < l.length∧listed.getD j false=false) →
      Inv P l n N B1 w1 Fc0 Ds vals ents listed a w→wpAny P .any l.toArray Q m listed a w:=by
  intro m
  induction m with
  | zero =>
    intro U vals ents listed a w hU hnd hmem inv
    have hU0:U=[]:=List.eq_nil_of_length_eq_zero hU
    subst hU0
    have hall:∀ j,j < l.length→listed.getD j false=true:=fun j hj=>by
      cases hx:listed.getD j false with
      | true=>rfl
      | false=>have:=(hmem j).2 ⟨hj,hx⟩; simp at this
    have hn:n=l.length:=by
      have h1:=hok.le
      simp at h1
      by_cases e:n < l.length
      · have:=inv.tail n (Nat.le_refl _); rw [hall n e] at this; cases this
      · omega
    have h:=fin vals ents listed a w inv (fun j hj=>hall j (by omega))
    refine wpAny_tail hok 0 l.length listed a w (by omega) (by omega) inv.size (fun j hj=>?_) (by rw [← hn]; exact h)
    rw [getD_both_iff (by rw [inv.size]; exact hj),hall j hj]
    simp [hj]
  | succ m ih =>
    intro U vals ents listed a w hU hnd hmem inv
    by_cases hall:∀ j,j < n→listed.getD j false=true
    · have h:=fin vals ents listed a w inv hall
      have hle:=hok.le
      simp at hle
      have hcount:m + 1=l.length - n:=by
        rw [← hU]
        have:U.Perm ((List.range (l.length - n)).map (· + n)):=by
          refine (List.perm_ext_iff_of_nodup hnd ?_).2 fun j=>?_
          · exact List.Pairwise.map (R:=(· ≠ ·)) (S:=(· ≠ ·)) (· + n) (fun x y h=>by simp; exact h) List.nodup_range
          · rw [hmem]
            simp only [List.mem_map,List.mem_range]
            constructor
            · rintro ⟨h1,h2⟩
              refine ⟨j - n,?_,?_⟩
              · by_cases e:j < n
                · rw [hall j e] at h2; cases h2
                · omega
              · by_cases e:j < n
                · rw [hall j e] at h2; cases h2
                · omega
            · rintro ⟨x,h1,rfl⟩
              exact ⟨by omega,inv.tail _ (by omega)⟩
        rw [this.length_eq]; simp
      refine wpAny_tail hok (m + 1) n listed a w (by omega) (Nat.le_refl _) inv.size (fun j hj=>?_) h
      rw [getD_both_iff (by rw [inv.size]; exact hj)]
      by_cases e:j < n
      · rw [hall j e]; simp [e]
      · rw [inv.tail j (by omega)]; simp [e]
    · obtain ⟨j0,hj0,hl0⟩:∃ j,j < n∧listed.getD j false=false:=by
        apply Classical.byContradiction
        intro hn
        apply hall
        intro j hj
        cases hx:listed.getD j false with
        | true=>rfl
        | false=>exact absurd ⟨j,hj,hx⟩ hn
      have hle:=hok.le
      simp at hle
      refine ⟨fun h0=>?_,fun i hi=>?_⟩
      · obtain ⟨i,hi⟩:=exists_ready hok inv.size j0 (by omega) hl0
        rw [h0] at hi; cases hi
      · have hin:i < n:=by
          apply Classical.byContradiction
          intro hge
          obtain ⟨_,o,ho,hall2⟩:=mem_ready.1 hi
          have key:=anc_closed (ops:=l.toArray) (S:=fun j=>listed.getD j false=true) (fun i' o' hi' hs' e he hb=>inv.closed i' o' (by simpa using hi') hs' e he hb) 24 o j0 (fun e he hb=>hall2 e he hb) ((hok.tail i o ho (by omega) j0 (by omega)).resolve_left fun h=>by cases h)
          rw [hl0] at key
          cases key
        have hil:i < l.length:=by omega
        have hiU:i∈U:=(hmem i).2 ⟨hil,by
          have h1:=(mem_ready.1 hi).1
          rw [getD_both_iff (by rw [inv.size]; exact hil)] at h1
          exact h1⟩
        refine inv.step hok hl hparts hN hB hin hi fun v L' a' w' inv'=>?_
        refine ih (U.erase i) _ _ _ _ _ ?_ (hnd.erase i) (fun j=>?_) inv'
        · rw [List.length_erase_of_mem hiU,hU]; simp
        · rw [hnd.mem_erase_iff,hmem]
          by_cases e:j=i
          · subst e
            simp [show j < listed.size by rw [inv.size]; exact hil]
          · rw [getD_set_ne false (Ne.symm e)]
            simp [e]
theorem RG.mono {P:Program} {ops:Array Oper} {K K':List (Nat × Value)→Fes→Prop} (hm:∀ Fc Fe,K Fc Fe→K' Fc Fe):∀ (rest:List Oper) (Fc:List (Nat × Value)) (Fe:Fes),RG P ops N B1 w1 K Fc Fe rest→RG P ops N B1 w1 K' Fc Fe rest
  | [],Fc,Fe,h=>hm Fc Fe h
  | o::rest,Fc,Fe,⟨d,D,h1,h2,h3,h4⟩=>⟨d,D,h1,h2,h3,RG.mono hm rest _ _ h4⟩
def RegAny (P:Program) (Q:Exit→Act→World→Prop) (l:List Oper) (a:Act) (w:World):Prop:=wpAny P .any l.toArray Q l.toArray.size (Array.replicate l.toArray.size false) a { w with drawn:=w.drawn + 1 }
theorem any_rgL {F:List (Nat × Value)} {L:List Ent} {M:Nat→Prop} {w0 w:World} {a:Act} (n:Nat) (hB:rgB l.toArray n=true) (hd:dstB (l.take n) N=true) (hs:St N F L M w0 a w)
    (h:RG P l.toArray N w.heap.size w (fun Fc Fe=>∀ a' w' L',Fr0 w w'→FeOk Fe a' w' L'→St N Fc (L'++L) M w0 a' w'→Links P l n a'→wpList P l.toArray Q (l.drop n) a' w') F [] (l.take n)) :
    RegAny P Q l a w:=by
  have hok:RgOk l.toArray n []:=rgB_spec hB
  have hle:=hok.le
  simp at hle
  have htl:(l.take n).length=n:=by simp [hle]
  obtain ⟨Ds,hlen,hK,hparts⟩:=RG.parts F (l.take n) [] [] rfl h
  simp only [List.nil_append,htl] at hlen hK hparts
  have hget:∀ i o,i < n→l[i]?=some o→(l.take n)[i]?=some o:=fun i o hi ho=>by rw [List.getElem?_take_of_lt hi]; exact ho
  have hparts':∀ i o,i < n→l[i]?=some o→∃ d D,o.dst=some d∧Ds[i]?=some D∧Ob P l.toArray N w.heap.size w (factsC (l.take n) Ds F i) (factsE (l.take n) Ds i) o D∧fresh (factsC (l.take n) Ds F i) (factsE (l.take n) Ds i) d D :=
    fun i o hi ho=>hparts i o (by simp) (hget i o hi ho)
  have hN:∀ i o d,i < n→l[i]?=some o→o.dst=some d→d < N:=fun i o d hi ho hod=>by
    have:=List.all_eq_true.1 hd o (List.mem_of_getElem? (hget i o hi ho))
    rw [hod] at this
    exact lt_of_blt this
  unfold RegAny
  have hdr:Fr0 w { w with drawn:=w.drawn + 1 }:=Fr.drew w
  have hU:((List.range l.length).length=l.toArray.size):=by simp
  refine wpAny_head (w1:=w) (B1:=w.heap.size) (Ds:=Ds) (Fc0:=F) hok (by omega) hparts' hN (Nat.le_refl _) ?_ _ (List.range l.length) (fun _=>undef) (fun _=>[]) _ _ _ hU List.nodup_range ?_ ?_
  · intro vals ents listed a' w' inv hall
    have hds:∃ ds:Nat→Nat,∀ j o,(l.take n)[j]?=some o→o.dst=some (ds j):=by
      refine ⟨fun j=>(dstAt l.toArray j).getD 0,fun j o hj=>?_⟩
      have hjn:j < n:=by have:=(List.getElem?_eq_some_iff.1 hj).1; omega
      rw [List.getElem?_take_of_lt hjn] at hj
      obtain ⟨d',hd'⟩:=hok.dst j o (by simpa using hj) hjn
      simp [dstAt,hj,hd']
    obtain ⟨ds,hds⟩:=hds
    have hdsA:∀ j,j < n→dstAt l.toArray j=some (ds j):=fun j hj=>by
      have hjl:j < l.length:=by omega
      have:=hds j l[j] (by rw [List.getElem?_take_of_lt hj]; simp [hjl])
      simp [dstAt,hjl,this]
    have hfr':∀ j o D,(l.take n)[j]?=some o→Ds[j]?=some D→fresh (factsC (l.take n) Ds F j) (factsE (l.take n) Ds j) (ds j) D:=by
      intro j o' D' hj hDj
      have hjn:j < n:=by have:=(List.getElem?_eq_some_iff.1 hj).1; omega
      have hj':=hj
      rw [List.getElem?_take_of_lt hjn] at hj'
      obtain ⟨d2,D2,h1,h2,_,h4⟩:=hparts' j o' hjn hj'
      rw [hDj] at h2
      obtain rfl:=Option.some.inj h2
      have:=hds j o' hj
      rw [h1] at this
      obtain rfl:=Option.some.inj this
      exact h4
    have hknow:Know N (factsC (l.take n) Ds F n) a':=by
      refine ⟨inv.know.1,inv.know.2,fun s v hv=>?_⟩
      rcases factsC_src (Fc0:=F) hds (by omega) hfr' n (by omega) s v hv with ⟨j,hj,h1,h2⟩ | ⟨h1,h2⟩
      · obtain ⟨h4,h5⟩:=inv.done j s _ hj (hall j hj) (by rw [hdsA j hj,h1]) h2
        rw [h4,h5.1]
      · exact inv.base s v h1 fun j hj _ hdj=>by
          rw [hdsA j hj] at hdj
          exact h2 j hj (Option.some.inj hdj)
    have hfe:∀ i,i≤n→∃ L'',FeOk (factsE (l.take n) Ds i) a' w' L''∧L''.Perm ((List.range i).flatMap ents):=by
      intro i
      induction i with
      | zero=>intro _; exact ⟨[],rfl,by simp⟩
      | succ i ih =>
        intro hi
        obtain ⟨L'',h1,h2⟩:=ih (by omega)
        have hil:i < (l.take n).length:=by omega
        have ho:(l.take n)[i]?=some (l.take n)[i]:=List.getElem?_eq_getElem hil
        have hD:Ds[i]?=some (Ds[i]'(by omega)):=List.getElem?_eq_getElem (by omega)
        have hdi:=hds i _ ho
        obtain ⟨h4,h5⟩:=inv.done i (ds i) _ (by omega) (hall i (by omega)) (hdsA i (by omega)) hD
        simp only [factsE,ho,hD,hdi,List.range_succ,List.flatMap_append]
        generalize Ds[i]'(by omega)=D at *
        cases D with
        | c u=>exact ⟨L'',h1,by simp [h5.2]; exact h2⟩
        | e E st =>
          refine ⟨ents i++L'',⟨vals i,ents i,L'',h4,h5,h1,rfl⟩,?_⟩
          simp only [List.flatMap_cons,List.flatMap_nil,List.append_nil]
          exact (List.Perm.append_left _ h2).trans List.perm_append_comm
    obtain ⟨L'',hf1,hf2⟩:=hfe n (Nat.le_refl _)
    have hhas:Has w.heap.size w' L'':=by
      have:(List.range n).flatMap (fun j=>if listed.getD j false=true then ents j else [])=(List.range n).flatMap ents:=flatMap_same _ _ _ fun j hj=>by rw [if_pos (hall j (List.mem_range.1 hj))]
      have hh:=inv.has
      rw [this] at hh
      exact hh.perm hf2
    have hst:St N (factsC (l.take n) Ds F n) (L''++L) M w0 a' w':=⟨hknow,(hs.has.new inv.fr (Nat.zero_le _) hhas),fun e he k hk=>by
      rcases List.mem_append.1 he with he | he
      · exact .inl (Nat.le_trans hs.fr.size (hhas.ge e he k hk))
      · exact hs.own e he k hk,hs.fr.trans0 inv.fr⟩
    refine hK a' w' L'' inv.fr hf1 hst ⟨fun j oj dj s hj hoj hdj hos hsf=>?_,fun j oj dj hj hoj hdj hbj hsf=>?_⟩
    · obtain ⟨d2,D2,h1,h2,_,_⟩:=hparts' j oj hj hoj
      rw [hdj] at h1
      obtain rfl:=Option.some.inj h1
      exact ⟨vals j,(inv.done j dj D2 hj (hall j hj) (by simp [dstAt,hoj,hdj]) h2).1,inv.links j oj s hj hoj (hall j hj) hos hsf⟩
    · obtain ⟨d2,D2,h1,h2,_,_⟩:=hparts' j oj hj hoj
      rw [hdj] at h1
      obtain rfl:=Option.some.inj h1
      obtain ⟨w1,w2,h3⟩:=inv.links2 j oj hj hoj (hall j hj) hbj hsf
      exact ⟨vals j,w1,w2,(inv.done j dj D2 hj (hall j hj) (by simp [dstAt,hoj,hdj]) h2).1,h3⟩
  · intro j
    simp
    intro hj
    simp [Array.getElem?_replicate,hj]
  · refine ⟨by simp,⟨hs.know.size,hs.know.defers⟩,fun j d D hj hl'=>?_,fun s v hv _=>hs.know.at_ s v hv,?_,hdr,fun t _=>?_,fun j o _ hl'=>?_,fun j o s _ _ hl'=>?_,fun j o _ _ hl'=>?_⟩
    · simp [Array.getElem?_replicate] at hl'
      split at hl' <;> simp at hl'
    · have:∀ r:List Nat,r.flatMap (fun j=>if (Array.replicate l.toArray.size false).getD j false=true then ([]:List Ent) else [])=[]:=fun r=>by induction r with | nil=>rfl | cons x t ih=>simp
      rw [this]
      exact .nil _ _
    · simp [Array.getElem?_replicate]
      split <;> simp
    · simp [Array.getElem?_replicate] at hl'
      split at hl' <;> simp at hl'
    · simp [Array.getElem?_replicate] at hl'
      split at hl' <;> simp at hl'
    · simp [Array.getElem?_replicate] at hl'
      split at hl' <;> simp at hl'
/-! Late operations: those of the tail needn't wait for them. -/
def turnB (o:Oper):Bool:=match o.guard,o.op with | none,.move _=>true | none,.assign _=>true | _,_=>false
def lateB (l:List Oper) (n:Nat) (J:List Nat):Bool :=
  (match l[n]? with | some o=>(match o.guard with | none=>notSelect o | _=>false) | none=>false) &&
  ((l.drop (n + 1)).all fun o=>turnB o || J.all fun j=>anc l.toArray 24 o j) &&
  (J.all fun j=>match l[j]? with
    | none=>false
    | some o=>((opnd o).isSome || needQ o) && match o.dst with
      | some d=>((tmpsOf o).all fun s=>(J.all fun j'=>!(dstAt l.toArray j' == some s) || waits o j') && ((l.drop n).all fun o'=>!(o'.dst == some s))) && ((l.drop n).all fun o'=>!(o'.dst == some d) && (!((tmpsOf o').any (Nat.beq d)) || waits o' j))
      | _=>false)
structure Late (l:List Oper) (n:Nat) (J:List Nat):Prop where
  op:∀ j∈J,∃ o d,l[j]?=some o∧((opnd o).isSome=true∨needQ o=true)∧o.dst=some d∧(∀ s∈tmpsOf o,(∀ j'∈J,dstAt l.toArray j'=some s→waits o j'=true)∧∀ t o',n≤t→l[t]?=some o'→o'.dst ≠ some s)∧∀ t o',n≤t→l[t]?=some o'→o'.dst ≠ some d∧(d∈tmpsOf o'→waits o' j=true)
  tl:∀ t o,n < t→l[t]?=some o→turnB o=true∨∀ j∈J,anc l.toArray 24 o j=true
  hd:∃ o,l[n]?=some o∧o.guard=none∧notSelect o=true
theorem mem_drop_at {α:Type} {l:List α} {n t:Nat} {o:α} (h:n≤t) (ho:l[t]?=some o):o∈l.drop n :=
  List.mem_of_getElem? (i:=t - n) (by rw [List.getElem?_drop,show n + (t - n)=t by omega]; exact ho)
theorem lateB_spec {l:List Oper} {n:Nat} {J:List Nat} (h:lateB l n J=true):Late l n J:=by
  unfold lateB at h
  simp only [Bool.and_eq_true] at h
  obtain ⟨⟨h1,h2⟩,h3⟩:=h
  refine ⟨fun j hj=>?_,fun t o ht ho=>?_,?_⟩
  · have h4:=List.all_eq_true.1 h3 j hj
    cases ho:l[j]? with
    | none=>rw [ho] at h4; cases h4
    | some o =>
      rw [ho] at h4
      dsimp only at h4
      rw [Bool.and_eq_true] at h4
      obtain ⟨h4,h5⟩:=h4
      cases hd:o.dst with
      | none=>rw [hd] at h5; cases h5
      | some d =>
        rw [hd] at h5
        dsimp only at h5
        rw [Bool.and_eq_true] at h5
        refine ⟨o,d,rfl,by simpa using h4,hd,fun s hs=>?_,fun t o' ht ho'=>?_⟩
        · have h6:=List.all_eq_true.1 h5.1 s hs
          rw [Bool.and_eq_true] at h6
          exact ⟨fun j' hj' e=>by
            have h7:=List.all_eq_true.1 h6.1 j' hj'
            rw [e] at h7
            simpa using h7,fun t o' ht ho'=>by simpa using List.all_eq_true.1 h6.2 o' (mem_drop_at ht ho')⟩
        · have h6:=List.all_eq_true.1 h5.2 o' (mem_drop_at ht ho')
          simp only [Bool.and_eq_true,Bool.or_eq_true,Bool.not_eq_true',beq_eq_false_iff_ne,ne_eq] at h6
          refine ⟨h6.1,fun hm=>h6.2.resolve_left fun hn=>?_⟩
          have:(tmpsOf o').any (Nat.beq d)=true:=List.any_eq_true.2 ⟨d,hm,by simp⟩
          rw [hn] at this
          cases this
  · have h5:=List.all_eq_true.1 h2 o (mem_drop_at (n:=n + 1) (by omega) ho)
    rw [Bool.or_eq_true] at h5
    exact h5.imp id fun h j hj=>List.all_eq_true.1 h j hj
  · cases ho:l[n]? with
    | none=>rw [ho] at h1; cases h1
    | some o =>
      rw [ho] at h1
      dsimp only at h1
      cases hg:o.guard with
      | some g=>rw [hg] at h1; cases h1
      | none=>rw [hg] at h1; exact ⟨o,rfl,hg,h1⟩
theorem opnd_sel {o:Oper} {s:Nat} (h:opnd o=some s):∀ cs b,o.op ≠ .select cs b:=by
  intro cs b e
  obtain ⟨d,op,ty,pos,aft,g⟩:=o
  cases g <;> simp [opnd] at h
  dsimp only at e
  subst e
  simp at h
theorem needQ_sel {o:Oper} (h:needQ o=true):∀ cs b,o.op ≠ .select cs b:=by
  intro cs b e
  obtain ⟨d,op,ty,pos,aft,g⟩:=o
  dsimp only at e
  subst e
  cases g <;> cases h
theorem needQ_guard {o:Oper} (h:needQ o=true):o.guard=none:=by
  obtain ⟨d,op,ty,pos,aft,g⟩:=o
  cases g with
  | none=>rfl
  | some g=>cases h
theorem late_sel {o:Oper} (h:(opnd o).isSome=true∨needQ o=true):∀ cs b,o.op ≠ .select cs b:=by
  rcases h with h | h
  · obtain ⟨s,hs⟩:=Option.isSome_iff_exists.1 h
    exact opnd_sel hs
  · exact needQ_sel h
theorem late_guard {o:Oper} (h:(opnd o).isSome=true∨needQ o=true):o.guard=none:=by
  rcases h with h | h
  · obtain ⟨s,hs⟩:=Option.isSome_iff_exists.1 h
    exact opnd_guard hs
  · exact needQ_guard h
structure Lag (P:Program) (l:List Oper) (J:List Nat) (listed:Array Bool) (a b:Act) (w:World):Prop where
  size:b.tmps.size=a.tmps.size
  defers:b.defers=a.defers
  same:∀ s,(∀ j∈J,listed.getD j false=false→dstAt l.toArray j ≠ some s)→b.tmps[s]?=a.tmps[s]?
  run:∀ j∈J,listed.getD j false=false→∀ o d,l[j]?=some o→o.dst=some d→∃ v,b.tmps[d]?=some v∧(execOp b.eval o).run P w=.ok (.value v) w
theorem Lag.eq {P:Program} {l:List Oper} {J:List Nat} {listed:Array Bool} {a b:Act} {w:World} (h:Lag P l J listed a b w) (hall:∀ j∈J,listed.getD j false=true):a=b:=by
  have h1:a.tmps=b.tmps:=by
    apply Array.ext h.size.symm
    intro s h2 h3
    have:=h.same s fun j hj hx=>by rw [hall j hj] at hx; cases hx
    rw [Array.getElem?_eq_getElem h2,Array.getElem?_eq_getElem h3] at this
    exact (Option.some.inj this).symm
  have h2:=h.defers
  cases a; cases b
  simp only at h1 h2
  rw [h1,h2]
theorem eval_same {a b:Act} {o:Oper} (hsel:∀ cs b,o.op ≠ .select cs b) (h:∀ s,s∈tmpsOf o→b.tmps[s]?=a.tmps[s]?):execOp a.eval o=execOp b.eval o :=
  execOp_congr o hsel fun x hx=>by
    cases x with
    | tmp s=>simp only [Act.eval,Array.getD_eq_getD_getElem?,h s (mem_tmpsOf hx)]
    | _=>rfl
theorem tm_put {o:Oper} {d:Option Nat} {a:Act} {v:Value} (hsel:∀ cs b,o.op ≠ .select cs b) (hne:∀ s,s∈tmpsOf o→d ≠ some s):execOp (a.put d v).eval o=execOp a.eval o :=
  eval_same hsel fun s hs=>by
    cases d with
    | none=>rfl
    | some d =>
      have:d ≠ s:=fun e=>hne s hs (by rw [e])
      simp only [Act.put]
      rw [Array.getElem?_setIfInBounds,if_neg this]
theorem late_all {P:Program} {o:Oper} {a:Act} {w:World} {s:Nat} {R:Value→World→Prop} (ho:opnd o=some s) (h:Yl P R ((execOp a.eval o).run P w)):∃ v,∀ w',(execOp a.eval o).run P w'=.ok (.value v) w':=by
  obtain ⟨d,op,ty,pos,aft,g⟩:=o
  cases g with
  | some g=>simp [opnd] at ho
  | none=>cases op with
    | move x=>exact ⟨a.eval x,fun w'=>c_move rfl⟩
    | assign x=>exact ⟨a.eval x,fun w'=>c_assign rfl⟩
    | extract x k =>
      by_cases hex:∃ vs u,a.eval x=.tuple vs∧vs[k]?=some u
      · obtain ⟨vs,u,h1,h2⟩:=hex
        exact ⟨u,fun w'=>c_extract h1 h2⟩
      · exfalso
        cases hx:a.eval x with
        | tuple vs=>cases hk:vs[k]? with
          | some u=>exact hex ⟨vs,u,hx,hk⟩
          | none=>simp [execOp,hx,Instr.extract,hk,Yl] at h
        | _=>simp [execOp,hx,Instr.extract,Yl] at h
    | _=>simp [opnd] at ho
theorem erase_mem {l:List Oper} {U:List Nat} {listed:Array Bool} {i:Nat} (hnd:U.Nodup) (hsz:listed.size=l.length) (hi:i < l.length) (hmem:∀ j,j∈U ↔ j < l.length∧listed.getD j false=false) :
    ∀ j,j∈U.erase i ↔ j < l.length∧(listed.setIfInBounds i true).getD j false=false:=fun j=>by
  rw [hnd.mem_erase_iff,hmem]
  by_cases e:j=i
  · subst e
    simp [show j < listed.size by omega]
  · rw [getD_set_ne false (Ne.symm e)]
    simp [e]
theorem count_tail {l:List Oper} {U:List Nat} {listed:Array Bool} {t:Nat} (hnd:U.Nodup) (hmem:∀ j,j∈U ↔ j < l.length∧listed.getD j false=false) (hls:∀ j,j < l.length→listed.getD j false=decide (j < t)):U.length=l.length - t:=by
  have:U.Perm ((List.range (l.length - t)).map (· + t)):=by
    refine (List.perm_ext_iff_of_nodup hnd ?_).2 fun j=>?_
    · exact List.Pairwise.map (R:=(· ≠ ·)) (S:=(· ≠ ·)) (· + t) (fun x y h=>by simp; exact h) List.nodup_range
    · rw [hmem]
      simp only [List.mem_map,List.mem_range]
      constructor
      · rintro ⟨h1,h2⟩
        rw [hls j h1] at h2
        have:¬ j < t:=by simpa using h2
        exact ⟨j - t,by omega,by omega⟩
      · rintro ⟨x,h1,rfl⟩
        exact ⟨by omega,by rw [hls _ (by omega)]; simp⟩
  rw [this.length_eq]; simp
def lateOk (P:Program) (l:List Oper) (a:Act) (w:World):List Nat→Prop
  | []=>True
  | j::J=>(match l[j]? with
    | some o=>(match opnd o,o.dst with
      | none,some d=>∃ u,a.tmps[d]?=some u∧(execOp a.eval o).run P w=.ok (.value u) w
      | _,_=>True)
    | none=>True)∧lateOk P l a w J
theorem lateOk_at {P:Program} {l:List Oper} {a:Act} {w:World}:∀ {J:List Nat},lateOk P l a w J→∀ j∈J,∀ o d,l[j]?=some o→o.dst=some d→opnd o=none→∃ u,a.tmps[d]?=some u∧(execOp a.eval o).run P w=.ok (.value u) w
  | [],_,j,hj,_,_,_,_,_=>by cases hj
  | i::J,h,j,hj,o,d,h1,h2,h3=>by
    rcases List.mem_cons.1 hj with rfl | hj
    · have:=h.1
      rw [h1] at this
      dsimp only at this
      rw [h3,h2] at this
      exact this
    · exact lateOk_at h.2 j hj o d h1 h2 h3
theorem late_nil {P:Program} {l:List Oper} {a:Act} {w:World}:lateOk P l a w []:=trivial
theorem late_turn {P:Program} {l:List Oper} {a:Act} {w:World} {j s:Nat} {J:List Nat} {o:Oper} (ho:l[j]?=some o) (h:opnd o=some s) (k:lateOk P l a w J):lateOk P l a w (j::J):=by
  refine ⟨?_,k⟩
  rw [ho]
  dsimp only
  rw [h]
  split <;> first | trivial | contradiction
theorem late_read {P:Program} {l:List Oper} {a:Act} {w:World} {j d:Nat} {u:Value} {J:List Nat} {o:Oper} (ho:l[j]?=some o) (hd:o.dst=some d) (h:a.tmps[d]?=some u) (hr:(execOp a.eval o).run P w=.ok (.value u) w) (k:lateOk P l a w J):lateOk P l a w (j::J):=by
  refine ⟨?_,k⟩
  rw [ho]
  dsimp only
  split
  · rename_i h1 h2
    rw [hd] at h2
    obtain rfl:=Option.some.inj h2
    exact ⟨u,h,hr⟩
  · trivial
def First (P:Program) (ops:Array Oper) (Q:Exit→Act→World→Prop) (l:List Oper) (J:List Nat) (on:Oper) (rest:List Oper) (a:Act) (w:World):Prop :=
  ∃ nx w2 v,(execOp a.eval on).run P w=.ok nx w2∧((nx=.skip∧v=undef)∨nx=.value v)∧lateOk P l (a.put on.dst v) w2 J∧wpList P ops Q rest (a.put on.dst v) w2
theorem wpAny_lag {J:List Nat} (hok:RgOk l.toArray n J) (hL:Late l n J) :
    ∀ (m:Nat) (U:List Nat) (t:Nat) (listed:Array Bool) (a b:Act) (w:World),U.length=m→U.Nodup→(∀ j,j∈U ↔ j < l.length∧listed.getD j false=false)→listed.size=l.length→n≤t →
      (∀ j,j < l.length→j ∉ J→listed.getD j false=decide (j < t))→(∀ j o,l[j]?=some o→listed.getD j false=true→∀ e∈o.after,Region.binds .any e=true→listed.getD e.on false=true) →
      Lag P l J listed a b w→((t=n∧∃ on,l[n]?=some on∧First P l.toArray Q l J on (l.drop (n + 1)) b w)∨(n < t∧wpList P l.toArray Q (l.drop t) b w)) →
      wpAny P .any l.toArray Q m listed a w:=by
  intro m
  have hJ:∀ t,n≤t→t ∉ J:=fun t ht h=>by have:=hok.lateLt t h; omega
  have hnl:n≤l.length:=by have:=hok.le; simpa using this
  induction m with
  | zero =>
    intro U t listed a b w hU hnd hmem hsz hnt hls hcl hlag H
    have hU0:U=[]:=List.eq_nil_of_length_eq_zero hU
    subst hU0
    have hall:∀ j,j < l.length→listed.getD j false=true:=fun j hj=>by
      cases hx:listed.getD j false with
      | true=>rfl
      | false=>have:=(hmem j).2 ⟨hj,hx⟩; simp at this
    have htl:l.length≤t:=by
      apply Classical.byContradiction
      intro h
      have h1:=hls t (by omega) (hJ t hnt)
      rw [hall t (by omega)] at h1
      simp at h1
    have hab:a=b:=hlag.eq fun j hj=>hall j (by have:=hok.lateLt j hj; omega)
    subst hab
    refine ⟨?_,?_⟩
    · apply List.eq_nil_iff_forall_not_mem.2
      intro i hi
      obtain ⟨h1,o,ho,_⟩:=mem_ready.1 hi
      have hlt:i < l.length:=by simpa using (Array.getElem?_eq_some_iff.1 ho).1
      rw [getD_both_iff (by omega),hall i hlt] at h1
      cases h1
    · rcases H with ⟨rfl,on,h1,_⟩ | ⟨_,h⟩
      · have:=(List.getElem?_eq_some_iff.1 h1).1
        omega
      · rw [List.drop_eq_nil_of_le htl] at h
        exact h
  | succ m ih =>
    intro U t listed a b w hU hnd hmem hsz hnt hls hcl hlag H
    obtain ⟨u,hu⟩:∃ u,u∈U:=List.exists_mem_of_length_pos (by omega)
    have hu2:=(hmem u).1 hu
    refine ⟨fun h0=>?_,fun i hi=>?_⟩
    · obtain ⟨i,hi⟩:=exists_ready hok hsz u hu2.1 hu2.2
      rw [h0] at hi; cases hi
    · have hi0:=hi
      obtain ⟨hi1,o,ho,hall⟩:=mem_ready.1 hi
      have hil:i < l.length:=by simpa using (Array.getElem?_eq_some_iff.1 ho).1
      rw [getD_both_iff (by omega)] at hi1
      have hol:l[i]?=some o:=by simpa using ho
      have hiU:i∈U:=(hmem i).2 ⟨hil,hi1⟩
      have hlen:(U.erase i).length=m:=by rw [List.length_erase_of_mem hiU,hU]; simp
      have hcl2:∀ j o,l[j]?=some o→(listed.setIfInBounds i true).getD j false=true→∀ e∈o.after,Region.binds .any e=true→(listed.setIfInBounds i true).getD e.on false=true:=by
        intro j oj hj hlj e he hb
        have up:∀ k,listed.getD k false=true→(listed.setIfInBounds i true).getD k false=true:=fun k hk=>by
          by_cases e:i=k
          · subst e; simp [show i < listed.size by omega]
          · rw [getD_set_ne false e]; exact hk
        by_cases hji:j=i
        · subst hji
          rw [hol] at hj
          obtain rfl:=Option.some.inj hj
          exact up _ (hall e he hb)
        · rw [getD_set_ne false (Ne.symm hji)] at hlj
          exact up _ (hcl j oj hj hlj e he hb)
      by_cases hiJ:i∈J
      · -- a late one
        obtain ⟨o',d,h1,h2,h3,h4,h5⟩:=hL.op i hiJ
        rw [hol] at h1
        obtain rfl:=Option.some.inj h1
        obtain ⟨v,hv,hr⟩:=hlag.run i hiJ hi1 o d hol h3
        rw [← eval_same (a:=a) (late_sel h2) fun s hs=>hlag.same s fun j' hj' hlj' hdj'=>by
          obtain ⟨e,he,hb,hon⟩:=waits_spec ((h4 s hs).1 j' hj' hdj')
          have:=hall e he hb
          rw [hon,hlj'] at this
          cases this] at hr
        have hda:d < a.tmps.size:=by rw [← hlag.size]; exact (Array.getElem?_eq_some_iff.1 hv).1
        have hdi:dstAt l.toArray i=some d:=by simp [dstAt,hol,h3]
        unfold wpOp
        rw [ho]
        dsimp only
        rw [if_pos (by simp [Region.wanted,late_guard h2])]
        left
        refine upon_value hr ?_
        rw [h3]
        refine ih (U.erase i) t _ _ b w hlen (hnd.erase i) (erase_mem hnd hsz hil hmem) (by simpa using hsz) hnt (fun j hj hjJ=>?_) hcl2 ⟨by simp [Act.put,hlag.size],hlag.defers,fun s' hs'=>?_,fun j hj hlj oj d' hoj hdj=>?_⟩ H
        · rw [getD_set_ne false (show i ≠ j from fun e=>hjJ (e ▸ hiJ))]
          exact hls j hj hjJ
        · by_cases e:d=s'
          · subst e
            rw [hv]
            simp [Act.put,hda]
          · simp only [Act.put]
            rw [Array.getElem?_setIfInBounds,if_neg e]
            refine hlag.same s' fun j hj hlj hdj=>?_
            by_cases hji:j=i
            · subst hji
              rw [hdi] at hdj
              exact e (Option.some.inj hdj)
            · exact hs' j hj (by rw [getD_set_ne false (Ne.symm hji)]; exact hlj) hdj
        · by_cases hji:j=i
          · subst hji
            simp [show j < listed.size by omega] at hlj
          · rw [getD_set_ne false (Ne.symm hji)] at hlj
            exact hlag.run j hj hlj oj d' hoj hdj
      · -- the tail's next
        have hit:i=t:=by
          have h1:=hls i hil hiJ
          rw [hi1] at h1
          have h2:¬ i < t:=by simpa using h1.symm
          apply Classical.byContradiction
          intro hne
          have key:=anc_closed (ops:=l.toArray) (S:=fun j=>listed.getD j false=true) (fun i' o' hi' hs' e he hb=>hcl i' o' (by simpa using hi') hs' e he hb) 24 o t (fun e he hb=>hall e he hb) ((hok.tail i o ho (by omega) t (by omega)).resolve_left (hJ t hnt))
          rw [hls t (by omega) (hJ t hnt)] at key
          simp at key
        subst hit
        have heq:∀ s,s∈tmpsOf o→b.tmps[s]?=a.tmps[s]?:=fun s hs=>hlag.same s fun j hj hlj hdj=>by
          obtain ⟨oj,dj,h1,h2,h3,h4,h5⟩:=hL.op j hj
          have:dj=s:=by simp [dstAt,h1,h3] at hdj; exact hdj
          subst this
          obtain ⟨e,he,hb,hon⟩:=waits_spec ((h5 i o hnt hol).2 hs)
          have:=hall e he hb
          rw [hon,hlj] at this
          cases this
        have hlsn:∀ j,j < l.length→j ∉ J→(listed.setIfInBounds i true).getD j false=decide (j < i + 1):=fun j hj hjJ=>by
          by_cases e:i=j
          · subst e
            simp [show i < listed.size by omega]
          · rw [getD_set_ne false e,hls j hj hjJ]
            simp
            omega
        have hsm:∀ s,(∀ j∈J,(listed.setIfInBounds i true).getD j false=false→dstAt l.toArray j ≠ some s)→b.tmps[s]?=a.tmps[s]?:=fun s hs=>hlag.same s fun j hj hlj=>hs j hj (by rw [getD_set_ne false (show i ≠ j from fun e=>hiJ (e ▸ hj))]; exact hlj)
        have lagged:∀ v w2,(∀ j∈J,listed.getD j false=false→∀ oj dj,l[j]?=some oj→oj.dst=some dj→∃ u,(b.put o.dst v).tmps[dj]?=some u∧(execOp (b.put o.dst v).eval oj).run P w2=.ok (.value u) w2)→Lag P l J (listed.setIfInBounds i true) (a.put o.dst v) (b.put o.dst v) w2:=fun v w2 hr=>by
          have hr':∀ j∈J,(listed.setIfInBounds i true).getD j false=false→∀ oj dj,l[j]?=some oj→oj.dst=some dj→∃ u,(b.put o.dst v).tmps[dj]?=some u∧(execOp (b.put o.dst v).eval oj).run P w2=.ok (.value u) w2:=fun j hj hlj=>hr j hj (by rw [getD_set_ne false (show i ≠ j from fun e=>hiJ (e ▸ hj))] at hlj; exact hlj)
          cases hd:o.dst with
          | none=>rw [hd] at hr'; exact ⟨hlag.size,hlag.defers,hsm,hr'⟩
          | some d =>
            rw [hd] at hr'
            refine ⟨by simp [Act.put,hlag.size],hlag.defers,fun s hs=>?_,hr'⟩
            simp only [Act.put]
            rw [Array.getElem?_setIfInBounds,Array.getElem?_setIfInBounds,hlag.size,hsm s hs]
        have putd:∀ v dj,o.dst ≠ some dj→(b.put o.dst v).tmps[dj]?=b.tmps[dj]?:=fun v dj h=>by
          cases hd:o.dst with
          | none=>rfl
          | some d =>
            have:d ≠ dj:=fun e=>h (by rw [hd,e])
            simp only [Act.put]
            rw [Array.getElem?_setIfInBounds,if_neg this]
        have pure1:∀ v w2 j,j∈J→listed.getD j false=false→∀ oj dj,l[j]?=some oj→oj.dst=some dj→((opnd oj).isSome=true∨w2=w)→∃ u,(b.put o.dst v).tmps[dj]?=some u∧(execOp (b.put o.dst v).eval oj).run P w2=.ok (.value u) w2:=fun v w2 j hj hlj oj dj hoj hdj hor=>by
          obtain ⟨u,k1,k2⟩:=hlag.run j hj hlj oj dj hoj hdj
          obtain ⟨o3,d3,q1,q2,q3,q4,q5⟩:=hL.op j hj
          rw [hoj] at q1
          obtain rfl:=Option.some.inj q1
          rw [hdj] at q3
          obtain rfl:=Option.some.inj q3
          refine ⟨u,by rw [putd v dj (q5 i o hnt hol).1]; exact k1,?_⟩
          rw [tm_put (late_sel q2) fun s hs e=>(q4 s hs).2 i o hnt hol e]
          rcases hor with hor | rfl
          · obtain ⟨s,hs⟩:=Option.isSome_iff_exists.1 hor
            obtain ⟨u',hu'⟩:=late_all (w:=w) (R:=fun _ _=>True) hs (by rw [k2]; trivial)
            have:=hu' w
            rw [k2] at this
            obtain rfl:=Next.value.inj (Result.ok.inj this).1
            exact hu' w2
          · exact k2
        rcases H with ⟨rfl,on,h1,nx,w2,v,h2,hnx,hlo,h3⟩ | ⟨hlt,h⟩
        · unfold wpOp
          rw [ho]
          dsimp only
          obtain ⟨on',k1,k2,k4⟩:=hL.hd
          rw [h1] at k1
          obtain rfl:=Option.some.inj k1
          rw [hol] at h1
          obtain rfl:=Option.some.inj h1
          rw [if_pos (by simp [Region.wanted,k2])]
          left
          rw [← eval_same (not_select k4) heq] at h2
          have hnext:wpAny P .any l.toArray Q m (listed.setIfInBounds i true) (a.put o.dst v) w2:=by
            refine ih (U.erase i) (i + 1) _ _ (b.put o.dst v) w2 hlen (hnd.erase i) (erase_mem hnd hsz hil hmem) (by simpa using hsz) (by omega) hlsn hcl2 (lagged v w2 fun j hj hlj oj dj hoj hdj=>?_) (.inr ⟨by omega,h3⟩)
            cases hop:opnd oj with
            | some s=>exact pure1 v w2 j hj hlj oj dj hoj hdj (.inl (by rw [hop]; rfl))
            | none =>
              obtain ⟨u,r1,r2⟩:=lateOk_at hlo j hj oj dj hoj hdj hop
              obtain ⟨o3,d3,q1,q2,q3,q4,q5⟩:=hL.op j hj
              rw [hoj] at q1
              obtain rfl:=Option.some.inj q1
              exact ⟨u,r1,r2⟩
          rcases hnx with ⟨rfl,rfl⟩ | rfl
          · exact upon_skip h2 hnext
          · exact upon_value h2 hnext
        · rcases hL.tl i o hlt hol with hturn | hbar
          · unfold wpOp
            rw [ho]
            dsimp only
            rw [List.drop_eq_getElem_cons hil] at h
            have hoe:l[i]=o:=by
              rw [List.getElem?_eq_getElem hil] at hol
              exact Option.some.inj hol
            rw [hoe] at h
            obtain ⟨hg,hop⟩:o.guard=none∧((∃ x,o.op=.move x)∨∃ x,o.op=.assign x):=by
              unfold turnB at hturn
              cases hg:o.guard with
              | some g=>rw [hg] at hturn; cases hturn
              | none =>
                rw [hg] at hturn
                refine ⟨rfl,?_⟩
                cases hop:o.op <;> rw [hop] at hturn <;> first | exact .inl ⟨_,rfl⟩ | exact .inr ⟨_,rfl⟩ | cases hturn
            rw [if_pos (by simp [Region.wanted,hg])]
            left
            have hsel:∀ cs b,o.op ≠ .select cs b:=fun cs b e=>by
              rcases hop with ⟨x,hx⟩ | ⟨x,hx⟩ <;> rw [hx] at e <;> cases e
            obtain ⟨v,hv⟩:∃ v,∀ w,(execOp b.eval o).run P w=.ok (.value v) w:=by
              obtain ⟨d,op,ty,pos,aft,g⟩:=o
              rcases hop with ⟨x,hx⟩ | ⟨x,hx⟩ <;> dsimp only at hx <;> subst hx
              · exact ⟨b.eval x,fun w=>c_move rfl⟩
              · exact ⟨b.eval x,fun w=>c_assign rfl⟩
            have hk:wpList P l.toArray Q (l.drop (i + 1)) (b.put o.dst v) w:=by
              unfold wpList at h
              rw [if_pos (by simp [Region.wanted,hg])] at h
              rcases h with h | ⟨⟨h,_⟩,_⟩
              · unfold Oper.wp at h
                rw [hv] at h
                exact h
              · exfalso
                obtain ⟨d,op,ty,pos,aft,g⟩:=o
                rcases hop with ⟨x,hx⟩ | ⟨x,hx⟩ <;> dsimp only at hx <;> subst hx <;> exact absurd (show noRoomEvent∈(#[]:Array Event) from h) (by simp)
            refine upon_value (by rw [eval_same hsel heq]; exact hv w) ?_
            exact ih (U.erase i) (i + 1) _ _ (b.put o.dst v) w hlen (hnd.erase i) (erase_mem hnd hsz hil hmem) (by simpa using hsz) (by omega) hlsn hcl2 (lagged v w fun j hj hlj oj dj hoj hdj=>pure1 v w j hj hlj oj dj hoj hdj (.inr rfl)) (.inr ⟨by omega,hk⟩)
          · -- nothing is late any more
            have hJl:∀ j∈J,listed.getD j false=true:=fun j hj=>anc_closed (ops:=l.toArray) (S:=fun j=>listed.getD j false=true) (fun i' o' hi' hs' e he hb=>hcl i' o' (by simpa using hi') hs' e he hb) 24 o j (fun e he hb=>hall e he hb) (hbar j hj)
            have hls2:∀ j,j < l.length→listed.getD j false=decide (j < i):=fun j hj=>by
              by_cases hjJ:j∈J
              · rw [hJl j hjJ]
                have:=hok.lateLt j hjJ
                simp
                omega
              · exact hls j hj hjJ
            obtain rfl:=hlag.eq hJl
            have hct:=count_tail hnd hmem hls2
            have:=wpAny_tail (Q:=Q) (P:=P) hok (m + 1) i listed a w (by omega) hnt hsz (fun j hj=>by rw [getD_both_iff (by omega)]; exact hls2 j hj) h
            exact this.2 i hi0
theorem Inv.finish {J:List Nat} (hok:RgOk l.toArray n J) (hL:Late l n J) (hl:Ds.length=n)
    (hparts:∀ i o,i < n→l[i]?=some o→∃ d D,o.dst=some d∧Ds[i]?=some D∧Ob P l.toArray N B1 w1 (factsC (l.take n) Ds Fc0 i) (factsE (l.take n) Ds i) o D∧fresh (factsC (l.take n) Ds Fc0 i) (factsE (l.take n) Ds i) d D)
    (hN:∀ i o d,i < n→l[i]?=some o→o.dst=some d→d < N) (hB:B1≤w1.heap.size) (w:World) :
    ∀ (r k:Nat) (vals:Nat→Value) (ents:Nat→List Ent) (listed:Array Bool) (a:Act),k + r=n→Inv P l n N B1 w1 Fc0 Ds vals ents listed a w→(∀ j,j < n→j ∉ J→listed.getD j false=true)→(∀ j,j < k→listed.getD j false=true) →
      ∃ b vals' ents' listed',Inv P l n N B1 w1 Fc0 Ds vals' ents' listed' b w∧(∀ j,j < n→listed'.getD j false=true)∧Lag P l J listed a b w:=by
  intro r
  induction r with
  | zero =>
    intro k vals ents listed a hk inv _ hlt
    exact ⟨a,vals,ents,listed,inv,fun j hj=>hlt j (by omega),rfl,rfl,fun _ _=>rfl,fun j hj hx=>by
      rw [hlt j (by have:=hok.lateLt j hj; omega)] at hx
      cases hx⟩
  | succ r ih =>
    intro k vals ents listed a hk inv hnj hlt
    by_cases hx:listed.getD k false=true
    · exact ih (k + 1) vals ents listed a (by omega) inv hnj fun j hj=>by
        by_cases e:j=k
        · subst e; exact hx
        · exact hlt j (by omega)
    · have hx:listed.getD k false=false:=by simpa using hx
      have hkJ:k∈J:=Classical.byContradiction fun h=>by rw [hnj k (by omega) h] at hx; cases hx
      obtain ⟨o,d,h1,h2,h3,h4,_⟩:=hL.op k hkJ
      have hle:=hok.le
      simp at hle
      have hrd:k∈Region.ready .any l.toArray listed:=mem_ready.2 ⟨by rw [getD_both_iff (by rw [inv.size]; omega)]; exact hx,o,by simpa using h1,fun e he hb=>hlt e.on (hok.back k o (by simpa using h1) e he hb)⟩
      rcases inv.step0 hok hl hparts hN hB (by omega) hrd h1 with ⟨_,hy,hyq⟩ | ⟨hw,_⟩
      rotate_left
      · have:Region.wanted o (yielded l.toArray a.tmps)=true:=by simp [Region.wanted,late_guard h2]
        rw [this] at hw; cases hw
      · obtain ⟨v,hv⟩:∃ v,(execOp a.eval o).run P w=.ok (.value v) w:=by
          rcases h2 with h2 | h2
          · obtain ⟨s,hs⟩:=Option.isSome_iff_exists.1 h2
            obtain ⟨v,hv⟩:=late_all hs hy
            exact ⟨v,hv w⟩
          · exact hyq h2
        rw [hv] at hy
        obtain ⟨L',inv'⟩:=hy
        rw [h3] at inv'
        have hup:∀ j,listed.getD j false=true→(listed.setIfInBounds k true).getD j false=true:=fun j hj=>by
          by_cases e:k=j
          · subst e; rw [hx] at hj; cases hj
          · rw [getD_set_ne false e]; exact hj
        have hkk:(listed.setIfInBounds k true).getD k false=true:=by simp [show k < listed.size by rw [inv.size]; omega]
        obtain ⟨b,vals',ents',listed',i1,i2,i3⟩:=ih (k + 1) _ _ _ _ (by omega) inv' (fun j hj hjJ=>hup j (hnj j hj hjJ)) (fun j hj=>by
          by_cases e:j=k
          · subst e; exact hkk
          · exact hup j (hlt j (by omega)))
        have hdk:dstAt l.toArray k=some d:=by simp [dstAt,h1,h3]
        have hdN:d < a.tmps.size:=by rw [inv.know.1]; exact hN k o d (by omega) h1 h3
        refine ⟨b,vals',ents',listed',i1,i2,by have:=i3.size; simpa [Act.put] using this,i3.defers,fun s' hs'=>?_,fun j hj hlj oj dj hoj hdj=>?_⟩
        · have hne:d ≠ s':=fun e=>hs' k hkJ hx (by rw [hdk,e])
          rw [i3.same s' fun j hj hlj=>hs' j hj (by
            by_cases e:k=j
            · subst e; exact hx
            · rw [getD_set_ne false e] at hlj; exact hlj)]
          simp only [Act.put]
          rw [Array.getElem?_setIfInBounds,if_neg hne]
        · by_cases hjk:k=j
          · subst hjk
            rw [h1] at hoj
            obtain rfl:=Option.some.inj hoj
            rw [h3] at hdj
            obtain rfl:=Option.some.inj hdj
            have hwk:∀ j',waits o j'=true→j' < k:=fun j' hw=>by
              obtain ⟨e,he,hb,hon⟩:=waits_spec hw
              have:=hok.back k o (by simpa using h1) e he hb
              omega
            refine ⟨v,?_,by
              rw [← eval_same (a:=a) (late_sel h2) fun s hs=>?_]
              · exact hv
              · rw [i3.same s fun j' hj' hlj' hdj'=>by
                  rw [hup j' (hlt j' (hwk j' ((h4 s hs).1 j' hj' hdj')))] at hlj'
                  cases hlj']
                have hne:d ≠ s:=fun e=>by have:=hwk k ((h4 s hs).1 k hkJ (by rw [hdk,e])); omega
                simp only [Act.put]
                rw [Array.getElem?_setIfInBounds,if_neg hne]⟩
            rw [i3.same d fun j' hj' hlj' hdj'=>by
              have:=hok.uniq j' k d (hok.lateLt j' hj') (by omega) hdj' hdk
              subst this
              rw [hkk] at hlj'
              cases hlj']
            simp [Act.put,hdN]
          · exact i3.run j hj (by rw [getD_set_ne false hjk]; exact hlj) oj dj hoj hdj
theorem wpAny_headJ {J:List Nat} {on:Oper} (hok:RgOk l.toArray n J) (hL:Late l n J) (hon:l[n]?=some on) (hl:Ds.length=n)
    (hparts:∀ i o,i < n→l[i]?=some o→∃ d D,o.dst=some d∧Ds[i]?=some D∧Ob P l.toArray N B1 w1 (factsC (l.take n) Ds Fc0 i) (factsE (l.take n) Ds i) o D∧fresh (factsC (l.take n) Ds Fc0 i) (factsE (l.take n) Ds i) d D)
    (hN:∀ i o d,i < n→l[i]?=some o→o.dst=some d→d < N) (hB:B1≤w1.heap.size)
    (fin:∀ vals ents listed a w,Inv P l n N B1 w1 Fc0 Ds vals ents listed a w→(∀ j,j < n→listed.getD j false=true)→First P l.toArray Q l J on (l.drop (n + 1)) a w) :
    ∀ (m:Nat) (U:List Nat) (vals:Nat→Value) (ents:Nat→List Ent) (listed:Array Bool) (a:Act) (w:World),U.length=m→U.Nodup→(∀ j,j∈U ↔ j < l.length∧listed.getD j false=false) →
      Inv P l n N B1 w1 Fc0 Ds vals ents listed a w→wpAny P .any l.toArray Q m listed a w:=by
  intro m
  have eln:n < l.length:=(List.getElem?_eq_some_iff.1 hon).1
  induction m with
  | zero =>
    intro U vals ents listed a w hU hnd hmem inv
    have hU0:U=[]:=List.eq_nil_of_length_eq_zero hU
    subst hU0
    have:=(hmem n).2 ⟨eln,inv.tail n (Nat.le_refl _)⟩
    cases this
  | succ m ih =>
    intro U vals ents listed a w hU hnd hmem inv
    by_cases hall:∀ j,j < n→j ∉ J→listed.getD j false=true
    · obtain ⟨b,vals',ents',listed',i1,i2,i3⟩:=Inv.finish hok hL hl hparts hN hB w n 0 vals ents listed a (by omega) inv hall fun j hj=>by omega
      refine wpAny_lag hok hL (m + 1) U n listed a b w hU hnd hmem inv.size (Nat.le_refl _) (fun j hj hjJ=>?_) inv.closed i3 (.inl ⟨rfl,on,hon,fin vals' ents' listed' b w i1 i2⟩)
      by_cases e:j < n
      · rw [hall j e hjJ]; simp [e]
      · rw [inv.tail j (by omega)]; simp [e]
    · obtain ⟨j0,hj0,hj0J,hl0⟩:∃ j,j < n∧j ∉ J∧listed.getD j false=false:=by
        apply Classical.byContradiction
        intro hn
        apply hall
        intro j hj hjJ
        cases hx:listed.getD j false with
        | true=>rfl
        | false=>exact absurd ⟨j,hj,hjJ,hx⟩ hn
      refine ⟨fun h0=>?_,fun i hi=>?_⟩
      · obtain ⟨i,hi⟩:=exists_ready hok inv.size j0 (by omega) hl0
        rw [h0] at hi; cases hi
      · have hin:i < n:=by
          apply Classical.byContradiction
          intro hge
          obtain ⟨_,o,ho,hall2⟩:=mem_ready.1 hi
          have key:=anc_closed (ops:=l.toArray) (S:=fun j=>listed.getD j false=true) (fun i' o' hi' hs' e he hb=>inv.closed i' o' (by simpa using hi') hs' e he hb) 24 o j0 (fun e he hb=>hall2 e he hb) ((hok.tail i o ho (by omega) j0 (by omega)).resolve_left hj0J)
          rw [hl0] at key
          cases key
        have hil:i < l.length:=by omega
        have hiU:i∈U:=(hmem i).2 ⟨hil,by
          have h1:=(mem_ready.1 hi).1
          rw [getD_both_iff (by rw [inv.size]; exact hil)] at h1
          exact h1⟩
        refine inv.step hok hl hparts hN hB hin hi fun v L' a' w' inv'=>?_
        exact ih (U.erase i) _ _ _ _ _ (by rw [List.length_erase_of_mem hiU,hU]; simp) (hnd.erase i) (erase_mem hnd inv.size hil hmem) inv'
theorem any_rgX {J:List Nat} {on:Oper} {F:List (Nat × Value)} {L:List Ent} {M:Nat→Prop} {w0 w:World} {a:Act} (n:Nat) (hB:rgBL l.toArray n J=true) (hJ:lateB l n J=true) (hon:l[n]?=some on) (hd:dstB (l.take n) N=true) (hs:St N F L M w0 a w)
    (h:RG P l.toArray N w.heap.size w (fun Fc Fe=>∀ a' w' L',Fr0 w w'→FeOk Fe a' w' L'→St N Fc (L'++L) M w0 a' w'→Links P l n a'→First P l.toArray Q l J on (l.drop (n + 1)) a' w') F [] (l.take n)) :
    RegAny P Q l a w:=by
  have hok:RgOk l.toArray n J:=rgB_spec hB
  have hle:=hok.le
  simp at hle
  have htl:(l.take n).length=n:=by simp [hle]
  obtain ⟨Ds,hlen,hK,hparts⟩:=RG.parts F (l.take n) [] [] rfl h
  simp only [List.nil_append,htl] at hlen hK hparts
  have hget:∀ i o,i < n→l[i]?=some o→(l.take n)[i]?=some o:=fun i o hi ho=>by rw [List.getElem?_take_of_lt hi]; exact ho
  have hparts':∀ i o,i < n→l[i]?=some o→∃ d D,o.dst=some d∧Ds[i]?=some D∧Ob P l.toArray N w.heap.size w (factsC (l.take n) Ds F i) (factsE (l.take n) Ds i) o D∧fresh (factsC (l.take n) Ds F i) (factsE (l.take n) Ds i) d D :=
    fun i o hi ho=>hparts i o (by simp) (hget i o hi ho)
  have hN:∀ i o d,i < n→l[i]?=some o→o.dst=some d→d < N:=fun i o d hi ho hod=>by
    have:=List.all_eq_true.1 hd o (List.mem_of_getElem? (hget i o hi ho))
    rw [hod] at this
    exact lt_of_blt this
  unfold RegAny
  have hdr:Fr0 w { w with drawn:=w.drawn + 1 }:=Fr.drew w
  have hU:((List.range l.length).length=l.toArray.size):=by simp
  refine wpAny_headJ (w1:=w) (B1:=w.heap.size) (Ds:=Ds) (Fc0:=F) hok (lateB_spec hJ) hon (by omega) hparts' hN (Nat.le_refl _) ?_ _ (List.range l.length) (fun _=>undef) (fun _=>[]) _ _ _ hU List.nodup_range ?_ ?_
  · intro vals ents listed a' w' inv hall
    have hds:∃ ds:Nat→Nat,∀ j o,(l.take n)[j]?=some o→o.dst=some (ds j):=by
      refine ⟨fun j=>(dstAt l.toArray j).getD 0,fun j o hj=>?_⟩
      have hjn:j < n:=by have:=(List.getElem?_eq_some_iff.1 hj).1; omega
      rw [List.getElem?_take_of_lt hjn] at hj
      obtain ⟨d',hd'⟩:=hok.dst j o (by simpa using hj) hjn
      simp [dstAt,hj,hd']
    obtain ⟨ds,hds⟩:=hds
    have hdsA:∀ j,j < n→dstAt l.toArray j=some (ds j):=fun j hj=>by
      have hjl:j < l.length:=by omega
      have:=hds j l[j] (by rw [List.getElem?_take_of_lt hj]; simp [hjl])
      simp [dstAt,hjl,this]
    have hfr':∀ j o D,(l.take n)[j]?=some o→Ds[j]?=some D→fresh (factsC (l.take n) Ds F j) (factsE (l.take n) Ds j) (ds j) D:=by
      intro j o' D' hj hDj
      have hjn:j < n:=by have:=(List.getElem?_eq_some_iff.1 hj).1; omega
      have hj':=hj
      rw [List.getElem?_take_of_lt hjn] at hj'
      obtain ⟨d2,D2,h1,h2,_,h4⟩:=hparts' j o' hjn hj'
      rw [hDj] at h2
      obtain rfl:=Option.some.inj h2
      have:=hds j o' hj
      rw [h1] at this
      obtain rfl:=Option.some.inj this
      exact h4
    have hknow:Know N (factsC (l.take n) Ds F n) a':=by
      refine ⟨inv.know.1,inv.know.2,fun s v hv=>?_⟩
      rcases factsC_src (Fc0:=F) hds (by omega) hfr' n (by omega) s v hv with ⟨j,hj,h1,h2⟩ | ⟨h1,h2⟩
      · obtain ⟨h4,h5⟩:=inv.done j s _ hj (hall j hj) (by rw [hdsA j hj,h1]) h2
        rw [h4,h5.1]
      · exact inv.base s v h1 fun j hj _ hdj=>by
          rw [hdsA j hj] at hdj
          exact h2 j hj (Option.some.inj hdj)
    have hfe:∀ i,i≤n→∃ L'',FeOk (factsE (l.take n) Ds i) a' w' L''∧L''.Perm ((List.range i).flatMap ents):=by
      intro i
      induction i with
      | zero=>intro _; exact ⟨[],rfl,by simp⟩
      | succ i ih =>
        intro hi
        obtain ⟨L'',h1,h2⟩:=ih (by omega)
        have hil:i < (l.take n).length:=by omega
        have ho:(l.take n)[i]?=some (l.take n)[i]:=List.getElem?_eq_getElem hil
        have hD:Ds[i]?=some (Ds[i]'(by omega)):=List.getElem?_eq_getElem (by omega)
        have hdi:=hds i _ ho
        obtain ⟨h4,h5⟩:=inv.done i (ds i) _ (by omega) (hall i (by omega)) (hdsA i (by omega)) hD
        simp only [factsE,ho,hD,hdi,List.range_succ,List.flatMap_append]
        generalize Ds[i]'(by omega)=D at *
        cases D with
        | c u=>exact ⟨L'',h1,by simp [h5.2]; exact h2⟩
        | e E st =>
          refine ⟨ents i++L'',⟨vals i,ents i,L'',h4,h5,h1,rfl⟩,?_⟩
          simp only [List.flatMap_cons,List.flatMap_nil,List.append_nil]
          exact (List.Perm.append_left _ h2).trans List.perm_append_comm
    obtain ⟨L'',hf1,hf2⟩:=hfe n (Nat.le_refl _)
    have hhas:Has w.heap.size w' L'':=by
      have:(List.range n).flatMap (fun j=>if listed.getD j false=true then ents j else [])=(List.range n).flatMap ents:=flatMap_same _ _ _ fun j hj=>by rw [if_pos (hall j (List.mem_range.1 hj))]
      have hh:=inv.has
      rw [this] at hh
      exact hh.perm hf2
    have hst:St N (factsC (l.take n) Ds F n) (L''++L) M w0 a' w':=⟨hknow,(hs.has.new inv.fr (Nat.zero_le _) hhas),fun e he k hk=>by
      rcases List.mem_append.1 he with he | he
      · exact .inl (Nat.le_trans hs.fr.size (hhas.ge e he k hk))
      · exact hs.own e he k hk,hs.fr.trans0 inv.fr⟩
    refine hK a' w' L'' inv.fr hf1 hst ⟨fun j oj dj s hj hoj hdj hos hsf=>?_,fun j oj dj hj hoj hdj hbj hsf=>?_⟩
    · obtain ⟨d2,D2,h1,h2,_,_⟩:=hparts' j oj hj hoj
      rw [hdj] at h1
      obtain rfl:=Option.some.inj h1
      exact ⟨vals j,(inv.done j dj D2 hj (hall j hj) (by simp [dstAt,hoj,hdj]) h2).1,inv.links j oj s hj hoj (hall j hj) hos hsf⟩
    · obtain ⟨d2,D2,h1,h2,_,_⟩:=hparts' j oj hj hoj
      rw [hdj] at h1
      obtain rfl:=Option.some.inj h1
      obtain ⟨w1,w2,h3⟩:=inv.links2 j oj hj hoj (hall j hj) hbj hsf
      exact ⟨vals j,w1,w2,(inv.done j dj D2 hj (hall j hj) (by simp [dstAt,hoj,hdj]) h2).1,h3⟩
  · intro j
    simp
    intro hj
    simp [Array.getElem?_replicate,hj]
  · refine ⟨by simp,⟨hs.know.size,hs.know.defers⟩,fun j d D hj hl'=>?_,fun s v hv _=>hs.know.at_ s v hv,?_,hdr,fun t _=>?_,fun j o _ hl'=>?_,fun j o s _ _ hl'=>?_,fun j o _ _ hl'=>?_⟩
    · simp [Array.getElem?_replicate] at hl'
      split at hl' <;> simp at hl'
    · have:∀ r:List Nat,r.flatMap (fun j=>if (Array.replicate l.toArray.size false).getD j false=true then ([]:List Ent) else [])=[]:=fun r=>by induction r with | nil=>rfl | cons x t ih=>simp
      rw [this]
      exact .nil _ _
    · simp [Array.getElem?_replicate]
      split <;> simp
    · simp [Array.getElem?_replicate] at hl'
      split at hl' <;> simp at hl'
    · simp [Array.getElem?_replicate] at hl'
      split at hl' <;> simp at hl'
    · simp [Array.getElem?_replicate] at hl'
      split at hl' <;> simp at hl'
theorem wp_region_rgL {id:Nat} {F:List (Nat × Value)} {L:List Ent} {M:Nat→Prop} {w0 w:World} {a:Act} (hm:P.follows .mixedOrders=true) (n:Nat) (hB:rgB l.toArray n=true) (hd:dstB (l.take n) N=true) (hs:St N F L M w0 a w)
    (h:RG P l.toArray N w.heap.size w (fun Fc Fe=>∀ a' w' L',Fr0 w w'→FeOk Fe a' w' L'→St N Fc (L'++L) M w0 a' w'→Links P l n a'→wpList P l.toArray Q (l.drop n) a' w') F [] (l.take n)) :
    (Code.region id l.toArray true).wp P Q a w:=wp_region_any hm (any_rgL n hB hd hs h)
theorem wp_region_rgX {J:List Nat} {on:Oper} {id:Nat} {F:List (Nat × Value)} {L:List Ent} {M:Nat→Prop} {w0 w:World} {a:Act} (hm:P.follows .mixedOrders=true) (n:Nat) (hB:rgBL l.toArray n J=true) (hJ:lateB l n J=true) (hon:l[n]?=some on) (hd:dstB (l.take n) N=true) (hs:St N F L M w0 a w)
    (h:RG P l.toArray N w.heap.size w (fun Fc Fe=>∀ a' w' L',Fr0 w w'→FeOk Fe a' w' L'→St N Fc (L'++L) M w0 a' w'→Links P l n a'→First P l.toArray Q l J on (l.drop (n + 1)) a' w') F [] (l.take n)) :
    (Code.region id l.toArray true).wp P Q a w:=wp_region_any hm (any_rgX n hB hJ hon hd hs h)
theorem wp_region_rg {id:Nat} {F:List (Nat × Value)} {L:List Ent} {M:Nat→Prop} {w0 w:World} {a:Act} (hm:P.follows .mixedOrders=true) (n:Nat) (hB:rgB l.toArray n=true) (hd:dstB (l.take n) N=true) (hs:St N F L M w0 a w)
    (h:RG P l.toArray N w.heap.size w (fun Fc Fe=>∀ a' w' L',Fr0 w w'→FeOk Fe a' w' L'→St N Fc (L'++L) M w0 a' w'→wpList P l.toArray Q (l.drop n) a' w') F [] (l.take n)) :
    (Code.region id l.toArray true).wp P Q a w :=
  wp_region_rgL hm n hB hd hs (RG.mono (fun _ _ hk a' w' L' h1 h2 h3 _=>hk a' w' L' h1 h2 h3) _ _ _ h)
end
end Go.Fw
end

section
/- The steps of a region's walk; what a slice reads as; append,make. -/
namespace Go.Fw
open Go
section
variable {P:Program} {ops:Array Oper} {N B1:Nat} {w1:World} {K:List (Nat × Value)→Fes→Prop} {Fc:List (Nat × Value)} {Fe:Fes} {rest:List Oper}
variable {d:Tmp} {op:Op} {ty:TypeId} {pos:String} {aft:Array Edge} {x y z:Operand} {t u:TypeId}
theorem RC.ev {o:Oper} {a:Act} {w:World} {x:Operand} {v:Value} (h:RC N Fc Fe o B1 w1 a w) (hx:ev Fc x=some v):a.eval x=v:=h.know.eval hx
theorem RC.blk {o:Oper} {a:Act} {w:World} {g:Nat} {b:Obj} (h:RC N Fc Fe o B1 w1 a w) (hb:w1.heap[g]?=some b):w.heap[g]?=some b:=by
  rw [h.fr.block g (Array.getElem?_eq_some_iff.1 hb).1 id]; exact hb
theorem RC.ent {o:Oper} {a:Act} {w:World} {n:Nat} {E:Value→List Ent→World→Prop} (h:RC N Fc Fe o B1 w1 a w) (hn:lookE Fe n=some E) (hu:(tmpsOf o).any (Nat.beq n)=true) :
    ∃ v L',a.eval (.tmp n)=v∧E v L' w∧Has B1 w L':=by
  obtain ⟨v,L',h1,h2⟩:=h.ents n E hn hu
  exact ⟨v,L',by simp [Act.eval,h1],h2⟩
theorem rg_nil (h:K Fc Fe):RG P ops N B1 w1 K Fc Fe []:=h
theorem rg_q {v:Value} (h:∀ a w,RC N Fc Fe ⟨some d,op,ty,pos,aft,none⟩ B1 w1 a w→(execOp a.eval ⟨some d,op,ty,pos,aft,none⟩).run P w=.ok (.value v) w) (hE:lookE Fe d=none)
    (k:RG P ops N B1 w1 K ((d,v)::Fc) Fe rest):RG P ops N B1 w1 K Fc Fe (⟨some d,op,ty,pos,aft,none⟩::rest) :=
  ⟨d,.c v,rfl,⟨.inl ⟨rfl,fun a w hc=>by rw [h a w hc]; exact ⟨[],⟨rfl,rfl⟩,.refl _ _,.nil _ _⟩⟩,fun _ a w hc=>⟨v,h a w hc⟩⟩,hE,k⟩
theorem rg_yes {v:Value} {j s:Nat} {b:Bool} (hj:(ops[j]?).bind (·.dst)=some s) (hb:look Fc s=some (.bool b))
    (h:∀ a w,RC N Fc Fe ⟨some d,op,ty,pos,aft,some (j,b)⟩ B1 w1 a w→(execOp a.eval ⟨some d,op,ty,pos,aft,some (j,b)⟩).run P w=.ok (.value v) w) (hE:lookE Fe d=none)
    (k:RG P ops N B1 w1 K ((d,v)::Fc) Fe rest):RG P ops N B1 w1 K Fc Fe (⟨some d,op,ty,pos,aft,some (j,b)⟩::rest) :=
  ⟨d,.c v,rfl,⟨.inl ⟨by simp [wantedAs,hj,hb],fun a w hc=>by rw [h a w hc]; exact ⟨[],⟨rfl,rfl⟩,.refl _ _,.nil _ _⟩⟩,fun h=>by cases h⟩,hE,k⟩
theorem rg_no {j s:Nat} {b c:Bool} (hj:(ops[j]?).bind (·.dst)=some s) (hb:look Fc s=some (.bool c)) (hne:c=!b) (hE:lookE Fe d=none)
    (k:RG P ops N B1 w1 K ((d,undef)::Fc) Fe rest):RG P ops N B1 w1 K Fc Fe (⟨some d,op,ty,pos,aft,some (j,b)⟩::rest) :=
  ⟨d,.c undef,rfl,⟨.inr ⟨by subst hne; cases b <;> simp [wantedAs,hj,hb],rfl⟩,fun h=>by cases h⟩,hE,k⟩
theorem rg_e (E:Value→List Ent→World→Prop) (st:∀ v L w w',Fr0 w w'→E v L w→E v L w')
    (h:∀ a w,RC N Fc Fe ⟨some d,op,ty,pos,aft,none⟩ B1 w1 a w→Yl P (fun v w'=>∃ L',E v L' w'∧Fr0 w w'∧Has w.heap.size w' L') ((execOp a.eval ⟨some d,op,ty,pos,aft,none⟩).run P w)) (hC:look Fc d=none)
    (k:RG P ops N B1 w1 K Fc ((d,E)::Fe) rest) (hq:needQ ⟨some d,op,ty,pos,aft,none⟩=false:=by rfl):RG P ops N B1 w1 K Fc Fe (⟨some d,op,ty,pos,aft,none⟩::rest) :=
  ⟨d,.e E st,rfl,⟨.inl ⟨rfl,h⟩,fun h=>by rw [hq] at h; cases h⟩,hC,k⟩
theorem rg_eq (E:Value→List Ent→World→Prop) (st:∀ v L w w',Fr0 w w'→E v L w→E v L w')
    (h:∀ a w,RC N Fc Fe ⟨some d,op,ty,pos,aft,none⟩ B1 w1 a w→∃ v,(execOp a.eval ⟨some d,op,ty,pos,aft,none⟩).run P w=.ok (.value v) w∧E v [] w) (hC:look Fc d=none)
    (k:RG P ops N B1 w1 K Fc ((d,E)::Fe) rest):RG P ops N B1 w1 K Fc Fe (⟨some d,op,ty,pos,aft,none⟩::rest) :=
  ⟨d,.e E st,rfl,⟨.inl ⟨rfl,fun a w hc=>by
    obtain ⟨v,h1,h2⟩:=h a w hc
    rw [h1]
    exact ⟨[],h2,.refl _ _,.nil _ _⟩⟩,fun _ a w hc=>by
    obtain ⟨v,h1,_⟩:=h a w hc
    exact ⟨v,h1⟩⟩,hC,k⟩
theorem rg_alloc {td:TypeDesc} {sz bytes:Nat} {zs:List Value} (hT:Ty P t td sz bytes zs) (hC:look Fc d=none)
    (k:RG P ops N B1 w1 K Fc ((d,fun v L _=>∃ g,v=.pointer (some ⟨g,0,none⟩)∧L=[.seg g zs t])::Fe) rest):RG P ops N B1 w1 K Fc Fe (⟨some d,.alloc t,ty,pos,aft,none⟩::rest) :=
  rg_e _ (fun _ _ _ _ _ h=>h) (fun a w hc=>by rw [c_alloc hT]; exact ⟨_,⟨_,rfl,rfl⟩,.alloc _ _,has_alloc⟩) hC k
theorem rg_bslice {E:TypeId} {ed:TypeDesc} {s bytes n:Nat} {z zs:List Value} {ps:Array (Nat × Operand)} {vs:List Value} (hu:P.underlying t=some (.slice E)) (hE:Ty P E ed s bytes z)
    (hps:∀ a w,RC N Fc Fe ⟨some d,.buildSlice t n ps,ty,pos,aft,none⟩ B1 w1 a w→Evp a 0 ps.toList vs) (hn:vs.length=n) (hv:∀ v∈vs,v.cells.size=s) (hsmall:n * s≤16777216) (hz:flatCells vs=zs) (hC:look Fc d=none)
    (k:RG P ops N B1 w1 K Fc ((d,fun v L _=>∃ g,v=.slice (some ⟨g,0,none⟩) n n∧L=[.seg g zs E])::Fe) rest):RG P ops N B1 w1 K Fc Fe (⟨some d,.buildSlice t n ps,ty,pos,aft,none⟩::rest) :=
  rg_e _ (fun _ _ _ _ _ h=>h) (fun a w hc=>by rw [c_bslice hu hE (hps a w hc) hn hv hsmall,hz]; exact ⟨_,⟨_,rfl,rfl⟩,.alloc _ _,has_alloc⟩) hC k
theorem rg_moveE {s:Nat} {E0:Value→List Ent→World→Prop} (C:Value→Prop) (hn:lookE Fe s=some E0) (hu:(tmpsOf ⟨some d,.move (.tmp s),ty,pos,aft,none⟩).any (Nat.beq s)=true) (hC:∀ v L w,E0 v L w→C v) (hCd:look Fc d=none)
    (k:RG P ops N B1 w1 K Fc ((d,fun v L _=>C v∧L=[])::Fe) rest):RG P ops N B1 w1 K Fc Fe (⟨some d,.move (.tmp s),ty,pos,aft,none⟩::rest) :=
  rg_e (fun v L _=>C v∧L=[]) (fun _ _ _ _ _ h=>h) (fun a w hc=>by
    obtain ⟨v,L',h1,h2,_⟩:=hc.ent hn hu
    rw [c_move h1]
    exact ⟨[],⟨hC _ _ _ h2,rfl⟩,.refl _ _,.nil _ _⟩) hCd k
theorem rg_assignE {s:Nat} {E0:Value→List Ent→World→Prop} (C:Value→Prop) (hn:lookE Fe s=some E0) (hu:(tmpsOf ⟨some d,.assign (.tmp s),ty,pos,aft,none⟩).any (Nat.beq s)=true) (hC:∀ v L w,E0 v L w→C v) (hCd:look Fc d=none)
    (k:RG P ops N B1 w1 K Fc ((d,fun v L _=>C v∧L=[])::Fe) rest):RG P ops N B1 w1 K Fc Fe (⟨some d,.assign (.tmp s),ty,pos,aft,none⟩::rest) :=
  rg_e (fun v L _=>C v∧L=[]) (fun _ _ _ _ _ h=>h) (fun a w hc=>by
    obtain ⟨v,L',h1,h2,_⟩:=hc.ent hn hu
    rw [c_assign h1]
    exact ⟨[],⟨hC _ _ _ h2,rfl⟩,.refl _ _,.nil _ _⟩) hCd k
theorem rg_extC {s i:Nat} {E0:Value→List Ent→World→Prop} {c:Value} (hn:lookE Fe s=some E0) (hu:(tmpsOf ⟨some d,.extract (.tmp s) i,ty,pos,aft,none⟩).any (Nat.beq s)=true) (hc:∀ v L w,E0 v L w→∃ vs,v=.tuple vs∧vs[i]?=some c) (hE:lookE Fe d=none)
    (k:RG P ops N B1 w1 K ((d,c)::Fc) Fe rest):RG P ops N B1 w1 K Fc Fe (⟨some d,.extract (.tmp s) i,ty,pos,aft,none⟩::rest) :=
  rg_q (fun a w h=>by
    obtain ⟨v,L',h1,h2,_⟩:=h.ent hn hu
    obtain ⟨vs,rfl,h3⟩:=hc _ _ _ h2
    exact c_extract h1 h3) hE k
theorem rg_extE {s i:Nat} {E0:Value→List Ent→World→Prop} (C:Value→Prop) (hn:lookE Fe s=some E0) (hu:(tmpsOf ⟨some d,.extract (.tmp s) i,ty,pos,aft,none⟩).any (Nat.beq s)=true) (hc:∀ v L w,E0 v L w→∃ vs u,v=.tuple vs∧vs[i]?=some u∧C u) (hCd:look Fc d=none)
    (k:RG P ops N B1 w1 K Fc ((d,fun v L _=>C v∧L=[])::Fe) rest):RG P ops N B1 w1 K Fc Fe (⟨some d,.extract (.tmp s) i,ty,pos,aft,none⟩::rest) :=
  rg_e (fun v L _=>C v∧L=[]) (fun _ _ _ _ _ h=>h) (fun a w h=>by
    obtain ⟨v,L',h1,h2,_⟩:=h.ent hn hu
    obtain ⟨vs,u,rfl,h3,h4⟩:=hc _ _ _ h2
    rw [c_extract h1 h3]
    exact ⟨[],⟨h4,rfl⟩,.refl _ _,.nil _ _⟩) hCd k
theorem rg_call {f:FuncId} {args:Array Operand} {vs:List Value} {tys:Array TypeId} {c:Value} (hF:Fun P f)
    (hargs:∀ a w,RC N Fc Fe ⟨some d,.call { callee:=.value (.func f),args:=args,argTypes:=tys },ty,pos,aft,none⟩ B1 w1 a w→Evs a args.toList vs)
    (hc:∀ w,Fr0 w1 w→Ctr P f vs w (fun _=>False) fun v _=>v=c) (hE:lookE Fe d=none)
    (k:RG P ops N B1 w1 K ((d,c)::Fc) Fe rest):RG P ops N B1 w1 K Fc Fe (⟨some d,.call { callee:=.value (.func f),args:=args,argTypes:=tys },ty,pos,aft,none⟩::rest) :=
  ⟨d,.c c,rfl,⟨.inl ⟨rfl,fun a w h=>by
    rw [run_call hF (hargs a w h)]
    exact Calls.mono (hc w h.fr) fun e w' ⟨v,he,hf,hv⟩=>⟨v,he,[],⟨hv,rfl⟩,hf,.nil _ _⟩⟩,fun h=>by cases h⟩,hE,k⟩
theorem rg_callE {f:FuncId} {args:Array Operand} {tys:Array TypeId} (E:Value→List Ent→World→Prop) (st:∀ v L w w',Fr0 w w'→E v L w→E v L w') (hF:Fun P f)
    (hc:∀ a w,RC N Fc Fe ⟨some d,.call { callee:=.value (.func f),args:=args,argTypes:=tys },ty,pos,aft,none⟩ B1 w1 a w →
      ∃ vs,Evs a args.toList vs∧Ctr P f vs w (fun _=>False) fun v w'=>∃ L',E v L' w'∧Has w.heap.size w' L') (hC:look Fc d=none)
    (k:RG P ops N B1 w1 K Fc ((d,E)::Fe) rest):RG P ops N B1 w1 K Fc Fe (⟨some d,.call { callee:=.value (.func f),args:=args,argTypes:=tys },ty,pos,aft,none⟩::rest) :=
  rg_e E st (fun a w h=>by
    obtain ⟨vs,h1,h2⟩:=hc a w h
    rw [run_call hF h1]
    exact Calls.mono h2 fun e w' ⟨v,he,hf,L',hv,hl⟩=>⟨v,he,L',hv,hf,hl⟩) hC k
end
/-! ### What a slice reads as -/
def Rd (w:World) (v:Value) (n:Nat) (cs:List Value):Prop :=
  ∃ ad cap,v=.slice ad n cap∧n≤cap∧cap≤maxLen∧(ad=none→cap=0)∧(cs=[]∨∃ b o T fr all,ad=some ⟨b,o,none⟩∧w.heap[b]?=some (.cells all T fr)∧(all.toList.drop o).take cs.length=cs)
theorem Rd.fr {M:Nat→Prop} {w w':World} {v:Value} {n:Nat} {cs:List Value} (h:Rd w v n cs) (hf:Fr M w w') (hm:∀ k,v.ownBlock=some k→¬ M k):Rd w' v n cs:=by
  obtain ⟨ad,cap,hv,h1,h2,h0,h3⟩:=h
  refine ⟨ad,cap,hv,h1,h2,h0,h3.imp id ?_⟩
  rintro ⟨b,o,T,fr,all,rfl,hb,hc⟩
  refine ⟨b,o,T,fr,all,rfl,?_,hc⟩
  rw [hf.block b (Array.getElem?_eq_some_iff.1 hb).1 (hm b (by simp [hv,Value.ownBlock]))]
  exact hb
theorem Rd.fr0 {w w':World} {v:Value} {n:Nat} {cs:List Value} (h:Rd w v n cs) (hf:Fr0 w w'):Rd w' v n cs:=h.fr hf fun _ _=>id
theorem Rd.of_seg {w:World} {g cap n:Nat} {T:TypeId} {fr:Nat × Nat} {cs all:List Value} (hb:w.heap[g]?=some (.cells all.toArray T fr)) (hn:n≤cap) (hm:cap≤maxLen) (hc:all.take cs.length=cs):Rd w (.slice (some ⟨g,0,none⟩) n cap) n cs :=
  ⟨_,cap,rfl,hn,hm,fun h=>(by cases h),.inr ⟨g,0,T,fr,_,rfl,hb,by simpa using hc⟩⟩
theorem Rd.of_row {w:World} {v:Value} {n sz:Nat} {T:TypeId} {xs:List Value} (h:w.ownsRow 0 T sz v n xs):Rd w v n xs:=by
  obtain ⟨h1,h2⟩:=h
  rcases h2 with ⟨rfl,rfl⟩ | ⟨g,cap,cur,rfl,_,hc,hn,hm,hs,ht⟩
  · exact ⟨none,0,rfl,Nat.le_refl _,Nat.zero_le _,fun _=>rfl,.inl (List.eq_nil_of_length_eq_zero (by simpa using h1))⟩
  · exact ⟨_,cap,rfl,hn,hm,fun h=>(by cases h),.inr ⟨g,0,T,(0,0),cur,rfl,hc,by simpa [h1] using ht⟩⟩
theorem Rd.at_ {w:World} {v:Value} {n:Nat} {cs:List Value} (h:Rd w v n cs) (hne:cs ≠ []):∃ b o cap T fr all,v=.slice (some ⟨b,o,none⟩) n cap∧n≤cap∧cap≤maxLen∧w.heap[b]?=some (.cells all T fr)∧(all.toList.drop o).take cs.length=cs:=by
  obtain ⟨ad,cap,hv,h1,h2,_,h3⟩:=h
  rcases h3 with h3 | ⟨b,o,T,fr,all,rfl,hb,hc⟩
  · exact absurd h3 hne
  · exact ⟨b,o,cap,T,fr,all,hv,h1,h2,hb,hc⟩
theorem Rd.cut {w:World} {ad:Option Addr} {n cap i sz:Nat} {cs:List Value} (h:Rd w (.slice ad n cap) n cs) (hi:i≤n) (hsz:cs.length=n * sz) (hlt:i * sz≤cs.length) :
    Rd w (.slice (if cap=i then ad else ad.map (·.add (i * sz))) (n - i) (cap - i)) (n - i) (cs.drop (i * sz)):=by
  obtain ⟨ad',cap',hv,h1,h2,h0,h3⟩:=h
  cases hv
  refine ⟨_,_,rfl,by omega,by omega,fun hn=>?_,?_⟩
  · split at hn
    · have:=h0 hn; omega
    · have:=h0 (by simpa using hn); omega
  rcases h3 with h3 | ⟨b,o,T,fr,all,rfl,hb,hc⟩
  · left; rw [h3]; simp
  · by_cases e:cap=i
    · left
      have:i=n:=by omega
      subst this
      simp [← hsz]
    · right
      refine ⟨b,o + i * sz,T,fr,all,by simp [e,add_lit],hb,?_⟩
      rw [← hc]
      simp only [List.length_drop,List.drop_take,List.drop_drop,List.length_take]
      congr 1
      have:cs.length≤(all.toList.drop o).length:=by rw [← hc]; simp only [List.length_take]; omega
      simp only [List.length_drop] at this ⊢
      omega
section
variable {P:Program} {a:Act} {w:World} {d:Option Tmp} {ty:TypeId} {pos:String} {aft:Array Edge} {g:Option (Nat × Bool)} {x y z:Operand} {t u:TypeId}
end
/-! ### append,make -/
section
variable {P:Program} {ops:Array Oper} {Q:Exit→Act→World→Prop} {rest:List Oper} {N:Nat} {F F':List (Nat × Value)} {L L':List Ent} {M:Nat→Prop} {w0 w:World} {a:Act}
variable {d:Tmp} {op:Op} {ty:TypeId} {pos:String} {aft:Array Edge} {x y z:Operand} {t u:TypeId}
theorem ownBlock_row {w:World} {T:TypeId} {sz n:Nat} {v:Value} {xs:List Value} (h:w.ownsRow 0 T sz v n xs):∀ k,v.ownBlock=some k→k < w.heap.size:=fun k hk=>(h.lt k hk).2
theorem Rd.src {w:World} {u:Value} {m:Nat} {news:List Value} (hr:Rd w u m news):(u=.slice none 0 0∧m=0∧news=[])∨∃ ad cap,u=.slice (some ad) m cap∧∀ j v,news[j]?=some v→w.cell? (ad.add j)=some v:=by
  obtain ⟨ad,cap,hv,h1,h2,h0,h3⟩:=hr
  cases ad with
  | none =>
    have hc:=h0 rfl
    subst hc
    have hm:m=0:=by omega
    subst hm
    refine .inl ⟨hv,rfl,?_⟩
    rcases h3 with h3 | ⟨b,o,T,fr,all,h,_⟩
    · exact h3
    · cases h
  | some ad =>
    refine .inr ⟨ad,cap,hv,fun j v hj=>?_⟩
    rcases h3 with h3 | ⟨b,o,T,fr,all,h,hb,hc⟩
    · subst h3; simp at hj
    · cases h
      have hlt:j < news.length:=(List.getElem?_eq_some_iff.1 hj).1
      rw [add_lit,cell_of hb]
      rw [← hc,List.getElem?_take_of_lt hlt,List.getElem?_drop] at hj
      simpa using hj
theorem run_append2 {ty E:TypeId} {ed:TypeDesc} {sz bytes n m:Nat} {zs xs news:List Value} {v u:Value} (hu:P.underlying t=some (.slice E)) (hE:Ty P E ed sz bytes zs) (hsz:0 < sz)
    (hown:w.ownsRow 0 E sz v n xs) (hr:Rd w u m news) (hl:news.length=m * sz) (h1:news.all (·.oneCell')=true) (h63:n + m≤maxLen) (hby:(n + m) * bytes≤140737488355328) :
    ∃ v' w',(Builtin.append_ #[t,t] ty #[v,u]).run P w=.ok v' w'∧w'.ownsRow 0 E sz v' (n + m) (xs++news)∧w.grownBy w' v.ownBlock∧(v'=.slice none 0 0 ↔ v=.slice none 0 0∧m=0) ∧
      (∀ k,v'.ownBlock=some k→v.ownBlock=some k∨w.heap.size≤k):=by
  obtain ⟨inf,hi1,hi2,hi3,zv,hi4,hi5⟩:=hE.info
  have hzs:zv.cells.size=sz:=by rw [hi5]; simp [hE.len]
  rcases hr.src with ⟨rfl,rfl,rfl⟩ | ⟨ad,cap,rfl,hnews⟩
  · exact ⟨v,w,run_append_owned_none w 0 t ty E inf sz hu hi1 v n xs hown,by simpa using hown,⟨rfl,rfl,rfl,Nat.le_refl _,fun _ _ _=>rfl⟩,by simp,fun k hk=>.inl hk⟩
  · have h1':∀ u∈news,u.oneCell'=true:=fun u hu=>List.all_eq_true.1 h1 u hu
    obtain ⟨v',w',hrun,ho,hg,hnil⟩:=run_append_own (P:=P) w 0 t ty E inf zv sz bytes hu hi1 hi4 hi2 hi3 hzs hsz v n xs hown ad m cap news hl hnews h1' h63 hby (Nat.zero_le _)
    refine ⟨v',w',hrun,ho,hg,hnil,fun k hk=>?_⟩
    have hml:n + m≤9223372036854775807:=by simp only [maxLen] at h63; omega
    rcases hown.2 with ⟨rfl,rfl⟩ | ⟨g,cp,cur,rfl,hbg,hgc,hnc,hcm,hcs,htake⟩
    · by_cases hm:m=0
      · have:=hnil.2 ⟨rfl,hm⟩
        rw [this] at hk
        cases hk
      · have hr2:=run_append_nil (P:=P) w t ty E inf zv hu hi1 hi4 ad m cap news (by rw [hl,hi2]) hnews (by omega) (by omega) (by rw [hi3]; simp only [Nat.zero_add] at hby; omega)
        rw [hrun] at hr2
        have:=(Result.ok.inj hr2).1
        subst this
        simp [Value.ownBlock] at hk
        omega
    · by_cases hroom:n + m≤cp
      · have hfit:n * inf.size + news.length≤cur.size:=by rw [hl,hi2,hcs,← Nat.add_mul]; exact Nat.mul_le_mul_right _ hroom
        have hr2:=run_append_room (P:=P) w t ty E inf hu hi1 g n cp cur hgc ad m cap news (by rw [hl,hi2]) hnews h1' hroom hfit
        rw [hrun] at hr2
        have:=(Result.ok.inj hr2).1
        subst this
        exact .inl hk
      · have holds:∀ j u,xs[j]?=some u→w.cell? ((⟨g,0,none⟩:Addr).add j)=some u:=hown.cells (g:=g) rfl
        have hr2:=run_append_grow (P:=P) w t ty E inf zv hu hi1 hi4 ⟨g,0,none⟩ n cp xs (by rw [hown.1,hi2]) holds ad m cap news (by rw [hl,hi2]) hnews (by omega) (by omega) (growslice_fits (by omega) (by rw [hi3]; exact hby))
        rw [hrun] at hr2
        have:=(Result.ok.inj hr2).1
        subst this
        simp [Value.ownBlock] at hk
        omega
theorem s_append {i:Nat} {s0 x0:Operand} {E ty:TypeId} {ed:TypeDesc} {sz bytes n m:Nat} {zs xs news:List Value} {v u:Value} (hs:St N F L M w0 a w) (hu:P.underlying t=some (.slice E)) (hE:Ty P E ed sz bytes zs) (hsz:0 < sz)
    (hv:ev F s0=some v) (hx:ev F x0=some u) (hi:L[i]?=some (.row v n xs E sz)) (hr:Rd w u m news) (hl:news.length=m * sz) (h1:news.all (·.oneCell')=true)
    (h63:n + m≤maxLen) (hby:(n + m) * bytes≤140737488355328) (hd:Nat.blt d N=true)
    (k:∀ a w' v',Fr (Ent.keys (.row v n xs E sz)) w w'→(v'=.slice none 0 0 ↔ v=.slice none 0 0∧m=0)→St N ((d,v')::F) (L.set i (.row v' (n + m) (xs++news) E sz)) M w0 a w'→wpList P ops Q rest a w') :
    wpList P ops Q (⟨some d,.call { callee:=.builtin .append,args:=#[s0,x0],argTypes:=#[t,t] },ty,pos,aft,none⟩::rest) a w:=by
  have hown:w.ownsRow 0 E sz v n xs:=hs.get hi
  obtain ⟨v',w',hrun,ho',hg,hnil,hblk⟩:=run_append2 (P:=P) (w:=w) (ty:=ty) hu hE hsz hown hr hl h1 h63 hby
  have hrun':(execOp a.eval ⟨some d,.call { callee:=.builtin .append,args:=#[s0,x0],argTypes:=#[t,t] },ty,pos,aft,none⟩).run P w=.ok (.value v') w':=by
    simp [execOp,resolve,invoke,builtin,hs.ev hv,hs.ev hx,hrun]
  refine wpList_plain rfl fun K hK=>upon_value hrun' (hK _ _ (k _ _ v' (.grown hg) hnil ?_))
  exact (hs.mod (e':=.row v' (n + m) (xs++news) E sz) hi (Fr.grown hg) ho' fun k hk=>⟨hblk k hk,ownBlock_row ho' k hk⟩).put (lt_of_blt hd) v'
theorem St.nilrow (hs:St N F L M w0 a w) (E:TypeId) (sz:Nat):St N F (.row (.slice none 0 0) 0 [] E sz::L) M w0 a w :=
  hs.new (L':=[.row (.slice none 0 0) 0 [] E sz]) (.refl _ _) ⟨by intro e he; simp at he; subst he; exact World.ownsRow_nil _ _ _ _,List.pairwise_singleton _ _,(by intro e he k hk; simp at he; subst he; cases hk),(by intro e he k hk; simp at he; subst he; cases hk)⟩
theorem St.segrow {i gb n sz:Nat} {cs:List Value} {E:TypeId} (hs:St N F L M w0 a w) (hi:L[i]?=some (.seg gb cs E)) (hl:cs.length=n * sz) (hn:n≤maxLen) :
    St N F (L.set i (.row (.slice (some ⟨gb,0,none⟩) n n) n cs E sz)) M w0 a w :=
  hs.mod hi (.refl _ _) ⟨hl,.inr ⟨gb,n,cs.toArray,rfl,Nat.zero_le _,hs.seg hi,Nat.le_refl _,hn,by simp [hl],by simp [← hl]⟩⟩ fun k hk=>by
    have h2:=hs.has.lt _ (List.mem_of_getElem? hi)
    simp [Ent.keys,Value.ownBlock] at hk
    subst hk
    exact ⟨.inl rfl,h2 gb rfl⟩
theorem flatten_rep {α:Type} (zs:List α) {sz:Nat} (hz:zs.length=sz) (hpos:0 < sz):∀ (n j:Nat),j < n * sz→(List.replicate n zs).flatten[j]?=zs[j % sz]?
  | 0,j,h=>by omega
  | n + 1,j,h=>by
    rw [List.replicate_succ,List.flatten_cons]
    by_cases hjs:j < sz
    · rw [List.getElem?_append_left (by omega),Nat.mod_eq_of_lt hjs]
    · rw [List.getElem?_append_right (by omega),hz,flatten_rep zs hz hpos n (j - sz) (by rw [Nat.succ_mul] at h; omega)]
      congr 1
      rw [← Nat.mod_eq_sub_mod (by omega)]
theorem s_make {E:TypeId} {ed:TypeDesc} {sz bytes n:Nat} {zs:List Value} {k1 k2:IntKind} {i1 i2:Int} (hs:St N F L M w0 a w) (hu:P.underlying t=some (.slice E)) (hE:Ty P E ed sz bytes zs) (h1:ev F x=some (.int k1 i1)) (h2:ev F y=some (.int k2 i2))
    (hi1:i1=(n:Int)) (hi2:i2=(n:Int)) (hby:bytes * n≤281474976710656) (h63:n≤maxLen) (hd:Nat.blt d N=true)
    (k:∀ a w gb,St N ((d,.slice (some ⟨gb,0,none⟩) n n)::F) (.seg gb (List.replicate n zs).flatten E::L) M w0 a w→wpList P ops Q rest a w) :
    wpList P ops Q (⟨some d,.makeSlice t x y,ty,pos,aft,none⟩::rest) a w:=by
  subst hi1; subst hi2
  obtain ⟨inf,hi1,hi2,hi3,zv,hi4,hi5⟩:=hE.info
  have h63':(n:Int)≤9223372036854775807:=by simp only [maxLen] at h63; omega
  have hb':(inf.bytes:Int) * (n:Int)≤281474976710656:=by
    have h:((bytes * n:Nat):Int)≤281474976710656:=by omega
    rwa [Int.natCast_mul,← hi3] at h
  have hr:=run_make (P:=P) w t E inf zv hu hi1 hi4 k1 k2 n n (by omega) (Int.le_refl _) hb' h63'
  simp only [Int.toNat_natCast] at hr
  have hcells:madeCells zv.cells (n * inf.size)=(List.replicate n zs).flatten.toArray:=by
    rw [hi5,hi2]
    apply Array.ext'
    apply List.ext_getElem?
    intro j
    have hzl:=hE.len
    by_cases hj:j < n * sz
    · have hpos:0 < sz:=by
        by_cases e:sz=0
        · subst e; omega
        · omega
      have e1:=flatten_rep zs hzl hpos n j hj
      have hm:j % sz < zs.length:=by rw [hzl]; exact Nat.mod_lt _ hpos
      simp only [madeCells,Array.toList_map,Array.toList_range,e1]
      rw [List.getElem?_map,List.getElem?_range hj]
      simp [hzl,List.getElem?_eq_getElem hm]
    · have e2:(List.replicate n zs).flatten.length=n * sz:=by simp [hzl]
      rw [List.getElem?_eq_none (by simp [madeCells]; omega),List.getElem?_eq_none (by simp [hzl]; omega)]
  rw [hcells] at hr
  refine s_new hs (L':=[.seg w.heap.size _ E]) (w':=w.alloc (.cells (List.replicate n zs).flatten.toArray E)) ?_ hd (.alloc _ _) has_alloc fun a hs=>k a _ _ hs
  simp [execOp,hs.ev h1,hs.ev h2,hr]
end
end Go.Fw
end

section
/- Closed facts on the program's tables; comparisons of arrays; what else the walks want. -/
namespace Go.Fw
open Go
def dOf (P:Program) (T:TypeId):TypeDesc:=(P.underlying T).getD .invalid
theorem Ty.of {P:Program} {T:TypeId} {d:TypeDesc} {sz bytes:Nat} {v:Value} {z:List Value} (h1:P.underlying T=some d) (h2:(P.info? T).map (fun i=>(i.zero,i.size,i.bytes))=some (some v,sz,bytes))
    (h3:v.cells=z.toArray) (h4:z.length=sz) (h5:z.all (·.oneCell')=true):Ty P T d sz bytes z:=by
  cases hi:P.info? T with
  | none=>rw [hi] at h2; cases h2
  | some i =>
    rw [hi] at h2
    simp at h2
    exact ⟨h1,⟨i,hi,h2.2.1,h2.2.2,v,h2.1,h3⟩,h4,h5⟩
theorem und_of {P:Program} {T:TypeId} (h:(P.underlying T).isSome=true):P.underlying T=some (dOf P T):=by
  unfold dOf
  cases hu:P.underlying T with
  | none=>rw [hu] at h; cases h
  | some d=>rfl
def fldB (P:Program) (S:TypeId) (f off:Nat):Bool :=
  match P.underlying S with
  | some (.struct fs)=>match fs[f]? with
    | some fl=>Nat.beq fl.offset off && (match P.info? fl.type with | some i=>!Nat.beq i.size 0 | none=>false)
    | none=>false
  | _=>false
theorem Fld.of {P:Program} {S:TypeId} {f off:Nat} (h:fldB P S f off=true):Fld P S f off:=by
  unfold fldB at h
  split at h
  · rename_i fs hu
    split at h
    · rename_i fl hf
      simp only [Bool.and_eq_true] at h
      cases hi:P.info? fl.type with
      | none=>rw [hi] at h; cases h.2
      | some i =>
        rw [hi] at h
        refine ⟨fs,fl,i,hu,hf,Nat.eq_of_beq_eq_true h.1,hi,fun e=>?_⟩
        have h2:=h.2
        dsimp only at h2
        rw [e] at h2
        cases h2
    · cases h
  · cases h
section
variable {N:Nat} {F F':List (Nat × Value)} {L L':List Ent} {M:Nat→Prop} {w0 w w':World} {a:Act}
theorem St.add {n:Nat} {v:Value} (h:St N F L M w0 a w) (hv:a.tmps[n]?=some v):St N ((n,v)::F) L M w0 a w:=by
  refine ⟨⟨h.know.size,h.know.defers,fun k u hk=>?_⟩,h.has,h.own,h.fr⟩
  simp only [look] at hk
  by_cases e:n=k
  · subst e
    simp at hk
    rw [← hk]
    exact hv
  · rw [Nat.beq_eq_false_of e] at hk
    exact h.know.at_ k u hk
end
/-! loops -/
theorem s_loop {P:Program} {Q:Exit→Act→World→Prop} {N:Nat} {F:List (Nat × Value)} {L:List Ent} {M:Nat→Prop} {w0 w:World} {a:Act} {c:Code} {X:Type}
    (hs:St N F L M w0 a w) (Fm:X→List (Nat × Value)) (Fb:List (Nat × Value)) (Lm:X→List Ent) (ok:Nat→X→Prop) (n:Nat) (x:X) (h0:ok n x) (hF:Sub F (Fm x++Fb)) (hL:L=Lm x)
    (round:∀ n x a w,ok n x→St N (Fm x++Fb) (Lm x) M w0 a w→c.wp P (Exit.then (fun a' w'=>∃ m,m < n∧∃ x',ok m x'∧St N (Fm x'++Fb) (Lm x') M w0 a' w') Q) a w):(Code.loop c).wp P Q a w:=by
  refine wp_loop_ix (fun n a w=>∃ x,ok n x∧St N (Fm x++Fb) (Lm x) M w0 a w) n ⟨x,h0,(hs.sub hF).toL hL⟩ ?_
  rintro n a w ⟨x,hx,hs⟩
  exact round n x a w hx hs
section
variable {Q:Exit→Act→World→Prop} {K:Act→World→Prop} {a:Act} {w:World}
theorem then_n (h:K a w):Exit.then K Q .normal a w:=h
theorem then_e {id:Nat} (h:Q (.exit id) a w):Exit.then K Q (.exit id) a w:=h
theorem then_r (h:Q .ret a w):Exit.then K Q .ret a w:=h
theorem blk_n {id:Nat} (h:Q .normal a w):Exit.inBlock id Q .normal a w:=h
theorem blk_r {id:Nat} (h:Q .ret a w):Exit.inBlock id Q .ret a w:=h
theorem blk_hit {id:Nat} (h:Q .normal a w):Exit.inBlock id Q (.exit id) a w:=by simp only [Exit.inBlock,if_true]; exact h
theorem blk_miss {id id':Nat} (hne:Nat.beq id' id=false) (h:Q (.exit id') a w):Exit.inBlock id Q (.exit id') a w:=by
  have:id' ≠ id:=fun e=>by subst e; simp at hne
  simp only [Exit.inBlock,if_neg this]; exact h
end
/-! more of int -/
section
variable {P:Program} {a:Act} {w:World} {d:Option Tmp} {ty:TypeId} {pos:String} {aft:Array Edge} {g:Option (Nat × Bool)} {x y z:Operand} {t u:TypeId}
theorem c_shlI {i:Int} {k:IntKind} {n:Nat} (hx:a.eval x=I i) (hy:a.eval y=.int k (n:Int)) (hn:n < 64) (h1:-9223372036854775808≤i * 2 ^ n) (h2:i * 2 ^ n < 9223372036854775808) :
    (execOp a.eval ⟨d,.binOp .shl t x y u,ty,pos,aft,g⟩).run P w=.ok (.value (I (i * 2 ^ n))) w:=by
  have hm:min n 64=n:=by omega
  simp [execOp,hx,hy,eqGuard,binOp,Op.shift,IntKind.bits,hm,wrap64_in h1 h2]
theorem eqpn {E:TypeId} (hu:P.underlying t=some (.pointer E)) (p:Addr) (n:Nat):(Op.equalIn (n + 1) t (.pointer (some p)) (.pointer none)).run P w=.ok false w:=by simp [Op.equalIn,run_underlying hu]
theorem c_eqlNil {p:Addr} {E:TypeId} (hu:P.underlying t=some (.pointer E)) (hx:a.eval x=.pointer (some p)) (hy:a.eval y=.pointer none) :
    (execOp a.eval ⟨d,.binOp .eql t x y u,ty,pos,aft,g⟩).run P w=.ok (.value (.bool false)) w:=by
  have e:(Op.equal t (.pointer (some p)) (.pointer none)).run P w=.ok false w:=by
    exact eqpn hu p 9999
  simp [execOp,hx,hy,eqGuard,binOp,e]
theorem c_neqT {s s':ByteArray} (hx:a.eval x=.string s) (hy:a.eval y=.string s') :
    (execOp a.eval ⟨d,.binOp .neq t x y u,ty,pos,aft,g⟩).run P w=.ok (.value (.bool (!(s.toList == s'.toList)))) w:=by
  simp [execOp,hx,hy,eqGuard,binOp,Op.stringOp]
end
end Go.Fw
end

section
/- Literals of structs and arrays; small laws on lists of cells. -/
namespace Go.Fw
open Go
def Pl (place:Nat→Option (Nat × Nat)):Nat→Nat→List Value→Prop
  | _,_,[]=>True
  | k,off,v::t=>place k=some (off,v.cells.size)∧Pl place (k + 1) (off + v.cells.size) t
theorem fill_seq (place:Nat→Option (Nat × Nat)):∀ (vs:List Value) (k:Nat) (done zeros:List Value),Pl place k done.length vs→(flatCells vs).length≤zeros.length →
    Instr.fill place (done++zeros).toArray (pairsFrom k vs)=some (done++flatCells vs++zeros.drop (flatCells vs).length).toArray
  | [],k,done,zeros,_,_=>by simp [Instr.fill,pairsFrom,flatCells]
  | v::t,k,done,zeros,⟨hp,ht⟩,hz=>by
    have hfc:flatCells (v::t)=v.cells.toList++flatCells t:=by simp [flatCells]
    rw [hfc,List.length_append,Array.length_toList] at hz
    have step:=array_foldl_set done.length v.cells (done++zeros).toArray (by simp; omega)
    have e1:((done++zeros).toArray.toList.take done.length++v.cells.toList++(done++zeros).toArray.toList.drop (done.length + v.cells.size))=(done++v.cells.toList)++zeros.drop v.cells.size:=by
      simp
    have ih:=fill_seq place t (k + 1) (done++v.cells.toList) (zeros.drop v.cells.size) (by simpa using ht) (by simp; omega)
    have hn:¬ (v.cells.size ≠ v.cells.size∨done.length + v.cells.size > (done++zeros).toArray.size):=by
      simp only [List.size_toArray,List.length_append]
      intro h
      rcases h with h | h
      · exact h rfl
      · omega
    simp only [pairsFrom,Instr.fill,hp]
    rw [if_neg (by simpa using hn),step,e1,ih,hfc]
    simp [List.drop_drop]
section
variable {P:Program} {a:Act} {w:World} {d:Option Tmp} {ty:TypeId} {pos:String} {aft:Array Edge} {g:Option (Nat × Bool)} {x y z:Operand} {t u:TypeId}
theorem pl_arr {s:Nat}:∀ (vs:List Value) (k off:Nat),off=k * s→(∀ v∈vs,v.cells.size=s)→Pl (fun i=>some (i * s,s)) k off vs
  | [],_,_,_,_=>trivial
  | v::t,k,off,h,hv=>⟨by rw [hv v (by simp),h],pl_arr t (k + 1) _ (by rw [hv v (by simp),h,Nat.succ_mul]) fun u hu=>hv u (by simp [hu])⟩
theorem c_buildA {n s bytes by2 sz:Nat} {E:TypeId} {ed td:TypeDesc} {ze zs zc:List Value} {ps:Array (Nat × Operand)} {vs:List Value} (hT:Ty P t td sz bytes zs) (hu:P.underlying t=some (.array n E)) (hE:Ty P E ed s by2 ze)
    (hps:Evp a 0 ps.toList vs) (hv:∀ v∈vs,v.cells.size=s) (hle:(flatCells vs).length≤sz) (hz:flatCells vs++zs.drop (flatCells vs).length=zc) :
    (execOp a.eval ⟨d,.build t ps,ty,pos,aft,g⟩).run P w=.ok (.value (.agg zc.toArray)) w:=by
  obtain ⟨v,hzv,hzc⟩:=hT.zero (w:=w)
  have hf:=fill_seq (fun i=>some (i * s,s)) vs 0 [] zs (pl_arr vs 0 0 (by simp) hv) (by rw [hT.len]; exact hle)
  simp only [List.nil_append,hz] at hf
  simp [execOp,Instr.build,hzv,hzc,run_underlying hu,hE.size,hps.map,hf]
def fsOf:TypeDesc→Array Field
  | .struct fs=>fs
  | _=>#[]
def BP (P:Program) (T:TypeId) (places:Array (Nat × Nat)):Prop:=P.underlying T=some (.struct (fsOf (dOf P T)))∧∀ w,((fsOf (dOf P T)).mapM (m:=Sem) fun f=>do pure (f.offset,← sizeOf f.type)).run P w=.ok places w
theorem c_buildS {bytes sz:Nat} {td:TypeDesc} {zs zc:List Value} {pl:Array (Nat × Nat)} {ps:Array (Nat × Operand)} {vs:List Value} (hT:Ty P t td sz bytes zs) (hB:BP P t pl)
    (hps:Evp a 0 ps.toList vs) (hpl:Pl (fun i=>pl[i]?) 0 0 vs) (hle:(flatCells vs).length≤sz) (hz:flatCells vs++zs.drop (flatCells vs).length=zc) :
    (execOp a.eval ⟨d,.build t ps,ty,pos,aft,g⟩).run P w=.ok (.value (.agg zc.toArray)) w:=by
  obtain ⟨v,hzv,hzc⟩:=hT.zero (w:=w)
  obtain ⟨hb1,hb2⟩:=hB
  have hf:=fill_seq (fun i=>pl[i]?) vs 0 [] zs hpl (by rw [hT.len]; exact hle)
  simp only [List.nil_append,hz] at hf
  have hb3:=hb2 w
  simp only [bind_pure_comp] at hb3
  simp [execOp,Instr.build,hzv,hzc,run_underlying hb1,hb3,hps.map,hf]
end
/-! lists of cells -/
theorem seg_get {α:Type} {f:α→Value} {all:Array Value} {l:List α} {o i:Nat} (d:α) (h:(all.toList.drop o).take (l.map f).length=l.map f) (hi:i < l.length):all.toList[o + i * 1]?=some (f (l.getD i d)):=by
  have h2:(l.map f)[i]?=some (f (l.getD i d)):=by simp [List.getD,hi]
  rw [← h,List.getElem?_take_of_lt (by simpa using hi),List.getElem?_drop] at h2
  simpa using h2
theorem map_get {α:Type} {f:α→Value} {l:List α} {i:Nat} (d:α) (hi:i < l.length):(l.map f)[0 + i * 1]?=some (f (l.getD i d)):=by simp [List.getD,hi]
theorem map_set {α:Type} {f:α→Value} {l:List α} {i:Nat} (x:α) (hi:i < l.length):(l.map f).take (0 + i * 1)++[f x]++(l.map f).drop (0 + i * 1 + 1)=(l.set i x).map f:=by
  have:i < (l.map f).length:=by simpa using hi
  rw [List.map_set,Nat.mul_one,Nat.zero_add,List.set_eq_take_append_cons_drop,if_pos this]
  simp
theorem all_map_B (l:List UInt8):(l.map B).all (·.oneCell')=true:=by simp [Value.oneCell']
theorem all_map_U (l:List UInt32):(l.map U).all (·.oneCell')=true:=by simp [Value.oneCell']
theorem St.old {N:Nat} {F:List (Nat × Value)} {L:List Ent} {M:Nat→Prop} {w0 w:World} {a:Act} {g:Nat} {o:Obj} (hs:St N F L M w0 a w) (h:w0.heap[g]?=some o) (hm:¬ M g):w.heap[g]?=some o:=by
  rw [hs.fr.block g (Array.getElem?_eq_some_iff.1 h).1 hm]; exact h
abbrev RdB (w:World) (v:Value) (l:List UInt8):Prop:=Rd w v l.length (l.map B)
theorem RdB.at_ {w:World} {v:Value} {l:List UInt8} (h:RdB w v l) (hne:0 < l.length):∃ b o cap T fr all,v=.slice (some ⟨b,o,none⟩) l.length cap∧l.length≤cap∧cap≤maxLen∧w.heap[b]?=some (.cells all T fr)∧(all.toList.drop o).take (l.map B).length=l.map B :=
  Rd.at_ h (by intro e; simp at e; subst e; simp at hne)
theorem Rd.le {w:World} {v:Value} {n:Nat} {cs:List Value} (h:Rd w v n cs):n≤9223372036854775807:=by
  obtain ⟨ad,cap,hv,h1,h2,_⟩:=h
  simp only [maxLen] at h2
  omega
end Go.Fw
end

section
/- Stores of whole variables; more on blocks. -/
namespace Go.Fw
open Go
section
variable {P:Program} {ops:Array Oper} {Q:Exit→Act→World→Prop} {rest:List Oper} {N:Nat} {F F':List (Nat × Value)} {L L':List Ent} {M:Nat→Prop} {w0 w:World} {a:Act}
variable {d:Tmp} {op:Op} {ty:TypeId} {pos:String} {aft:Array Edge} {x y z:Operand} {t u:TypeId}
theorem St.next (hs:St N F L M w0 a w) (hF:Sub F F') (hL:L=L'):St N F' L' M w0 a w:=(hs.sub hF).toL hL
theorem s_storeW {i:Nat} {T':TypeId} {td:TypeDesc} {sz bytes:Nat} {zz:List Value} {gb:Nat} {cs c:List Value} (hs:St N F L M w0 a w) (hT:Ty P t td sz bytes zz)
    (hx:ev F x=some (.pointer (some ⟨gb,0,none⟩))) (hy:ev F y=some (.agg c.toArray)) (hi:L[i]?=some (.seg gb cs T')) (hl:c.length=sz) (h1:c.all (·.oneCell')=true) (hcs:cs.length=sz)
    (k:∀ w,St N F (L.set i (.seg gb c T')) M w0 a w→wpList P ops Q rest a w) :
    wpList P ops Q (⟨none,.store t x y,ty,pos,aft,none⟩::rest) a w :=
  s_store hs hT hx hy hi (by simp [Value.cells]) hl h1 (by omega) (by simp [hcs]) k
end
end Go.Fw
end

section
/- Comparisons of arrays and of bools; guarded steps of a region. -/
namespace Go.Fw
open Go
section
variable {P:Program} {a:Act} {w:World} {d:Option Tmp} {ty:TypeId} {pos:String} {aft:Array Edge} {g:Option (Nat × Bool)} {x y z:Operand} {t u:TypeId}
theorem run_part {E:TypeId} {ed:TypeDesc} {bytes:Nat} {ze:List Value} {cs:List Value} {o:Nat} {v:Value} (hE:Ty P E ed 1 bytes ze) (hd:aggD ed=false) (hv:cs[o]?=some v):(part E cs.toArray o).run P w=.ok v w:=by
  have hagg:(isAgg E).run P w=.ok false w:=by
    unfold isAgg
    rw [Sem.run_bind,run_underlying hE.und w]
    cases ed <;> simp_all [aggD]
  simp [part,hagg,hv]
theorem run_eq_loop (G:Nat→Option Bool × PUnit→Sem (ForInStep (Option Bool × PUnit))) (b:Nat→Bool):∀ (l:List Nat),(∀ i,i∈l→(G i (none,())).run P w=.ok (if b i then ForInStep.yield (none,()) else ForInStep.done (some false,())) w) →
    (forIn (m:=Sem) l (none,()) G).run P w=.ok (if l.all b then (none,()) else (some false,())) w
  | [],_=>by simp
  | i::t,hf=>by
    rw [List.forIn_cons]
    simp only [Sem.run_bind,hf i (by simp),Result.andThen_ok]
    cases h:b i with
    | true =>
      have ih:=run_eq_loop G b t fun j hj=>hf j (by simp [hj])
      simpa [h] using ih
    | false=>simp [h]
theorem eq_int {k:IntKind} {E:TypeId} {m n:Int} (hu:P.underlying E=some (.int k)) (dp:Nat):(Op.equalIn (dp + 1) E (.int k m) (.int k n)).run P w=.ok (m == n) w:=by
  simp [Op.equalIn,run_underlying hu]
theorem eq_arr {n bytes:Nat} {E T:TypeId} {ze:List Value} {k:IntKind} (hu:P.underlying T=some (.array n E)) (hE:Ty P E (.int k) 1 bytes ze) (xs ys:List Int) (hx:xs.length=n) (hy:ys.length=n) (dp:Nat) :
    (Op.equalIn (dp + 2) T (.agg (xs.map (Value.int k)).toArray) (.agg (ys.map (Value.int k)).toArray)).run P w=.ok (decide (xs=ys)) w:=by
  have hb:∀ i,i < n→(do Op.equalIn (dp + 1) E (← part E (xs.map (Value.int k)).toArray (i * 1)) (← part E (ys.map (Value.int k)).toArray (i * 1)):Sem Bool).run P w=.ok (xs.getD i 0 == ys.getD i 0) w:=by
    intro i hi
    have h1:(xs.map (Value.int k))[i * 1]?=some (.int k (xs.getD i 0)):=by simp [hx,hi]
    have h2:(ys.map (Value.int k))[i * 1]?=some (.int k (ys.getD i 0)):=by simp [hy,hi]
    rw [Sem.run_bind,run_part hE rfl h1,Result.andThen_ok,Sem.run_bind,run_part hE rfl h2,Result.andThen_ok,eq_int hE.und dp]
  unfold Op.equalIn
  simp only [Sem.run_bind,run_underlying hu,Result.andThen_ok,hE.size,Std.Legacy.Range.forIn_eq_forIn_range',Std.Legacy.Range.size,Nat.sub_zero,Nat.add_one_sub_one,Nat.div_one]
  have hl:=run_eq_loop (P:=P) (w:=w) (fun i s=>do
            let a ← part E (List.map (Value.int k) xs).toArray (i * 1)
            let b ← part E (List.map (Value.int k) ys).toArray (i * 1)
            let c ← Op.equalIn (dp + 1) E a b
            if (!c)=true then pure (ForInStep.done (some false,())) else pure (ForInStep.yield (none,()))) (fun i=>xs.getD i 0 == ys.getD i 0) (List.range' 0 n) (fun i hi=>by
    have hi':i < n:=by simpa using hi
    have h1:(xs.map (Value.int k))[i * 1]?=some (.int k (xs.getD i 0)):=by simp [hx,hi']
    have h2:(ys.map (Value.int k))[i * 1]?=some (.int k (ys.getD i 0)):=by simp [hy,hi']
    simp only [Sem.run_bind,run_part hE rfl h1,run_part hE rfl h2,Result.andThen_ok,eq_int hE.und dp]
    cases xs.getD i 0 == ys.getD i 0 <;> simp)
  rw [hl]
  have hall:(List.range' 0 n).all (fun i=>xs.getD i 0 == ys.getD i 0)=decide (xs=ys):=by
    rw [Bool.eq_iff_iff,List.all_eq_true,decide_eq_true_iff]
    constructor
    · intro h
      apply List.ext_getElem (by omega)
      intro i h1 h2
      have:=h i (by simp; omega)
      simpa [h1,h2] using this
    · rintro rfl i _
      simp
  rw [hall]
  by_cases e:xs=ys <;> simp [e]
theorem map_B (l:List UInt8):l.map B=(l.map fun b=>(b.toNat:Int)).map (Value.int .u8):=by simp [Function.comp_def]
theorem map_B_inj (xs ys:List UInt8):(xs.map fun b=>(b.toNat:Int))=(ys.map fun b=>(b.toNat:Int)) ↔ xs=ys:=by
  constructor
  · intro h
    exact List.map_inj_right (f:=fun b:UInt8=>(b.toNat:Int)) (fun a b hab=>UInt8.toNat_inj.1 (Int.ofNat_inj.1 hab)) |>.1 h
  · rintro rfl; rfl
theorem eqlB {n bytes:Nat} {E T:TypeId} {ze:List Value} (hu:P.underlying T=some (.array n E)) (hE:Ty P E (.int .u8) 1 bytes ze) (xs ys:List UInt8) (hx:xs.length=n) (hy:ys.length=n) :
    (Op.equal T (.agg (xs.map B).toArray) (.agg (ys.map B).toArray)).run P w=.ok (decide (xs=ys)) w:=by
  have:=eq_arr (P:=P) (w:=w) hu hE (xs.map fun b=>(b.toNat:Int)) (ys.map fun b=>(b.toNat:Int)) (by simpa using hx) (by simpa using hy) 9998
  rw [← map_B,← map_B] at this
  have e:decide ((xs.map fun b=>(b.toNat:Int))=(ys.map fun b=>(b.toNat:Int)))=decide (xs=ys):=by
    rw [Bool.eq_iff_iff,decide_eq_true_iff,decide_eq_true_iff]
    exact map_B_inj xs ys
  rw [e] at this
  exact this
theorem c_eqlAB {n bytes:Nat} {E:TypeId} {ze:List Value} {xs ys:List UInt8} (hu:P.underlying t=some (.array n E)) (hE:Ty P E (.int .u8) 1 bytes ze) (hg:P.eqGuardType P.depth t=false)
    (hx:a.eval x=.agg (xs.map B).toArray) (hy:a.eval y=.agg (ys.map B).toArray) (lx:xs.length=n) (ly:ys.length=n) :
    (execOp a.eval ⟨d,.binOp .eql t x y u,ty,pos,aft,g⟩).run P w=.ok (.value (.bool (decide (xs=ys)))) w:=by
  simp [execOp,hx,hy,eqGuard,binOp,hg,eqlB hu hE xs ys lx ly]
end
section
variable {P:Program} {ops:Array Oper} {N B1:Nat} {w1:World} {K:List (Nat × Value)→Fes→Prop} {Fc:List (Nat × Value)} {Fe:Fes} {rest:List Oper}
variable {d:Tmp} {op:Op} {ty:TypeId} {pos:String} {aft:Array Edge}
theorem rg_g {v:Value} {j s:Nat} {b c:Bool} (hj:(ops[j]?).bind (·.dst)=some s) (hb:look Fc s=some (.bool c))
    (h:c=b→∀ a w,RC N Fc Fe ⟨some d,op,ty,pos,aft,some (j,b)⟩ B1 w1 a w→(execOp a.eval ⟨some d,op,ty,pos,aft,some (j,b)⟩).run P w=.ok (.value v) w) (hE:lookE Fe d=none)
    (k:RG P ops N B1 w1 K ((d,if c=b then v else undef)::Fc) Fe rest):RG P ops N B1 w1 K Fc Fe (⟨some d,op,ty,pos,aft,some (j,b)⟩::rest):=by
  by_cases e:c=b
  · subst e
    exact rg_yes hj hb (h rfl) hE (by simpa using k)
  · exact rg_no hj hb (by cases c <;> cases b <;> simp_all) hE (by simpa [e] using k)
end
end Go.Fw
end

section
/- Small laws for walks: masks,arrays that are filled. -/
namespace Go.Fw
open Go
section
variable {P:Program} {a:Act} {w:World} {d:Option Tmp} {ty:TypeId} {pos:String} {aft:Array Edge} {g:Option (Nat × Bool)} {x y z:Operand} {t u:TypeId}
theorem ofInt64I {i:Int} (h0:0≤i) (h1:i < 18446744073709551616):BitVec.ofInt 64 i=BitVec.ofNat 64 i.toNat:=by
  apply BitVec.eq_of_toNat_eq
  simp [BitVec.toNat_ofInt]
  omega
theorem ib_andI {i j:Int} (h0:0≤i) (h1:i < 9223372036854775808) (g0:0≤j) (g1:j < 9223372036854775808):Op.intBits .and .i64 i j=pure (I (i.toNat &&& j.toNat:Nat)):=by
  show (pure (.int .i64 (IntKind.i64.wrap ((BitVec.ofInt 64 i &&& BitVec.ofInt 64 j).toNat:Nat))):Sem Value)=_
  rw [ofInt64I h0 (by omega),ofInt64I g0 (by omega)]
  have e:(BitVec.ofNat 64 i.toNat &&& BitVec.ofNat 64 j.toNat).toNat=i.toNat &&& j.toNat:=by
    rw [BitVec.toNat_and,BitVec.toNat_ofNat,BitVec.toNat_ofNat,Nat.mod_eq_of_lt (by omega),Nat.mod_eq_of_lt (by omega)]
  have h2:i.toNat &&& j.toNat≤i.toNat:=Nat.and_le_left
  rw [e,wrap64_in (by omega) (by omega)]
theorem ib_xorI {i j:Int} (h0:0≤i) (h1:i < 9223372036854775808) (g0:0≤j) (g1:j < 9223372036854775808):Op.intBits .xor .i64 i j=pure (I (i.toNat ^^^ j.toNat:Nat)):=by
  show (pure (.int .i64 (IntKind.i64.wrap ((BitVec.ofInt 64 i ^^^ BitVec.ofInt 64 j).toNat:Nat))):Sem Value)=_
  rw [ofInt64I h0 (by omega),ofInt64I g0 (by omega)]
  have e:(BitVec.ofNat 64 i.toNat ^^^ BitVec.ofNat 64 j.toNat).toNat=i.toNat ^^^ j.toNat:=by
    rw [BitVec.toNat_xor,BitVec.toNat_ofNat,BitVec.toNat_ofNat,Nat.mod_eq_of_lt (by omega),Nat.mod_eq_of_lt (by omega)]
  have h2:i.toNat ^^^ j.toNat < 2 ^ 63:=Nat.xor_lt_two_pow (by omega) (by omega)
  rw [e,wrap64_in (by omega) (by omega)]
theorem c_xor1I {i:Nat} (hx:a.eval x=I i) (hy:a.eval y=I 1) (h1:(i:Int) < 9223372036854775808) :
    (execOp a.eval ⟨d,.binOp .xor t x y u,ty,pos,aft,g⟩).run P w=.ok (.value (I ((i ^^^ 1:Nat):Int))) w:=by
  simp [execOp,hx,hy,eqGuard,binOp,ib_xorI (i:=(i:Int)) (j:=1) (by omega) h1 (by omega) (by omega)]
end
theorem set_rep {α:Type} (l:List α) (m:Nat) (z x:α):(l++List.replicate (m + 1) z).set l.length x=(l++[x])++List.replicate m z:=by
  rw [List.set_append_right _ _ (Nat.le_refl _),Nat.sub_self,List.replicate_succ,List.set_cons_zero]
  simp
end Go.Fw
namespace Go.Fw
open Go
theorem c_tt {r:Result Next} {b:Bool} {w:World} (h:r=.ok (.value (.bool b)) w) (hb:b=true):r=.ok (.value (.bool true)) w:=by rw [h,hb]
theorem c_ff {r:Result Next} {b:Bool} {w:World} (h:r=.ok (.value (.bool b)) w) (hb:b=false):r=.ok (.value (.bool false)) w:=by rw [h,hb]
theorem c_to {r:Result Next} {u v:Value} {w:World} (h:r=.ok (.value u) w) (hb:u=v):r=.ok (.value v) w:=by rw [h,hb]
end Go.Fw
end

section
/- What an argument is,read off the statement's own reading of it. -/
namespace Go.Fw
open Go Go.ChangeShapes Go.WideShapes Go.ChangeAt Go.RowKit
theorem ofB {n:Int} (h:(Lit.int .u8 n).wf=true):∃ b:UInt8,Value.int .u8 n=B b:=by
  obtain ⟨h0,h1⟩:=bounds_u8 h
  exact ⟨i8 n,by unfold B; rw [i8_toNat]; congr 1; omega⟩
theorem ofU {n:Int} (h:(Lit.int .u32 n).wf=true):∃ b:UInt32,Value.int .u32 n=U b:=by
  obtain ⟨h0,h1⟩:=bounds_u32 h
  exact ⟨i32 n,by unfold U; rw [i32_toNat]; congr 1; omega⟩
theorem ofBs:∀ {cs:List Value},(∀ v∈cs,∃ b:UInt8,v=B b)→∃ l:List UInt8,cs=l.map B
  | [],_=>⟨[],rfl⟩
  | v::t,h=>by
    obtain ⟨b,rfl⟩:=h v (by simp)
    obtain ⟨l,rfl⟩:=ofBs (cs:=t) fun v hv=>h v (by simp [hv])
    exact ⟨b::l,rfl⟩
section
variable {H:Type} {enc:TypeId × Value→H} {P:Program} {w:World} {base:Nat} {spare:Nat→Bool} {held:Bool} {fuel:Nat} {t e:TypeId} {cs:List Value} {x:DataW H × List MemPlace} {v:Value} {d:DataW H} {ps:List MemPlace} {r:Reach} {b0:Nat}
theorem trodBs {n:Nat} (ht:P.underlying t=some (.array n e)) (he:P.underlying e=some (.int .u8)) (hc:P.cellsOf e=1) (hn:P.cellsOf t=n)
    (h:DataW.trod enc P w base spare held fuel t cs=some x):∃ l:List UInt8,l.length=n∧cs=l.map B:=by
  obtain ⟨xs,m,_,_,hl,hxl,hx⟩:=DataW.trod_array ht h
  obtain ⟨l,rfl⟩:=ofBs (cs:=cs) fun u hu=>by
    obtain ⟨i,hi,rfl⟩:=List.getElem_of_mem hu
    have h1:=hx i (by omega)
    rw [hc,Nat.mul_one] at h1
    rw [List.getElem?_eq_getElem (by omega)] at h1
    obtain ⟨z,hz,_,hw⟩:=DataW.trod_int he h1
    have h2:(cs.drop i).take 1=[cs[i]]:=by rw [List.drop_eq_getElem_cons hi]; rfl
    rw [h2] at hz
    simp only [List.cons.injEq,and_true] at hz
    rw [hz]
    exact ofB hw
  exact ⟨l,by simpa [hn] using hl,rfl⟩
theorem okWide_array {n:Nat} (ht:P.underlying t=some (.array n e)) (h:Value.okWide P w r b0 t v):∃ cs,v=.agg cs∧cs.size=P.cellsOf t:=by
  simp only [Value.okWide,ht] at h
  obtain ⟨cs,h1,h2,_⟩:=h
  exact ⟨cs,h1,h2⟩
theorem opA {n:Nat} (ht:P.underlying t=some (.array n e)) (he:P.underlying e=some (.int .u8)) (hc:P.cellsOf e=1) (hn:P.cellsOf t=n)
    (hval:Value.okWide P w r b0 t v) (hd:DataW.Trod enc P w base spare held t v d ps):∃ l:List UInt8,l.length=n∧v=.agg (l.map B).toArray:=by
  obtain ⟨cs,rfl,_⟩:=okWide_array ht hval
  obtain ⟨f,hf⟩:=hd
  obtain ⟨l,hl,hcs⟩:=trodBs ht he hc hn hf
  refine ⟨l,hl,?_⟩
  simp only [Value.cells] at hcs
  rw [← hcs]
theorem row_of {a:Addr} {n:Nat} (hp:0 < n) (hcs:cs.length=n) (h:∀ i,i < n→w.cell? (a.add i)=cs[i]?) :
    ∃ b o T fr all,a=⟨b,o,none⟩∧w.heap[b]?=some (.cells all T fr)∧(all.toList.drop o).take cs.length=cs:=by
  have h0:=h 0 hp
  rw [List.getElem?_eq_getElem (by omega)] at h0
  have hs:=World.cell?_spot h0
  obtain ⟨b,o,s⟩:=a
  have hs':s=none:=by simpa [Addr.add] using hs
  subst hs'
  have hcell:∀ i,i < n→w.cell? ⟨b,o + i,none⟩=cs[i]?:=fun i hi=>by
    have:=h i hi
    simp only [Addr.add] at this
    by_cases e:i=0
    · subst e; simpa using this
    · simpa [e] using this
  have h1:=hcell 0 hp
  rw [List.getElem?_eq_getElem (by omega)] at h1
  unfold World.cell? at h1 hcell
  simp only at h1 hcell
  cases hb:w.heap[b]? with
  | none=>rw [hb] at h1; simp at h1
  | some ob =>
    cases ob with
    | cells all T fr =>
      refine ⟨b,o,T,fr,all,rfl,by rw [hb],?_⟩
      have hh:∀ i,i < n→all[o + i]?=cs[i]?:=fun i hi=>by have:=hcell i hi; rw [hb] at this; simpa using this
      refine List.ext_getElem? fun i=>?_
      by_cases hi:i < n
      · rw [List.getElem?_take_of_lt (by omega),List.getElem?_drop]
        simpa using hh i hi
      · rw [List.getElem?_eq_none (by simp; omega),List.getElem?_eq_none (by omega)]
    | _=>rw [hb] at h1; simp at h1
end
end Go.Fw
end

section
/- Closed facts on the tables of types and functions of this program. Written by a program of ours (facts.py). -/
namespace Go.Proofs.YtklajbdbnnceiaaGreat
open Go Go.Fw
theorem pmix:Tryz.prog.follows .mixedOrders=true:=by kernel_rfl
theorem un2:Tryz.prog.underlying 2=some (.int .i64):=by kernel_rfl
theorem ty2:Ty Tryz.prog 2 (.int .i64) 1 8 ([I 0]):=Ty.of (v:=I 0) un2 (by kernel_rfl) (by kernel_rfl) (by kernel_rfl) (by kernel_rfl)
theorem un3:Tryz.prog.underlying 3=some (.int .i64):=by kernel_rfl
theorem ty3:Ty Tryz.prog 3 (.int .i64) 1 8 ([I 0]):=Ty.of (v:=I 0) un3 (by kernel_rfl) (by kernel_rfl) (by kernel_rfl) (by kernel_rfl)
theorem un5:Tryz.prog.underlying 5=some (.int .u8):=by kernel_rfl
theorem ty5:Ty Tryz.prog 5 (.int .u8) 1 1 ([B 0]):=Ty.of (v:=B 0) un5 (by kernel_rfl) (by kernel_rfl) (by kernel_rfl) (by kernel_rfl)
theorem un9:Tryz.prog.underlying 9=some (.string):=by kernel_rfl
theorem un23:Tryz.prog.underlying 23=some (dOf Tryz.prog 23):=und_of (by kernel_rfl)
theorem ty23:Ty Tryz.prog 23 (dOf Tryz.prog 23) 3 24 (List.replicate 3 (I 0)):=Ty.of (v:=.agg (List.replicate 3 (I 0)).toArray) un23 (by kernel_rfl) (by kernel_rfl) (by kernel_rfl) (by kernel_rfl)
theorem ag23:aggD (dOf Tryz.prog 23)=true:=by kernel_rfl
theorem fl23_0:Fld Tryz.prog 23 0 0:=Fld.of (by kernel_rfl)
theorem fl23_1:Fld Tryz.prog 23 1 1:=Fld.of (by kernel_rfl)
theorem fl23_2:Fld Tryz.prog 23 2 2:=Fld.of (by kernel_rfl)
theorem un24:Tryz.prog.underlying 24=some (.array 32 5):=by kernel_rfl
theorem ty24:Ty Tryz.prog 24 (.array 32 5) 32 32 ((List.replicate 32 (0:UInt8)).map B):=Ty.of (v:=.agg ((List.replicate 32 (0:UInt8)).map B).toArray) un24 (by kernel_rfl) (by kernel_rfl) (by kernel_rfl) (by kernel_rfl)
theorem un25:Tryz.prog.underlying 25=some (.int .u32):=by kernel_rfl
theorem ty25:Ty Tryz.prog 25 (.int .u32) 1 4 ([U 0]):=Ty.of (v:=U 0) un25 (by kernel_rfl) (by kernel_rfl) (by kernel_rfl) (by kernel_rfl)
theorem un29:Tryz.prog.underlying 29=some (.pointer 149):=by kernel_rfl
theorem un33:Tryz.prog.underlying 33=some (dOf Tryz.prog 33):=und_of (by kernel_rfl)
theorem ty33:Ty Tryz.prog 33 (dOf Tryz.prog 33) 3 24 (List.replicate 3 (I 0)):=Ty.of (v:=.agg (List.replicate 3 (I 0)).toArray) un33 (by kernel_rfl) (by kernel_rfl) (by kernel_rfl) (by kernel_rfl)
theorem ag33:aggD (dOf Tryz.prog 33)=true:=by kernel_rfl
theorem fl33_0:Fld Tryz.prog 33 0 0:=Fld.of (by kernel_rfl)
theorem fl33_1:Fld Tryz.prog 33 1 1:=Fld.of (by kernel_rfl)
theorem fl33_2:Fld Tryz.prog 33 2 2:=Fld.of (by kernel_rfl)
theorem un35:Tryz.prog.underlying 35=some (.array 16 5):=by kernel_rfl
theorem ty35:Ty Tryz.prog 35 (.array 16 5) 16 16 ((List.replicate 16 (0:UInt8)).map B):=Ty.of (v:=.agg ((List.replicate 16 (0:UInt8)).map B).toArray) un35 (by kernel_rfl) (by kernel_rfl) (by kernel_rfl) (by kernel_rfl)
theorem eg35:Tryz.prog.eqGuardType Tryz.prog.depth 35=false:=by kernel_rfl
theorem un36:Tryz.prog.underlying 36=some (.array 16 5):=by kernel_rfl
theorem ty36:Ty Tryz.prog 36 (.array 16 5) 16 16 ((List.replicate 16 (0:UInt8)).map B):=Ty.of (v:=.agg ((List.replicate 16 (0:UInt8)).map B).toArray) un36 (by kernel_rfl) (by kernel_rfl) (by kernel_rfl) (by kernel_rfl)
theorem un39:Tryz.prog.underlying 39=some (.slice 36):=by kernel_rfl
theorem ty39:Ty Tryz.prog 39 (.slice 36) 1 24 ([Value.slice none 0 0]):=Ty.of (v:=Value.slice none 0 0) un39 (by kernel_rfl) (by kernel_rfl) (by kernel_rfl) (by kernel_rfl)
theorem un47:Tryz.prog.underlying 47=some (.slice 35):=by kernel_rfl
theorem un52:Tryz.prog.underlying 52=some (dOf Tryz.prog 52):=und_of (by kernel_rfl)
theorem ty52:Ty Tryz.prog 52 (dOf Tryz.prog 52) 3 16 ((List.replicate 2 (0:UInt32)).map U++[I 0]):=Ty.of (v:=.agg ((List.replicate 2 (0:UInt32)).map U++[I 0]).toArray) un52 (by kernel_rfl) (by kernel_rfl) (by kernel_rfl) (by kernel_rfl)
theorem ag52:aggD (dOf Tryz.prog 52)=true:=by kernel_rfl
theorem fl52_0:Fld Tryz.prog 52 0 0:=Fld.of (by kernel_rfl)
theorem fl52_1:Fld Tryz.prog 52 1 1:=Fld.of (by kernel_rfl)
theorem fl52_2:Fld Tryz.prog 52 2 2:=Fld.of (by kernel_rfl)
theorem un54:Tryz.prog.underlying 54=some (dOf Tryz.prog 54):=und_of (by kernel_rfl)
theorem ty54:Ty Tryz.prog 54 (dOf Tryz.prog 54) 5 32 ([I 0]++(List.replicate 2 (0:UInt32)).map U++List.replicate 2 (I 0)):=Ty.of (v:=.agg ([I 0]++(List.replicate 2 (0:UInt32)).map U++List.replicate 2 (I 0)).toArray) un54 (by kernel_rfl) (by kernel_rfl) (by kernel_rfl) (by kernel_rfl)
theorem ag54:aggD (dOf Tryz.prog 54)=true:=by kernel_rfl
theorem fl54_0:Fld Tryz.prog 54 0 0:=Fld.of (by kernel_rfl)
theorem fl54_1:Fld Tryz.prog 54 1 1:=Fld.of (by kernel_rfl)
theorem fl54_2:Fld Tryz.prog 54 2 4:=Fld.of (by kernel_rfl)
theorem un56:Tryz.prog.underlying 56=some (dOf Tryz.prog 56):=und_of (by kernel_rfl)
theorem ty56:Ty Tryz.prog 56 (dOf Tryz.prog 56) 18 64 ((List.replicate 16 (0:UInt8)).map B++List.replicate 2 (Value.slice none 0 0)):=Ty.of (v:=.agg ((List.replicate 16 (0:UInt8)).map B++List.replicate 2 (Value.slice none 0 0)).toArray) un56 (by kernel_rfl) (by kernel_rfl) (by kernel_rfl) (by kernel_rfl)
theorem ag56:aggD (dOf Tryz.prog 56)=true:=by kernel_rfl
theorem fl56_0:Fld Tryz.prog 56 0 0:=Fld.of (by kernel_rfl)
theorem fl56_1:Fld Tryz.prog 56 1 16:=Fld.of (by kernel_rfl)
theorem fl56_2:Fld Tryz.prog 56 2 17:=Fld.of (by kernel_rfl)
theorem un59:Tryz.prog.underlying 59=some (dOf Tryz.prog 59):=und_of (by kernel_rfl)
theorem ty59:Ty Tryz.prog 59 (dOf Tryz.prog 59) 3 16 ((List.replicate 2 (0:UInt32)).map U++[I 0]):=Ty.of (v:=.agg ((List.replicate 2 (0:UInt32)).map U++[I 0]).toArray) un59 (by kernel_rfl) (by kernel_rfl) (by kernel_rfl) (by kernel_rfl)
theorem ag59:aggD (dOf Tryz.prog 59)=true:=by kernel_rfl
theorem fl59_0:Fld Tryz.prog 59 0 0:=Fld.of (by kernel_rfl)
theorem fl59_1:Fld Tryz.prog 59 1 1:=Fld.of (by kernel_rfl)
theorem fl59_2:Fld Tryz.prog 59 2 2:=Fld.of (by kernel_rfl)
theorem un61:Tryz.prog.underlying 61=some (dOf Tryz.prog 61):=und_of (by kernel_rfl)
theorem ty61:Ty Tryz.prog 61 (dOf Tryz.prog 61) 5 32 ([I 0]++(List.replicate 2 (0:UInt32)).map U++List.replicate 2 (I 0)):=Ty.of (v:=.agg ([I 0]++(List.replicate 2 (0:UInt32)).map U++List.replicate 2 (I 0)).toArray) un61 (by kernel_rfl) (by kernel_rfl) (by kernel_rfl) (by kernel_rfl)
theorem eg61:Tryz.prog.eqGuardType Tryz.prog.depth 61=false:=by kernel_rfl
theorem ag61:aggD (dOf Tryz.prog 61)=true:=by kernel_rfl
theorem fl61_0:Fld Tryz.prog 61 0 0:=Fld.of (by kernel_rfl)
theorem fl61_1:Fld Tryz.prog 61 1 1:=Fld.of (by kernel_rfl)
theorem fl61_2:Fld Tryz.prog 61 2 4:=Fld.of (by kernel_rfl)
theorem un66:Tryz.prog.underlying 66=some (dOf Tryz.prog 66):=und_of (by kernel_rfl)
theorem ty66:Ty Tryz.prog 66 (dOf Tryz.prog 66) 18 64 ((List.replicate 16 (0:UInt8)).map B++List.replicate 2 (Value.slice none 0 0)):=Ty.of (v:=.agg ((List.replicate 16 (0:UInt8)).map B++List.replicate 2 (Value.slice none 0 0)).toArray) un66 (by kernel_rfl) (by kernel_rfl) (by kernel_rfl) (by kernel_rfl)
theorem ag66:aggD (dOf Tryz.prog 66)=true:=by kernel_rfl
theorem fl66_0:Fld Tryz.prog 66 0 0:=Fld.of (by kernel_rfl)
theorem fl66_1:Fld Tryz.prog 66 1 16:=Fld.of (by kernel_rfl)
theorem fl66_2:Fld Tryz.prog 66 2 17:=Fld.of (by kernel_rfl)
theorem un72:Tryz.prog.underlying 72=some (dOf Tryz.prog 72):=und_of (by kernel_rfl)
theorem ty72:Ty Tryz.prog 72 (dOf Tryz.prog 72) 21 64 ([I 0]++(List.replicate 2 (0:UInt32)).map U++[I 0]++(List.replicate 16 (0:UInt8)).map B++[Value.slice none 0 0]):=Ty.of (v:=.agg ([I 0]++(List.replicate 2 (0:UInt32)).map U++[I 0]++(List.replicate 16 (0:UInt8)).map B++[Value.slice none 0 0]).toArray) un72 (by kernel_rfl) (by kernel_rfl) (by kernel_rfl) (by kernel_rfl)
theorem ag72:aggD (dOf Tryz.prog 72)=true:=by kernel_rfl
theorem fl72_0:Fld Tryz.prog 72 0 0:=Fld.of (by kernel_rfl)
theorem fl72_1:Fld Tryz.prog 72 1 1:=Fld.of (by kernel_rfl)
theorem fl72_2:Fld Tryz.prog 72 2 4:=Fld.of (by kernel_rfl)
theorem fl72_3:Fld Tryz.prog 72 3 20:=Fld.of (by kernel_rfl)
theorem un87:Tryz.prog.underlying 87=some (.slice 177):=by kernel_rfl
theorem un100:Tryz.prog.underlying 100=some (.slice 24):=by kernel_rfl
theorem un102:Tryz.prog.underlying 102=some (.pointer 191):=by kernel_rfl
theorem un105:Tryz.prog.underlying 105=some (.slice 129):=by kernel_rfl
theorem un107:Tryz.prog.underlying 107=some (.pointer 195):=by kernel_rfl
theorem un124:Tryz.prog.underlying 124=some (.int .u64):=by kernel_rfl
theorem ty124:Ty Tryz.prog 124 (.int .u64) 1 8 ([V 0]):=Ty.of (v:=V 0) un124 (by kernel_rfl) (by kernel_rfl) (by kernel_rfl) (by kernel_rfl)
theorem un126:Tryz.prog.underlying 126=some (.slice 3):=by kernel_rfl
theorem un127:Tryz.prog.underlying 127=some (.int .u64):=by kernel_rfl
theorem un129:Tryz.prog.underlying 129=some (.array 32 5):=by kernel_rfl
theorem ty129:Ty Tryz.prog 129 (.array 32 5) 32 32 ((List.replicate 32 (0:UInt8)).map B):=Ty.of (v:=.agg ((List.replicate 32 (0:UInt8)).map B).toArray) un129 (by kernel_rfl) (by kernel_rfl) (by kernel_rfl) (by kernel_rfl)
theorem un132:Tryz.prog.underlying 132=some (.slice 203):=by kernel_rfl
theorem un144:Tryz.prog.underlying 144=some (.pointer 211):=by kernel_rfl
theorem ty144:Ty Tryz.prog 144 (.pointer 211) 1 8 ([Value.pointer none]):=Ty.of (v:=Value.pointer none) un144 (by kernel_rfl) (by kernel_rfl) (by kernel_rfl) (by kernel_rfl)
theorem un149:Tryz.prog.underlying 149=some (dOf Tryz.prog 149):=und_of (by kernel_rfl)
theorem ty149:Ty Tryz.prog 149 (dOf Tryz.prog 149) 43 128 (List.replicate 3 (I 0)++(List.replicate 32 (0:UInt8)).map B++[I 0]++[U 0]++[Value.slice none 0 0]++[U 0]++[Value.int .i32 0]++[U 0]++[Value.pointer none]++[I 0]):=Ty.of (v:=.agg (List.replicate 3 (I 0)++(List.replicate 32 (0:UInt8)).map B++[I 0]++[U 0]++[Value.slice none 0 0]++[U 0]++[Value.int .i32 0]++[U 0]++[Value.pointer none]++[I 0]).toArray) un149 (by kernel_rfl) (by kernel_rfl) (by kernel_rfl) (by kernel_rfl)
theorem fl149_0:Fld Tryz.prog 149 0 0:=Fld.of (by kernel_rfl)
theorem fl149_1:Fld Tryz.prog 149 1 3:=Fld.of (by kernel_rfl)
theorem fl149_2:Fld Tryz.prog 149 2 35:=Fld.of (by kernel_rfl)
theorem fl149_3:Fld Tryz.prog 149 3 36:=Fld.of (by kernel_rfl)
theorem fl149_4:Fld Tryz.prog 149 4 37:=Fld.of (by kernel_rfl)
theorem fl149_5:Fld Tryz.prog 149 5 38:=Fld.of (by kernel_rfl)
theorem fl149_6:Fld Tryz.prog 149 6 41:=Fld.of (by kernel_rfl)
theorem fl149_7:Fld Tryz.prog 149 7 42:=Fld.of (by kernel_rfl)
theorem un155:Tryz.prog.underlying 155=some (.slice 124):=by kernel_rfl
theorem un157:Tryz.prog.underlying 157=some (dOf Tryz.prog 157):=und_of (by kernel_rfl)
theorem ty157:Ty Tryz.prog 157 (dOf Tryz.prog 157) 3 16 ([I 0]++(List.replicate 2 (0:UInt32)).map U):=Ty.of (v:=.agg ([I 0]++(List.replicate 2 (0:UInt32)).map U).toArray) un157 (by kernel_rfl) (by kernel_rfl) (by kernel_rfl) (by kernel_rfl)
theorem ag157:aggD (dOf Tryz.prog 157)=true:=by kernel_rfl
theorem fl157_0:Fld Tryz.prog 157 0 0:=Fld.of (by kernel_rfl)
theorem fl157_1:Fld Tryz.prog 157 1 1:=Fld.of (by kernel_rfl)
theorem fl157_2:Fld Tryz.prog 157 2 2:=Fld.of (by kernel_rfl)
theorem un165:Tryz.prog.underlying 165=some (dOf Tryz.prog 165):=und_of (by kernel_rfl)
theorem ty165:Ty Tryz.prog 165 (dOf Tryz.prog 165) 3 16 ([I 0]++(List.replicate 2 (0:UInt32)).map U):=Ty.of (v:=.agg ([I 0]++(List.replicate 2 (0:UInt32)).map U).toArray) un165 (by kernel_rfl) (by kernel_rfl) (by kernel_rfl) (by kernel_rfl)
theorem ag165:aggD (dOf Tryz.prog 165)=true:=by kernel_rfl
theorem fl165_0:Fld Tryz.prog 165 0 0:=Fld.of (by kernel_rfl)
theorem fl165_1:Fld Tryz.prog 165 1 1:=Fld.of (by kernel_rfl)
theorem fl165_2:Fld Tryz.prog 165 2 2:=Fld.of (by kernel_rfl)
theorem un177:Tryz.prog.underlying 177=some (.slice 5):=by kernel_rfl
theorem ty177:Ty Tryz.prog 177 (.slice 5) 1 24 ([Value.slice none 0 0]):=Ty.of (v:=Value.slice none 0 0) un177 (by kernel_rfl) (by kernel_rfl) (by kernel_rfl) (by kernel_rfl)
theorem un189:Tryz.prog.underlying 189=some (.map 230 29):=by kernel_rfl
theorem un191:Tryz.prog.underlying 191=some (dOf Tryz.prog 191):=und_of (by kernel_rfl)
theorem ty191:Ty Tryz.prog 191 (dOf Tryz.prog 191) 5 56 (List.replicate 3 (I 0)++[Value.slice none 0 0]++[Value.map none]):=Ty.of (v:=.agg (List.replicate 3 (I 0)++[Value.slice none 0 0]++[Value.map none]).toArray) un191 (by kernel_rfl) (by kernel_rfl) (by kernel_rfl) (by kernel_rfl)
theorem fl191_0:Fld Tryz.prog 191 0 0:=Fld.of (by kernel_rfl)
theorem fl191_1:Fld Tryz.prog 191 1 3:=Fld.of (by kernel_rfl)
theorem fl191_2:Fld Tryz.prog 191 2 4:=Fld.of (by kernel_rfl)
theorem un192:Tryz.prog.underlying 192=some (.map 3 4):=by kernel_rfl
theorem un193:Tryz.prog.underlying 193=some (.slice 61):=by kernel_rfl
theorem ty193:Ty Tryz.prog 193 (.slice 61) 1 24 ([Value.slice none 0 0]):=Ty.of (v:=Value.slice none 0 0) un193 (by kernel_rfl) (by kernel_rfl) (by kernel_rfl) (by kernel_rfl)
theorem un195:Tryz.prog.underlying 195=some (dOf Tryz.prog 195):=und_of (by kernel_rfl)
theorem ty195:Ty Tryz.prog 195 (dOf Tryz.prog 195) 2 32 ([Value.slice none 0 0]++[Value.map none]):=Ty.of (v:=.agg ([Value.slice none 0 0]++[Value.map none]).toArray) un195 (by kernel_rfl) (by kernel_rfl) (by kernel_rfl) (by kernel_rfl)
theorem fl195_0:Fld Tryz.prog 195 0 0:=Fld.of (by kernel_rfl)
theorem fl195_1:Fld Tryz.prog 195 1 1:=Fld.of (by kernel_rfl)
theorem un203:Tryz.prog.underlying 203=some (dOf Tryz.prog 203):=und_of (by kernel_rfl)
theorem ty203:Ty Tryz.prog 203 (dOf Tryz.prog 203) 4 40 ([U 0]++[Value.int .i32 0]++[U 0]++[Value.slice none 0 0]):=Ty.of (v:=.agg ([U 0]++[Value.int .i32 0]++[U 0]++[Value.slice none 0 0]).toArray) un203 (by kernel_rfl) (by kernel_rfl) (by kernel_rfl) (by kernel_rfl)
theorem fl203_0:Fld Tryz.prog 203 0 0:=Fld.of (by kernel_rfl)
theorem fl203_1:Fld Tryz.prog 203 1 3:=Fld.of (by kernel_rfl)
theorem un209:Tryz.prog.underlying 209=some (.slice 39):=by kernel_rfl
theorem ty209:Ty Tryz.prog 209 (.slice 39) 1 24 ([Value.slice none 0 0]):=Ty.of (v:=Value.slice none 0 0) un209 (by kernel_rfl) (by kernel_rfl) (by kernel_rfl) (by kernel_rfl)
theorem un211:Tryz.prog.underlying 211=some (dOf Tryz.prog 211):=und_of (by kernel_rfl)
theorem ty211:Ty Tryz.prog 211 (dOf Tryz.prog 211) 3 40 ([I 0]++[U 0]++[Value.slice none 0 0]):=Ty.of (v:=.agg ([I 0]++[U 0]++[Value.slice none 0 0]).toArray) un211 (by kernel_rfl) (by kernel_rfl) (by kernel_rfl) (by kernel_rfl)
theorem fl211_2:Fld Tryz.prog 211 2 2:=Fld.of (by kernel_rfl)
theorem un230:Tryz.prog.underlying 230=some (dOf Tryz.prog 230):=und_of (by kernel_rfl)
theorem ty230:Ty Tryz.prog 230 (dOf Tryz.prog 230) 2 16 ([I 0]++[U 0]):=Ty.of (v:=.agg ([I 0]++[U 0]).toArray) un230 (by kernel_rfl) (by kernel_rfl) (by kernel_rfl) (by kernel_rfl)
theorem un255:Tryz.prog.underlying 255=some (.array 64 5):=by kernel_rfl
theorem ty255:Ty Tryz.prog 255 (.array 64 5) 64 64 ((List.replicate 64 (0:UInt8)).map B):=Ty.of (v:=.agg ((List.replicate 64 (0:UInt8)).map B).toArray) un255 (by kernel_rfl) (by kernel_rfl) (by kernel_rfl) (by kernel_rfl)
theorem un256:Tryz.prog.underlying 256=some (.pointer 272):=by kernel_rfl
theorem un262:Tryz.prog.underlying 262=some (.array 8 25):=by kernel_rfl
theorem ty262:Ty Tryz.prog 262 (.array 8 25) 8 32 ((List.replicate 8 (0:UInt32)).map U):=Ty.of (v:=.agg ((List.replicate 8 (0:UInt32)).map U).toArray) un262 (by kernel_rfl) (by kernel_rfl) (by kernel_rfl) (by kernel_rfl)
theorem un264:Tryz.prog.underlying 264=some (.array 64 25):=by kernel_rfl
theorem ty264:Ty Tryz.prog 264 (.array 64 25) 64 256 ((List.replicate 64 (0:UInt32)).map U):=Ty.of (v:=.agg ((List.replicate 64 (0:UInt32)).map U).toArray) un264 (by kernel_rfl) (by kernel_rfl) (by kernel_rfl) (by kernel_rfl)
theorem un272:Tryz.prog.underlying 272=some (dOf Tryz.prog 272):=und_of (by kernel_rfl)
theorem ty272:Ty Tryz.prog 272 (dOf Tryz.prog 272) 11 72 ((List.replicate 8 (0:UInt32)).map U++[Value.slice none 0 0]++[V 0]++[I 0]):=Ty.of (v:=.agg ((List.replicate 8 (0:UInt32)).map U++[Value.slice none 0 0]++[V 0]++[I 0]).toArray) un272 (by kernel_rfl) (by kernel_rfl) (by kernel_rfl) (by kernel_rfl)
theorem fl272_0:Fld Tryz.prog 272 0 0:=Fld.of (by kernel_rfl)
theorem fl272_1:Fld Tryz.prog 272 1 8:=Fld.of (by kernel_rfl)
theorem fl272_2:Fld Tryz.prog 272 2 9:=Fld.of (by kernel_rfl)
theorem fl272_3:Fld Tryz.prog 272 3 10:=Fld.of (by kernel_rfl)
theorem un274:Tryz.prog.underlying 274=some (.array 8 5):=by kernel_rfl
theorem ty274:Ty Tryz.prog 274 (.array 8 5) 8 8 ((List.replicate 8 (0:UInt8)).map B):=Ty.of (v:=.agg ((List.replicate 8 (0:UInt8)).map B).toArray) un274 (by kernel_rfl) (by kernel_rfl) (by kernel_rfl) (by kernel_rfl)
theorem fu11:Fun Tryz.prog 11:=⟨_,Tryz.func11,by kernel_rfl,rfl⟩
theorem fu14:Fun Tryz.prog 14:=⟨_,Tryz.func14,by kernel_rfl,rfl⟩
theorem fu15:Fun Tryz.prog 15:=⟨_,Tryz.func15,by kernel_rfl,rfl⟩
theorem fu16:Fun Tryz.prog 16:=⟨_,Tryz.func16,by kernel_rfl,rfl⟩
theorem fu17:Fun Tryz.prog 17:=⟨_,Tryz.func17,by kernel_rfl,rfl⟩
theorem fu18:Fun Tryz.prog 18:=⟨_,Tryz.func18,by kernel_rfl,rfl⟩
theorem fu19:Fun Tryz.prog 19:=⟨_,Tryz.func19,by kernel_rfl,rfl⟩
theorem fu21:Fun Tryz.prog 21:=⟨_,Tryz.func21,by kernel_rfl,rfl⟩
theorem fu26:Fun Tryz.prog 26:=⟨_,Tryz.func26,by kernel_rfl,rfl⟩
theorem fu27:Fun Tryz.prog 27:=⟨_,Tryz.func27,by kernel_rfl,rfl⟩
theorem fu28:Fun Tryz.prog 28:=⟨_,Tryz.func28,by kernel_rfl,rfl⟩
theorem fu32:Fun Tryz.prog 32:=⟨_,Tryz.func32,by kernel_rfl,rfl⟩
theorem fu33:Fun Tryz.prog 33:=⟨_,Tryz.func33,by kernel_rfl,rfl⟩
theorem fu34:Fun Tryz.prog 34:=⟨_,Tryz.func34,by kernel_rfl,rfl⟩
theorem fu37:Fun Tryz.prog 37:=⟨_,Tryz.func37,by kernel_rfl,rfl⟩
theorem fu40:Fun Tryz.prog 40:=⟨_,Tryz.func40,by kernel_rfl,rfl⟩
theorem fu41:Fun Tryz.prog 41:=⟨_,Tryz.func41,by kernel_rfl,rfl⟩
theorem fu42:Fun Tryz.prog 42:=⟨_,Tryz.func42,by kernel_rfl,rfl⟩
theorem fu43:Fun Tryz.prog 43:=⟨_,Tryz.func43,by kernel_rfl,rfl⟩
theorem fu48:Fun Tryz.prog 48:=⟨_,Tryz.func48,by kernel_rfl,rfl⟩
theorem fu49:Fun Tryz.prog 49:=⟨_,Tryz.func49,by kernel_rfl,rfl⟩
theorem fu50:Fun Tryz.prog 50:=⟨_,Tryz.func50,by kernel_rfl,rfl⟩
theorem fu51:Fun Tryz.prog 51:=⟨_,Tryz.func51,by kernel_rfl,rfl⟩
theorem fu52:Fun Tryz.prog 52:=⟨_,Tryz.func52,by kernel_rfl,rfl⟩
theorem fu53:Fun Tryz.prog 53:=⟨_,Tryz.func53,by kernel_rfl,rfl⟩
theorem fu55:Fun Tryz.prog 55:=⟨_,Tryz.func55,by kernel_rfl,rfl⟩
theorem fu57:Fun Tryz.prog 57:=⟨_,Tryz.func57,by kernel_rfl,rfl⟩
theorem fu61:Fun Tryz.prog 61:=⟨_,Tryz.func61,by kernel_rfl,rfl⟩
theorem fu63:Fun Tryz.prog 63:=⟨_,Tryz.func63,by kernel_rfl,rfl⟩
theorem fu64:Fun Tryz.prog 64:=⟨_,Tryz.func64,by kernel_rfl,rfl⟩
theorem fu65:Fun Tryz.prog 65:=⟨_,Tryz.func65,by kernel_rfl,rfl⟩
theorem fu66:Fun Tryz.prog 66:=⟨_,Tryz.func66,by kernel_rfl,rfl⟩
theorem fu67:Fun Tryz.prog 67:=⟨_,Tryz.func67,by kernel_rfl,rfl⟩
theorem fu69:Fun Tryz.prog 69:=⟨_,Tryz.func69,by kernel_rfl,rfl⟩
theorem fu70:Fun Tryz.prog 70:=⟨_,Tryz.func70,by kernel_rfl,rfl⟩
theorem fu71:Fun Tryz.prog 71:=⟨_,Tryz.func71,by kernel_rfl,rfl⟩
theorem fu74:Fun Tryz.prog 74:=⟨_,Tryz.func74,by kernel_rfl,rfl⟩
theorem fu75:Fun Tryz.prog 75:=⟨_,Tryz.func75,by kernel_rfl,rfl⟩
theorem fu76:Fun Tryz.prog 76:=⟨_,Tryz.func76,by kernel_rfl,rfl⟩
theorem fu77:Fun Tryz.prog 77:=⟨_,Tryz.func77,by kernel_rfl,rfl⟩
theorem fu78:Fun Tryz.prog 78:=⟨_,Tryz.func78,by kernel_rfl,rfl⟩
theorem fu80:Fun Tryz.prog 80:=⟨_,Tryz.func80,by kernel_rfl,rfl⟩
theorem fu81:Fun Tryz.prog 81:=⟨_,Tryz.func81,by kernel_rfl,rfl⟩
theorem fu82:Fun Tryz.prog 82:=⟨_,Tryz.func82,by kernel_rfl,rfl⟩
theorem fu83:Fun Tryz.prog 83:=⟨_,Tryz.func83,by kernel_rfl,rfl⟩
theorem fu84:Fun Tryz.prog 84:=⟨_,Tryz.func84,by kernel_rfl,rfl⟩
theorem fu85:Fun Tryz.prog 85:=⟨_,Tryz.func85,by kernel_rfl,rfl⟩
theorem fu86:Fun Tryz.prog 86:=⟨_,Tryz.func86,by kernel_rfl,rfl⟩
theorem fu87:Fun Tryz.prog 87:=⟨_,Tryz.func87,by kernel_rfl,rfl⟩
theorem fu88:Fun Tryz.prog 88:=⟨_,Tryz.func88,by kernel_rfl,rfl⟩
theorem fu89:Fun Tryz.prog 89:=⟨_,Tryz.func89,by kernel_rfl,rfl⟩
theorem fu90:Fun Tryz.prog 90:=⟨_,Tryz.func90,by kernel_rfl,rfl⟩
theorem fu91:Fun Tryz.prog 91:=⟨_,Tryz.func91,by kernel_rfl,rfl⟩
theorem fu93:Fun Tryz.prog 93:=⟨_,Tryz.func93,by kernel_rfl,rfl⟩
theorem fu94:Fun Tryz.prog 94:=⟨_,Tryz.func94,by kernel_rfl,rfl⟩
theorem fu95:Fun Tryz.prog 95:=⟨_,Tryz.func95,by kernel_rfl,rfl⟩
theorem fu97:Fun Tryz.prog 97:=⟨_,Tryz.func97,by kernel_rfl,rfl⟩
theorem fu98:Fun Tryz.prog 98:=⟨_,Tryz.func98,by kernel_rfl,rfl⟩
theorem fu99:Fun Tryz.prog 99:=⟨_,Tryz.func99,by kernel_rfl,rfl⟩
theorem fu101:Fun Tryz.prog 101:=⟨_,Tryz.func101,by kernel_rfl,rfl⟩
theorem fu102:Fun Tryz.prog 102:=⟨_,Tryz.func102,by kernel_rfl,rfl⟩
theorem fu104:Fun Tryz.prog 104:=⟨_,Tryz.func104,by kernel_rfl,rfl⟩
theorem fu106:Fun Tryz.prog 106:=⟨_,Tryz.func106,by kernel_rfl,rfl⟩
theorem fu107:Fun Tryz.prog 107:=⟨_,Tryz.func107,by kernel_rfl,rfl⟩
theorem fu108:Fun Tryz.prog 108:=⟨_,Tryz.func108,by kernel_rfl,rfl⟩
theorem fu109:Fun Tryz.prog 109:=⟨_,Tryz.func109,by kernel_rfl,rfl⟩
theorem fu110:Fun Tryz.prog 110:=⟨_,Tryz.func110,by kernel_rfl,rfl⟩
theorem fu111:Fun Tryz.prog 111:=⟨_,Tryz.func111,by kernel_rfl,rfl⟩
theorem fu114:Fun Tryz.prog 114:=⟨_,Tryz.func114,by kernel_rfl,rfl⟩
theorem fu115:Fun Tryz.prog 115:=⟨_,Tryz.func115,by kernel_rfl,rfl⟩
theorem fu116:Fun Tryz.prog 116:=⟨_,Tryz.func116,by kernel_rfl,rfl⟩
theorem fu117:Fun Tryz.prog 117:=⟨_,Tryz.func117,by kernel_rfl,rfl⟩
theorem fu118:Fun Tryz.prog 118:=⟨_,Tryz.func118,by kernel_rfl,rfl⟩
theorem fu119:Fun Tryz.prog 119:=⟨_,Tryz.func119,by kernel_rfl,rfl⟩
theorem fu120:Fun Tryz.prog 120:=⟨_,Tryz.func120,by kernel_rfl,rfl⟩
theorem fu121:Fun Tryz.prog 121:=⟨_,Tryz.func121,by kernel_rfl,rfl⟩
theorem fu122:Fun Tryz.prog 122:=⟨_,Tryz.func122,by kernel_rfl,rfl⟩
theorem fu123:Fun Tryz.prog 123:=⟨_,Tryz.func123,by kernel_rfl,rfl⟩
theorem fu124:Fun Tryz.prog 124:=⟨_,Tryz.func124,by kernel_rfl,rfl⟩
theorem fu125:Fun Tryz.prog 125:=⟨_,Tryz.func125,by kernel_rfl,rfl⟩
theorem fu126:Fun Tryz.prog 126:=⟨_,Tryz.func126,by kernel_rfl,rfl⟩
theorem fu127:Fun Tryz.prog 127:=⟨_,Tryz.func127,by kernel_rfl,rfl⟩
theorem fu131:Fun Tryz.prog 131:=⟨_,Tryz.func131,by kernel_rfl,rfl⟩
theorem fu132:Fun Tryz.prog 132:=⟨_,Tryz.func132,by kernel_rfl,rfl⟩
theorem fu133:Fun Tryz.prog 133:=⟨_,Tryz.func133,by kernel_rfl,rfl⟩
theorem fu134:Fun Tryz.prog 134:=⟨_,Tryz.func134,by kernel_rfl,rfl⟩
theorem fu135:Fun Tryz.prog 135:=⟨_,Tryz.func135,by kernel_rfl,rfl⟩
theorem fu136:Fun Tryz.prog 136:=⟨_,Tryz.func136,by kernel_rfl,rfl⟩
theorem fu137:Fun Tryz.prog 137:=⟨_,Tryz.func137,by kernel_rfl,rfl⟩
theorem fu138:Fun Tryz.prog 138:=⟨_,Tryz.func138,by kernel_rfl,rfl⟩
theorem fu139:Fun Tryz.prog 139:=⟨_,Tryz.func139,by kernel_rfl,rfl⟩
theorem fu140:Fun Tryz.prog 140:=⟨_,Tryz.func140,by kernel_rfl,rfl⟩
theorem fu141:Fun Tryz.prog 141:=⟨_,Tryz.func141,by kernel_rfl,rfl⟩
theorem fu142:Fun Tryz.prog 142:=⟨_,Tryz.func142,by kernel_rfl,rfl⟩
theorem fu143:Fun Tryz.prog 143:=⟨_,Tryz.func143,by kernel_rfl,rfl⟩
theorem fu144:Fun Tryz.prog 144:=⟨_,Tryz.func144,by kernel_rfl,rfl⟩
theorem fu149:Fun Tryz.prog 149:=⟨_,Tryz.func149,by kernel_rfl,rfl⟩
theorem fu150:Fun Tryz.prog 150:=⟨_,Tryz.func150,by kernel_rfl,rfl⟩
theorem fu152:Fun Tryz.prog 152:=⟨_,Tryz.func152,by kernel_rfl,rfl⟩
theorem fu153:Fun Tryz.prog 153:=⟨_,Tryz.func153,by kernel_rfl,rfl⟩
theorem fu154:Fun Tryz.prog 154:=⟨_,Tryz.func154,by kernel_rfl,rfl⟩
theorem fu155:Fun Tryz.prog 155:=⟨_,Tryz.func155,by kernel_rfl,rfl⟩
theorem fu156:Fun Tryz.prog 156:=⟨_,Tryz.func156,by kernel_rfl,rfl⟩
theorem fu157:Fun Tryz.prog 157:=⟨_,Tryz.func157,by kernel_rfl,rfl⟩
theorem fu158:Fun Tryz.prog 158:=⟨_,Tryz.func158,by kernel_rfl,rfl⟩
theorem fu159:Fun Tryz.prog 159:=⟨_,Tryz.func159,by kernel_rfl,rfl⟩
theorem fu164:Fun Tryz.prog 164:=⟨_,Tryz.func164,by kernel_rfl,rfl⟩
theorem fu165:Fun Tryz.prog 165:=⟨_,Tryz.func165,by kernel_rfl,rfl⟩
theorem fu166:Fun Tryz.prog 166:=⟨_,Tryz.func166,by kernel_rfl,rfl⟩
theorem fu175:Fun Tryz.prog 175:=⟨_,Tryz.func175,by kernel_rfl,rfl⟩
theorem fu176:Fun Tryz.prog 176:=⟨_,Tryz.func176,by kernel_rfl,rfl⟩
theorem fu177:Fun Tryz.prog 177:=⟨_,Tryz.func177,by kernel_rfl,rfl⟩
theorem fu185:Fun Tryz.prog 185:=⟨_,Tryz.func185,by kernel_rfl,rfl⟩
end Go.Proofs.YtklajbdbnnceiaaGreat
end

section
/- Several things as one; what a call turns. -/
namespace Go.Fw
open Go
theorem heap_lt {w:World} {k:Nat} {o:Obj} (h:w.heap[k]?=some o):k < w.heap.size:=(Array.getElem?_eq_some_iff.1 h).1
theorem Has.loc {w w':World} {L:List Ent} (h:Has 0 w L) (hb:∀ e∈L,∀ k,e.keys k→w'.heap[k]?=w.heap[k]?):Has 0 w' L :=
  ⟨fun e he=>e.loc (hb e he) (h.holds e he),h.apart,fun e he k hk=>by
    have h1:=h.lt e he k hk
    have h2:=hb e he k hk
    rw [Array.getElem?_eq_getElem h1] at h2
    exact heap_lt h2,fun _ _ _ _=>Nat.zero_le _⟩
def Ent.grp (L:List Ent):Ent:=.pr (fun k=>∃ e∈L,e.keys k) (fun w=>Has 0 w L) fun w w' hb h=>h.loc fun e he k hk=>hb k ⟨e,he,hk⟩
section
variable {N:Nat} {F F':List (Nat × Value)} {L L':List Ent} {M:Nat→Prop} {w0 w w':World} {a:Act}
theorem St.startG (hk:Know N F a) (h:Has 0 w L):St N F L (Ent.grp L).keys w a w :=
  ⟨hk,h,fun e he k hke=>.inr ⟨e,he,hke⟩,.refl _ _⟩
theorem St.grp (h:St N F L M w0 a w):Has 0 w L∧∀ k,(Ent.grp L).keys k→M k∨w0.heap.size≤k :=
  ⟨h.has,fun k ⟨e,he,hk⟩=>(h.own e he k hk).symm⟩
theorem grp_lt (h:Has 0 w L):∀ k,(Ent.grp L).keys k→k < w.heap.size:=fun k ⟨e,he,hk⟩=>h.lt e he k hk
theorem Has.grp (h:Has 0 w L) {B:Nat} (hB:∀ e∈L,∀ k,e.keys k→B≤k):Has B w [Ent.grp L] :=
  ⟨by intro e he; simp only [List.mem_singleton] at he; subst he; exact h,List.pairwise_singleton _ _,
   by intro e he k hk; simp only [List.mem_singleton] at he; subst he; exact grp_lt h k hk,
   by intro e he k hk; simp only [List.mem_singleton] at he; subst he; obtain ⟨e,he,hk⟩:=hk; exact hB e he k hk⟩
theorem Has.grp' {B:Nat} (h:Has B w L):Has B w [Ent.grp L]:=(h.mono (Nat.zero_le _)).grp h.ge
end
section
variable {P:Program} {ops:Array Oper} {Q:Exit→Act→World→Prop} {rest:List Oper} {N:Nat} {F F':List (Nat × Value)} {L L':List Ent} {M:Nat→Prop} {w0 w:World} {a:Act}
variable {d:Tmp} {op:Op} {ty:TypeId} {pos:String} {aft:Array Edge} {x y z:Operand} {t u:TypeId}
theorem s_appB {i:Nat} {s0 x0:Operand} {E:TypeId} {ed:TypeDesc} {zs:List Value} {l p:List UInt8} {v u:Value} (hs:St N F L M w0 a w) (hu:P.underlying t=some (.slice E)) (hE:Ty P E ed 1 1 zs)
    (hv:ev F s0=some v) (hx:ev F x0=some u) (hi:L[i]?=some (.row v l.length (l.map B) E 1)) (hr:RdB w u p) (hle:l.length + p.length≤140737488355328) (hd:Nat.blt d N=true)
    (k:∀ a w' v',Fr (Ent.keys (.row v l.length (l.map B) E 1)) w w'→(v'=.slice none 0 0 ↔ v=.slice none 0 0∧p.length=0)→St N ((d,v')::F) (L.set i (.row v' (l++p).length ((l++p).map B) E 1)) M w0 a w'→wpList P ops Q rest a w') :
    wpList P ops Q (⟨some d,.call { callee:=.builtin .append,args:=#[s0,x0],argTypes:=#[t,t] },ty,pos,aft,none⟩::rest) a w:=by
  refine s_append hs hu hE (by decide) hv hx hi hr (by simp) (all_map_B p) (by unfold maxLen; omega) (by omega) hd fun a w' v' hf hn hs=>?_
  refine k a w' v' hf hn (hs.toL ?_)
  rw [List.length_append,List.map_append]
end
theorem RdB.seg {w:World} {g:Nat} {T:TypeId} {l:List UInt8} (h:w.heap[g]?=some (.cells (l.map B).toArray T (0,0))) (hn:l.length≤maxLen):RdB w (.slice (some ⟨g,0,none⟩) l.length l.length) l :=
  Rd.of_seg h (Nat.le_refl _) hn (List.take_of_length_le (by simp))
theorem RdB.row {w:World} {v:Value} {T:TypeId} {l:List UInt8} (h:w.ownsRow 0 T 1 v l.length (l.map B)):RdB w v l:=Rd.of_row h
theorem RdB.cut {w:World} {ad:Option Addr} {cap i:Nat} {l:List UInt8} (h:RdB w (.slice ad l.length cap) l) (hi:i≤l.length) :
    RdB w (.slice (if cap=i then ad else ad.map (·.add (i * 1))) (l.length - i) (cap - i)) (l.drop i):=by
  have:=Rd.cut (i:=i) (sz:=1) h hi (by simp) (by simpa using hi)
  unfold RdB
  rw [List.length_drop,List.map_drop]
  simpa using this
theorem Rd.sl {w:World} {v:Value} {n:Nat} {cs:List Value} (h:Rd w v n cs):∃ ad cap,v=.slice ad n cap∧n≤cap∧cap≤maxLen:=by
  obtain ⟨ad,cap,hv,h1,h2,_⟩:=h
  exact ⟨ad,cap,hv,h1,h2⟩
theorem u64_app (a p:List UInt8) (h:a.length + p.length < 18446744073709551616):UInt64.ofNat a.length + i64 (p.length:Int)=UInt64.ofNat (a++p).length:=by
  apply UInt64.toNat_inj.1
  have h1:=i64_toNat (p.length:Int)
  rw [UInt64.toNat_add,UInt64.toNat_ofNat',UInt64.toNat_ofNat',List.length_append]
  omega
end Go.Fw
namespace Go.Fw
open Go
def Ent.rd (v:Value) (l:List UInt8):Ent:=.pr (fun k=>v.ownBlock=some k∧l ≠ []) (fun w=>RdB w v l) fun w w' hb h=>by
  obtain ⟨ad,cap,hv,h1,h2,h0,h3⟩:=h
  refine ⟨ad,cap,hv,h1,h2,h0,?_⟩
  by_cases hl:l=[]
  · left; rw [hl]; rfl
  · rcases h3 with h3 | ⟨b,o,T,fr,all,rfl,hb',hc⟩
    · exact .inl h3
    · exact .inr ⟨b,o,T,fr,all,rfl,(hb b ⟨by simp [hv,Value.ownBlock],hl⟩).trans hb',hc⟩
theorem RdB.key {w:World} {v:Value} {l:List UInt8} (h:RdB w v l) {k:Nat} (hk:v.ownBlock=some k) (hl:l ≠ []):k < w.heap.size:=by
  obtain ⟨b,o,cap,T,fr,all,hv,_,_,hb,_⟩:=RdB.at_ h (List.length_pos_iff.2 hl)
  simp [hv,Value.ownBlock] at hk
  subst hk
  exact heap_lt hb
section
variable {N:Nat} {F F':List (Nat × Value)} {L L':List Ent} {M:Nat→Prop} {w0 w w':World} {a:Act}
theorem St.rowrd {i:Nat} {v:Value} {l:List UInt8} {T:TypeId} (hs:St N F L M w0 a w) (hi:L[i]?=some (.row v l.length (l.map B) T 1)):St N F (L.set i (.rd v l)) M w0 a w :=
  hs.mod hi (.refl _ _) (RdB.row (hs.get hi)) fun k hk=>⟨.inl hk.1,RdB.key (RdB.row (hs.get hi)) hk.1 hk.2⟩
theorem St.rdcut {i j:Nat} {ad:Option Addr} {cap:Nat} {l:List UInt8} (hs:St N F L M w0 a w) (hi:L[i]?=some (.rd (.slice ad l.length cap) l)) (hj:j≤l.length) :
    St N F (L.set i (.rd (.slice (if cap=j then ad else ad.map (·.add (j * 1))) (l.length - j) (cap - j)) (l.drop j))) M w0 a w:=by
  have h:RdB w (.slice ad l.length cap) l:=hs.get hi
  have h2:=RdB.cut h hj
  refine hs.mod hi (.refl _ _) h2 fun k hk=>⟨.inl ⟨?_,fun e=>hk.2 (by rw [e]; simp)⟩,RdB.key h2 hk.1 hk.2⟩
  have h3:=hk.1
  cases ad with
  | none=>by_cases e:cap=j <;> simp [e,Value.ownBlock] at h3
  | some q =>
    show some q.block=some k
    by_cases e:cap=j
    · rw [if_pos e] at h3; exact h3
    · rw [if_neg e] at h3
      have h4:some (q.add (j * 1)).block=some k:=h3
      rw [← h4]
      unfold Addr.add
      split <;> rfl
end
end Go.Fw
end

section
/- Where the fields of each struct lie. Written by a program of ours (facts2.py). -/
namespace Go.Proofs.YtklajbdbnnceiaaGreat
open Go Go.Fw
theorem bp33:BP Tryz.prog 33 #[(0,1),(1,1),(2,1)]:=⟨by kernel_rfl,fun w=>by kernel_rfl⟩
theorem bp56:BP Tryz.prog 56 #[(0,16),(16,1),(17,1)]:=⟨by kernel_rfl,fun w=>by kernel_rfl⟩
theorem bp59:BP Tryz.prog 59 #[(0,1),(1,1),(2,1)]:=⟨by kernel_rfl,fun w=>by kernel_rfl⟩
theorem bp61:BP Tryz.prog 61 #[(0,1),(1,3),(4,1)]:=⟨by kernel_rfl,fun w=>by kernel_rfl⟩
theorem bp72:BP Tryz.prog 72 #[(0,1),(1,3),(4,16),(20,1)]:=⟨by kernel_rfl,fun w=>by kernel_rfl⟩
theorem bp149:BP Tryz.prog 149 #[(0,3),(3,32),(35,1),(36,1),(37,1),(38,3),(41,1),(42,1)]:=⟨by kernel_rfl,fun w=>by kernel_rfl⟩
theorem bp157:BP Tryz.prog 157 #[(0,1),(1,1),(2,1)]:=⟨by kernel_rfl,fun w=>by kernel_rfl⟩
theorem bp165:BP Tryz.prog 165 #[(0,1),(1,1),(2,1)]:=⟨by kernel_rfl,fun w=>by kernel_rfl⟩
theorem bp191:BP Tryz.prog 191 #[(0,3),(3,1),(4,1)]:=⟨by kernel_rfl,fun w=>by kernel_rfl⟩
theorem bp195:BP Tryz.prog 195 #[(0,1),(1,1)]:=⟨by kernel_rfl,fun w=>by kernel_rfl⟩
theorem bp211:BP Tryz.prog 211 #[(0,1),(1,1),(2,1)]:=⟨by kernel_rfl,fun w=>by kernel_rfl⟩
theorem bp230:BP Tryz.prog 230 #[(0,1),(1,1)]:=⟨by kernel_rfl,fun w=>by kernel_rfl⟩
theorem bp272:BP Tryz.prog 272 #[(0,8),(8,1),(9,1),(10,1)]:=⟨by kernel_rfl,fun w=>by kernel_rfl⟩
end Go.Proofs.YtklajbdbnnceiaaGreat
end

section
/- Strings. -/
namespace Go.Fw
open Go
abbrev T (l:List UInt8):Value:=.string ⟨l.toArray⟩
theorem push_all:∀ (l:List UInt8) (s:ByteArray),(l.map fun b=>(b.toNat:Int)).foldl (fun r n=>r.push (UInt8.ofNat n.toNat)) s=⟨(s.data.toList++l).toArray⟩
  | [],s=>by simp
  | b::l,s=>by
    simp only [List.map_cons,List.foldl_cons]
    rw [push_all l]
    simp [ByteArray.push]
theorem Rd.cells {w:World} {u:Value} {m:Nat} {news:List Value} (hr:Rd w u m news):(∃ cap,u=.slice none m cap∧m=0∧news=[])∨∃ ad cap,u=.slice (some ad) m cap∧∀ j v,news[j]?=some v→w.cell? (ad.add j)=some v:=by
  rcases hr.src with ⟨h1,h2,h3⟩ | ⟨ad,cap,h1,h2⟩
  · exact .inl ⟨0,by rw [h1,h2],h2,h3⟩
  · exact .inr ⟨ad,cap,h1,h2⟩
section
variable {P:Program} {a:Act} {w:World} {d:Option Tmp} {ty:TypeId} {pos:String} {aft:Array Edge} {g:Option (Nat × Bool)} {x y z:Operand} {t u:TypeId}
theorem c_cvST {E:TypeId} {v:Value} {l:List UInt8} (hu:P.underlying t=some (.slice E)) (hE:P.underlying E=some (.int .u8)) (hd:P.underlying u=some .string) (hx:a.eval x=v) (hr:RdB w v l) :
    (execOp a.eval ⟨d,.convert t u x,ty,pos,aft,g⟩).run P w=.ok (.value (T l)) w:=by
  rcases Rd.cells hr with ⟨cap,rfl,_,h0⟩ | ⟨ad,cap,rfl,hc⟩
  · have hl:l=[]:=by simpa using h0
    subst hl
    simp [execOp,hx,run_convert_bytes_string w t u E none _ cap hu hE hd,Conv.bytesToString]
    rfl
  · have hm:l.map B=(l.map fun b=>(b.toNat:Int)).map (Value.int .u8):=by simp [B]
    have h1:(loadCells ad l.length).run P w=.ok ((l.map fun b=>(b.toNat:Int)).map (Value.int .u8)).toArray w:=by
      have:=run_loadCells_list (P:=P) (w:=w) ad (l.map B) hc
      rw [List.length_map,hm] at this
      exact this
    have h2:=run_bytesToString w ad l.length cap _ h1
    rw [push_all] at h2
    simp [execOp,hx,run_convert_bytes_string w t u E (some ad) l.length cap hu hE hd,h2]
theorem c_neqTT {l m:List UInt8} (hx:a.eval x=T l) (hy:a.eval y=T m):(execOp a.eval ⟨d,.binOp .neq t x y u,ty,pos,aft,g⟩).run P w=.ok (.value (.bool (l != m))) w:=by
  rw [c_neqT hx hy]; simp [bne]
end
section
variable {P:Program} {ops:Array Oper} {Q:Exit→Act→World→Prop} {rest:List Oper} {N:Nat} {F F':List (Nat × Value)} {L L':List Ent} {M:Nat→Prop} {w0 w:World} {a:Act}
variable {d:Tmp} {op:Op} {ty:TypeId} {pos:String} {aft:Array Edge} {x y z:Operand} {t u:TypeId}
end
theorem RdB.at' {w:World} {ad:Option Addr} {cap:Nat} {l:List UInt8} (h:RdB w (.slice ad l.length cap) l) (hne:0 < l.length) :
    ∃ b o T fr all,ad=some ⟨b,o,none⟩∧w.heap[b]?=some (.cells all T fr)∧(all.toList.drop o).take (l.map B).length=l.map B:=by
  obtain ⟨b,o,cap',T,fr,all,e,_,_,hb,hc⟩:=RdB.at_ h hne
  cases e
  exact ⟨b,o,T,fr,all,rfl,hb,hc⟩
theorem RdB.take {w:World} {ad:Option Addr} {cap m:Nat} {l:List UInt8} (h:RdB w (.slice ad l.length cap) l) (hm:m≤l.length):RdB w (.slice ad m cap) (l.take m):=by
  obtain ⟨ad',cap',hv,h1,h2,h0,h3⟩:=h
  cases hv
  have hl:(l.take m).length=m:=by simp; omega
  unfold RdB
  rw [hl]
  refine ⟨ad,cap,rfl,by omega,h2,h0,?_⟩
  rcases h3 with h3 | ⟨b,o,T,fr,all,rfl,hb,hc⟩
  · left; simp at h3; subst h3; simp
  · right
    refine ⟨b,o,T,fr,all,rfl,hb,?_⟩
    rw [List.map_take,← hc]
    simp only [List.length_take,List.length_map,List.take_take]
    have h5:l.length≤all.toList.length - o:=by
      have:=congrArg List.length hc
      simp only [List.length_take,List.length_map,List.length_drop] at this
      omega
    congr 1
    simp only [List.length_drop]
    omega
theorem RdB.mid {w:World} {ad:Option Addr} {cap i j:Nat} {l:List UInt8} (h:RdB w (.slice ad l.length cap) l) (hij:i≤j) (hj:j≤l.length) :
    RdB w (.slice (if cap=i then ad else ad.map (·.add (i * 1))) (j - i) (cap - i)) ((l.drop i).take (j - i)):=by
  have h1:=RdB.cut (i:=i) h (by omega)
  have h2:(l.drop i).length=l.length - i:=List.length_drop
  rw [← h2] at h1
  exact RdB.take h1 (by omega)
theorem RdB.fr' {M:Nat→Prop} {w w':World} {v:Value} {l:List UInt8} (h:RdB w v l) (hf:Fr M w w') (hm:l ≠ []→∀ k,v.ownBlock=some k→¬ M k):RdB w' v l:=by
  by_cases e:l=[]
  · subst e
    obtain ⟨ad,cap,h1,h2,h3,h4,_⟩:=h
    exact ⟨ad,cap,h1,h2,h3,h4,.inl rfl⟩
  · exact h.fr hf (hm e)
theorem St.far {N:Nat} {F:List (Nat × Value)} {L:List Ent} {w0 w:World} {a:Act} {i:Nat} {e:Ent} {v:Value} {l:List UInt8} (hs:St N F L (fun _=>False) w0 a w) (hi:L[i]?=some e) (h:RdB w0 v l) :
    l ≠ []→∀ k,v.ownBlock=some k→¬ e.keys k:=fun hl k hk he=>by
  have h1:=h.key hk hl
  rcases hs.own e (List.mem_of_getElem? hi) k he with h2 | h2
  · omega
  · exact h2
end Go.Fw
end

section
/- Copying; rows of rows of bytes. -/
namespace Go.Fw
open Go
section
variable {P:Program} {ops:Array Oper} {Q:Exit→Act→World→Prop} {rest:List Oper} {N:Nat} {F F':List (Nat × Value)} {L L':List Ent} {M:Nat→Prop} {w0 w:World} {a:Act}
variable {d:Tmp} {op:Op} {ty:TypeId} {pos:String} {aft:Array Edge} {x y z:Operand} {t u:TypeId}
theorem s_copy {i g n:Nat} {l p:List UInt8} {T dT sT E:TypeId} {ed:TypeDesc} {zs:List Value} {v:Value} (hs:St N F L M w0 a w) (hu:P.underlying dT=some (.slice E)) (hE:Ty P E ed 1 1 zs)
    (hx:ev F x=some (.slice (some ⟨g,0,none⟩) n n)) (hl:l.length=n) (hy:ev F y=some v) (hi:L[i]?=some (.seg g (l.map B) T)) (hr:RdB w v p) (hd:Nat.blt d N=true)
    (k:∀ a w,St N ((d,I (min p.length n:Nat))::F) (L.set i (.seg g ((p.take n++l.drop p.length).map B) T)) M w0 a w→wpList P ops Q rest a w) :
    wpList P ops Q (⟨some d,.call { callee:=.builtin .copy,args:=#[x,y],argTypes:=#[dT,sT] },ty,pos,aft,none⟩::rest) a w:=by
  subst hl
  have hg:=hs.seg hi
  obtain ⟨inf,hi1,hi2,_⟩:=hE.info
  have hsz:(P.info? E).map (·.size)=some 1:=by rw [hi1]; simp [hi2]
  have key:∃ w',(Builtin.copy_ #[dT,sT] ty #[.slice (some ⟨g,0,none⟩) l.length l.length,v]).run P w=.ok (I (min p.length l.length:Nat)) w'∧Fr (·=g) w w' ∧
      w'.heap[g]?=some (.cells ((p.take l.length++l.drop p.length).map B).toArray T (0,0)):=by
    rcases hr.src with ⟨rfl,h2,_⟩ | ⟨ad,cap,rfl,hc⟩
    · refine ⟨w,?_,.refl _ _,?_⟩
      · rw [run_copy_nil P w dT sT ty E _ _ _ hu (by rw [hsz]; rfl)]
        simp [h2,goInt]
      · have hp:p=[]:=List.eq_nil_of_length_eq_zero h2
        subst hp
        simpa using hg
    · have hlen:((p.take l.length).map B).length=Nat.min p.length l.length:=by simp [Nat.min_comm]
      have hrun:=run_copy_row (P:=P) w dT sT ty E g 0 l.length l.length ad p.length cap (l.map B).toArray T ((p.take l.length).map B) hu hsz hg hlen (fun j v hj=>hc j v (by
        rw [List.map_take,List.getElem?_take] at hj
        split at hj
        · exact hj
        · cases hj)) (by simp; omega) (by intro v hv; obtain ⟨b,_,rfl⟩:=List.mem_map.1 hv; rfl)
      have hres:((l.map B).toArray.toList.take 0++(p.take l.length).map B++(l.map B).toArray.toList.drop (0 + ((p.take l.length).map B).length))=(p.take l.length++l.drop p.length).map B:=by
        rw [hlen]
        simp only [List.take_zero,List.nil_append,Nat.zero_add,List.map_append,← List.map_drop]
        congr 2
        rcases Nat.le_total p.length l.length with h | h
        · rw [show Nat.min p.length l.length=p.length from Nat.min_eq_left h]
        · rw [show Nat.min p.length l.length=l.length from Nat.min_eq_right h,List.drop_of_length_le (Nat.le_refl _),List.drop_of_length_le h]
      rw [hres,hlen] at hrun
      exact ⟨_,hrun,.setRow _ _ _,setRow_heap w g _ _ T (0,0) hg⟩
  obtain ⟨w',hrun,hf,hg'⟩:=key
  have hrun':(execOp a.eval ⟨some d,.call { callee:=.builtin .copy,args:=#[x,y],argTypes:=#[dT,sT] },ty,pos,aft,none⟩).run P w=.ok (.value (I (min p.length l.length:Nat))) w':=by
    simp [execOp,resolve,invoke,builtin,hs.ev hx,hs.ev hy,hrun]
  refine wpList_plain rfl fun K hK=>upon_value hrun' (hK _ _ (k _ _ ?_))
  refine (hs.mod (e':=.seg g ((p.take l.length++l.drop p.length).map B) T) hi hf hg' fun k hk=>⟨.inl hk,?_⟩).put (lt_of_blt hd) _
  simp only [Ent.keys] at hk
  subst hk
  exact heap_lt hg'
end
/-! ### Rows of rows -/
def RdP (w:World) (v:Value) (ps:List (Value × List UInt8)):Prop:=Rd w v ps.length (ps.map (·.1))∧∀ q∈ps,RdB w q.1 q.2
theorem RdP.fr0 {w w':World} {v:Value} {ps:List (Value × List UInt8)} (h:RdP w v ps) (hf:Fr0 w w'):RdP w' v ps:=⟨h.1.fr0 hf,fun q hq=>(h.2 q hq).fr0 hf⟩
theorem RdP.sl {w:World} {v:Value} {ps:List (Value × List UInt8)} (h:RdP w v ps):∃ ad cap,v=.slice ad ps.length cap∧ps.length≤cap∧cap≤maxLen:=h.1.sl
theorem RdP.at' {w:World} {ad:Option Addr} {cap:Nat} {ps:List (Value × List UInt8)} (h:RdP w (.slice ad ps.length cap) ps) (hne:0 < ps.length) :
    ∃ b o T fr all,ad=some ⟨b,o,none⟩∧w.heap[b]?=some (.cells all T fr)∧(all.toList.drop o).take (ps.map (·.1)).length=ps.map (·.1):=by
  obtain ⟨b,o,cap',T,fr,all,e,_,_,hb,hc⟩:=Rd.at_ h.1 (by intro e; simp at e; subst e; simp at hne)
  cases e
  exact ⟨b,o,T,fr,all,rfl,hb,hc⟩
theorem RdP.get {w:World} {v:Value} {ps:List (Value × List UInt8)} (h:RdP w v ps) {k:Nat} (hk:k < ps.length):RdB w (ps.getD k (.nilIface,[])).1 (ps.getD k (.nilIface,[])).2:=by
  have:ps.getD k (.nilIface,[])∈ps:=by simp [List.getD,hk]
  exact h.2 _ this
def flat (ps:List (Value × List UInt8)):List UInt8:=ps.flatMap (·.2)
theorem flat_take (ps:List (Value × List UInt8)) (k:Nat) (hk:k < ps.length):flat (ps.take (k + 1))=flat (ps.take k)++(ps.getD k (.nilIface,[])).2:=by
  have:ps.take (k + 1)=ps.take k++[ps.getD k (.nilIface,[])]:=by
    rw [List.take_succ_eq_append_getElem hk]
    simp [List.getD,hk]
  rw [this,flat,List.flatMap_append]
  simp [flat]
theorem flat_take_le (ps:List (Value × List UInt8)) (k:Nat) (hk:k < ps.length):(flat (ps.take k)).length + (ps.getD k (.nilIface,[])).2.length≤(flat ps).length:=by
  rw [← List.length_append,← flat_take ps k hk]
  conv=>rhs; rw [← List.take_append_drop (k + 1) ps]
  rw [flat,flat,List.flatMap_append,List.length_append]
  omega
theorem flat_full (ps:List (Value × List UInt8)):flat (ps.take ps.length)=flat ps:=by rw [List.take_length]
end Go.Fw
end

section
/- Things that lie apart. -/
namespace Go.Fw
open Go
section
variable {N:Nat} {F F':List (Nat × Value)} {L L':List Ent} {M:Nat→Prop} {w0 w w':World} {a:Act}
theorem pairwise_at {R:Ent→Ent→Prop}:∀ {L:List Ent} {i j:Nat} {a b:Ent},L.Pairwise R→L[i]?=some a→L[j]?=some b→i < j→R a b
  | [],i,j,a,b,_,hi,_,_=>by simp at hi
  | x::t,0,j + 1,a,b,h,hi,hj,_=>by
    simp at hi hj
    subst hi
    exact (List.pairwise_cons.1 h).1 b (List.mem_of_getElem? hj)
  | x::t,i + 1,j + 1,a,b,h,hi,hj,hij=>by
    simp at hi hj
    exact pairwise_at (List.pairwise_cons.1 h).2 hi hj (by omega)
  | x::t,i,0,_,_,_,_,_,hij=>by omega
theorem St.apart_seg {i j g n m:Nat} {e:Ent} {cs:List Value} {T:TypeId} (hs:St N F L M w0 a w) (hi:L[i]?=some e) (hj:L[j]?=some (.seg g cs T)) (hij:i < j) :
    ∀ k,(Value.slice (some ⟨g,0,none⟩) n m).ownBlock=some k→¬ e.keys k:=fun k hk he=>by
  simp [Value.ownBlock] at hk
  subst hk
  exact pairwise_at hs.has.apart hi hj hij _ he rfl
theorem St.seg_apart {i j g n m:Nat} {e:Ent} {cs:List Value} {T:TypeId} (hs:St N F L M w0 a w) (hi:L[i]?=some (.seg g cs T)) (hj:L[j]?=some e) (hij:i < j) :
    ∀ k,(Value.slice (some ⟨g,0,none⟩) n m).ownBlock=some k→¬ e.keys k:=fun k hk he=>by
  simp [Value.ownBlock] at hk
  subst hk
  exact pairwise_at hs.has.apart hi hj hij _ rfl he
end
theorem RdB.segn {w:World} {g n:Nat} {T:TypeId} {l:List UInt8} (h:w.heap[g]?=some (.cells (l.map B).toArray T (0,0))) (hl:l.length=n) (hn:n≤maxLen):RdB w (.slice (some ⟨g,0,none⟩) n n) l:=by
  subst hl; exact RdB.seg h hn
end Go.Fw
namespace Go.Fw
open Go
inductive Alls (w:World):List (Value × List UInt8)→Prop
  | nil:Alls w []
  | cons {v:Value} {l:List UInt8} {ps:List (Value × List UInt8)} (h:RdB w v l) (t:Alls w ps):Alls w ((v,l)::ps)
theorem Alls.all {w:World} {ps:List (Value × List UInt8)} (h:Alls w ps):∀ q∈ps,RdB w q.1 q.2:=by
  induction h with
  | nil=>simp
  | cons h _ ih =>
    intro q hq
    rcases List.mem_cons.1 hq with rfl | hq
    · exact h
    · exact ih q hq
theorem RdP.seg {w:World} {g:Nat} {T:TypeId} {ps:List (Value × List UInt8)} (h:w.heap[g]?=some (.cells (ps.map (·.1)).toArray T (0,0))) (hn:ps.length≤maxLen) (ha:Alls w ps):RdP w (.slice (some ⟨g,0,none⟩) ps.length ps.length) ps :=
  ⟨Rd.of_seg h (Nat.le_refl _) hn (List.take_of_length_le (by simp)),ha.all⟩
abbrev RdV (w:World) (v:Value) (l:List UInt64):Prop:=Rd w v l.length (l.map V)
theorem RdV.at' {w:World} {ad:Option Addr} {cap:Nat} {l:List UInt64} (h:RdV w (.slice ad l.length cap) l) (hne:0 < l.length) :
    ∃ b o T fr all,ad=some ⟨b,o,none⟩∧w.heap[b]?=some (.cells all T fr)∧(all.toList.drop o).take (l.map V).length=l.map V:=by
  obtain ⟨b,o,cap',T,fr,all,e,_,_,hb,hc⟩:=Rd.at_ h (by intro e; simp at e; subst e; simp at hne)
  cases e
  exact ⟨b,o,T,fr,all,rfl,hb,hc⟩
theorem RdV.le {w:World} {v:Value} {l:List UInt64} (h:RdV w v l):l.length≤9223372036854775807:=Rd.le h
theorem RdV.sl {w:World} {v:Value} {l:List UInt64} (h:RdV w v l):∃ ad cap,v=.slice ad l.length cap∧l.length≤cap∧cap≤maxLen:=Rd.sl h
section
variable {P:Program} {a:Act} {w:World} {d:Option Tmp} {ty:TypeId} {pos:String} {aft:Array Edge} {g:Option (Nat × Bool)} {x y z:Operand} {t u:TypeId}
end
end Go.Fw
end

section
/- Guarded operations in regions that draw; numbers of sixteen bits. -/
namespace Go.Fw
open Go
section
variable {P:Program} {ops:Array Oper} {N B1:Nat} {w1:World} {K:List (Nat × Value)→Fes→Prop} {Fc:List (Nat × Value)} {Fe:Fes} {rest:List Oper}
variable {d:Tmp} {op:Op} {ty:TypeId} {pos:String} {aft:Array Edge}
theorem rg_strip {j s:Nat} {b:Bool} (hj:(ops[j]?).bind (·.dst)=some s) (hb:look Fc s=some (.bool b)) (k:RG P ops N B1 w1 K Fc Fe (⟨some d,op,ty,pos,aft,none⟩::rest)) :
    RG P ops N B1 w1 K Fc Fe (⟨some d,op,ty,pos,aft,some (j,b)⟩::rest):=by
  obtain ⟨d',D,h1,h2,h3,h4⟩:=k
  refine ⟨d',D,h1,?_,h3,h4⟩
  refine ⟨?_,fun h=>by cases h⟩
  rcases h2.1 with ⟨_,h⟩ | ⟨h,_⟩
  · exact .inl ⟨by simp [wantedAs,hj,hb],fun a w hc=>h a w ⟨hc.know,hc.fr,hc.ents⟩⟩
  · simp [wantedAs] at h
end
section
variable {P:Program} {a:Act} {w:World} {d:Option Tmp} {ty:TypeId} {pos:String} {aft:Array Edge} {g:Option (Nat × Bool)} {x y z:Operand} {t u:TypeId}
end
end Go.Fw
end

section
/- More openings of arguments. -/
namespace Go.Fw
open Go Go.ChangeShapes Go.WideShapes Go.ChangeAt Go.RowKit
section
variable {H:Type} {enc:TypeId × Value→H} {P:Program} {w:World} {base:Nat} {spare:Nat→Bool} {held:Bool} {fuel:Nat} {t e u:TypeId} {cs:List Value} {x:DataW H × List MemPlace} {v:Value} {d:DataW H} {ps:List MemPlace} {r:Reach} {b0:Nat}
theorem opSlG {α:Type} [Inhabited α] {k:IntKind} {f:α→Value} (of:∀ n,(Lit.int k n).wf=true→∃ b:α,Value.int k n=f b) (ht:P.underlying t=some (.slice e)) (he:P.underlying e=some (.int k)) (hc:P.cellsOf e=1)
    (hval:Value.okWide P w r b0 t v) (hd:DataW.Trod enc P w base spare held t v d ps):∃ l:List α,Rd w v l.length (l.map f)∧(l=[]∨∃ es sp,d=.slice es sp∧es.length=l.length):=by
  obtain ⟨a,len,cap,rfl⟩:=okWide_slice ht hval
  obtain ⟨fu,hf⟩:=hd
  have h:DataW.trod enc P w base spare held fu t [.slice a len cap]=some (d,ps):=by simpa [Value.cells] using hf
  rcases Deep.open_slice ht h with ⟨h1,h2⟩ | ⟨a,len,cap,m,n,D,Pl,h1,hb,hl,hm,hmm,h2,hx⟩
  · simp only [List.cons.injEq,and_true] at h1
    exact ⟨[],⟨none,0,h1,Nat.le_refl _,Nat.zero_le _,fun _=>rfl,.inl rfl⟩,.inl rfl⟩
  · simp only [List.cons.injEq,and_true] at h1
    have hlm:len≤m:=by rw [hmm]; split <;> omega
    have each:∀ i,i < len→∃ b:α,w.cell? (a.add i)=some (f b):=fun i hi=>by
      obtain ⟨cs',h2,h3⟩:=hx i (by omega)
      rw [hc,Nat.mul_one] at h2
      obtain ⟨z,rfl,_,hw⟩:=DataW.trod_int he h3
      obtain ⟨b,hb'⟩:=of _ hw
      exact ⟨b,by rw [cell_of_cells?_one h2,hb']⟩
    obtain ⟨F,hF⟩:=Deep.choose_lt (α:=α) (p:=fun i b=>w.cell? (a.add i)=some (f b)) each
    have hll:((List.range len).map F).length=len:=by simp
    simp only [Prod.mk.injEq] at h2
    refine ⟨(List.range len).map F,?_,.inr ⟨_,_,h2.1,by simp⟩⟩
    rw [hll]
    refine ⟨some a,cap,h1,hl,hm,(fun h=>by cases h),?_⟩
    by_cases hp:len=0
    · left; subst hp; rfl
    · right
      obtain ⟨b,o,T,fr,all,rfl,h5,h6⟩:=row_of (w:=w) (a:=a) (cs:=((List.range len).map F).map f) (n:=len) (by omega) (by simp) (fun i hi=>by
        rw [hF i hi]; simp [hi])
      exact ⟨b,o,T,fr,all,rfl,h5,h6⟩
end
end Go.Fw
end

section
/- Appending to an empty literal in a region that draws; calls there with things as arguments; stores into a slice's elements. -/
namespace Go.Fw
open Go
section
variable {P:Program} {w:World} {t:TypeId}
end
section
variable {P:Program} {ops:Array Oper} {N B1:Nat} {w1:World} {K:List (Nat × Value)→Fes→Prop} {Fc:List (Nat × Value)} {Fe:Fes} {rest:List Oper}
variable {d:Tmp} {op:Op} {ty t:TypeId} {pos:String} {aft:Array Edge}
theorem rg_callV {f:FuncId} {args:Array Operand} {tys:Array TypeId} {c:Value} (hF:Fun P f)
    (hc:∀ a w,RC N Fc Fe ⟨some d,.call { callee:=.value (.func f),args:=args,argTypes:=tys },ty,pos,aft,none⟩ B1 w1 a w→∃ vs,Evs a args.toList vs∧Ctr P f vs w (fun _=>False) fun v _=>v=c) (hE:lookE Fe d=none)
    (k:RG P ops N B1 w1 K ((d,c)::Fc) Fe rest):RG P ops N B1 w1 K Fc Fe (⟨some d,.call { callee:=.value (.func f),args:=args,argTypes:=tys },ty,pos,aft,none⟩::rest) :=
  ⟨d,.c c,rfl,⟨.inl ⟨rfl,fun a w h=>by
    obtain ⟨vs,h1,h2⟩:=hc a w h
    rw [run_call hF h1]
    exact Calls.mono h2 fun e w' ⟨v,he,hf,hv⟩=>⟨v,he,[],⟨hv,rfl⟩,hf,.nil _ _⟩⟩,fun h=>by cases h⟩,hE,k⟩
end
end Go.Fw
end

section
/- Stores into the elements of a slice that may grow. -/
namespace Go.Fw
open Go
section
variable {P:Program} {ops:Array Oper} {Q:Exit→Act→World→Prop} {rest:List Oper} {N:Nat} {F F':List (Nat × Value)} {L L':List Ent} {M:Nat→Prop} {w0 w:World} {a:Act}
variable {d:Tmp} {op:Op} {ty:TypeId} {pos:String} {aft:Array Edge} {x y z:Operand} {t u:TypeId}
theorem St.row_at {i n sz:Nat} {v:Value} {xs:List Value} {T:TypeId} (hs:St N F L M w0 a w) (hi:L[i]?=some (.row v n xs T sz)) (hn:0 < n) :
    ∃ g cap cur,v=.slice (some ⟨g,0,none⟩) n cap∧w.heap[g]?=some (.cells cur T (0,0))∧n≤cap∧cap≤maxLen∧cur.size=cap * sz∧cur.toList.take (n * sz)=xs:=by
  have h:w.ownsRow 0 T sz v n xs:=hs.get hi
  obtain ⟨h1,h2⟩:=h
  rcases h2 with ⟨_,h3⟩ | ⟨g,cap,cur,h3,_,h4,h5,h6,h7,h8⟩
  · omega
  · exact ⟨g,cap,cur,h3,h4,h5,h6,h7,h8⟩
end
end Go.Fw
end
