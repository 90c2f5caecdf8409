/- Own texts of this seat,laid together for one claim (with what its proof uses alone). -/
import Derived.Test.YtkecdcmjkghddaaDinKa
set_option linter.unusedSimpArgs false
set_option linter.unusedVariables false
set_option maxRecDepth 100000
set_option maxHeartbeats 4000000
section
/- Copying into the midst of a block; numbers of sixteen bits; what an owned slice's head is. -/
namespace Go.Fw
open Go
section
variable {P:Program} {ops:Array Oper} {Q:Exit→Act→World→Prop} {rest:List Oper} {N:Nat} {F F':List (Nat × Value)} {L L':List Ent} {M:Nat→Prop} {w0 w:World} {a:Act}
variable {d:Tmp} {op:Op} {ty:TypeId} {pos:String} {aft:Array Edge} {x y z:Operand} {t u:TypeId}
end
/-! numbers of sixteen bits -/
abbrev W16 (x:UInt16):Value:=.int .u16 (x.toNat:Int)
section
variable {P:Program} {a:Act} {w:World} {d:Option Tmp} {ty:TypeId} {pos:String} {aft:Array Edge} {g:Option (Nat × Bool)} {x y z:Operand} {t u:TypeId} {p q:UInt16}
theorem wrapW {n:Int}:IntKind.u16.wrap n=n % 65536:=by
  simp [IntKind.wrap,IntKind.bits,IntKind.signed]
theorem c_addW (hx:a.eval x=W16 p) (hy:a.eval y=W16 q):(execOp a.eval ⟨d,.binOp .add t x y u,ty,pos,aft,g⟩).run P w=.ok (.value (W16 (p + q))) w:=by
  simp [execOp,hx,hy,eqGuard,binOp,Op.intArith,wrapW,UInt16.toNat_add]
theorem c_cvBW {ds:TypeDesc} {b:UInt8} (hs:P.underlying t=some ds) (hd:P.underlying u=some (.int .u16)) (hx:a.eval x=B b):(execOp a.eval ⟨d,.convert t u x,ty,pos,aft,g⟩).run P w=.ok (.value (W16 b.toUInt16)) w:=by
  rw [c_conv hs hd hx,wrapW]
  have h:=b.toNat_lt
  have e:(b.toUInt16.toNat:Int)=(b.toNat:Int) % 65536:=by
    rw [UInt8.toNat_toUInt16]
    omega
  rw [← e]
theorem c_cvWB {ds:TypeDesc} {b:UInt16} (hs:P.underlying t=some ds) (hd:P.underlying u=some (.int .u8)) (hx:a.eval x=W16 b):(execOp a.eval ⟨d,.convert t u x,ty,pos,aft,g⟩).run P w=.ok (.value (B b.toUInt8)) w:=by
  rw [c_conv hs hd hx,wrapB]
  have e:(b.toUInt8.toNat:Int)=(b.toNat:Int) % 256:=by
    rw [UInt16.toNat_toUInt8]
    omega
  rw [← e]
theorem c_shrW {k:IntKind} {n:Nat} (hx:a.eval x=W16 p) (hy:a.eval y=.int k (n:Int)) (hn:n < 16) :
    (execOp a.eval ⟨d,.binOp .shr t x y u,ty,pos,aft,g⟩).run P w=.ok (.value (W16 (p >>> UInt16.ofNat n))) w:=by
  have e:(p >>> UInt16.ofNat n).toNat=p.toNat / 2 ^ n:=by
    rw [UInt16.toNat_shiftRight,Nat.shiftRight_eq_div_pow]
    simp [Nat.mod_eq_of_lt (a:=n) (b:=65536) (by omega),Nat.mod_eq_of_lt hn]
  have hm:min n 16=n:=by omega
  simp [execOp,hx,hy,eqGuard,binOp,Op.shift,IntKind.bits,hm,e]
end
end Go.Fw
end

section
/- The device: what its calls come to,in plain words. -/
namespace Go.Proofs.Ytkecdcmjkghddaa
open Go Go.Fw
structure Wr where
  p:Nat
  b:List UInt8
  deriving Inhabited
def Wr.c (x:Wr):List Value:=I x.p::x.b.map B
def wrC (q:List Wr):List Value:=q.flatMap Wr.c
def Wr.Ok (n:Nat) (x:Wr):Prop:=x.b.length=64∧x.p < n
theorem Wr.c_len {n:Nat} {x:Wr} (h:x.Ok n):x.c.length=65:=by simp [Wr.c,h.1]
theorem wr_at {q:List Wr} {k:Nat} (h:k < q.length):q.getD k default=q[k]:=by simp [List.getD_eq_getElem?_getD,h]
theorem wr_ok {n:Nat} {q:List Wr} (hq:∀ x∈q,x.Ok n) {k:Nat} (h:k < q.length):(q.getD k default).Ok n:=by
  rw [wr_at h]; exact hq _ (List.getElem_mem h)
theorem wrC_app (q r:List Wr):wrC (q++r)=wrC q++wrC r:=by simp [wrC]
theorem wrC_one (x:Wr):wrC [x]=x.c:=by simp [wrC]
theorem wrC_piece {n:Nat}:∀ {q:List Wr} {k:Nat},(∀ x∈q,x.Ok n)→k < q.length→((wrC q).drop (k * 65)).take 65=(q.getD k default).c
  | [],k,_,h=>absurd h (by simp)
  | x::q,0,h,_=>by
    have h2:=Wr.c_len (h x (List.mem_cons_self ..))
    simp [wrC,h2]
  | x::q,k + 1,h,hk=>by
    have h1:=wrC_piece (n:=n) (k:=k) (fun y hy=>h y (List.mem_cons_of_mem _ hy)) (show k < q.length by simpa using hk)
    have h2:=Wr.c_len (h x (List.mem_cons_self ..))
    rw [show (k + 1) * 65=x.c.length + k * 65 by omega]
    show (List.take 65 (List.drop (x.c.length + k * 65) (x.c++wrC q)))=_
    rw [← List.drop_drop,List.drop_left,h1]
    rfl
theorem wr_piece {n:Nat} {all:List Value} {k:Nat} {q:List Wr} (hq:∀ x∈q,x.Ok n) (h:all.take (q.length * 65)=wrC q) (hk:k < q.length):(all.drop (0 + k * 65)).take 65=(q.getD k default).c:=by
  have h2:((all.take (q.length * 65)).drop (k * 65)).take 65=((wrC q).drop (k * 65)).take 65:=by rw [h]
  rw [List.drop_take,List.take_take,Nat.min_eq_left (by omega),wrC_piece hq hk] at h2
  rw [Nat.zero_add,h2]
theorem wr_cell {n:Nat} {all:List Value} {k:Nat} {q:List Wr} (hq:∀ x∈q,x.Ok n) (h:all.take (q.length * 65)=wrC q) (hk:k < q.length):all[0 + k * 65 + 0]?=some (I (q.getD k default).p):=by
  have h1:=wr_piece hq h hk
  have h2:=congrArg (fun l:List Value=>l[0]?) h1
  simp only [List.getElem?_take,List.getElem?_drop] at h2
  simpa [Wr.c] using h2
theorem wr_body {n:Nat} {all:List Value} {k:Nat} {q:List Wr} (hq:∀ x∈q,x.Ok n) (h:all.take (q.length * 65)=wrC q) (hk:k < q.length):(all.drop (0 + k * 65 + 1)).take 64=(q.getD k default).b.map B:=by
  have h1:=wr_piece hq h hk
  have h2:=congrArg (fun l:List Value=>l.drop 1) h1
  simp only [List.drop_take,List.drop_drop] at h2
  simpa [Wr.c] using h2
def putW (xs:List UInt8) (x:Wr):List UInt8:=xs.take (x.p * 64)++x.b++xs.drop (x.p * 64 + 64)
def putQ (xs:List UInt8) (q:List Wr):List UInt8:=q.foldl putW xs
def sec (xs:List UInt8) (j:Nat):List UInt8:=(xs.drop (j * 64)).take 64
theorem putW_len {n:Nat} {xs:List UInt8} {x:Wr} (hx:xs.length=n * 64) (h:x.Ok n):(putW xs x).length=n * 64:=by
  obtain ⟨h1,h2⟩:=h
  have:x.p * 64 + 64≤n * 64:=by omega
  simp [putW,h1,hx]
  omega
theorem putQ_len {n:Nat}:∀ {q:List Wr} {xs:List UInt8},xs.length=n * 64→(∀ x∈q,x.Ok n)→(putQ xs q).length=n * 64
  | [],xs,hx,_=>hx
  | x::q,xs,hx,h=>putQ_len (q:=q) (putW_len hx (h x (List.mem_cons_self ..))) fun y hy=>h y (List.mem_cons_of_mem _ hy)
theorem putQ_succ {xs:List UInt8} {q:List Wr} {k:Nat} (h:k < q.length):putQ xs (q.take (k + 1))=putW (putQ xs (q.take k)) (q.getD k default):=by
  rw [putQ,putQ,List.take_add_one,List.foldl_append,wr_at h,List.getElem?_eq_getElem h]
  rfl
theorem take_ok {n k:Nat} {q:List Wr} (h:∀ x∈q,x.Ok n):∀ x∈q.take k,x.Ok n:=fun x hx=>h x (List.mem_of_mem_take hx)
theorem sec_len {n j:Nat} {xs:List UInt8} (hx:xs.length=n * 64) (h:j < n):(sec xs j).length=64:=by
  have:j * 64 + 64≤n * 64:=by omega
  simp [sec,hx]
  omega
def ofW (q:List Wr) (j:Nat) (first:List UInt8):List UInt8:=q.foldl (fun f x=>if x.p=j then x.b else f) first
theorem ofW_app (q r:List Wr) (j:Nat) (f:List UInt8):ofW (q++r) j f=ofW r j (ofW q j f):=List.foldl_append ..
theorem ofW_succ {q:List Wr} {k j:Nat} {f:List UInt8} (h:k < q.length):ofW (q.take (k + 1)) j f=if (q.getD k default).p=j then (q.getD k default).b else ofW (q.take k) j f:=by
  rw [ofW,List.take_add_one,List.foldl_append,wr_at h,List.getElem?_eq_getElem h]
  rfl
theorem ofW_none {j:Nat}:∀ {q:List Wr} {f:List UInt8},(∀ x∈q,¬ x.p=j)→ofW q j f=f
  | [],_,_=>rfl
  | x::q,f,h=>by
    simp only [ofW,List.foldl_cons,if_neg (h x (List.mem_cons_self ..))]
    exact ofW_none (q:=q) fun y hy=>h y (List.mem_cons_of_mem _ hy)
theorem ofW_hit {j k:Nat} {q:List Wr} {f:List UInt8} (hk:k < q.length) (he:(q.getD k default).p=j) (hn:∀ i,k < i→i < q.length→¬ (q.getD i default).p=j):ofW q j f=(q.getD k default).b:=by
  rw [← List.take_append_drop (k + 1) q,ofW_app,ofW_none (q:=q.drop (k + 1)),ofW_succ hk,if_pos he]
  · rw [List.take_append_drop]
  · intro x hx
    obtain ⟨i,hi,rfl⟩:=List.getElem_of_mem hx
    simp only [List.length_drop] at hi
    have:=hn (k + 1 + i) (by omega) (by omega)
    rw [wr_at (by omega)] at this
    simpa using this
theorem ofW_miss {j:Nat} {q:List Wr} {f:List UInt8} (hn:∀ i,i < q.length→¬ (q.getD i default).p=j):ofW q j f=f :=
  ofW_none fun x hx=>by
    obtain ⟨i,hi,rfl⟩:=List.getElem_of_mem hx
    have:=hn i hi
    rwa [wr_at hi] at this
structure Sl where
  n:Nat
  xs:List UInt8
  q:List Wr
  fuse:Int
  down:Bool
  steps:Nat
  deriving Inhabited
structure Sl.Ok (s:Sl):Prop where
  n1:s.n≤4096
  xl:s.xs.length=s.n * 64
  qo:∀ x∈s.q,x.Ok s.n
  f1:-1≤s.fuse
  f2:s.fuse≤9223372036854775807
def newS (n:Nat):Sl:=⟨n,List.replicate (n * 64) 0,[],-1,false,0⟩
def Sl.up (s:Sl):Int:=if s.down=true then 5 else 0
def Sl.off (s:Sl):Sl:={ s with down:=true }
def Sl.on (s:Sl):Sl:={ s with fuse:=if 0 < s.fuse then s.fuse - 1 else s.fuse,steps:=s.steps + 1 }
def Sl.pow (s:Sl):Sl:=if s.fuse=0 then s.off else s.on
def Sl.write (s:Sl) (j:Int) (b:List UInt8):Int × Sl :=
  if s.down=true then (5,s) else if j < 0∨s.n≤j then (1,s) else if s.fuse=0 then (5,s.off) else (0,{ s.on with q:=s.q++[⟨j.toNat,b⟩] })
def Sl.flush (s:Sl):Int × Sl:=if s.down=true then (5,s) else if s.fuse=0 then (5,s.off) else (0,{ s.on with xs:=putQ s.xs s.q,q:=[] })
def zero64:List UInt8:=List.replicate 64 0
def Sl.read (s:Sl) (j:Int):List UInt8 × Int:=if s.down=true then (zero64,5) else if j < 0∨s.n≤j then (zero64,1) else (ofW s.q j.toNat (sec s.xs j.toNat),0)
theorem newS_ok {n:Nat} (h:n≤4096):(newS n).Ok:=⟨h,by simp [newS],fun x hx=>(by cases hx),(by show (-1:Int)≤-1; decide),(by show (-1:Int)≤_; decide)⟩
theorem Sl.on_ok {s:Sl} (h:s.Ok):s.on.Ok:=⟨h.n1,h.xl,h.qo,by
  have:=h.f1
  simp only [Sl.on]
  split <;> omega,by
  have:=h.f2
  simp only [Sl.on]
  split <;> omega⟩
theorem Sl.off_ok {s:Sl} (h:s.Ok):s.off.Ok:=⟨h.n1,h.xl,h.qo,h.f1,h.f2⟩
theorem Sl.write_ok {s:Sl} (h:s.Ok) {j:Int} {b:List UInt8} (hb:b.length=64):(s.write j b).2.Ok:=by
  unfold Sl.write
  split
  · exact h
  split
  · exact h
  split
  · exact Sl.off_ok h
  · obtain ⟨h1,h2,h3,h4,h5⟩:=Sl.on_ok h
    refine ⟨h1,h2,fun x hx=>?_,h4,h5⟩
    rcases List.mem_append.1 hx with hx | hx
    · exact h.qo x hx
    · obtain rfl:=List.mem_singleton.1 hx
      refine ⟨hb,?_⟩
      show j.toNat < s.n
      omega
theorem Sl.flush_ok {s:Sl} (h:s.Ok):s.flush.2.Ok:=by
  unfold Sl.flush
  split
  · exact h
  split
  · exact Sl.off_ok h
  · obtain ⟨h1,h2,h3,h4,h5⟩:=Sl.on_ok h
    exact ⟨h1,putQ_len h.xl h.qo,fun x hx=>(by cases hx),h4,h5⟩
end Go.Proofs.Ytkecdcmjkghddaa
end

section
/- Openings of structs of ints and bytes; things taken apart; a region with one call that turns something: what it leaves is told. -/
namespace Go.Fw
open Go Go.ChangeShapes Go.WideShapes Go.ChangeAt Go.RowKit
section
variable {H:Type} {enc:TypeId × Value→H} {P:Program} {w:World} {base:Nat} {spare:Nat→Bool} {held:Bool} {fuel:Nat} {t e u:TypeId} {cs:List Value} {x:DataW H × List MemPlace} {v:Value} {d:DataW H} {ps:List MemPlace} {r:Reach} {b0:Nat}
end
/-! rows of anything,piece by piece -/
section
variable {α:Type} [Inhabited α] {f:α→List Value} {m:Nat}
theorem fm_piece:∀ {l:List α} {k:Nat},(∀ x∈l,(f x).length=m)→k < l.length→((l.flatMap f).drop (k * m)).take m=f (l.getD k default)
  | [],k,_,h=>absurd h (by simp)
  | x::l,0,h,_=>by
    rw [List.flatMap_cons,Nat.zero_mul,List.drop_zero]
    exact List.take_left' (h x (List.mem_cons_self ..))
  | x::l,k + 1,h,hk=>by
    rw [List.flatMap_cons,Nat.succ_mul,Nat.add_comm,← List.drop_drop,List.drop_left' (h x (List.mem_cons_self ..)),fm_piece (fun y hy=>h y (List.mem_cons_of_mem _ hy)) (show k < l.length by simpa using hk)]
    rfl
theorem fm_row {all:List Value} {l:List α} {k:Nat} (hl:∀ x∈l,(f x).length=m) (h:all.take (l.length * m)=l.flatMap f) (hk:k < l.length):(all.drop (0 + k * m)).take m=f (l.getD k default):=by
  have hle:(k + 1) * m≤l.length * m:=Nat.mul_le_mul_right _ (by omega)
  rw [Nat.succ_mul] at hle
  have h2:((all.take (l.length * m)).drop (k * m)).take m=((l.flatMap f).drop (k * m)).take m:=by rw [h]
  rw [List.drop_take,List.take_take,Nat.min_eq_left (by omega),fm_piece hl hk] at h2
  rw [Nat.zero_add,h2]
end
end Go.Fw
namespace Go.Fw
open Go
section
variable {N:Nat} {F F':List (Nat × Value)} {L L' A:List Ent} {M:Nat→Prop} {w0 w w':World} {a a':Act}
theorem St.ungrp (h:St N F (.grp A::L) M w0 a w):St N F (A++L) M w0 a w:=by
  have hA:Has 0 w A:=h.has.holds _ (List.mem_cons_self ..)
  have hc:=List.pairwise_cons.1 h.has.apart
  refine ⟨h.know,⟨fun e he=>?_,?_,fun e he k hk=>?_,fun _ _ _ _=>Nat.zero_le _⟩,fun e he k hk=>?_,h.fr⟩
  · rcases List.mem_append.1 he with he | he
    · exact hA.holds e he
    · exact h.has.holds e (List.mem_cons_of_mem _ he)
  · exact List.pairwise_append.2 ⟨hA.apart,hc.2,fun x hx y hy k h1 h2=>hc.1 y hy k ⟨x,hx,h1⟩ h2⟩
  · rcases List.mem_append.1 he with he | he
    · exact hA.lt e he k hk
    · exact h.has.lt e (List.mem_cons_of_mem _ he) k hk
  · rcases List.mem_append.1 he with he | he
    · exact h.own _ (List.mem_cons_self ..) k ⟨e,he,hk⟩
    · exact h.own e (List.mem_cons_of_mem _ he) k hk
end
end Go.Fw
namespace Go.FwO
open Go Go.Fw
section
variable {cc:Nat} {P:Program} {ops:Array Oper} {N B1:Nat} {w1:World} {Fk:World→World→Prop} {K:List (Nat × Value)→Fes→Prop} {Fc:List (Nat × Value)} {Fe:Fes} {rest:List Oper}
variable {d:Tmp} {op:Op} {ty:TypeId} {pos:String} {aft:Array Edge} {x y z:Operand} {t u:TypeId}
end
end Go.FwO
namespace Go.Fw
open Go
section
variable {P:Program} {Q:Exit→Act→World→Prop} {a:Act} {w:World}
end
end Go.Fw
end

section
/- Parts of arrays; copying less than there is room. -/
namespace Go.Fw
open Go
section
variable {P:Program} {a:Act} {w:World} {d:Option Tmp} {ty:TypeId} {pos:String} {aft:Array Edge} {g:Option (Nat × Bool)} {x y z:Operand} {t u:TypeId}
theorem c_sliceAL {n:Nat} {E:TypeId} {bytes:Nat} {ed:TypeDesc} {zz:List Value} {gb o:Nat} {i:Nat} {k:IntKind} {m:Int} (hu:P.underlying t=some (.array n E)) (hE:Ty P E ed 1 bytes zz)
    (hx:a.eval x=.pointer (some ⟨gb,o,none⟩)) (hy:a.eval y=.int k m) (hm:m=(i:Int)) (hi:i < n) :
    (execOp a.eval ⟨d,.slice t x (some y) none none,ty,pos,aft,g⟩).run P w=.ok (.value (.slice (some ⟨gb,o + i,none⟩) (n - i) (n - i))) w:=by
  subst hm
  have h1:¬ n=i:=by omega
  simp [execOp,Instr.sliceAt,Instr.slice,Instr.sureAddr,hx,hy,run_underlying hu,Instr.sliceBounds,Instr.sliceBound,asIntOf,hE.size,h1,Addr.add,Nat.le_of_lt hi]
  all_goals (first | omega | rfl | skip)
end
section
variable {P:Program} {ops:Array Oper} {Q:Exit→Act→World→Prop} {rest:List Oper} {N:Nat} {F F':List (Nat × Value)} {L L':List Ent} {M:Nat→Prop} {w0 w:World} {a:Act}
variable {d:Tmp} {op:Op} {ty:TypeId} {pos:String} {aft:Array Edge} {x y z:Operand} {t u:TypeId}
theorem s_copyTo {i g o n c:Nat} {l p:List UInt8} {T dT sT E:TypeId} {ed:TypeDesc} {zs:List Value} {v:Value} (hs:St N F L M w0 a w) (hu:P.underlying dT=some (.slice E)) (hE:Ty P E ed 1 1 zs)
    (hx:ev F x=some (.slice (some ⟨g,o,none⟩) n c)) (hy:ev F y=some v) (hi:L[i]?=some (.seg g (l.map B) T)) (hr:RdB w v p) (hp:p.length≤n) (hn:o + n≤l.length) (hd:Nat.blt d N=true)
    (k:∀ a w,St N ((d,I (p.length:Nat))::F) (L.set i (.seg g ((l.take o++p++l.drop (o + p.length)).map B) T)) M w0 a w→wpList P ops Q rest a w) :
    wpList P ops Q (⟨some d,.call { callee:=.builtin .copy,args:=#[x,y],argTypes:=#[dT,sT] },ty,pos,aft,none⟩::rest) a w:=by
  have hg:=hs.seg hi
  obtain ⟨inf,hi1,hi2,_⟩:=hE.info
  have hsz:(P.info? E).map (·.size)=some 1:=by rw [hi1]; simp [hi2]
  have key:∃ w',(Builtin.copy_ #[dT,sT] ty #[.slice (some ⟨g,o,none⟩) n c,v]).run P w=.ok (I (p.length:Nat)) w'∧Fr (·=g) w w' ∧
      w'.heap[g]?=some (.cells ((l.take o++p++l.drop (o + p.length)).map B).toArray T (0,0)):=by
    rcases hr.src with ⟨rfl,h2,_⟩ | ⟨ad,cap,rfl,hc⟩
    · refine ⟨w,?_,.refl _ _,?_⟩
      · rw [run_copy_nil P w dT sT ty E _ _ _ hu (by rw [hsz]; rfl)]
        simp [h2,goInt]
      · have hp:p=[]:=List.eq_nil_of_length_eq_zero h2
        subst hp
        simpa using hg
    · have hlen:(p.map B).length=Nat.min p.length n:=by simp [Nat.min_eq_left hp]
      have hrun:=run_copy_row (P:=P) w dT sT ty E g o n c ad p.length cap (l.map B).toArray T (p.map B) hu hsz hg hlen (fun j v hj=>hc j v hj) (by simp; omega) (by intro v hv; obtain ⟨b,_,rfl⟩:=List.mem_map.1 hv; rfl)
      have hres:((l.map B).toArray.toList.take o++p.map B++(l.map B).toArray.toList.drop (o + (p.map B).length))=(l.take o++p++l.drop (o + p.length)).map B:=by
        simp
      rw [hres,List.length_map] at hrun
      exact ⟨_,hrun,.setRow _ _ _,setRow_heap w g _ _ T (0,0) hg⟩
  obtain ⟨w',hrun,hf,hg'⟩:=key
  have hrun':(execOp a.eval ⟨some d,.call { callee:=.builtin .copy,args:=#[x,y],argTypes:=#[dT,sT] },ty,pos,aft,none⟩).run P w=.ok (.value (I (p.length:Nat))) w':=by
    simp [execOp,resolve,invoke,builtin,hs.ev hx,hs.ev hy,hrun]
  refine wpList_plain rfl fun K hK=>upon_value hrun' (hK _ _ (k _ _ ?_))
  refine (hs.mod (e':=.seg g ((l.take o++p++l.drop (o + p.length)).map B) T) hi hf hg' fun k hk=>⟨.inl hk,?_⟩).put (lt_of_blt hd) _
  obtain rfl:k=g:=hk
  exact heap_lt hg'
end
end Go.Fw
end

section
/- The diary: what its calls come to,in plain words. -/
namespace Go.Proofs.Ytkecdcmjkghddaa
open Go Go.Fw
def be4 (g:UInt32):List UInt8:=[(g >>> UInt32.ofNat 24).toUInt8,(g >>> UInt32.ofNat 16).toUInt8,(g >>> UInt32.ofNat 8).toUInt8,g.toUInt8]
def sumL (l:List UInt8):UInt16:=l.foldl (fun n b=>n + b.toUInt16) 0
theorem sumL_succ {l:List UInt8} {k:Nat} (h:k < l.length):sumL (l.take (k + 1))=sumL (l.take k) + (l.getD k 0).toUInt16:=by
  rw [sumL,List.take_add_one,List.foldl_append,List.getElem?_eq_getElem h,List.getD_eq_getElem?_getD,List.getElem?_eq_getElem h]
  rfl
def layB (g:UInt32) (place:Int) (fl:UInt8) (p:List UInt8):List UInt8:=be4 g++[i8 (place / 2 ^ 8),i8 place,fl,i8 (p.length:Int)]++p++List.replicate (50 - p.length) 0
def lay (g:UInt32) (place:Int) (fl:UInt8) (p:List UInt8):List UInt8:=layB g place fl p++[(sumL (layB g place fl p) >>> UInt16.ofNat 8).toUInt8,(sumL (layB g place fl p)).toUInt8]++be4 g
theorem layB_len {g:UInt32} {place:Int} {fl:UInt8} {p:List UInt8} (h:p.length≤50):(layB g place fl p).length=58:=by
  simp [layB,be4]
  omega
theorem lay_len {g:UInt32} {place:Int} {fl:UInt8} {p:List UInt8} (h:p.length≤50):(lay g place fl p).length=64:=by
  simp [lay,layB_len h,be4]
def need (n:Nat):Nat:=max 1 ((n + 49) / 50)
def secsF (g:UInt32) (fl:UInt8):Nat→UInt8→Int→List UInt8→List (List UInt8)
  | 0,_,_,_=>[]
  | 1,f,place,p=>[lay g place ((f ||| 2) ||| fl) p]
  | n + 2,f,place,p=>lay g place (f ||| fl) (p.take 50)::secsF g fl (n + 1) 0 (place + 1) (p.drop 50)
def secs (g:UInt32) (place:Int) (fl:UInt8) (p:List UInt8):List (List UInt8):=secsF g fl (need p.length) 1 place p
theorem secsF_len (g:UInt32) (fl:UInt8):∀ (n:Nat) (f:UInt8) (place:Int) (p:List UInt8),(secsF g fl n f place p).length=n
  | 0,_,_,_=>rfl
  | 1,_,_,_=>rfl
  | n + 2,f,place,p=>by
    show (secsF g fl (n + 1) 0 (place + 1) (p.drop 50)).length + 1=n + 2
    rw [secsF_len g fl (n + 1)]
theorem secs_len (g:UInt32) (place:Int) (fl:UInt8) (p:List UInt8):(secs g place fl p).length=need p.length:=secsF_len ..
theorem need_drop {p:List UInt8} {n:Nat} (h:need p.length=n + 2):need (p.drop 50).length=n + 1:=by
  rw [List.length_drop]
  unfold need at h ⊢
  omega
theorem need_one {n:Nat}:need n=1 ↔ n≤50:=by unfold need; omega
theorem secsF_64 (g:UInt32) (fl:UInt8):∀ (n:Nat) (f:UInt8) (place:Int) (p:List UInt8),need p.length=n→∀ x∈secsF g fl n f place p,x.length=64
  | 0,_,_,_,_=>fun x hx=>by cases hx
  | 1,f,place,p,h=>fun x hx=>by
    rw [List.mem_singleton.1 hx]
    exact lay_len (need_one.1 h)
  | n + 2,f,place,p,h=>fun x hx=>by
    rcases List.mem_cons.1 hx with rfl | hx
    · exact lay_len (by simp; omega)
    · exact secsF_64 g fl (n + 1) 0 (place + 1) (p.drop 50) (need_drop h) x hx
theorem secs_64 (g:UInt32) (place:Int) (fl:UInt8) (p:List UInt8):∀ x∈secs g place fl p,x.length=64:=secsF_64 _ _ _ _ _ _ rfl
def half (n:Nat) (g:UInt32):Nat:=(g % 2).toNat * (n / 2)
def Sl.writeL (s:Sl) (j:Nat):List (List UInt8)→Int × Sl
  | []=>(0,s)
  | b::t=>if (s.write j b).1=0 then (s.write j b).2.writeL (j + 1) t else s.write j b
def dput (s:Sl) (g:UInt32) (next:Nat) (fl:UInt8) (p:List UInt8):Int × Sl × Nat :=
  if 2048 < p.length then (8,s,next) else
  if (s.n / 2:Int) - next < need p.length then (4,s,next) else
  if (s.writeL (half s.n g + next) (secs g next fl p)).1=0 then (0,(s.writeL (half s.n g + next) (secs g next fl p)).2,next + need p.length) else ((s.writeL (half s.n g + next) (secs g next fl p)).1,(s.writeL (half s.n g + next) (secs g next fl p)).2,next)
def dputs (s:Sl) (g:UInt32) (next:Nat):List (List UInt8)→Int × Sl × Nat
  | []=>(0,s,next)
  | p::t=>if (dput s g next 0 p).1=0 then dputs (dput s g next 0 p).2.1 g (dput s g next 0 p).2.2 t else dput s g next 0 p
def dstart (s:Sl) (g:UInt32) (recs:List (List UInt8)):Bool × Int × Sl × Nat :=
  if (dputs s g 0 recs).1=0 then
    (if (dput (dputs s g 0 recs).2.1 g (dputs s g 0 recs).2.2 4 []).1=0 then (true,(dput (dputs s g 0 recs).2.1 g (dputs s g 0 recs).2.2 4 []).2.1.flush.1,(dput (dputs s g 0 recs).2.1 g (dputs s g 0 recs).2.2 4 []).2.1.flush.2,(dput (dputs s g 0 recs).2.1 g (dputs s g 0 recs).2.2 4 []).2.2)
     else (false,(dput (dputs s g 0 recs).2.1 g (dputs s g 0 recs).2.2 4 []).1,(dput (dputs s g 0 recs).2.1 g (dputs s g 0 recs).2.2 4 []).2.1,(dput (dputs s g 0 recs).2.1 g (dputs s g 0 recs).2.2 4 []).2.2))
  else (false,(dputs s g 0 recs).1,(dputs s g 0 recs).2.1,(dputs s g 0 recs).2.2)
structure Kept (s s':Sl) (m:Nat):Prop where
  ok:s'.Ok
  n:s'.n=s.n
  st:s'.steps≤s.steps + m
  q:s'.q.length≤s.q.length + m
theorem Kept.trans {s s1 s2:Sl} {m k:Nat} (h:Kept s s1 m) (h2:Kept s1 s2 k):Kept s s2 (m + k):=⟨h2.ok,h2.n.trans h.n,by have:=h.st; have:=h2.st; omega,by have:=h.q; have:=h2.q; omega⟩
theorem Kept.mono {s s1:Sl} {m k:Nat} (h:Kept s s1 m) (hk:m≤k):Kept s s1 k:=⟨h.ok,h.n,by have:=h.st; omega,by have:=h.q; omega⟩
theorem write_kept {s:Sl} (hok:s.Ok) {j:Int} {b:List UInt8} (hb:b.length=64):Kept s (s.write j b).2 1:=by
  have h:=Sl.write_ok hok (j:=j) hb
  unfold Sl.write at h ⊢
  split
  · exact ⟨hok,rfl,Nat.le_succ _,Nat.le_succ _⟩
  split
  · exact ⟨hok,rfl,Nat.le_succ _,Nat.le_succ _⟩
  split
  · exact ⟨Sl.off_ok hok,rfl,Nat.le_succ _,Nat.le_succ _⟩
  · rename_i h1 h2 h3
    rw [if_neg h1,if_neg h2,if_neg h3] at h
    exact ⟨h,rfl,Nat.le_refl _,by show (s.q++[_]).length≤_; rw [List.length_append]; exact Nat.le_refl _⟩
theorem writeL_kept:∀ {l:List (List UInt8)} {s:Sl} {j:Nat},s.Ok→(∀ x∈l,x.length=64)→Kept s (s.writeL j l).2 l.length
  | [],s,j,hok,_=>⟨hok,rfl,Nat.le_refl _,Nat.le_refl _⟩
  | b::t,s,j,hok,h=>by
    have h1:=write_kept hok (j:=j) (h b (List.mem_cons_self ..))
    unfold Sl.writeL
    split
    · have h2:=writeL_kept (j:=j + 1) h1.ok (fun x hx=>h x (List.mem_cons_of_mem _ hx))
      exact (h1.trans h2).mono (by simp; omega)
    · exact h1.mono (by simp)
theorem need_le {n:Nat} (h:n≤2048):need n≤41:=by unfold need; omega
theorem dput_kept {s:Sl} {g:UInt32} {next:Nat} {fl:UInt8} {p:List UInt8} (hok:s.Ok):Kept s (dput s g next fl p).2.1 41:=by
  have h1:=writeL_kept (j:=half s.n g + next) hok (secs_64 g next fl p)
  rw [secs_len] at h1
  unfold dput
  split
  · exact ⟨hok,rfl,Nat.le_add_right _ _,Nat.le_add_right _ _⟩
  split
  · exact ⟨hok,rfl,Nat.le_add_right _ _,Nat.le_add_right _ _⟩
  · rename_i h2 h3
    have h4:=need_le (n:=p.length) (by omega)
    split
    · exact h1.mono h4
    · exact h1.mono h4
theorem dput_next {s:Sl} {g:UInt32} {next:Nat} {fl:UInt8} {p:List UInt8} (h:next≤s.n / 2):(dput s g next fl p).2.2≤s.n / 2:=by
  unfold dput
  split
  · exact h
  split
  · exact h
  split
  · show next + need p.length≤_
    omega
  · exact h
end Go.Proofs.Ytkecdcmjkghddaa
end

section
/- The device: what is asked of it; a step with and without power. -/
namespace Go.Proofs.Ytkecdcmjkghddaa
open Go Go.Fw
def hdS (sb:Nat) (qv:Value) (s:Sl):List Value:=[.slice (some ⟨sb,0,none⟩) s.n s.n,qv,I s.fuse,.bool s.down,I s.steps]
def sl (g sb:Nat) (qv:Value) (s:Sl):List Ent:=[.seg g (hdS sb qv s) 72,.seg sb (s.xs.map B) 29,.row qv s.q.length (wrC s.q) 74 65]
structure SlR (w:World) (g sb:Nat) (qv:Value) (s:Sl):Prop where
  hg:w.heap[g]?=some (.cells (hdS sb qv s).toArray 72 (0,0))
  hx:w.heap[sb]?=some (.cells (s.xs.map B).toArray 29 (0,0))
  hq:w.ownsRow 0 74 65 qv s.q.length (wrC s.q)
theorem sl_get {w:World} {g sb:Nat} {qv:Value} {s:Sl} (h:Has 0 w (sl g sb qv s)):SlR w g sb qv s:=⟨h.holds _ (List.mem_of_getElem? (i:=0) rfl),h.holds _ (List.mem_of_getElem? (i:=1) rfl),h.holds _ (List.mem_of_getElem? (i:=2) rfl)⟩
theorem SlR.fr0 {w w':World} {g sb:Nat} {qv:Value} {s:Sl} (h:SlR w g sb qv s) (hf:Fr0 w w'):SlR w' g sb qv s :=
  ⟨(hf.block g (heap_lt h.hg) id).trans h.hg,(hf.block sb (heap_lt h.hx) id).trans h.hx,Ent.loc (.row qv s.q.length (wrC s.q) 74 65) (fun k hk=>hf.block k (ownBlock_row h.hq k hk) id) h.hq⟩
def SlTo (w w':World) (g sb:Nat) (qv:Value) (s s':Sl):Prop:=∃ qv',Has 0 w' (sl g sb qv' s')∧∀ k,(Ent.grp (sl g sb qv' s')).keys k→(Ent.grp (sl g sb qv s)).keys k∨w.heap.size≤k
theorem sec_cells {xs:List UInt8} {j:Nat}:(((xs.map B).drop (0 + j * 64)).take 64)=(sec xs j).map B:=by simp [sec,List.map_take,List.map_drop]
theorem putW_cells (xs:List UInt8) (x:Wr):(xs.map B).take (0 + x.p * 64)++x.b.map B++(xs.map B).drop (0 + x.p * 64 + 64)=(putW xs x).map B:=by simp [putW,List.map_take,List.map_drop]
theorem all64 (b:List UInt8):(b.map B).all (·.oneCell')=true:=all_map_B b
theorem sl_up (g sb:Nat) (qv:Value) (s:Sl) (w:World) (hR:SlR w g sb qv s):Ctr Try.prog 36 [.pointer (some ⟨g,0,none⟩)] w (fun _=>False) (fun v _=>v=I s.up):=by
  refine fn_start (N:=11) Try.func36 rfl rfl rfl fun ac hk=>?_
  have hs:=St.start hk w
  refine wp_seq (wp_reg ?_)
  refine s_q hs (c_assign (hs.ev rfl)) rfl fun ac hs=>?_
  refine s_end (then_n (wp_seq (wp_block (wp_seq (wp_reg ?_)))))
  refine s_q hs (c_move (hs.ev rfl)) rfl fun ac hs=>?_
  refine s_q hs (c_eqlNil un23 (hs.ev rfl) (hs.ev rfl)) rfl fun ac hs=>?_
  refine s_q hs (c_assign (hs.ev rfl)) rfl fun ac hs=>?_
  refine s_end ?_
  replace hs:=hs.sub (F':=[(0,_),(2,_),(3,_)]) ⟨rfl,rfl,rfl,trivial⟩
  refine then_n ?_
  refine wp_cond_false (hs.ev rfl) ?_
  refine wp_seq (wp_reg ?_)
  refine s_q hs (c_move (hs.ev rfl)) rfl fun ac hs=>?_
  refine s_q hs (c_nil (hs.ev rfl)) rfl fun ac hs=>?_
  refine s_q hs (c_fld fl72_3 (hs.ev rfl)) rfl fun ac hs=>?_
  refine s_q hs (c_loadS un4 rfl (hs.ev rfl) (hs.old hR.hg (fun h=>h)) rfl) rfl fun ac hs=>?_
  refine s_q hs (c_assign (hs.ev rfl)) rfl fun ac hs=>?_
  refine s_end ?_
  replace hs:=hs.sub (F':=[(2,_),(6,_)]) ⟨rfl,rfl,trivial⟩
  refine then_n ?_
  refine s_cond hs rfl (fun hc=>?_) (fun hc=>?_)
  · try simp only [decide_eq_true_eq,decide_eq_false_iff_not,Bool.not_eq_true',Bool.not_eq_false',Bool.and_eq_true,Bool.or_eq_true,Bool.or_eq_false_iff] at hc
    refine wp_seq (wp_reg ?_)
    refine s_q hs (c_assign (hs.ev rfl)) rfl fun ac hs=>?_
    refine s_end ?_
    replace hs:=hs.sub (F':=[(2,_)]) ⟨rfl,trivial⟩
    refine then_n (wp_ret (blk_r (then_r ?_)))
    refine s_ret hs rfl (.tmp (hs.tmp rfl) .nil) rfl ⟨_,rfl,hs.fr,?_⟩
    rw [Sl.up,if_pos hc]
    rfl
  · try simp only [decide_eq_true_eq,decide_eq_false_iff_not,Bool.not_eq_true',Bool.not_eq_false',Bool.and_eq_true,Bool.or_eq_true,Bool.or_eq_false_iff] at hc
    refine wp_skip (blk_n (then_n (wp_seq (wp_reg ?_))))
    refine s_q hs (c_assign (hs.ev rfl)) rfl fun ac hs=>?_
    refine s_end ?_
    replace hs:=hs.sub (F':=[(2,_)]) ⟨rfl,trivial⟩
    refine then_n (wp_ret ?_)
    refine s_ret hs rfl (.tmp (hs.tmp rfl) .nil) rfl ⟨_,rfl,hs.fr,?_⟩
    rw [Sl.up,if_neg (by rw [hc]; decide)]
    rfl
theorem sl_Sectors (g sb:Nat) (qv:Value) (s:Sl) (w:World) (hR:SlR w g sb qv s):Ctr Try.prog 20 [.pointer (some ⟨g,0,none⟩)] w (fun _=>False) (fun v _=>v=I s.n):=by
  refine fn_start (N:=10) Try.func20 rfl rfl rfl fun ac hk=>?_
  have hs:=St.start hk w
  refine wp_seq (wp_reg ?_)
  refine s_q hs (c_assign (hs.ev rfl)) rfl fun ac hs=>?_
  refine s_end (then_n (wp_seq (wp_seq (wp_reg ?_))))
  refine s_q hs (c_move (hs.ev rfl)) rfl fun ac hs=>?_
  refine s_q hs (c_eqlNil un23 (hs.ev rfl) (hs.ev rfl)) rfl fun ac hs=>?_
  refine s_end ?_
  replace hs:=hs.sub (F':=[(0,_),(2,_),(4,_)]) ⟨rfl,rfl,rfl,trivial⟩
  refine then_n ?_
  refine wp_cond_false (hs.ev rfl) ?_
  refine wp_skip (then_n (wp_seq (wp_reg ?_)))
  refine s_q hs (c_move (hs.ev rfl)) rfl fun ac hs=>?_
  refine s_q hs (c_nil (hs.ev rfl)) rfl fun ac hs=>?_
  refine s_q hs (c_fld fl72_0 (hs.ev rfl)) rfl fun ac hs=>?_
  refine s_q hs (c_loadS un69 rfl (hs.ev rfl) (hs.old hR.hg (fun h=>h)) rfl) rfl fun ac hs=>?_
  refine s_q hs (c_lenS un69 (hs.ev rfl)) rfl fun ac hs=>?_
  refine s_q hs (c_assign (hs.ev rfl)) rfl fun ac hs=>?_
  refine s_end ?_
  replace hs:=hs.sub (F':=[(2,_)]) ⟨rfl,trivial⟩
  refine then_n (wp_ret ?_)
  refine s_ret hs rfl (.tmp (hs.tmp rfl) .nil) rfl ⟨_,rfl,hs.fr,?_⟩
  rfl
theorem sl_power (g sb:Nat) (qv:Value) (s:Sl) (hok:s.Ok) (hst:s.steps≤1000000000) (w:World) (hb:w.heap[g]?=some (.cells (hdS sb qv s).toArray 72 (0,0))):Ctr Try.prog 37 [.pointer (some ⟨g,0,none⟩)] w (fun k=>k=g) (fun v w'=>v=.bool (decide (¬ s.fuse=0))∧w'.heap[g]?=some (.cells (hdS sb qv s.pow).toArray 72 (0,0))):=by
  refine fn_start (N:=30) Try.func37 rfl rfl rfl fun ac hk=>?_
  have hs:=St.own1 hk hb
  refine wp_seq (wp_reg ?_)
  refine s_q hs (c_assign (hs.ev rfl)) rfl fun ac hs=>?_
  refine s_end (then_n (wp_seq (wp_seq (wp_reg ?_))))
  refine s_q hs (c_move (hs.ev rfl)) rfl fun ac hs=>?_
  refine s_q hs (c_nil (hs.ev rfl)) rfl fun ac hs=>?_
  refine s_q hs (c_fld fl72_2 (hs.ev rfl)) rfl fun ac hs=>?_
  refine s_q hs (c_loadS un3 rfl (hs.ev rfl) (hs.seg (i:=0) rfl) rfl) rfl fun ac hs=>?_
  refine s_q hs (c_eqlI (hs.ev rfl) (hs.ev rfl)) rfl fun ac hs=>?_
  refine s_end ?_
  replace hs:=hs.sub (F':=[(0,_),(2,_),(7,_)]) ⟨rfl,rfl,rfl,trivial⟩
  refine then_n ?_
  refine s_cond hs rfl (fun hc=>?_) (fun hc=>?_)
  · try simp only [decide_eq_true_eq,decide_eq_false_iff_not,Bool.not_eq_true',Bool.not_eq_false',Bool.and_eq_true,Bool.or_eq_true,Bool.or_eq_false_iff] at hc
    have hpw:s.pow=s.off:=if_pos hc
    refine wp_seq (wp_reg ?_)
    refine s_q hs (c_move (hs.ev rfl)) rfl fun ac hs=>?_
    refine s_q hs (c_nil (hs.ev rfl)) rfl fun ac hs=>?_
    refine s_q hs (c_fld fl72_3 (hs.ev rfl)) rfl fun ac hs=>?_
    refine s_store (i:=0) hs ty4 rfl rfl rfl rfl rfl rfl (by simp [hdS,Value.cells]) rfl fun ww hs=>?_
    refine s_end ?_
    replace hs:=hs.sub (F':=[(0,_),(2,_)]) ⟨rfl,rfl,trivial⟩
    refine then_n (wp_seq (wp_reg ?_))
    refine s_q hs (c_assign (hs.ev rfl)) rfl fun ac hs=>?_
    refine s_end (then_n (wp_ret (then_r ?_)))
    refine s_ret hs rfl (.tmp (hs.tmp rfl) .nil) rfl ⟨_,rfl,hs.fr,?_⟩
    exact ⟨by rw [decide_eq_false (fun h=>h hc)]; rfl,by rw [hpw]; exact hs.seg (i:=0) rfl⟩
  · try simp only [decide_eq_true_eq,decide_eq_false_iff_not,Bool.not_eq_true',Bool.not_eq_false',Bool.and_eq_true,Bool.or_eq_true,Bool.or_eq_false_iff] at hc
    have hpw:s.pow=s.on:=if_neg hc
    have hf1:=hok.f1
    have hf2:=hok.f2
    refine wp_skip (then_n (wp_seq (wp_seq (wp_reg ?_))))
    refine s_q hs (c_move (hs.ev rfl)) rfl fun ac hs=>?_
    refine s_q hs (c_nil (hs.ev rfl)) rfl fun ac hs=>?_
    refine s_q hs (c_fld fl72_2 (hs.ev rfl)) rfl fun ac hs=>?_
    refine s_q hs (c_loadS un3 rfl (hs.ev rfl) (hs.seg (i:=0) rfl) rfl) rfl fun ac hs=>?_
    refine s_q hs (c_gtrI (hs.ev rfl) (hs.ev rfl)) rfl fun ac hs=>?_
    refine s_end ?_
    replace hs:=hs.sub (F':=[(0,_),(2,_),(15,_)]) ⟨rfl,rfl,rfl,trivial⟩
    refine then_n ?_
    refine s_cond hs rfl (fun hc=>?_) (fun hc=>?_)
    · try simp only [decide_eq_true_eq,decide_eq_false_iff_not,Bool.not_eq_true',Bool.not_eq_false',Bool.and_eq_true,Bool.or_eq_true,Bool.or_eq_false_iff] at hc
      have hfu:(if 0 < s.fuse then s.fuse - 1 else s.fuse)=s.fuse - 1:=if_pos hc
      refine wp_reg ?_
      refine s_q hs (c_move (hs.ev rfl)) rfl fun ac hs=>?_
      refine s_q hs (c_nil (hs.ev rfl)) rfl fun ac hs=>?_
      refine s_q hs (c_fld fl72_2 (hs.ev rfl)) rfl fun ac hs=>?_
      refine s_q hs (c_loadS un3 rfl (hs.ev rfl) (hs.seg (i:=0) rfl) rfl) rfl fun ac hs=>?_
      refine s_q hs (c_subI (hs.ev rfl) (hs.ev rfl) (by omega) (by omega)) rfl fun ac hs=>?_
      refine s_q hs (c_nil (hs.ev rfl)) rfl fun ac hs=>?_
      refine s_q hs (c_fld fl72_2 (hs.ev rfl)) rfl fun ac hs=>?_
      refine s_store (i:=0) hs ty3 rfl rfl rfl rfl rfl rfl (by simp [hdS,Value.cells]) rfl fun ww hs=>?_
      refine s_end ?_
      replace hs:=hs.sub (F':=[(0,_),(2,_)]) ⟨rfl,rfl,trivial⟩
      refine then_n (wp_seq (wp_reg ?_))
      refine s_q hs (c_move (hs.ev rfl)) rfl fun ac hs=>?_
      refine s_q hs (c_nil (hs.ev rfl)) rfl fun ac hs=>?_
      refine s_q hs (c_fld fl72_4 (hs.ev rfl)) rfl fun ac hs=>?_
      refine s_q hs (c_loadS un3 rfl (hs.ev rfl) (hs.seg (i:=0) rfl) rfl) rfl fun ac hs=>?_
      refine s_q hs (c_addI (hs.ev rfl) (hs.ev rfl) (by omega) (by omega)) rfl fun ac hs=>?_
      refine s_q hs (c_nil (hs.ev rfl)) rfl fun ac hs=>?_
      refine s_q hs (c_fld fl72_4 (hs.ev rfl)) rfl fun ac hs=>?_
      refine s_store (i:=0) hs ty3 rfl rfl rfl rfl rfl rfl (by simp [hdS,Value.cells]) rfl fun ww hs=>?_
      refine s_end ?_
      replace hs:=hs.sub (F':=[(2,_)]) ⟨rfl,trivial⟩
      refine then_n (wp_seq (wp_reg ?_))
      refine s_q hs (c_assign (hs.ev rfl)) rfl fun ac hs=>?_
      refine s_end (then_n (wp_ret ?_))
      refine s_ret hs rfl (.tmp (hs.tmp rfl) .nil) rfl ⟨_,rfl,hs.fr,?_⟩
      refine ⟨by rw [decide_eq_true (by omega)]; rfl,?_⟩
      rw [hpw,hdS,Sl.on,hfu]
      exact hs.seg (i:=0) rfl
    · try simp only [decide_eq_true_eq,decide_eq_false_iff_not,Bool.not_eq_true',Bool.not_eq_false',Bool.and_eq_true,Bool.or_eq_true,Bool.or_eq_false_iff] at hc
      have hfu:(if 0 < s.fuse then s.fuse - 1 else s.fuse)=s.fuse:=if_neg hc
      refine wp_skip (then_n (wp_seq (wp_reg ?_)))
      refine s_q hs (c_move (hs.ev rfl)) rfl fun ac hs=>?_
      refine s_q hs (c_nil (hs.ev rfl)) rfl fun ac hs=>?_
      refine s_q hs (c_fld fl72_4 (hs.ev rfl)) rfl fun ac hs=>?_
      refine s_q hs (c_loadS un3 rfl (hs.ev rfl) (hs.seg (i:=0) rfl) rfl) rfl fun ac hs=>?_
      refine s_q hs (c_addI (hs.ev rfl) (hs.ev rfl) (by omega) (by omega)) rfl fun ac hs=>?_
      refine s_q hs (c_nil (hs.ev rfl)) rfl fun ac hs=>?_
      refine s_q hs (c_fld fl72_4 (hs.ev rfl)) rfl fun ac hs=>?_
      refine s_store (i:=0) hs ty3 rfl rfl rfl rfl rfl rfl (by simp [hdS,Value.cells]) rfl fun ww hs=>?_
      refine s_end ?_
      replace hs:=hs.sub (F':=[(2,_)]) ⟨rfl,trivial⟩
      refine then_n (wp_seq (wp_reg ?_))
      refine s_q hs (c_assign (hs.ev rfl)) rfl fun ac hs=>?_
      refine s_end (then_n (wp_ret ?_))
      refine s_ret hs rfl (.tmp (hs.tmp rfl) .nil) rfl ⟨_,rfl,hs.fr,?_⟩
      refine ⟨by rw [decide_eq_true (by omega)]; rfl,?_⟩
      rw [hpw,hdS,Sl.on,hfu]
      exact hs.seg (i:=0) rfl
end Go.Proofs.Ytkecdcmjkghddaa
end

section
/- The device: Write,Flush,Fuse. -/
namespace Go.Proofs.Ytkecdcmjkghddaa
open Go Go.Fw
theorem Sl.up_ne {s:Sl} (h:¬ s.up=0):s.down=true:=by
  unfold Sl.up at h
  split at h
  · assumption
  · exact absurd rfl h
theorem Sl.up_eq {s:Sl} (h:s.up=0):¬ s.down=true:=fun e=>by
  unfold Sl.up at h
  rw [if_pos e] at h
  cases h
theorem St.slTo {N:Nat} {F:List (Nat × Value)} {L:List Ent} {w0 w:World} {a:Act} {g sb:Nat} {qv qv':Value} {s s':Sl} (hs:St N F L (Ent.grp (sl g sb qv s)).keys w0 a w) (hl:(sl g sb qv' s').Sublist L):SlTo w0 w g sb qv s s':=⟨qv',(hs.pick hl).grp⟩
theorem wr_one (x:Wr):x.c.all (·.oneCell')=true:=by
  simp only [Wr.c,List.all_cons,Value.oneCell',Bool.true_and]
  exact all_map_B _
theorem seg_lt {w:World} {g:Nat} {o:Obj} (h:w.heap[g]?=some o):∀ k,k=g→k < w.heap.size:=fun k e=>by rw [e]; exact heap_lt h
theorem sl_Write (g sb:Nat) (qv:Value) (s:Sl) (j:Int) (b:List UInt8) (hb:b.length=64) (hok:s.Ok) (hst:s.steps≤1000000000) (hql:s.q.length≤1000000) (w:World) (hsl:Has 0 w (sl g sb qv s)):Ctr Try.prog 11 [.pointer (some ⟨g,0,none⟩),I j,.agg (b.map B).toArray] w (Ent.grp (sl g sb qv s)).keys (fun v w'=>v=I (s.write j b).1∧SlTo w w' g sb qv s (s.write j b).2):=by
  refine fn_start (N:=41) Try.func11 rfl rfl rfl fun ac hk=>?_
  have hs:=St.startG hk hsl
  refine wp_seq (wp_reg ?_)
  refine s_box hs rfl rfl rfl fun ac ww g5 hs=>?_
  refine s_q hs (c_assign (hs.ev rfl)) rfl fun ac hs=>?_
  refine s_end ?_
  replace hs:=hs.sub (F':=[(0,_),(1,_),(5,_),(6,_)]) ⟨rfl,rfl,rfl,rfl,trivial⟩
  refine then_n (wp_seq (wp_seq (wp_reg ?_)))
  refine s_q hs (c_move (hs.ev rfl)) rfl fun ac hs=>?_
  refine s_call hs fu36 (.cons (hs.ev rfl) .nil) (sl_up g sb qv s _ ⟨hs.seg (i:=1) rfl,hs.seg (i:=2) rfl,hs.get (i:=3) rfl⟩) rfl fun ac ww v9 hf hp hs=>?_
  obtain rfl:=hp
  replace hs:=hs [] (.nil _ _)
  refine s_q hs (c_assign (hs.ev rfl)) rfl fun ac hs=>?_
  refine s_end ?_
  replace hs:=hs.sub (F':=[(0,_),(1,_),(5,_),(6,_),(7,_)]) ⟨rfl,rfl,rfl,rfl,rfl,trivial⟩
  refine then_n (wp_seq (wp_reg ?_))
  refine s_q hs (c_move (hs.ev rfl)) rfl fun ac hs=>?_
  refine s_q hs (c_neqI (hs.ev rfl) (hs.ev rfl)) rfl fun ac hs=>?_
  refine s_end ?_
  replace hs:=hs.sub (F':=[(0,_),(1,_),(5,_),(6,_),(7,_),(11,_)]) ⟨rfl,rfl,rfl,rfl,rfl,rfl,trivial⟩
  refine then_n ?_
  refine s_cond hs rfl (fun hc=>?_) (fun hc=>?_)
  · try simp only [decide_eq_true_eq,decide_eq_false_iff_not,Bool.not_eq_true',Bool.not_eq_false',Bool.and_eq_true,Bool.or_eq_true,Bool.or_eq_false_iff] at hc
    have hd:=Sl.up_ne hc
    refine wp_seq (wp_reg ?_)
    refine s_q hs (c_move (hs.ev rfl)) rfl fun ac hs=>?_
    refine s_q hs (c_assign (hs.ev rfl)) rfl fun ac hs=>?_
    refine s_end ?_
    replace hs:=hs.sub (F':=[(0,_),(1,_),(5,_),(6,_)]) ⟨rfl,rfl,rfl,rfl,trivial⟩
    refine then_n (wp_ret (then_r ?_))
    refine s_ret hs rfl (.tmp (hs.tmp rfl) .nil) rfl ⟨_,rfl,hs.fr,?_⟩
    rw [show s.write j b=(5,s) from if_pos hd,Sl.up,if_pos hd]
    exact ⟨rfl,St.slTo hs (.cons _ (.refl _))⟩
  · try simp only [decide_eq_true_eq,decide_eq_false_iff_not,Bool.not_eq_true',Bool.not_eq_false',Bool.and_eq_true,Bool.or_eq_true,Bool.or_eq_false_iff] at hc
    have hd:=Sl.up_eq (by simpa using hc)
    refine wp_skip (then_n (wp_seq (wp_block (wp_seq (wp_reg ?_)))))
    refine s_q hs (c_move (hs.ev rfl)) rfl fun ac hs=>?_
    refine s_q hs (c_lssI (hs.ev rfl) (hs.ev rfl)) rfl fun ac hs=>?_
    refine s_q hs (c_move (hs.ev rfl)) rfl fun ac hs=>?_
    refine s_g hs rfl rfl (fun hg=>c_move (hs.ev rfl)) rfl fun ac hs=>?_
    refine s_g hs rfl rfl (fun hg=>c_move (hs.ev rfl)) rfl fun ac hs=>?_
    refine s_g hs rfl rfl (fun hg=>c_nil (gev (hs.ev rfl) hg)) rfl fun ac hs=>?_
    refine s_g hs rfl rfl (fun hg=>c_fld fl72_0 (gev (hs.ev rfl) hg)) rfl fun ac hs=>?_
    refine s_g hs rfl rfl (fun hg=>c_loadS un69 rfl (gev (hs.ev rfl) hg) (hs.seg (i:=1) rfl) rfl) rfl fun ac hs=>?_
    refine s_g hs rfl rfl (fun hg=>c_lenS un69 (gev (hs.ev rfl) hg)) rfl fun ac hs=>?_
    refine s_g hs rfl rfl (fun hg=>c_geqI (gev (hs.ev rfl) hg) (gev (hs.ev rfl) hg)) rfl fun ac hs=>?_
    refine s_q hs (c_or (hs.ev rfl) (hs.ev rfl)) rfl fun ac hs=>?_
    refine s_q hs (c_assign (hs.ev rfl)) rfl fun ac hs=>?_
    refine s_end ?_
    replace hs:=hs.sub (F':=[(0,_),(1,_),(5,_),(6,_),(13,_)]) ⟨rfl,rfl,rfl,rfl,rfl,trivial⟩
    refine then_n ?_
    refine s_cond hs rfl (fun hc=>?_) (fun hc=>?_)
    · skip
      have hj:j < 0∨(s.n:Int)≤j:=by simpa using hc
      refine wp_seq (wp_reg ?_)
      refine s_q hs (c_assign (hs.ev rfl)) rfl fun ac hs=>?_
      refine s_end ?_
      replace hs:=hs.sub (F':=[(0,_),(1,_),(5,_),(6,_)]) ⟨rfl,rfl,rfl,rfl,trivial⟩
      refine then_n (wp_ret (blk_r (then_r ?_)))
      refine s_ret hs rfl (.tmp (hs.tmp rfl) .nil) rfl ⟨_,rfl,hs.fr,?_⟩
      rw [show s.write j b=(1,s) from (if_neg hd).trans (if_pos hj)]
      exact ⟨rfl,St.slTo hs (.cons _ (.refl _))⟩
    · skip
      have hj:¬ (j < 0∨(s.n:Int)≤j):=by
        simp at hc
        omega
      obtain ⟨jn,rfl⟩:∃ jn:Nat,j=jn:=⟨j.toNat,by omega⟩
      refine wp_seq (wp_reg ?_)
      refine s_q hs (c_move (hs.ev rfl)) rfl fun ac hs=>?_
      refine s_callM (i:=1) hs fu37 (.cons (hs.ev rfl) .nil) rfl (sl_power g sb qv s hok hst _ (hs.seg (i:=1) rfl)) rfl fun ac ww v27 hf hp hs=>?_
      obtain ⟨rfl,hb'⟩:=hp
      replace hs:=hs (.seg g (hdS sb qv s.pow) 72) hb' (fun k hk=>⟨.inl hk,seg_lt hb' k hk⟩)
      refine s_q hs (c_not (hs.ev rfl)) rfl fun ac hs=>?_
      refine s_q hs (c_assign (hs.ev rfl)) rfl fun ac hs=>?_
      refine s_end ?_
      replace hs:=hs.sub (F':=[(0,_),(1,_),(5,_),(6,_),(25,_)]) ⟨rfl,rfl,rfl,rfl,rfl,trivial⟩
      refine then_n ?_
      refine s_cond hs rfl (fun hc=>?_) (fun hc=>?_)
      · try simp only [decide_eq_true_eq,decide_eq_false_iff_not,Bool.not_eq_true',Bool.not_eq_false',Bool.and_eq_true,Bool.or_eq_true,Bool.or_eq_false_iff] at hc
        have hf0:s.fuse=0:=by simpa using hc
        have hpw:s.pow=s.off:=if_pos hf0
        rw [hpw] at hs
        refine wp_seq (wp_reg ?_)
        refine s_q hs (c_assign (hs.ev rfl)) rfl fun ac hs=>?_
        refine s_end ?_
        replace hs:=hs.sub (F':=[(0,_),(1,_),(5,_),(6,_)]) ⟨rfl,rfl,rfl,rfl,trivial⟩
        refine then_n (wp_ret (blk_r (then_r ?_)))
        refine s_ret hs rfl (.tmp (hs.tmp rfl) .nil) rfl ⟨_,rfl,hs.fr,?_⟩
        rw [show s.write jn b=(5,s.off) from (if_neg hd).trans ((if_neg hj).trans (if_pos hf0))]
        exact ⟨rfl,St.slTo (s':=s.off) hs (.cons _ (.refl _))⟩
      · try simp only [decide_eq_true_eq,decide_eq_false_iff_not,Bool.not_eq_true',Bool.not_eq_false',Bool.and_eq_true,Bool.or_eq_true,Bool.or_eq_false_iff] at hc
        have hf0:¬ s.fuse=0:=by simpa using hc
        have hpw:s.pow=s.on:=if_neg hf0
        rw [hpw] at hs
        refine wp_skip (blk_n (then_n (wp_seq ?_)))
        obtain ⟨qad,qcap,rfl,hqc,hqm⟩:=Rd.sl (Rd.of_row (hs.get (i:=3) rfl))
        refine wp_region_rgX (J:=[0]) pmix 9 (by kernel_rfl) (by kernel_rfl) rfl rfl hs ?_
        simp only [List.take_succ_cons,List.take_zero]
        refine rg_q (fun ac ww h=>c_move (h.ev rfl)) rfl ?_
        refine rg_q (fun ac ww h=>c_move (h.ev rfl)) rfl ?_
        refine rg_q (fun ac ww h=>c_nil (h.ev rfl)) rfl ?_
        refine rg_q (fun ac ww h=>c_fld fl72_1 (h.ev rfl)) rfl ?_
        refine rg_q (fun ac ww h=>c_loadS un70 rfl (h.ev rfl) (h.blk (hs.seg (i:=1) rfl)) rfl) rfl ?_
        refine rg_q (fun ac ww h=>c_move (h.ev rfl)) rfl ?_
        refine rg_q (fun ac ww h=>c_loadW ty29 rfl (h.ev rfl) (h.blk (hs.seg (i:=0) rfl)) (by simp [hb])) rfl ?_
        refine rg_q (fun ac ww h=>c_buildS (zc:=I (jn:Nat)::b.map B) ty74 bp74 (.cons (h.ev rfl) (.cons (h.ev rfl) .nil)) ⟨rfl,by simp [Value.cells,hb],trivial⟩ (by simp [flatCells,Value.cells,hb]) (by simp [flatCells,Value.cells,hb])) rfl ?_
        refine rg_bslice un70 ty74 (fun ac ww h=>(.cons (h.ev rfl) .nil)) rfl (by simp [Value.cells,hb]) (by decide) (show _=Wr.c ⟨jn,b⟩ by simp [flatCells,Value.cells,Wr.c]) rfl ?_
        refine rg_nil fun ac ww L' hf hfe hs hlk=>?_
        simp only [List.drop_succ_cons,List.drop_zero]
        obtain ⟨v37,L37,M37,h37,e37,rfl,rfl⟩:=hfe
        replace hs:=hs.add h37
        obtain ⟨g37,rfl,rfl⟩:=e37
        refine sk_append (i:=4) hs un70 ty74 (by decide) rfl rfl rfl (Rd.of_seg (n:=1) (hs.seg (i:=0) rfl) (Nat.le_refl _) (by decide) (List.take_of_length_le (by simp))) (Wr.c_len (x:=⟨jn,b⟩) (n:=s.n) ⟨hb,by show jn < s.n; omega⟩) (wr_one _) (by unfold maxLen; omega) (by omega) rfl (fun ac ww v38 hf hnil hs=>late_turn rfl rfl (late_nil)) fun ac ww v38 hf hnil hs=>?_
        obtain ⟨ad38,cap38,rfl,_,_⟩:=Rd.sl (Rd.of_row (hs.get (i:=4) rfl))
        refine s_q hs (c_nil (hs.ev rfl)) rfl fun ac hs=>?_
        refine s_q hs (c_fld fl72_1 (hs.ev rfl)) rfl fun ac hs=>?_
        refine s_store (i:=2) hs ty70 rfl rfl rfl rfl rfl rfl (by simp [hdS,Value.cells]) rfl fun ww hs=>?_
        refine s_end ?_
        replace hs:=hs.sub (F':=[(6,_)]) ⟨rfl,trivial⟩
        refine then_n (wp_seq (wp_reg ?_))
        refine s_q hs (c_assign (hs.ev rfl)) rfl fun ac hs=>?_
        refine s_end (then_n (wp_ret ?_))
        refine s_ret hs rfl (.tmp (hs.tmp rfl) .nil) rfl ⟨_,rfl,hs.fr,?_⟩
        rw [show s.write jn b=(0,{ s.on with q:=s.q++[⟨jn,b⟩] }) from (if_neg hd).trans ((if_neg hj).trans (if_neg hf0))]
        exact ⟨rfl,_,((hs.pick (L':=[_,_,_]) (.cons _ (.cons _ (.refl _)))).toL (L':=sl g sb _ { s.on with q:=s.q++[⟨jn,b⟩] }) (by rw [sl,wrC_app,wrC_one,List.length_append]; rfl)).grp⟩
theorem sl_Flush (g sb:Nat) (qv:Value) (s:Sl) (hok:s.Ok) (hst:s.steps≤1000000000) (hql:s.q.length≤1000000) (w:World) (hsl:Has 0 w (sl g sb qv s)):Ctr Try.prog 12 [.pointer (some ⟨g,0,none⟩)] w (Ent.grp (sl g sb qv s)).keys (fun v w'=>v=I s.flush.1∧SlTo w w' g sb qv s s.flush.2):=by
  refine fn_start (N:=36) Try.func12 rfl rfl rfl fun ac hk=>?_
  have hs:=St.startG hk hsl
  refine wp_seq (wp_reg ?_)
  refine s_q hs (c_assign (hs.ev rfl)) rfl fun ac hs=>?_
  refine s_end (then_n (wp_seq (wp_seq (wp_reg ?_))))
  refine s_q hs (c_move (hs.ev rfl)) rfl fun ac hs=>?_
  refine s_call hs fu36 (.cons (hs.ev rfl) .nil) (sl_up g sb qv s _ ⟨hs.seg (i:=0) rfl,hs.seg (i:=1) rfl,hs.get (i:=2) rfl⟩) rfl fun ac ww v7 hf hp hs=>?_
  obtain rfl:=hp
  replace hs:=hs [] (.nil _ _)
  refine s_q hs (c_assign (hs.ev rfl)) rfl fun ac hs=>?_
  refine s_end ?_
  replace hs:=hs.sub (F':=[(0,_),(2,_),(3,_)]) ⟨rfl,rfl,rfl,trivial⟩
  refine then_n (wp_seq (wp_reg ?_))
  refine s_q hs (c_move (hs.ev rfl)) rfl fun ac hs=>?_
  refine s_q hs (c_neqI (hs.ev rfl) (hs.ev rfl)) rfl fun ac hs=>?_
  refine s_end ?_
  replace hs:=hs.sub (F':=[(0,_),(2,_),(3,_),(9,_)]) ⟨rfl,rfl,rfl,rfl,trivial⟩
  refine then_n ?_
  refine s_cond hs rfl (fun hc=>?_) (fun hc=>?_)
  · try simp only [decide_eq_true_eq,decide_eq_false_iff_not,Bool.not_eq_true',Bool.not_eq_false',Bool.and_eq_true,Bool.or_eq_true,Bool.or_eq_false_iff] at hc
    have hd:=Sl.up_ne hc
    refine wp_seq (wp_reg ?_)
    refine s_q hs (c_move (hs.ev rfl)) rfl fun ac hs=>?_
    refine s_q hs (c_assign (hs.ev rfl)) rfl fun ac hs=>?_
    refine s_end ?_
    replace hs:=hs.sub (F':=[(0,_),(2,_)]) ⟨rfl,rfl,trivial⟩
    refine then_n (wp_ret (then_r ?_))
    refine s_ret hs rfl (.tmp (hs.tmp rfl) .nil) rfl ⟨_,rfl,hs.fr,?_⟩
    rw [show s.flush=(5,s) from if_pos hd,Sl.up,if_pos hd]
    exact ⟨rfl,St.slTo hs (.refl _)⟩
  · try simp only [decide_eq_true_eq,decide_eq_false_iff_not,Bool.not_eq_true',Bool.not_eq_false',Bool.and_eq_true,Bool.or_eq_true,Bool.or_eq_false_iff] at hc
    have hd:=Sl.up_eq (by simpa using hc)
    refine wp_skip (then_n (wp_seq (wp_seq (wp_reg ?_))))
    refine s_q hs (c_move (hs.ev rfl)) rfl fun ac hs=>?_
    refine s_callM (i:=0) hs fu37 (.cons (hs.ev rfl) .nil) rfl (sl_power g sb qv s hok hst _ (hs.seg (i:=0) rfl)) rfl fun ac ww v12 hf hp hs=>?_
    obtain ⟨rfl,hb'⟩:=hp
    replace hs:=hs (.seg g (hdS sb qv s.pow) 72) hb' (fun k hk=>⟨.inl hk,seg_lt hb' k hk⟩)
    refine s_q hs (c_not (hs.ev rfl)) rfl fun ac hs=>?_
    refine s_end ?_
    replace hs:=hs.sub (F':=[(0,_),(2,_),(13,_)]) ⟨rfl,rfl,rfl,trivial⟩
    refine then_n ?_
    refine s_cond hs rfl (fun hc=>?_) (fun hc=>?_)
    · try simp only [decide_eq_true_eq,decide_eq_false_iff_not,Bool.not_eq_true',Bool.not_eq_false',Bool.and_eq_true,Bool.or_eq_true,Bool.or_eq_false_iff] at hc
      have hf0:s.fuse=0:=by simpa using hc
      have hpw:s.pow=s.off:=if_pos hf0
      rw [hpw] at hs
      refine wp_seq (wp_reg ?_)
      refine s_q hs (c_assign (hs.ev rfl)) rfl fun ac hs=>?_
      refine s_end ?_
      replace hs:=hs.sub (F':=[(0,_),(2,_)]) ⟨rfl,rfl,trivial⟩
      refine then_n (wp_ret (then_r ?_))
      refine s_ret hs rfl (.tmp (hs.tmp rfl) .nil) rfl ⟨_,rfl,hs.fr,?_⟩
      rw [show s.flush=(5,s.off) from (if_neg hd).trans (if_pos hf0)]
      exact ⟨rfl,St.slTo (s':=s.off) hs (.refl _)⟩
    · try simp only [decide_eq_true_eq,decide_eq_false_iff_not,Bool.not_eq_true',Bool.not_eq_false',Bool.and_eq_true,Bool.or_eq_true,Bool.or_eq_false_iff] at hc
      have hf0:¬ s.fuse=0:=by simpa using hc
      have hpw:s.pow=s.on:=if_neg hf0
      rw [hpw] at hs
      refine wp_skip (then_n (wp_seq (wp_seq ?_)))
      obtain ⟨qad,qcap,rfl,hqc,hqm⟩:=Rd.sl (Rd.of_row (hs.get (i:=2) rfl))
      refine wp_reg ?_
      refine s_q hs (c_move (hs.ev rfl)) rfl fun ac hs=>?_
      refine s_q hs (c_nil (hs.ev rfl)) rfl fun ac hs=>?_
      refine s_q hs (c_fld fl72_1 (hs.ev rfl)) rfl fun ac hs=>?_
      refine s_q hs (c_loadS un70 rfl (hs.ev rfl) (hs.seg (i:=0) rfl) rfl) rfl fun ac hs=>?_
      refine s_q hs (c_lenS un70 (hs.ev rfl)) rfl fun ac hs=>?_
      refine s_q hs (c_move (hs.ev rfl)) rfl fun ac hs=>?_
      refine s_end ?_
      replace hs:=hs.sub (F':=[(0,_),(2,_),(17,_),(18,_),(19,_)]) ⟨rfl,rfl,rfl,rfl,rfl,trivial⟩
      refine then_n (wp_block ?_)
      refine s_loop hs (X:=Nat) (fun k=>[(19,I k)]) [(0,_),(2,_),(17,_),(18,_)] (fun k=>[.seg g (hdS sb (.slice qad s.q.length qcap) s.on) 72,.seg sb ((putQ s.xs (s.q.take k)).map B) 29,.row (.slice qad s.q.length qcap) s.q.length (wrC s.q) 74 65]) (fun n k=>k≤s.q.length∧n=s.q.length - k) (_) (0) (⟨Nat.zero_le _,rfl⟩) ⟨rfl,rfl,rfl,rfl,rfl,trivial⟩ rfl ?_
      rintro n k ac ww hok2 hs
      simp only [List.cons_append,List.nil_append] at hs
      obtain ⟨hk,rfl⟩:=hok2
      refine wp_seq (wp_reg ?_)
      refine s_q hs (c_lssI (hs.ev rfl) (hs.ev rfl)) rfl fun ac hs=>?_
      refine s_end (then_n (wp_seq ?_))
      refine s_cond hs rfl (fun hc=>?_) (fun hc=>?_)
      · try simp only [decide_eq_true_eq,decide_eq_false_iff_not,Bool.not_eq_true',Bool.not_eq_false',Bool.and_eq_true,Bool.or_eq_true,Bool.or_eq_false_iff] at hc
        have hkn:k < s.q.length:=by omega
        have hxo:=wr_ok hok.qo hkn
        obtain ⟨qb,qcap2,qcur,he,hqb,_,_,_,hcur⟩:=hs.row_at (i:=2) rfl (by omega)
        cases he
        have hpc:=wr_piece hok.qo hcur hkn
        obtain ⟨x,hx⟩:∃ x,s.q.getD k default=x:=⟨_,rfl⟩
        rw [hx] at hpc hxo
        refine wp_skip (then_n (wp_seq (wp_block (wp_seq (wp_reg ?_)))))
        refine s_q hs (c_idxS (j:=k) un70 ty74 (hs.ev rfl) (hs.ev rfl) (by omega) (by omega)) rfl fun ac hs=>?_
        refine s_q hs (c_loadA ty74 ag74 (hs.ev rfl) hqb hpc (Wr.c_len hxo)) rfl fun ac hs=>?_
        refine s_alloc hs ty74 rfl fun ac ww g5 hs=>?_
        refine s_storeW (i:=0) hs ty74 rfl rfl rfl (Wr.c_len hxo) (wr_one _) (by rfl) fun ww hs=>?_
        refine s_end (then_n ?_)
        refine wp_region_rg pmix 9 (by kernel_rfl) rfl hs ?_
        simp only [List.take_succ_cons,List.take_zero]
        refine rg_q (fun ac ww h=>c_move (h.ev rfl)) rfl ?_
        refine rg_q (fun ac ww h=>c_nil (h.ev rfl)) rfl ?_
        refine rg_q (fun ac ww h=>c_fld fl72_0 (h.ev rfl)) rfl ?_
        refine rg_q (fun ac ww h=>c_loadS un69 rfl (h.ev rfl) (h.blk (hs.seg (i:=1) rfl)) rfl) rfl ?_
        refine rg_q (fun ac ww h=>c_fld fl74_0 (h.ev rfl)) rfl ?_
        refine rg_q (fun ac ww h=>c_loadS un3 rfl (h.ev rfl) (h.blk (hs.seg (i:=0) rfl)) rfl) rfl ?_
        refine rg_q (fun ac ww h=>c_fld fl74_1 (h.ev rfl)) rfl ?_
        refine rg_q (fun ac ww h=>c_loadA ty29 rfl (h.ev rfl) (h.blk (hs.seg (i:=0) rfl)) (show _=x.b.map B from List.take_of_length_le (by simp [Wr.c,hxo.1])) (by simp [hxo.1])) rfl ?_
        refine rg_q (fun ac ww h=>c_idxS (j:=x.p) un69 ty29 (h.ev rfl) (h.ev rfl) rfl hxo.2) rfl ?_
        refine rg_nil fun ac ww L' hf hfe hs=>?_
        simp only [List.drop_succ_cons,List.drop_zero]
        obtain rfl:L'=[]:=hfe
        replace hs:=hs.toL (List.nil_append _)
        refine s_store (i:=2) hs ty29 rfl rfl rfl rfl (by simp [Value.cells,hxo.1]) (all64 _) (by have:=hxo.2; rw [List.length_map,putQ_len hok.xl (take_ok hok.qo)]; omega) (putW_cells _ _) fun ww hs=>?_
        refine s_end (blk_n (then_n (wp_reg ?_)))
        refine s_q hs (c_addI (hs.ev rfl) (hs.ev rfl) (by omega) (by omega)) rfl fun ac hs=>?_
        refine s_q hs (c_move (hs.ev rfl)) rfl fun ac hs=>?_
        refine s_end (then_n ?_)
        replace hs:=hs.pick (L':=[_,_,_]) (.cons _ (.refl _))
        rw [show putW (putQ s.xs (s.q.take k)) x=putQ s.xs (s.q.take (k + 1)) from by rw [putQ_succ hkn,hx]] at hs
        exact ⟨s.q.length - (k + 1),by omega,k + 1,⟨by omega,rfl⟩,St.next hs ⟨rfl,rfl,rfl,rfl,rfl,trivial⟩ rfl⟩
      · try simp only [decide_eq_true_eq,decide_eq_false_iff_not,Bool.not_eq_true',Bool.not_eq_false',Bool.and_eq_true,Bool.or_eq_true,Bool.or_eq_false_iff] at hc
        obtain rfl:k=s.q.length:=by omega
        rw [List.take_length] at hs
        refine wp_exit (then_e (then_e (blk_hit (then_n (wp_seq (wp_reg ?_))))))
        refine s_q hs (c_move (hs.ev rfl)) rfl fun ac hs=>?_
        refine s_q hs (c_nil (hs.ev rfl)) rfl fun ac hs=>?_
        refine s_q hs (c_fld fl72_1 (hs.ev rfl)) rfl fun ac hs=>?_
        refine s_store (i:=0) hs ty70 rfl rfl rfl rfl rfl rfl (by simp [hdS,Value.cells]) rfl fun ww hs=>?_
        refine s_end ?_
        replace hs:=hs.sub (F':=[(2,_)]) ⟨rfl,trivial⟩
        refine then_n (wp_seq (wp_reg ?_))
        refine s_q hs (c_assign (hs.ev rfl)) rfl fun ac hs=>?_
        refine s_end (then_n (wp_ret ?_))
        replace hs:=((hs.nilrow 74 65).pick (L':=[_,_,_]) (.cons_cons _ (.cons_cons _ (.cons_cons _ (.cons _ .slnil))))).perm (L':=[_,_,_]) (List.perm_append_comm (l₁:=[_,_]) (l₂:=[_]))
        refine s_ret hs rfl (.tmp (hs.tmp rfl) .nil) rfl ⟨_,rfl,hs.fr,?_⟩
        rw [show s.flush=(0,{ s.on with xs:=putQ s.xs s.q,q:=[] }) from (if_neg hd).trans (if_neg hf0)]
        exact ⟨rfl,St.slTo (s':={ s.on with xs:=putQ s.xs s.q,q:=[] }) hs (.refl _)⟩
end Go.Proofs.Ytkecdcmjkghddaa
end

section
/- The device: Read,Crash,New; what is asked of no device. -/
namespace Go.Proofs.Ytkecdcmjkghddaa
open Go Go.Fw
theorem sl_Read (g sb:Nat) (qv:Value) (s:Sl) (j:Int) (hok:s.Ok) (w:World) (hR:SlR w g sb qv s):Ctr Try.prog 15 [.pointer (some ⟨g,0,none⟩),I j] w (fun _=>False) (fun v _=>v=.tuple #[.agg ((s.read j).1.map B).toArray,I (s.read j).2]):=by
  refine fn_start (N:=61) Try.func15 rfl rfl rfl fun ac hk=>?_
  have hs:=St.start hk w
  refine wp_seq (wp_reg ?_)
  refine s_alloc hs ty29 rfl fun ac ww g4 hs=>?_
  refine s_q hs (c_assign (hs.ev rfl)) rfl fun ac hs=>?_
  refine s_end (then_n (wp_seq (wp_seq (wp_reg ?_))))
  refine s_q hs (c_move (hs.ev rfl)) rfl fun ac hs=>?_
  refine s_call hs fu36 (.cons (hs.ev rfl) .nil) (sl_up g sb qv s _ (hR.fr0 hs.fr)) rfl fun ac ww v9 hf hp hs=>?_
  obtain rfl:=hp
  replace hs:=hs [] (.nil _ _)
  refine s_q hs (c_assign (hs.ev rfl)) rfl fun ac hs=>?_
  refine s_end ?_
  replace hs:=hs.sub (F':=[(0,_),(1,_),(4,_),(5,_),(6,_)]) ⟨rfl,rfl,rfl,rfl,rfl,trivial⟩
  refine then_n (wp_seq (wp_reg ?_))
  refine s_q hs (c_move (hs.ev rfl)) rfl fun ac hs=>?_
  refine s_q hs (c_neqI (hs.ev rfl) (hs.ev rfl)) rfl fun ac hs=>?_
  refine s_end ?_
  replace hs:=hs.sub (F':=[(0,_),(1,_),(4,_),(5,_),(6,_),(11,_)]) ⟨rfl,rfl,rfl,rfl,rfl,rfl,trivial⟩
  refine then_n ?_
  refine s_cond hs rfl (fun hc=>?_) (fun hc=>?_)
  · try simp only [decide_eq_true_eq,decide_eq_false_iff_not,Bool.not_eq_true',Bool.not_eq_false',Bool.and_eq_true,Bool.or_eq_true,Bool.or_eq_false_iff] at hc
    have hd:=Sl.up_ne hc
    refine wp_seq (wp_reg ?_)
    refine s_q hs (c_buildA (zc:=zero64.map B) ty29 un29 ty5 .nil (by simp [Value.cells]) (by simp [flatCells,Value.cells]) rfl) rfl fun ac hs=>?_
    refine s_q hs (c_move (hs.ev rfl)) rfl fun ac hs=>?_
    refine s_storeW (i:=0) hs ty29 rfl rfl rfl (by rfl) (by simp [Value.oneCell']) (by simp) fun ww hs=>?_
    refine s_q hs (c_assign (hs.ev rfl)) rfl fun ac hs=>?_
    refine s_end ?_
    replace hs:=hs.sub (F':=[(0,_),(1,_),(4,_),(5,_)]) ⟨rfl,rfl,rfl,rfl,trivial⟩
    refine then_n (wp_ret (then_r ?_))
    refine s_ret hs rfl (.cell (hs.tmp rfl) (run_loadA ty29 rfl (hs.seg (i:=0) rfl) rfl (by rfl)) (.tmp (hs.tmp rfl) .nil)) rfl ⟨_,rfl,hs.fr,?_⟩
    rw [show s.read j=(zero64,5) from if_pos hd,Sl.up,if_pos hd]
    rfl
  · try simp only [decide_eq_true_eq,decide_eq_false_iff_not,Bool.not_eq_true',Bool.not_eq_false',Bool.and_eq_true,Bool.or_eq_true,Bool.or_eq_false_iff] at hc
    have hd:=Sl.up_eq (by simpa using hc)
    refine wp_skip (then_n (wp_seq (wp_seq (wp_reg ?_))))
    refine s_q hs (c_move (hs.ev rfl)) rfl fun ac hs=>?_
    refine s_q hs (c_lssI (hs.ev rfl) (hs.ev rfl)) rfl fun ac hs=>?_
    refine s_q hs (c_move (hs.ev rfl)) rfl fun ac hs=>?_
    refine s_g hs rfl rfl (fun hg=>c_move (hs.ev rfl)) rfl fun ac hs=>?_
    refine s_g hs rfl rfl (fun hg=>c_move (hs.ev rfl)) rfl fun ac hs=>?_
    refine s_g hs rfl rfl (fun hg=>c_nil (gev (hs.ev rfl) hg)) rfl fun ac hs=>?_
    refine s_g hs rfl rfl (fun hg=>c_fld fl72_0 (gev (hs.ev rfl) hg)) rfl fun ac hs=>?_
    refine s_g hs rfl rfl (fun hg=>c_loadS un69 rfl (gev (hs.ev rfl) hg) (hs.old hR.hg (fun h=>h)) rfl) rfl fun ac hs=>?_
    refine s_g hs rfl rfl (fun hg=>c_lenS un69 (gev (hs.ev rfl) hg)) rfl fun ac hs=>?_
    refine s_g hs rfl rfl (fun hg=>c_geqI (gev (hs.ev rfl) hg) (gev (hs.ev rfl) hg)) rfl fun ac hs=>?_
    refine s_q hs (c_or (hs.ev rfl) (hs.ev rfl)) rfl fun ac hs=>?_
    refine s_end ?_
    replace hs:=hs.sub (F':=[(0,_),(1,_),(4,_),(5,_),(24,_)]) ⟨rfl,rfl,rfl,rfl,rfl,trivial⟩
    refine then_n ?_
    refine s_cond hs rfl (fun hc=>?_) (fun hc=>?_)
    · skip
      have hj:j < 0∨(s.n:Int)≤j:=by simpa using hc
      refine wp_seq (wp_reg ?_)
      refine s_q hs (c_buildA (zc:=zero64.map B) ty29 un29 ty5 .nil (by simp [Value.cells]) (by simp [flatCells,Value.cells]) rfl) rfl fun ac hs=>?_
      refine s_storeW (i:=0) hs ty29 rfl rfl rfl (by rfl) (by simp [Value.oneCell']) (by simp) fun ww hs=>?_
      refine s_q hs (c_assign (hs.ev rfl)) rfl fun ac hs=>?_
      refine s_end ?_
      replace hs:=hs.sub (F':=[(0,_),(1,_),(4,_),(5,_)]) ⟨rfl,rfl,rfl,rfl,trivial⟩
      refine then_n (wp_ret (then_r ?_))
      refine s_ret hs rfl (.cell (hs.tmp rfl) (run_loadA ty29 rfl (hs.seg (i:=0) rfl) rfl (by rfl)) (.tmp (hs.tmp rfl) .nil)) rfl ⟨_,rfl,hs.fr,?_⟩
      rw [show s.read j=(zero64,1) from (if_neg hd).trans (if_pos hj)]
      rfl
    · skip
      have hj:¬ (j < 0∨(s.n:Int)≤j):=by
        simp at hc
        omega
      obtain ⟨jn,rfl⟩:∃ jn:Nat,j=jn:=⟨j.toNat,by omega⟩
      have hjn:jn < s.n:=by omega
      obtain ⟨qad,qcap,rfl,hqc,hqm⟩:=Rd.sl (Rd.of_row hR.hq)
      have hnl:=(Rd.of_row hR.hq).le
      refine wp_skip (then_n (wp_seq (wp_seq (wp_reg ?_))))
      refine s_q hs (c_move (hs.ev rfl)) rfl fun ac hs=>?_
      refine s_q hs (c_nil (hs.ev rfl)) rfl fun ac hs=>?_
      refine s_q hs (c_fld fl72_1 (hs.ev rfl)) rfl fun ac hs=>?_
      refine s_q hs (c_loadS un70 rfl (hs.ev rfl) (hs.old hR.hg (fun h=>h)) rfl) rfl fun ac hs=>?_
      refine s_q hs (c_lenS un70 (hs.ev rfl)) rfl fun ac hs=>?_
      refine s_q hs (c_subI (hs.ev rfl) (hs.ev rfl) (by omega) (by omega)) rfl fun ac hs=>?_
      refine s_q hs (c_assign (hs.ev rfl)) rfl fun ac hs=>?_
      refine s_end ?_
      replace hs:=hs.sub (F':=[(0,_),(1,_),(4,_),(5,_),(7,_)]) ⟨rfl,rfl,rfl,rfl,rfl,trivial⟩
      refine then_n (wp_block ?_)
      refine s_loop hs (X:=Nat) (fun k=>[(7,I ((k:Int) - 1))]) [(0,_),(1,_),(4,_)] (fun _=>[_]) (fun n k=>k≤s.q.length∧n=k∧∀ i,k≤i→i < s.q.length→¬ (s.q.getD i default).p=jn) (_) (s.q.length) (⟨Nat.le_refl _,rfl,fun i h1 h2=>by omega⟩) ⟨rfl,rfl,rfl,rfl,trivial⟩ rfl ?_
      rintro n k ac ww hok2 hs
      simp only [List.cons_append,List.nil_append] at hs
      obtain ⟨hk,rfl,hno⟩:=hok2
      refine wp_seq (wp_seq (wp_reg ?_))
      refine s_q hs (c_move (hs.ev rfl)) rfl fun ac hs=>?_
      refine s_q hs (c_geqI (hs.ev rfl) (hs.ev rfl)) rfl fun ac hs=>?_
      refine s_end (then_n ?_)
      refine s_cond hs rfl (fun hc=>?_) (fun hc=>?_)
      · try simp only [decide_eq_true_eq,decide_eq_false_iff_not,Bool.not_eq_true',Bool.not_eq_false',Bool.and_eq_true,Bool.or_eq_true,Bool.or_eq_false_iff] at hc
        obtain ⟨m,rfl⟩:∃ m,n=m + 1:=⟨n - 1,by omega⟩
        have hmn:m < s.q.length:=by omega
        have hxo:=wr_ok hok.qo hmn
        obtain ⟨qb,qcap2,qcur,he,hqb,_,_,hcur⟩:=owns_at hR.hq (by omega)
        have hs9:=hs
        cases he
        replace hs:=hs9
        obtain ⟨x,hx⟩:∃ x,s.q.getD m default=x:=⟨_,rfl⟩
        have hpc:=wr_cell hok.qo hcur hmn
        have hbd:=wr_body hok.qo hcur hmn
        rw [hx] at hpc hbd hxo
        refine wp_skip (then_n (wp_seq (wp_block (wp_seq (wp_reg ?_)))))
        refine s_q hs (c_move (hs.ev rfl)) rfl fun ac hs=>?_
        refine s_q hs (c_nil (hs.ev rfl)) rfl fun ac hs=>?_
        refine s_q hs (c_fld fl72_1 (hs.ev rfl)) rfl fun ac hs=>?_
        refine s_q hs (c_loadS un70 rfl (hs.ev rfl) (hs.old hR.hg (fun h=>h)) rfl) rfl fun ac hs=>?_
        refine s_q hs (c_move (hs.ev rfl)) rfl fun ac hs=>?_
        refine s_q hs (c_idxS (j:=m) un70 ty74 (hs.ev rfl) (hs.ev rfl) (by omega) (by omega)) rfl fun ac hs=>?_
        refine s_q hs (c_fld fl74_0 (hs.ev rfl)) rfl fun ac hs=>?_
        refine s_q hs (c_loadS un3 rfl (hs.ev rfl) (hs.old hqb id) hpc) rfl fun ac hs=>?_
        refine s_q hs (c_move (hs.ev rfl)) rfl fun ac hs=>?_
        refine s_q hs (c_eqlI (hs.ev rfl) (hs.ev rfl)) rfl fun ac hs=>?_
        refine s_end (then_n ?_)
        refine s_cond hs rfl (fun hc=>?_) (fun hc=>?_)
        · try simp only [decide_eq_true_eq,decide_eq_false_iff_not,Bool.not_eq_true',Bool.not_eq_false',Bool.and_eq_true,Bool.or_eq_true,Bool.or_eq_false_iff] at hc
          have heq:x.p=jn:=by omega
          refine wp_seq (wp_reg ?_)
          refine s_q hs (c_move (hs.ev rfl)) rfl fun ac hs=>?_
          refine s_q hs (c_nil (hs.ev rfl)) rfl fun ac hs=>?_
          refine s_q hs (c_fld fl72_1 (hs.ev rfl)) rfl fun ac hs=>?_
          refine s_q hs (c_loadS un70 rfl (hs.ev rfl) (hs.old hR.hg (fun h=>h)) rfl) rfl fun ac hs=>?_
          refine s_q hs (c_move (hs.ev rfl)) rfl fun ac hs=>?_
          refine s_q hs (c_idxS (j:=m) un70 ty74 (hs.ev rfl) (hs.ev rfl) (by omega) (by omega)) rfl fun ac hs=>?_
          refine s_q hs (c_fld fl74_1 (hs.ev rfl)) rfl fun ac hs=>?_
          refine s_q hs (c_loadA ty29 rfl (hs.ev rfl) (hs.old hqb id) hbd (by simp [hxo.1])) rfl fun ac hs=>?_
          refine s_storeW (i:=0) hs ty29 rfl rfl rfl (by simp [hxo.1]) (all64 _) (by rfl) fun ww hs=>?_
          refine s_q hs (c_assign (hs.ev rfl)) rfl fun ac hs=>?_
          refine s_end (then_n (wp_ret (blk_r (then_r (then_r (blk_r (then_r ?_)))))))
          refine s_ret hs rfl (.cell (hs.tmp rfl) (run_loadA ty29 rfl (hs.seg (i:=0) rfl) (List.take_of_length_le (by simp [hxo.1])) (by simp [hxo.1])) (.tmp (hs.tmp rfl) .nil)) rfl ⟨_,rfl,hs.fr,?_⟩
          rw [show s.read jn=(x.b,0) from (if_neg hd).trans ((if_neg hj).trans (by rw [show (jn:Int).toNat=jn from rfl,ofW_hit hmn (by rw [hx]; exact heq) (fun i h1 h2=>hno i h1 h2),hx]))]
          rfl
        · try simp only [decide_eq_true_eq,decide_eq_false_iff_not,Bool.not_eq_true',Bool.not_eq_false',Bool.and_eq_true,Bool.or_eq_true,Bool.or_eq_false_iff] at hc
          have hne:¬ x.p=jn:=by omega
          refine wp_skip (blk_n (then_n (wp_reg ?_)))
          refine s_q hs (c_move (hs.ev rfl)) rfl fun ac hs=>?_
          refine s_q hs (c_subI (hs.ev rfl) (hs.ev rfl) (by omega) (by omega)) rfl fun ac hs=>?_
          refine s_q hs (c_assign (hs.ev rfl)) rfl fun ac hs=>?_
          refine s_end (then_n ?_)
          exact ⟨m,by omega,m,⟨by omega,rfl,fun i h1 h2=>by
              by_cases e:i=m
              · subst e; rw [hx]; exact hne
              · exact hno i (by omega) h2⟩,St.next hs ⟨(show some (I _)=some (I _) by congr 2; omega),rfl,rfl,rfl,trivial⟩ rfl⟩
      · try simp only [decide_eq_true_eq,decide_eq_false_iff_not,Bool.not_eq_true',Bool.not_eq_false',Bool.and_eq_true,Bool.or_eq_true,Bool.or_eq_false_iff] at hc
        obtain rfl:n=0:=by omega
        refine wp_exit (then_e (then_e (blk_hit (then_n (wp_seq (wp_reg ?_))))))
        refine s_q hs (c_move (hs.ev rfl)) rfl fun ac hs=>?_
        refine s_q hs (c_nil (hs.ev rfl)) rfl fun ac hs=>?_
        refine s_q hs (c_fld fl72_0 (hs.ev rfl)) rfl fun ac hs=>?_
        refine s_q hs (c_loadS un69 rfl (hs.ev rfl) (hs.old hR.hg (fun h=>h)) rfl) rfl fun ac hs=>?_
        refine s_q hs (c_move (hs.ev rfl)) rfl fun ac hs=>?_
        refine s_q hs (c_idxS (j:=jn) un69 ty29 (hs.ev rfl) (hs.ev rfl) rfl (by omega)) rfl fun ac hs=>?_
        refine s_q hs (c_loadA ty29 rfl (hs.ev rfl) (hs.old hR.hx (fun h=>h)) sec_cells (by simp [sec_len hok.xl hjn])) rfl fun ac hs=>?_
        refine s_storeW (i:=0) hs ty29 rfl rfl rfl (by simp [sec_len hok.xl hjn]) (all64 _) (by rfl) fun ww hs=>?_
        refine s_q hs (c_assign (hs.ev rfl)) rfl fun ac hs=>?_
        refine s_end ?_
        replace hs:=hs.sub (F':=[(4,_),(5,_)]) ⟨rfl,rfl,trivial⟩
        refine then_n (wp_ret ?_)
        refine s_ret hs rfl (.cell (hs.tmp rfl) (run_loadA ty29 rfl (hs.seg (i:=0) rfl) (List.take_of_length_le (by simp [sec_len hok.xl hjn])) (by simp [sec_len hok.xl hjn])) (.tmp (hs.tmp rfl) .nil)) rfl ⟨_,rfl,hs.fr,?_⟩
        rw [show s.read jn=(sec s.xs jn,0) from (if_neg hd).trans ((if_neg hj).trans (by rw [show (jn:Int).toNat=jn from rfl,ofW_miss (fun i h=>hno i (Nat.zero_le _) h)]))]
        rfl
theorem sl_New (n:Int) (w:World) :Ctr Try.prog 9 [I n] w (fun _=>False) (fun v w'=>if 1≤n∧n≤4096 then ∃ g sb,v=.tuple #[.pointer (some ⟨g,0,none⟩),I 0]∧Has w.heap.size w' (sl g sb (.slice none 0 0) (newS n.toNat)) else v=.tuple #[.pointer none,I 1]):=by
  refine fn_start (N:=14) Try.func9 rfl rfl rfl fun ac hk=>?_
  have hs:=St.start hk w
  refine wp_seq (wp_reg ?_)
  refine s_q hs (c_assign (hs.ev rfl)) rfl fun ac hs=>?_
  refine s_q hs (c_assign (hs.ev rfl)) rfl fun ac hs=>?_
  refine s_end (then_n (wp_seq (wp_seq (wp_reg ?_))))
  refine s_q hs (c_move (hs.ev rfl)) rfl fun ac hs=>?_
  refine s_q hs (c_lssI (hs.ev rfl) (hs.ev rfl)) rfl fun ac hs=>?_
  refine s_q hs (c_move (hs.ev rfl)) rfl fun ac hs=>?_
  refine s_g hs rfl rfl (fun hg=>c_move (hs.ev rfl)) rfl fun ac hs=>?_
  refine s_g hs rfl rfl (fun hg=>c_gtrI (gev (hs.ev rfl) hg) (hs.ev rfl)) rfl fun ac hs=>?_
  refine s_q hs (c_or (hs.ev rfl) (hs.ev rfl)) rfl fun ac hs=>?_
  refine s_end ?_
  replace hs:=hs.sub (F':=[(0,_),(2,_),(3,_),(9,_)]) ⟨rfl,rfl,rfl,rfl,trivial⟩
  refine then_n ?_
  refine s_cond hs rfl (fun hc=>?_) (fun hc=>?_)
  · skip
    have hn:¬ (1≤n∧n≤4096):=by
      simp at hc
      omega
    refine wp_seq (wp_reg ?_)
    refine s_q hs (c_assign (hs.ev rfl)) rfl fun ac hs=>?_
    refine s_q hs (c_assign (hs.ev rfl)) rfl fun ac hs=>?_
    refine s_end ?_
    replace hs:=hs.sub (F':=[(0,_),(2,_),(3,_)]) ⟨rfl,rfl,rfl,trivial⟩
    refine then_n (wp_ret (then_r ?_))
    refine s_ret hs rfl (.tmp (hs.tmp rfl) (.tmp (hs.tmp rfl) .nil)) rfl ⟨_,rfl,hs.fr,?_⟩
    rw [if_neg hn]
    rfl
  · skip
    have hn:1≤n∧n≤4096:=by
      simp at hc
      omega
    obtain ⟨m,rfl⟩:∃ m:Nat,n=m:=⟨n.toNat,by omega⟩
    refine wp_skip (then_n (wp_seq (wp_reg ?_)))
    refine s_q hs (c_move (hs.ev rfl)) rfl fun ac hs=>?_
    refine s_make (n:=m) hs un69 ty29 rfl rfl rfl rfl (by omega) (by unfold maxLen; omega) rfl fun ac ww g11 hs=>?_
    rw [flatZ] at hs
    refine s_q hs (c_buildQ (zc:=[.slice (some ⟨g11,0,none⟩) m m,.slice none 0 0,I (-1),.bool false,I 0]) ty72 bp72 (.cons (hs.ev rfl) (.cons (hs.ev rfl) .nil)) rfl) rfl fun ac hs=>?_
    refine s_box hs rfl rfl rfl fun ac ww g13 hs=>?_
    refine s_q hs (c_assign (hs.ev rfl)) rfl fun ac hs=>?_
    refine s_q hs (c_assign (hs.ev rfl)) rfl fun ac hs=>?_
    refine s_end ?_
    replace hs:=hs.sub (F':=[(2,_),(3,_)]) ⟨rfl,rfl,trivial⟩
    refine then_n (wp_ret ?_)
    replace hs:=(hs.nilrow 74 65).perm (L':=[_,_,_]) (List.perm_append_comm (l₁:=[_,_]) (l₂:=[_]))
    refine s_ret hs rfl (.tmp (hs.tmp rfl) (.tmp (hs.tmp rfl) .nil)) rfl ⟨_,rfl,hs.fr,?_⟩
    rw [if_pos hn]
    exact ⟨g13,g11,rfl,hs.made⟩
end Go.Proofs.Ytkecdcmjkghddaa
end

section
/- The diary's sectors. -/
namespace Go.Proofs.Ytkecdcmjkghddaa
open Go Go.Fw
theorem set4 {l:List UInt8} {o:Nat} {a b c d:UInt8} (h:o + 4≤l.length):(((l.set (o + 0 * 1) a).set (o + 1 * 1) b).set (o + 2 * 1) c).set (o + 3 * 1) d=l.take o++[a,b,c,d]++l.drop (o + 4):=by
  obtain ⟨A,D,hl,hA⟩:∃ A D,l=A++D∧A.length=o:=⟨l.take o,l.drop o,(List.take_append_drop o l).symm,by rw [List.length_take]; omega⟩
  subst hl hA
  rw [List.length_append] at h
  match D,(show 4≤D.length by omega) with
  | [],h=>simp at h
  | [_],h=>simp at h
  | [_,_],h=>simp at h
  | [_,_,_],h=>simp at h
  | b0::b1::b2::b3::C,_ =>
    rw [List.take_left,← List.drop_drop,List.drop_left]
    rw [List.set_append_right _ _ (by omega),List.set_append_right _ _ (by omega),List.set_append_right _ _ (by omega),List.set_append_right _ _ (by omega)]
    rw [show A.length + 0 * 1 - A.length=0 by omega,show A.length + 1 * 1 - A.length=1 by omega,show A.length + 2 * 1 - A.length=2 by omega,show A.length + 3 * 1 - A.length=3 by omega]
    simp
theorem map_setB {l:List UInt8} {i:Nat} (x:UInt8) (hi:i < l.length):(l.map B).take i++[B x]++(l.map B).drop (i + 1)=(l.set i x).map B:=by
  have:=map_set (f:=B) x hi
  simpa using this
theorem di_put32 (b o n cap:Nat) (T:TypeId) (l:List UInt8) (g:UInt32) (hn:4≤n) (hfit:o + 4≤l.length) (w:World) (hb:w.heap[b]?=some (.cells (l.map B).toArray T (0,0))):Ctr Try.prog 54 [.slice (some ⟨b,o,none⟩) n cap,U g] w (fun k=>k=b) (fun v w'=>v=.tuple #[]∧w'.heap[b]?=some (.cells ((l.take o++be4 g++l.drop (o + 4)).map B).toArray T (0,0))):=by
  refine fn_start (N:=23) Try.func54 rfl rfl rfl fun ac hk=>?_
  have hs:=St.own1 hk hb
  refine wp_reg ?_
  refine s_q hs (c_move (hs.ev rfl)) rfl fun ac hs=>?_
  refine s_q hs (c_move (hs.ev rfl)) rfl fun ac hs=>?_
  refine s_q hs (c_move (hs.ev rfl)) rfl fun ac hs=>?_
  refine s_q hs (c_move (hs.ev rfl)) rfl fun ac hs=>?_
  refine s_q hs (c_move (hs.ev rfl)) rfl fun ac hs=>?_
  refine s_q hs (c_shrU (hs.ev rfl) (hs.ev rfl) (by decide)) rfl fun ac hs=>?_
  refine s_q hs (c_cvUB un53 un5 (hs.ev rfl)) rfl fun ac hs=>?_
  refine s_q hs (c_move (hs.ev rfl)) rfl fun ac hs=>?_
  refine s_q hs (c_shrU (hs.ev rfl) (hs.ev rfl) (by decide)) rfl fun ac hs=>?_
  refine s_q hs (c_cvUB un53 un5 (hs.ev rfl)) rfl fun ac hs=>?_
  refine s_q hs (c_move (hs.ev rfl)) rfl fun ac hs=>?_
  refine s_q hs (c_shrU (hs.ev rfl) (hs.ev rfl) (by decide)) rfl fun ac hs=>?_
  refine s_q hs (c_cvUB un53 un5 (hs.ev rfl)) rfl fun ac hs=>?_
  refine s_q hs (c_move (hs.ev rfl)) rfl fun ac hs=>?_
  refine s_q hs (c_cvUB un53 un5 (hs.ev rfl)) rfl fun ac hs=>?_
  refine s_q hs (c_idxS (j:=0) un38 ty5 (hs.ev rfl) (hs.ev rfl) rfl (by omega)) rfl fun ac hs=>?_
  refine s_store (i:=0) hs ty5 rfl rfl rfl rfl rfl rfl (by simp; omega) (map_setB _ (by simp; omega)) fun ww hs=>?_
  refine s_q hs (c_idxS (j:=1) un38 ty5 (hs.ev rfl) (hs.ev rfl) rfl (by omega)) rfl fun ac hs=>?_
  refine s_store (i:=0) hs ty5 rfl rfl rfl rfl rfl rfl (by simp; omega) (map_setB _ (by simp; omega)) fun ww hs=>?_
  refine s_q hs (c_idxS (j:=2) un38 ty5 (hs.ev rfl) (hs.ev rfl) rfl (by omega)) rfl fun ac hs=>?_
  refine s_store (i:=0) hs ty5 rfl rfl rfl rfl rfl rfl (by simp; omega) (map_setB _ (by simp; omega)) fun ww hs=>?_
  refine s_q hs (c_idxS (j:=3) un38 ty5 (hs.ev rfl) (hs.ev rfl) rfl (by omega)) rfl fun ac hs=>?_
  refine s_store (i:=0) hs ty5 rfl rfl rfl rfl rfl rfl (by simp; omega) (map_setB _ (by simp; omega)) fun ww hs=>?_
  refine s_end ?_
  replace hs:=hs.sub (F':=[]) trivial
  refine s_ret_end hs rfl .nil rfl ⟨_,rfl,hs.fr,?_⟩
  refine ⟨rfl,?_⟩
  have h9:=hs.seg (i:=0) rfl
  rw [set4 hfit] at h9
  exact h9
theorem di_sum (l:List UInt8) (hl:l.length=64) (w:World) :Ctr Try.prog 53 [.agg (l.map B).toArray] w (fun _=>False) (fun v _=>v=W16 (sumL (l.take 58))):=by
  refine fn_start (N:=18) Try.func53 rfl rfl rfl fun ac hk=>?_
  have hs:=St.start hk w
  refine wp_seq (wp_reg ?_)
  refine s_box hs rfl rfl rfl fun ac ww g1 hs=>?_
  refine s_q hs (c_assign (hs.ev rfl)) rfl fun ac hs=>?_
  refine s_end ?_
  replace hs:=hs.sub (F':=[(1,_),(2,_)]) ⟨rfl,rfl,trivial⟩
  refine then_n (wp_seq (wp_reg ?_))
  refine s_q hs (c_assign (hs.ev rfl)) rfl fun ac hs=>?_
  refine s_end (then_n (wp_seq (wp_seq (wp_reg ?_))))
  refine s_q hs (c_sliceAH (j:=58) un29 ty5 (hs.ev rfl) (hs.ev rfl) rfl (by decide)) rfl fun ac hs=>?_
  refine s_q hs (c_lenS un38 (hs.ev rfl)) rfl fun ac hs=>?_
  refine s_q hs (c_move (hs.ev rfl)) rfl fun ac hs=>?_
  refine s_end ?_
  replace hs:=hs.sub (F':=[(2,_),(3,_),(6,_),(7,_),(8,_)]) ⟨rfl,rfl,rfl,rfl,rfl,trivial⟩
  refine then_n (wp_block ?_)
  refine s_loop hs (X:=Nat) (fun k=>[(8,I k),(3,W16 (sumL (l.take k)))]) [(2,_),(6,_),(7,_)] (fun k=>[.seg g1 (l.map B) 29]) (fun n k=>k≤58∧n=58 - k) (_) (0) (⟨Nat.zero_le _,rfl⟩) ⟨rfl,rfl,rfl,rfl,rfl,trivial⟩ rfl ?_
  rintro n k ac ww hok2 hs
  simp only [List.cons_append,List.nil_append] at hs
  obtain ⟨hk,rfl⟩:=hok2
  refine wp_seq (wp_reg ?_)
  refine s_q hs (c_lssI (hs.ev rfl) (hs.ev rfl)) rfl fun ac hs=>?_
  refine s_end (then_n (wp_seq ?_))
  refine s_cond hs rfl (fun hc=>?_) (fun hc=>?_)
  · try simp only [decide_eq_true_eq,decide_eq_false_iff_not,Bool.not_eq_true',Bool.not_eq_false',Bool.and_eq_true,Bool.or_eq_true,Bool.or_eq_false_iff] at hc
    have hk58:k < 58:=by omega
    refine wp_skip (then_n (wp_seq (wp_block (wp_seq (wp_reg ?_)))))
    refine s_q hs (c_idxS (j:=k) un38 ty5 (hs.ev rfl) (hs.ev rfl) (by omega) (by omega)) rfl fun ac hs=>?_
    refine s_q hs (c_loadS un5 rfl (hs.ev rfl) (hs.seg (i:=0) rfl) (map_get (f:=B) (0:UInt8) (by omega))) rfl fun ac hs=>?_
    refine s_q hs (c_assign (hs.ev rfl)) rfl fun ac hs=>?_
    refine s_end (then_n (wp_reg ?_))
    refine s_q hs (c_move (hs.ev rfl)) rfl fun ac hs=>?_
    refine s_q hs (c_move (hs.ev rfl)) rfl fun ac hs=>?_
    refine s_q hs (c_cvBW un5 un100 (hs.ev rfl)) rfl fun ac hs=>?_
    refine s_q hs (c_addW (hs.ev rfl) (hs.ev rfl)) rfl fun ac hs=>?_
    refine s_q hs (c_assign (hs.ev rfl)) rfl fun ac hs=>?_
    refine s_end (blk_n (then_n (wp_reg ?_)))
    refine s_q hs (c_addI (hs.ev rfl) (hs.ev rfl) (by omega) (by omega)) rfl fun ac hs=>?_
    refine s_q hs (c_move (hs.ev rfl)) rfl fun ac hs=>?_
    refine s_end (then_n ?_)
    exact ⟨58 - (k + 1),by omega,k + 1,⟨by omega,rfl⟩,St.next hs ⟨rfl,(by rw [sumL_succ (by omega)]; rfl),rfl,rfl,rfl,trivial⟩ rfl⟩
  · try simp only [decide_eq_true_eq,decide_eq_false_iff_not,Bool.not_eq_true',Bool.not_eq_false',Bool.and_eq_true,Bool.or_eq_true,Bool.or_eq_false_iff] at hc
    obtain rfl:k=58:=by omega
    refine wp_exit (then_e (then_e (blk_hit (then_n (wp_seq (wp_reg ?_))))))
    refine s_q hs (c_move (hs.ev rfl)) rfl fun ac hs=>?_
    refine s_q hs (c_assign (hs.ev rfl)) rfl fun ac hs=>?_
    refine s_end ?_
    replace hs:=hs.sub (F':=[(2,_)]) ⟨rfl,trivial⟩
    refine then_n (wp_ret ?_)
    refine s_ret hs rfl (.tmp (hs.tmp rfl) .nil) rfl ⟨_,rfl,hs.fr,?_⟩
    rfl
theorem lay_cp {g:UInt32} {place:Int} {fl:UInt8} {p:List UInt8} (h:p.length≤50):((be4 g++[i8 (place / 2 ^ 8),i8 place,fl,i8 (p.length:Int)]++List.replicate 56 (0:UInt8)).take 8++p++(be4 g++[i8 (place / 2 ^ 8),i8 place,fl,i8 (p.length:Int)]++List.replicate 56 (0:UInt8)).drop (8 + p.length))=layB g place fl p++List.replicate 6 (0:UInt8):=by
  have h1:(be4 g++[i8 (place / 2 ^ 8),i8 place,fl,i8 (p.length:Int)]++List.replicate 56 (0:UInt8)).take 8=be4 g++[i8 (place / 2 ^ 8),i8 place,fl,i8 (p.length:Int)]:=List.take_left' (by simp [be4])
  have h2:(be4 g++[i8 (place / 2 ^ 8),i8 place,fl,i8 (p.length:Int)]++List.replicate 56 (0:UInt8)).drop (8 + p.length)=List.replicate (56 - p.length) 0:=by
    rw [← List.drop_drop,List.drop_left' (by simp [be4]),List.drop_replicate]
  rw [h1,h2,layB,List.append_assoc (_++p),List.replicate_append_replicate,show 50 - p.length + 6=56 - p.length by omega]
theorem lay_s1 {b:List UInt8} {x:UInt8} (h:b.length=58):((b++List.replicate 6 (0:UInt8)).map B).take (0 + 58 * 1)++[B x]++((b++List.replicate 6 (0:UInt8)).map B).drop (0 + 58 * 1 + 1)=(b++x::List.replicate 5 (0:UInt8)).map B:=by
  rw [← List.map_take,← List.map_drop,List.take_left' (by omega),show 0 + 58 * 1 + 1=58 + 1 by rfl,← List.drop_drop,List.drop_left' h]
  simp
theorem lay_s2 {b:List UInt8} {x y:UInt8} (h:b.length=58):((b++x::List.replicate 5 (0:UInt8)).map B).take (0 + 59 * 1)++[B y]++((b++x::List.replicate 5 (0:UInt8)).map B).drop (0 + 59 * 1 + 1)=(b++[x,y]++List.replicate 4 (0:UInt8)).map B:=by
  have e:b++x::List.replicate 5 (0:UInt8)=(b++[x])++List.replicate 5 (0:UInt8):=by simp
  rw [← List.map_take,← List.map_drop,e,List.take_left' (by simp [h]),show 0 + 59 * 1 + 1=59 + 1 by rfl,← List.drop_drop,List.drop_left' (by simp [h])]
  simp
theorem lay_s3 {b c:List UInt8} {x y:UInt8} (h:b.length=58) (hc:c.length=4):((b++[x,y]++List.replicate 4 (0:UInt8)).take (0 + 60)++c++(b++[x,y]++List.replicate 4 (0:UInt8)).drop (0 + 60 + 4))=b++[x,y]++c:=by
  rw [List.take_left' (by simp [h]),List.drop_of_length_le (by simp [h]),List.append_nil]
theorem di_lay (g:UInt32) (place:Int) (fl:UInt8) (p:List UInt8) (v:Value) (hpl:p.length≤50) (w:World) (hR:RdB w v p):Ctr Try.prog 52 [U g,I place,B fl,v] w (fun _=>False) (fun v2 _=>v2=.agg ((lay g place fl p).map B).toArray):=by
  have hnl:=hR.le
  obtain ⟨vad,vcap,rfl,hvc,hvm⟩:=Rd.sl hR
  refine fn_start (N:=43) Try.func52 rfl rfl rfl fun ac hk=>?_
  have hs:=St.start hk w
  refine wp_seq (wp_reg ?_)
  refine s_alloc hs ty29 rfl fun ac ww g8 hs=>?_
  refine s_end (then_n (wp_seq (wp_reg ?_)))
  refine s_alloc hs ty29 rfl fun ac ww g9 hs=>?_
  refine s_end (then_n (wp_seq (wp_reg ?_)))
  refine s_q hs (c_sliceA un29 ty5 (hs.ev rfl)) rfl fun ac hs=>?_
  refine s_q hs (c_move (hs.ev rfl)) rfl fun ac hs=>?_
  refine s_callM (i:=0) hs fu54 (.cons (hs.ev rfl) (.cons (hs.ev rfl) .nil)) rfl (di_put32 g9 0 64 64 29 zero64 g (by decide) (by decide) _ (hs.seg (i:=0) rfl)) rfl fun ac ww v13 hf hp hs=>?_
  obtain ⟨rfl,hb'⟩:=hp
  replace hs:=hs (.seg g9 ((be4 g++List.replicate 60 (0:UInt8)).map B) 29) hb' (fun k hk=>⟨.inl hk,by obtain rfl:k=g9:=hk; exact heap_lt hb'⟩)
  refine s_end ?_
  replace hs:=hs.sub (F':=[(0,_),(1,_),(2,_),(3,_),(8,_),(9,_)]) ⟨rfl,rfl,rfl,rfl,rfl,rfl,trivial⟩
  refine then_n (wp_seq (wp_reg ?_))
  refine s_q hs (c_move (hs.ev rfl)) rfl fun ac hs=>?_
  refine s_q hs (c_shrI (hs.ev rfl) (hs.ev rfl) (by decide)) rfl fun ac hs=>?_
  refine s_q hs (c_cvIB un3 un5 (hs.ev rfl)) rfl fun ac hs=>?_
  refine s_q hs (c_move (hs.ev rfl)) rfl fun ac hs=>?_
  refine s_q hs (c_cvIB un3 un5 (hs.ev rfl)) rfl fun ac hs=>?_
  refine s_q hs (c_move (hs.ev rfl)) rfl fun ac hs=>?_
  refine s_q hs (c_move (hs.ev rfl)) rfl fun ac hs=>?_
  refine s_q hs (c_lenS un38 (hs.ev rfl)) rfl fun ac hs=>?_
  refine s_q hs (c_cvIB un3 un5 (hs.ev rfl)) rfl fun ac hs=>?_
  refine s_q hs (c_idxA un29 ty5 (hs.ev rfl) (hs.ev rfl) rfl (by decide)) rfl fun ac hs=>?_
  refine s_store (i:=0) hs ty5 rfl rfl rfl rfl rfl rfl (by simp [layB_len hpl,be4]) (show _=(be4 g++[i8 (place / 2 ^ 8)]++List.replicate 59 (0:UInt8)).map B from rfl) fun ww hs=>?_
  refine s_q hs (c_idxA un29 ty5 (hs.ev rfl) (hs.ev rfl) rfl (by decide)) rfl fun ac hs=>?_
  refine s_store (i:=0) hs ty5 rfl rfl rfl rfl rfl rfl (by simp [layB_len hpl,be4]) (show _=(be4 g++[i8 (place / 2 ^ 8),i8 place]++List.replicate 58 (0:UInt8)).map B from rfl) fun ww hs=>?_
  refine s_q hs (c_idxA un29 ty5 (hs.ev rfl) (hs.ev rfl) rfl (by decide)) rfl fun ac hs=>?_
  refine s_store (i:=0) hs ty5 rfl rfl rfl rfl rfl rfl (by simp [layB_len hpl,be4]) (show _=(be4 g++[i8 (place / 2 ^ 8),i8 place,fl]++List.replicate 57 (0:UInt8)).map B from rfl) fun ww hs=>?_
  refine s_q hs (c_idxA un29 ty5 (hs.ev rfl) (hs.ev rfl) rfl (by decide)) rfl fun ac hs=>?_
  refine s_store (i:=0) hs ty5 rfl rfl rfl rfl rfl rfl (by simp [layB_len hpl,be4]) (show _=(be4 g++[i8 (place / 2 ^ 8),i8 place,fl,i8 (p.length:Int)]++List.replicate 56 (0:UInt8)).map B from rfl) fun ww hs=>?_
  refine s_end ?_
  replace hs:=hs.sub (F':=[(0,_),(3,_),(8,_),(9,_)]) ⟨rfl,rfl,rfl,rfl,trivial⟩
  refine then_n (wp_seq (wp_reg ?_))
  refine s_q hs (c_sliceAL (i:=8) un29 ty5 (hs.ev rfl) (hs.ev rfl) rfl (by decide)) rfl fun ac hs=>?_
  refine s_q hs (c_move (hs.ev rfl)) rfl fun ac hs=>?_
  refine s_copyTo (i:=0) hs un38 ty5 rfl rfl rfl (hR.fr0 hs.fr) (by omega) (by simp [be4]) rfl fun ac ww hs=>?_
  rw [show 0 + 8=8 from rfl,lay_cp hpl] at hs
  have hl58:=layB_len (g:=g) (place:=place) (fl:=fl) hpl
  refine s_end ?_
  replace hs:=hs.sub (F':=[(0,_),(8,_),(9,_)]) ⟨rfl,rfl,rfl,trivial⟩
  refine then_n (wp_seq (wp_reg ?_))
  refine s_q hs (c_loadW ty29 rfl (hs.ev rfl) (hs.seg (i:=0) rfl) (by simp [hl58])) rfl fun ac hs=>?_
  refine s_call hs fu53 (.cons (hs.ev rfl) .nil) (di_sum _ (by simp [hl58]) _) rfl fun ac ww v31 hf hp hs=>?_
  rw [show (layB g place fl p++List.replicate 6 (0:UInt8)).take 58=layB g place fl p from List.take_left' hl58] at hp
  obtain rfl:=hp
  replace hs:=hs [] (.nil _ _)
  refine s_q hs (c_assign (hs.ev rfl)) rfl fun ac hs=>?_
  refine s_end ?_
  replace hs:=hs.sub (F':=[(0,_),(8,_),(9,_),(10,_)]) ⟨rfl,rfl,rfl,rfl,trivial⟩
  refine then_n (wp_seq (wp_reg ?_))
  refine s_q hs (c_move (hs.ev rfl)) rfl fun ac hs=>?_
  refine s_q hs (c_shrW (n:=8) (hs.ev rfl) (hs.ev rfl) (by decide)) rfl fun ac hs=>?_
  refine s_q hs (c_cvWB un100 un5 (hs.ev rfl)) rfl fun ac hs=>?_
  refine s_q hs (c_move (hs.ev rfl)) rfl fun ac hs=>?_
  refine s_q hs (c_cvWB un100 un5 (hs.ev rfl)) rfl fun ac hs=>?_
  refine s_q hs (c_idxA un29 ty5 (hs.ev rfl) (hs.ev rfl) rfl (by decide)) rfl fun ac hs=>?_
  refine s_store (i:=0) hs ty5 rfl rfl rfl rfl rfl rfl (by simp [hl58]) (lay_s1 hl58) fun ww hs=>?_
  refine s_q hs (c_idxA un29 ty5 (hs.ev rfl) (hs.ev rfl) rfl (by decide)) rfl fun ac hs=>?_
  refine s_store (i:=0) hs ty5 rfl rfl rfl rfl rfl rfl (by simp [hl58]) (lay_s2 hl58) fun ww hs=>?_
  refine s_end ?_
  replace hs:=hs.sub (F':=[(0,_),(8,_),(9,_)]) ⟨rfl,rfl,rfl,trivial⟩
  refine then_n (wp_seq (wp_reg ?_))
  refine s_q hs (c_sliceAL (i:=60) un29 ty5 (hs.ev rfl) (hs.ev rfl) rfl (by decide)) rfl fun ac hs=>?_
  refine s_q hs (c_move (hs.ev rfl)) rfl fun ac hs=>?_
  refine s_callM (i:=0) hs fu54 (.cons (hs.ev rfl) (.cons (hs.ev rfl) .nil)) rfl (di_put32 g9 (0 + 60) (64 - 60) (64 - 60) 29 _ g (by decide) (by simp [hl58]) _ (hs.seg (i:=0) rfl)) rfl fun ac ww v41 hf hp hs=>?_
  obtain ⟨rfl,hb'⟩:=hp
  rw [lay_s3 hl58 (by rfl)] at hb'
  replace hs:=hs (.seg g9 ((lay g place fl p).map B) 29) hb' (fun k hk=>⟨.inl hk,by obtain rfl:k=g9:=hk; exact heap_lt hb'⟩)
  have hl64:=lay_len (g:=g) (place:=place) (fl:=fl) hpl
  refine s_end ?_
  replace hs:=hs.sub (F':=[(8,_),(9,_)]) ⟨rfl,rfl,trivial⟩
  refine then_n (wp_seq (wp_reg ?_))
  refine s_q hs (c_loadW ty29 rfl (hs.ev rfl) (hs.seg (i:=0) rfl) (by simp [hl64])) rfl fun ac hs=>?_
  refine s_storeW (i:=1) hs ty29 rfl rfl rfl (by simp [hl64]) (all64 _) (by rfl) fun ww hs=>?_
  refine s_end ?_
  replace hs:=hs.sub (F':=[(8,_)]) ⟨rfl,trivial⟩
  refine then_n (wp_ret ?_)
  refine s_ret hs rfl (.cell (hs.tmp rfl) (run_loadA ty29 rfl (hs.seg (i:=1) rfl) (List.take_of_length_le (by simp [hl64])) (by simp [hl64])) .nil) rfl ⟨_,rfl,hs.fr,?_⟩
  rfl
end Go.Proofs.Ytkecdcmjkghddaa
end

section
/- The diary: halves,the sectors of a record. -/
namespace Go.Proofs.Ytkecdcmjkghddaa
open Go Go.Fw
theorem odd01 (g:UInt32):(g % 2).toNat=0∨(g % 2).toNat=1:=by
  have:(g % 2).toNat=g.toNat % 2:=by rw [UInt32.toNat_mod]; rfl
  omega
theorem RdB.mid0 {w:World} {ad:Option Addr} {cap j:Nat} {l:List UInt8} (h:RdB w (.slice ad l.length cap) l) (hj:j≤l.length):RdB w (.slice (if cap=0 then ad else ad.map (·.add 0)) j cap) (l.take j):=h.mid (i:=0) (Nat.zero_le _) hj
theorem lay_cells {g:UInt32} {place:Int} {fl:UInt8} {p:List UInt8} (h:p.length≤50):(Value.agg ((lay g place fl p).map B).toArray).cells.size=64:=by
  show ((lay g place fl p).map B).toArray.size=64
  rw [List.size_toArray,List.length_map,lay_len h]
def diC (g:Nat) (gen:UInt32) (nx:Nat):List Value:=[.pointer (some ⟨g,0,none⟩),U gen,I nx]
theorem di_half (g sb:Nat) (qv:Value) (s:Sl) (gen:UInt32) (hn1:s.n≤4096) (w:World) (hR:SlR w g sb qv s):Ctr Try.prog 44 [.pointer (some ⟨g,0,none⟩),U gen] w (fun _=>False) (fun v _=>v=.tuple #[I (half s.n gen:Nat),I (s.n / 2:Nat)]):=by
  refine fn_start (N:=15) Try.func44 rfl rfl rfl fun ac hk=>?_
  have hs:=St.start hk w
  refine wp_seq (wp_reg ?_)
  refine s_q hs (c_assign (hs.ev rfl)) rfl fun ac hs=>?_
  refine s_q hs (c_assign (hs.ev rfl)) rfl fun ac hs=>?_
  refine s_end (then_n (wp_seq (wp_reg ?_)))
  refine s_q hs (c_move (hs.ev rfl)) rfl fun ac hs=>?_
  refine s_call hs fu20 (.cons (hs.ev rfl) .nil) (sl_Sectors g sb qv s _ (hR.fr0 hs.fr)) rfl fun ac ww v7 hf hp hs=>?_
  obtain rfl:=hp
  replace hs:=hs [] (.nil _ _)
  have hg:=odd01 gen
  refine s_q hs (c_to (c_quoI (hs.ev rfl) (hs.ev rfl) (by omega) (by omega) (by omega)) ((congrArg I (show ((s.n:Int) / 2)=((s.n / 2:Nat):Int) by omega)))) rfl fun ac hs=>?_
  refine s_q hs (c_assign (hs.ev rfl)) rfl fun ac hs=>?_
  refine s_end ?_
  replace hs:=hs.sub (F':=[(1,_),(4,_),(5,_)]) ⟨rfl,rfl,rfl,trivial⟩
  refine then_n (wp_seq (wp_reg ?_))
  refine s_q hs (c_move (hs.ev rfl)) rfl fun ac hs=>?_
  refine s_q hs (c_remU (hs.ev rfl) (St.ev (v:=U 2) hs rfl) (by decide)) rfl fun ac hs=>?_
  refine s_q hs (c_cvUI un53 un3 (hs.ev rfl)) rfl fun ac hs=>?_
  refine s_q hs (c_move (hs.ev rfl)) rfl fun ac hs=>?_
  refine s_q hs (c_to (c_mulI (hs.ev rfl) (hs.ev rfl) (by rcases hg with h9 | h9 <;> rw [h9] <;> omega) (by rcases hg with h9 | h9 <;> rw [h9] <;> omega)) ((congrArg I (Int.natCast_mul _ _).symm))) rfl fun ac hs=>?_
  refine s_q hs (c_move (hs.ev rfl)) rfl fun ac hs=>?_
  refine s_q hs (c_assign (hs.ev rfl)) rfl fun ac hs=>?_
  refine s_q hs (c_assign (hs.ev rfl)) rfl fun ac hs=>?_
  refine s_end ?_
  replace hs:=hs.sub (F':=[(4,_),(5,_)]) ⟨rfl,rfl,trivial⟩
  refine then_n (wp_ret ?_)
  refine s_ret hs rfl (.tmp (hs.tmp rfl) (.tmp (hs.tmp rfl) .nil)) rfl ⟨_,rfl,hs.fr,?_⟩
  rfl
theorem di_Need (n:Int) (h1:n≤9000000000000000000) (w:World) :Ctr Try.prog 34 [I n] w (fun _=>False) (fun v _=>v=I (need n.toNat:Nat)):=by
  refine fn_start (N:=9) Try.func34 rfl rfl rfl fun ac hk=>?_
  have hs:=St.start hk w
  refine wp_seq (wp_reg ?_)
  refine s_q hs (c_assign (hs.ev rfl)) rfl fun ac hs=>?_
  refine s_end (then_n (wp_seq (wp_reg ?_)))
  refine s_q hs (c_move (hs.ev rfl)) rfl fun ac hs=>?_
  refine s_q hs (c_max (hs.ev rfl) (hs.ev rfl)) rfl fun ac hs=>?_
  refine s_q hs (c_addI (hs.ev rfl) (hs.ev rfl) (by omega) (by omega)) rfl fun ac hs=>?_
  refine s_q hs (c_subI (hs.ev rfl) (hs.ev rfl) (by omega) (by omega)) rfl fun ac hs=>?_
  refine s_q hs (c_quoI (hs.ev rfl) (hs.ev rfl) (by omega) (by omega) (by omega)) rfl fun ac hs=>?_
  refine s_q hs (c_to (c_max (hs.ev rfl) (hs.ev rfl)) ((congrArg I (show max (1:Int) ((max n 0 + 50 - 1) / 50)=((need n.toNat:Nat):Int) by unfold need; omega)))) rfl fun ac hs=>?_
  refine s_q hs (c_assign (hs.ev rfl)) rfl fun ac hs=>?_
  refine s_end ?_
  replace hs:=hs.sub (F':=[(2,_)]) ⟨rfl,trivial⟩
  refine then_n (wp_ret ?_)
  refine s_ret hs rfl (.tmp (hs.tmp rfl) .nil) rfl ⟨_,rfl,hs.fr,?_⟩
  rfl
theorem ref15_Need (n:Int) (h0:0 < n) (h1:n≤9000000000000000000) (w:World) :Ctr Try.prog 32 [I n] w (fun _=>False) (fun v _=>v=I (need n.toNat:Nat)):=by
  refine fn_start (N:=13) Try.func32 rfl rfl rfl fun ac hk=>?_
  have hs:=St.start hk w
  refine wp_seq (wp_reg ?_)
  refine s_q hs (c_assign (hs.ev rfl)) rfl fun ac hs=>?_
  refine s_end (then_n (wp_seq (wp_seq (wp_reg ?_))))
  refine s_q hs (c_move (hs.ev rfl)) rfl fun ac hs=>?_
  refine s_q hs (c_leqI (hs.ev rfl) (hs.ev rfl)) rfl fun ac hs=>?_
  refine s_end ?_
  replace hs:=hs.sub (F':=[(0,_),(2,_),(4,_)]) ⟨rfl,rfl,rfl,trivial⟩
  refine then_n ?_
  refine s_cond hs rfl (fun hc=>?_) (fun hc=>?_)
  · try simp only [decide_eq_true_eq,decide_eq_false_iff_not,Bool.not_eq_true',Bool.not_eq_false',Bool.and_eq_true,Bool.or_eq_true,Bool.or_eq_false_iff] at hc
    refine wp_seq (wp_reg ?_)
    refine s_q hs (c_assign (hs.ev rfl)) rfl fun ac hs=>?_
    refine s_end ?_
    replace hs:=hs.sub (F':=[(0,_),(2,_)]) ⟨rfl,rfl,trivial⟩
    refine then_n (wp_ret (then_r ?_))
    refine s_ret hs rfl (.tmp (hs.tmp rfl) .nil) rfl ⟨_,rfl,hs.fr,?_⟩
    show I 1=_
    exact congrArg I (show (1:Int)=((need n.toNat:Nat):Int) by unfold need; omega)
  · try simp only [decide_eq_true_eq,decide_eq_false_iff_not,Bool.not_eq_true',Bool.not_eq_false',Bool.and_eq_true,Bool.or_eq_true,Bool.or_eq_false_iff] at hc
    refine wp_skip (then_n (wp_seq (wp_seq (wp_reg ?_))))
    refine s_q hs (c_move (hs.ev rfl)) rfl fun ac hs=>?_
    refine s_q hs (c_remI (hs.ev rfl) (hs.ev rfl) (by omega) (by omega)) rfl fun ac hs=>?_
    refine s_q hs (c_eqlI (hs.ev rfl) (hs.ev rfl)) rfl fun ac hs=>?_
    refine s_end ?_
    replace hs:=hs.sub (F':=[(0,_),(2,_),(7,_)]) ⟨rfl,rfl,rfl,trivial⟩
    refine then_n ?_
    refine s_cond hs rfl (fun hc=>?_) (fun hc=>?_)
    · try simp only [decide_eq_true_eq,decide_eq_false_iff_not,Bool.not_eq_true',Bool.not_eq_false',Bool.and_eq_true,Bool.or_eq_true,Bool.or_eq_false_iff] at hc
      refine wp_seq (wp_reg ?_)
      refine s_q hs (c_move (hs.ev rfl)) rfl fun ac hs=>?_
      refine s_q hs (c_quoI (hs.ev rfl) (hs.ev rfl) (by omega) (by omega) (by omega)) rfl fun ac hs=>?_
      refine s_q hs (c_assign (hs.ev rfl)) rfl fun ac hs=>?_
      refine s_end ?_
      replace hs:=hs.sub (F':=[(0,_),(2,_)]) ⟨rfl,rfl,trivial⟩
      refine then_n (wp_ret (then_r ?_))
      refine s_ret hs rfl (.tmp (hs.tmp rfl) .nil) rfl ⟨_,rfl,hs.fr,?_⟩
      exact congrArg I (show n / 50=((need n.toNat:Nat):Int) by unfold need; omega)
    · try simp only [decide_eq_true_eq,decide_eq_false_iff_not,Bool.not_eq_true',Bool.not_eq_false',Bool.and_eq_true,Bool.or_eq_true,Bool.or_eq_false_iff] at hc
      refine wp_skip (then_n (wp_seq (wp_reg ?_)))
      refine s_q hs (c_move (hs.ev rfl)) rfl fun ac hs=>?_
      refine s_q hs (c_quoI (hs.ev rfl) (hs.ev rfl) (by omega) (by omega) (by omega)) rfl fun ac hs=>?_
      refine s_q hs (c_addI (hs.ev rfl) (hs.ev rfl) (by omega) (by omega)) rfl fun ac hs=>?_
      refine s_q hs (c_assign (hs.ev rfl)) rfl fun ac hs=>?_
      refine s_end ?_
      replace hs:=hs.sub (F':=[(2,_)]) ⟨rfl,trivial⟩
      refine then_n (wp_ret ?_)
      refine s_ret hs rfl (.tmp (hs.tmp rfl) .nil) rfl ⟨_,rfl,hs.fr,?_⟩
      exact congrArg I (show n / 50 + 1=((need n.toNat:Nat):Int) by unfold need; omega)
theorem nil_Gen  (w:World) :Ctr Try.prog 33 [.pointer none] w (fun _=>False) (fun v _=>v=U 0):=by
  refine fn_start (N:=9) Try.func33 rfl rfl rfl fun ac hk=>?_
  have hs:=St.start hk w
  refine wp_seq (wp_reg ?_)
  refine s_q hs (c_assign (St.ev (v:=U 0) hs rfl)) rfl fun ac hs=>?_
  refine s_end (then_n (wp_seq (wp_seq (wp_reg ?_))))
  refine s_q hs (c_move (hs.ev rfl)) rfl fun ac hs=>?_
  refine s_q hs (c_eqlNil0 un56 (hs.ev rfl) (hs.ev rfl)) rfl fun ac hs=>?_
  refine s_end ?_
  replace hs:=hs.sub (F':=[(0,_),(2,_),(4,_)]) ⟨rfl,rfl,rfl,trivial⟩
  refine then_n ?_
  refine wp_cond_true (hs.ev rfl) ?_
  refine wp_seq (wp_reg ?_)
  refine s_q hs (c_assign (St.ev (v:=U 0) hs rfl)) rfl fun ac hs=>?_
  refine s_end ?_
  replace hs:=hs.sub (F':=[(0,_),(2,_)]) ⟨rfl,rfl,trivial⟩
  refine then_n (wp_ret (then_r ?_))
  refine s_ret hs rfl (.tmp (hs.tmp rfl) .nil) rfl ⟨_,rfl,hs.fr,?_⟩
  rfl
theorem nil_Free  (w:World) :Ctr Try.prog 29 [.pointer none] w (fun _=>False) (fun v _=>v=I 0):=by
  refine fn_start (N:=25) Try.func29 rfl rfl rfl fun ac hk=>?_
  have hs:=St.start hk w
  refine wp_seq (wp_reg ?_)
  refine s_q hs (c_assign (hs.ev rfl)) rfl fun ac hs=>?_
  refine s_end (then_n (wp_seq (wp_seq (wp_reg ?_))))
  refine s_q hs (c_move (hs.ev rfl)) rfl fun ac hs=>?_
  refine s_q hs (c_eqlNil0 un56 (hs.ev rfl) (hs.ev rfl)) rfl fun ac hs=>?_
  refine s_end ?_
  replace hs:=hs.sub (F':=[(0,_),(2,_),(6,_)]) ⟨rfl,rfl,rfl,trivial⟩
  refine then_n ?_
  refine wp_cond_true (hs.ev rfl) ?_
  refine wp_seq (wp_reg ?_)
  refine s_q hs (c_assign (hs.ev rfl)) rfl fun ac hs=>?_
  refine s_end ?_
  replace hs:=hs.sub (F':=[(0,_),(2,_)]) ⟨rfl,rfl,trivial⟩
  refine then_n (wp_ret (then_r ?_))
  refine s_ret hs rfl (.tmp (hs.tmp rfl) .nil) rfl ⟨_,rfl,hs.fr,?_⟩
  rfl
theorem nil_DFlush  (w:World) :Ctr Try.prog 28 [.pointer none] w (fun _=>False) (fun v _=>v=I 2):=by
  refine fn_start (N:=10) Try.func28 rfl rfl rfl fun ac hk=>?_
  have hs:=St.start hk w
  refine wp_seq (wp_reg ?_)
  refine s_q hs (c_assign (hs.ev rfl)) rfl fun ac hs=>?_
  refine s_end (then_n (wp_seq (wp_seq (wp_reg ?_))))
  refine s_q hs (c_move (hs.ev rfl)) rfl fun ac hs=>?_
  refine s_q hs (c_eqlNil0 un56 (hs.ev rfl) (hs.ev rfl)) rfl fun ac hs=>?_
  refine s_end ?_
  replace hs:=hs.sub (F':=[(0,_),(2,_),(4,_)]) ⟨rfl,rfl,rfl,trivial⟩
  refine then_n ?_
  refine wp_cond_true (hs.ev rfl) ?_
  refine wp_seq (wp_reg ?_)
  refine s_q hs (c_assign (hs.ev rfl)) rfl fun ac hs=>?_
  refine s_end ?_
  replace hs:=hs.sub (F':=[(0,_),(2,_)]) ⟨rfl,rfl,trivial⟩
  refine then_n (wp_ret (then_r ?_))
  refine s_ret hs rfl (.tmp (hs.tmp rfl) .nil) rfl ⟨_,rfl,hs.fr,?_⟩
  rfl
theorem nil_Append (v:Value) (w:World) :Ctr Try.prog 27 [.pointer none,v] w (fun _=>False) (fun v _=>v=I 2):=by
  refine fn_start (N:=10) Try.func27 rfl rfl rfl fun ac hk=>?_
  have hs:=St.start hk w
  refine wp_seq (wp_reg ?_)
  refine s_q hs (c_assign (hs.ev rfl)) rfl fun ac hs=>?_
  refine s_end (then_n (wp_seq (wp_seq (wp_reg ?_))))
  refine s_q hs (c_move (hs.ev rfl)) rfl fun ac hs=>?_
  refine s_q hs (c_eqlNil0 un56 (hs.ev rfl) (hs.ev rfl)) rfl fun ac hs=>?_
  refine s_end ?_
  replace hs:=hs.sub (F':=[(0,_),(1,_),(4,_),(6,_)]) ⟨rfl,rfl,rfl,rfl,trivial⟩
  refine then_n ?_
  refine wp_cond_true (hs.ev rfl) ?_
  refine wp_seq (wp_reg ?_)
  refine s_q hs (c_assign (hs.ev rfl)) rfl fun ac hs=>?_
  refine s_end ?_
  replace hs:=hs.sub (F':=[(0,_),(1,_),(4,_)]) ⟨rfl,rfl,rfl,trivial⟩
  refine then_n (wp_ret (then_r ?_))
  refine s_ret hs rfl (.tmp (hs.tmp rfl) .nil) rfl ⟨_,rfl,hs.fr,?_⟩
  rfl
theorem di_Free (dg g sb nx:Nat) (gen:UInt32) (qv:Value) (s:Sl) (hn1:s.n≤4096) (hnx:nx≤s.n / 2) (w:World) (hD:w.heap[dg]?=some (.cells (diC g gen nx).toArray 83 (0,0))) (hR:SlR w g sb qv s):Ctr Try.prog 29 [.pointer (some ⟨dg,0,none⟩)] w (fun _=>False) (fun v _=>v=I (s.n / 2 - nx:Nat)):=by
  refine fn_start (N:=25) Try.func29 rfl rfl rfl fun ac hk=>?_
  have hs:=St.start hk w
  refine wp_seq (wp_reg ?_)
  refine s_q hs (c_assign (hs.ev rfl)) rfl fun ac hs=>?_
  refine s_end (then_n (wp_seq (wp_seq (wp_reg ?_))))
  refine s_q hs (c_move (hs.ev rfl)) rfl fun ac hs=>?_
  refine s_q hs (c_eqlNil un56 (hs.ev rfl) (hs.ev rfl)) rfl fun ac hs=>?_
  refine s_end ?_
  replace hs:=hs.sub (F':=[(0,_),(2,_),(6,_)]) ⟨rfl,rfl,rfl,trivial⟩
  refine then_n ?_
  refine wp_cond_false (hs.ev rfl) ?_
  refine wp_skip (then_n (wp_seq ?_))
  refine wp_region_rg pmix 14 (by kernel_rfl) rfl hs ?_
  simp only [List.take_succ_cons,List.take_zero]
  refine rg_q (fun ac ww h=>c_move (h.ev rfl)) rfl ?_
  refine rg_q (fun ac ww h=>c_nil (h.ev rfl)) rfl ?_
  refine rg_q (fun ac ww h=>c_fld fl83_0 (h.ev rfl)) rfl ?_
  refine rg_q (fun ac ww h=>c_loadS un23 rfl (h.ev rfl) (h.blk (hs.old hD id)) rfl) rfl ?_
  refine rg_q (fun ac ww h=>c_move (h.ev rfl)) rfl ?_
  refine rg_q (fun ac ww h=>c_nil (h.ev rfl)) rfl ?_
  refine rg_q (fun ac ww h=>c_fld fl83_1 (h.ev rfl)) rfl ?_
  refine rg_q (fun ac ww h=>c_loadS un53 rfl (h.ev rfl) (h.blk (hs.old hD id)) rfl) rfl ?_
  refine rg_call fu44 (fun ac ww h=>(.cons (h.ev rfl) (.cons (h.ev rfl) .nil))) (fun ww hf=>di_half g sb qv s gen hn1 _ ((hR.fr0 hs.fr).fr0 hf)) rfl ?_
  refine rg_q (fun ac ww h=>c_move (h.ev rfl)) rfl ?_
  refine rg_q (fun ac ww h=>c_extract (h.ev rfl) rfl) rfl ?_
  refine rg_q (fun ac ww h=>c_extract (h.ev rfl) rfl) rfl ?_
  refine rg_q (fun ac ww h=>c_assign (h.ev rfl)) rfl ?_
  refine rg_q (fun ac ww h=>c_assign (h.ev rfl)) rfl ?_
  refine rg_nil fun ac ww L' hf hfe hs=>?_
  simp only [List.drop_succ_cons,List.drop_zero]
  obtain rfl:L'=[]:=hfe
  replace hs:=hs.toL (List.nil_append _)
  refine s_end ?_
  replace hs:=hs.sub (F':=[(0,_),(2,_),(4,_)]) ⟨rfl,rfl,rfl,trivial⟩
  refine then_n (wp_seq (wp_reg ?_))
  refine s_q hs (c_move (hs.ev rfl)) rfl fun ac hs=>?_
  refine s_q hs (c_move (hs.ev rfl)) rfl fun ac hs=>?_
  refine s_q hs (c_nil (hs.ev rfl)) rfl fun ac hs=>?_
  refine s_q hs (c_fld fl83_2 (hs.ev rfl)) rfl fun ac hs=>?_
  refine s_q hs (c_loadS un3 rfl (hs.ev rfl) (hs.old hD id) rfl) rfl fun ac hs=>?_
  refine s_q hs (c_to (c_subI (hs.ev rfl) (hs.ev rfl) (by omega) (by omega)) ((congrArg I (show ((s.n / 2:Nat):Int) - (nx:Int)=((s.n / 2 - nx:Nat):Int) by omega)))) rfl fun ac hs=>?_
  refine s_q hs (c_assign (hs.ev rfl)) rfl fun ac hs=>?_
  refine s_end ?_
  replace hs:=hs.sub (F':=[(2,_)]) ⟨rfl,trivial⟩
  refine then_n (wp_ret ?_)
  refine s_ret hs rfl (.tmp (hs.tmp rfl) .nil) rfl ⟨_,rfl,hs.fr,?_⟩
  rfl
structure SX where
  i:Nat
  ov:Value
  pv:Value
  f:UInt8
  q:List UInt8
  xs:List UInt8
theorem di_sectors (gen:UInt32) (place:Int) (fl:UInt8) (p:List UInt8) (v:Value) (hpl:p.length≤2048) (hpa:0≤place) (hpb:place≤1000000) (w:World) (hR:RdB w v p):Ctr Try.prog 49 [U gen,I place,B fl,v] w (fun _=>False) (fun v2 w'=>Has w.heap.size w' [.row v2 (need p.length) ((secs gen place fl p).flatten.map B) 29 64]):=by
  refine fn_start (N:=43) Try.func49 rfl rfl rfl fun ac hk=>?_
  have hs:=St.start hk w
  refine wp_seq (wp_reg ?_)
  refine s_q hs (c_assign (hs.ev rfl)) rfl fun ac hs=>?_
  refine s_end (then_n (wp_seq (wp_reg ?_)))
  refine s_q hs (c_assign (hs.ev rfl)) rfl fun ac hs=>?_
  refine s_end ?_
  replace hs:=hs.nilrow 29 64
  refine then_n (wp_seq (wp_reg ?_))
  refine s_q hs (c_assign (St.ev (v:=B 1) hs rfl)) rfl fun ac hs=>?_
  refine s_end (then_n (wp_block ?_))
  refine s_loop hs (X:=SX) (fun z=>[(3,z.pv),(9,z.ov),(10,B z.f)]) [(0,_),(1,_),(2,_)] (fun z=>[.row z.ov z.i (z.xs.map B) 29 64]) (fun n z=>z.xs++(secsF gen fl n z.f (place + (z.i:Nat)) z.q).flatten=(secs gen place fl p).flatten∧need z.q.length=n∧z.i + n=need p.length∧RdB w z.pv z.q∧(z.f=1∨z.f=0)) (need p.length) (⟨0,.slice none 0 0,_,1,p,[]⟩) (⟨by rw [List.nil_append,secs,show (place + ((0:Nat):Int))=place by omega],rfl,Nat.zero_add _,hR,.inl rfl⟩) ⟨rfl,rfl,rfl,rfl,rfl,rfl,trivial⟩ rfl ?_
  rintro n ⟨i,ov,pv,f,q,xs⟩ ac ww hok2 hs
  simp only [List.cons_append,List.nil_append] at hs
  obtain ⟨hx,hn,hi,hq,hfl⟩:=hok2
  replace hx:xs++(secsF gen fl n f (place + (i:Nat)) q).flatten=(secs gen place fl p).flatten:=hx
  replace hn:need q.length=n:=hn
  replace hi:i + n=need p.length:=hi
  replace hq:RdB w pv q:=hq
  replace hfl:f=1∨f=0:=hfl
  have hnq:=hq.le
  have hnd:=need_le hpl
  obtain ⟨pad,pcap,rfl,hpc,hpm⟩:=Rd.sl hq
  refine wp_seq (wp_block (wp_seq (wp_reg ?_)))
  refine s_q hs (c_move (hs.ev rfl)) rfl fun ac hs=>?_
  refine s_q hs (c_lenS un38 (hs.ev rfl)) rfl fun ac hs=>?_
  refine s_q hs (c_min (hs.ev rfl) (hs.ev rfl)) rfl fun ac hs=>?_
  refine s_q hs (c_assign (hs.ev rfl)) rfl fun ac hs=>?_
  refine s_end (then_n (wp_seq (wp_seq (wp_reg ?_))))
  refine s_q hs (c_move (hs.ev rfl)) rfl fun ac hs=>?_
  refine s_q hs (c_move (hs.ev rfl)) rfl fun ac hs=>?_
  refine s_q hs (c_lenS un38 (hs.ev rfl)) rfl fun ac hs=>?_
  refine s_q hs (c_eqlI (hs.ev rfl) (hs.ev rfl)) rfl fun ac hs=>?_
  refine s_end (then_n ?_)
  refine s_cond hs rfl (fun hc=>?_) (fun hc=>?_)
  · try simp only [decide_eq_true_eq,decide_eq_false_iff_not,Bool.not_eq_true',Bool.not_eq_false',Bool.and_eq_true,Bool.or_eq_true,Bool.or_eq_false_iff] at hc
    have hle:q.length≤50:=by omega
    refine wp_reg ?_
    refine s_q hs (c_move (hs.ev rfl)) rfl fun ac hs=>?_
    refine s_q hs (c_orB (hs.ev rfl) (St.ev (v:=B 2) hs rfl)) rfl fun ac hs=>?_
    refine s_q hs (c_assign (hs.ev rfl)) rfl fun ac hs=>?_
    refine s_end (then_n (wp_seq (wp_reg ?_)))
    refine s_q hs (c_move (hs.ev rfl)) rfl fun ac hs=>?_
    refine s_q hs (c_move (hs.ev rfl)) rfl fun ac hs=>?_
    refine s_q hs (c_move (hs.ev rfl)) rfl fun ac hs=>?_
    refine s_q hs (c_move (hs.ev rfl)) rfl fun ac hs=>?_
    refine s_q hs (c_lenR un69 (hs.ev rfl) (Rd.of_row (hs.get (i:=0) rfl))) rfl fun ac hs=>?_
    refine s_q hs (c_addI (hs.ev rfl) (hs.ev rfl) (by omega) (by omega)) rfl fun ac hs=>?_
    refine s_q hs (c_move (hs.ev rfl)) rfl fun ac hs=>?_
    refine s_q hs (c_move (hs.ev rfl)) rfl fun ac hs=>?_
    refine s_q hs (c_orB (hs.ev rfl) (hs.ev rfl)) rfl fun ac hs=>?_
    refine s_q hs (c_move (hs.ev rfl)) rfl fun ac hs=>?_
    refine s_q hs (c_move (hs.ev rfl)) rfl fun ac hs=>?_
    refine s_q hs (c_sliceH (j:=q.length) un38 ty5 (hs.ev rfl) (hs.ev rfl) (by omega) (by omega)) rfl fun ac hs=>?_
    refine s_call hs fu52 (.cons (hs.ev rfl) (.cons (hs.ev rfl) (.cons (hs.ev rfl) (.cons (hs.ev rfl) .nil)))) (di_lay gen (place + (i:Nat)) ((f ||| 2) ||| fl) (q.take q.length) _ (by simp; omega) _ (RdB.mid0 (j:=q.length) (hq.fr0 hs.fr) (by omega))) rfl fun ac ww v33 hf hp hs=>?_
    obtain rfl:=hp
    replace hs:=hs [] (.nil _ _)
    refine s_bslice hs un69 ty29 (.cons (hs.ev rfl) .nil) rfl (fun v hv=>by rw [List.mem_singleton.1 hv]; exact lay_cells (by simp; omega)) (by decide) (show _=(lay gen (place + (i:Nat)) ((f ||| 2) ||| fl) (q.take q.length)).map B by simp [flatCells,Value.cells]) rfl fun ac ww g34 hs=>?_
    refine s_append (i:=1) hs un69 ty29 (by decide) rfl rfl rfl (Rd.of_seg (n:=1) (hs.seg (i:=0) rfl) (Nat.le_refl _) (by decide) (List.take_of_length_le (by simp))) (by rw [List.length_map]; exact lay_len (by simp; omega)) (all64 _) (by unfold maxLen; omega) (by omega) rfl fun ac ww v35 hf hnil hs=>?_
    refine s_q hs (c_assign (hs.ev rfl)) rfl fun ac hs=>?_
    refine s_end (then_n (wp_seq (wp_reg ?_)))
    refine s_q hs (c_move (hs.ev rfl)) rfl fun ac hs=>?_
    refine s_q hs (c_move (hs.ev rfl)) rfl fun ac hs=>?_
    refine s_q hs (c_sliceL (i:=q.length) un38 ty5 (hs.ev rfl) (hs.ev rfl) (by omega) (by omega)) rfl fun ac hs=>?_
    refine s_q hs (c_assign (hs.ev rfl)) rfl fun ac hs=>?_
    refine s_end (then_n (wp_seq (wp_reg ?_)))
    refine s_q hs (c_move (hs.ev rfl)) rfl fun ac hs=>?_
    refine s_q hs (c_andB (hs.ev rfl) (St.ev (v:=B 2) hs rfl)) rfl fun ac hs=>?_
    refine s_q hs (c_tt (c_neqB (hs.ev rfl) (St.ev (v:=B 0) hs rfl)) ((by rcases hfl with h9 | h9 <;> rw [h9] <;> rfl))) rfl fun ac hs=>?_
    refine s_end (then_n ?_)
    refine wp_cond_true (hs.ev rfl) ?_
    refine wp_seq (wp_reg ?_)
    refine s_q hs (c_move (hs.ev rfl)) rfl fun ac hs=>?_
    refine s_q hs (c_assign (hs.ev rfl)) rfl fun ac hs=>?_
    refine s_end (then_n (wp_ret (blk_r (then_r (then_r (blk_r ?_))))))
    obtain rfl:n=1:=hn ▸ need_one.2 hle
    replace hs:=(hs.pick (L':=[_]) (.cons _ (.refl _))).toL (L':=[.row v35 (need p.length) ((secs gen place fl p).flatten.map B) 29 64]) (by rw [← hi,← hx,List.take_of_length_le (Nat.le_refl _),List.map_append,secsF,List.flatten_singleton])
    refine s_ret hs rfl (.tmp (hs.tmp rfl) .nil) rfl ⟨_,rfl,hs.fr,?_⟩
    exact hs.made
  · try simp only [decide_eq_true_eq,decide_eq_false_iff_not,Bool.not_eq_true',Bool.not_eq_false',Bool.and_eq_true,Bool.or_eq_true,Bool.or_eq_false_iff] at hc
    have hle:50 < q.length:=by omega
    refine wp_skip (then_n (wp_seq (wp_reg ?_)))
    refine s_q hs (c_move (hs.ev rfl)) rfl fun ac hs=>?_
    refine s_q hs (c_move (hs.ev rfl)) rfl fun ac hs=>?_
    refine s_q hs (c_move (hs.ev rfl)) rfl fun ac hs=>?_
    refine s_q hs (c_move (hs.ev rfl)) rfl fun ac hs=>?_
    refine s_q hs (c_lenR un69 (hs.ev rfl) (Rd.of_row (hs.get (i:=0) rfl))) rfl fun ac hs=>?_
    refine s_q hs (c_addI (hs.ev rfl) (hs.ev rfl) (by omega) (by omega)) rfl fun ac hs=>?_
    refine s_q hs (c_move (hs.ev rfl)) rfl fun ac hs=>?_
    refine s_q hs (c_move (hs.ev rfl)) rfl fun ac hs=>?_
    refine s_q hs (c_orB (hs.ev rfl) (hs.ev rfl)) rfl fun ac hs=>?_
    refine s_q hs (c_move (hs.ev rfl)) rfl fun ac hs=>?_
    refine s_q hs (c_move (hs.ev rfl)) rfl fun ac hs=>?_
    refine s_q hs (c_sliceH (j:=50) un38 ty5 (hs.ev rfl) (hs.ev rfl) (by omega) (by omega)) rfl fun ac hs=>?_
    refine s_call hs fu52 (.cons (hs.ev rfl) (.cons (hs.ev rfl) (.cons (hs.ev rfl) (.cons (hs.ev rfl) .nil)))) (di_lay gen (place + (i:Nat)) (f ||| fl) (q.take 50) _ (by simp; omega) _ (RdB.mid0 (j:=50) (hq.fr0 hs.fr) (by omega))) rfl fun ac ww v33 hf hp hs=>?_
    obtain rfl:=hp
    replace hs:=hs [] (.nil _ _)
    refine s_bslice hs un69 ty29 (.cons (hs.ev rfl) .nil) rfl (fun v hv=>by rw [List.mem_singleton.1 hv]; exact lay_cells (by simp; omega)) (by decide) (show _=(lay gen (place + (i:Nat)) (f ||| fl) (q.take 50)).map B by simp [flatCells,Value.cells]) rfl fun ac ww g34 hs=>?_
    refine s_append (i:=1) hs un69 ty29 (by decide) rfl rfl rfl (Rd.of_seg (n:=1) (hs.seg (i:=0) rfl) (Nat.le_refl _) (by decide) (List.take_of_length_le (by simp))) (by rw [List.length_map]; exact lay_len (by simp; omega)) (all64 _) (by unfold maxLen; omega) (by omega) rfl fun ac ww v35 hf hnil hs=>?_
    refine s_q hs (c_assign (hs.ev rfl)) rfl fun ac hs=>?_
    refine s_end (then_n (wp_seq (wp_reg ?_)))
    refine s_q hs (c_move (hs.ev rfl)) rfl fun ac hs=>?_
    refine s_q hs (c_move (hs.ev rfl)) rfl fun ac hs=>?_
    refine s_q hs (c_sliceL (i:=50) un38 ty5 (hs.ev rfl) (hs.ev rfl) (by omega) (by omega)) rfl fun ac hs=>?_
    refine s_q hs (c_assign (hs.ev rfl)) rfl fun ac hs=>?_
    refine s_end (then_n (wp_seq (wp_reg ?_)))
    refine s_q hs (c_move (hs.ev rfl)) rfl fun ac hs=>?_
    refine s_q hs (c_andB (hs.ev rfl) (St.ev (v:=B 2) hs rfl)) rfl fun ac hs=>?_
    refine s_q hs (c_ff (c_neqB (hs.ev rfl) (St.ev (v:=B 0) hs rfl)) ((by rcases hfl with h9 | h9 <;> rw [h9] <;> rfl))) rfl fun ac hs=>?_
    refine s_end (then_n ?_)
    refine wp_cond_false (hs.ev rfl) ?_
    refine wp_skip (blk_n (then_n (wp_reg ?_)))
    refine s_q hs (c_assign (St.ev (v:=B 0) hs rfl)) rfl fun ac hs=>?_
    refine s_end (then_n ?_)
    have hq2:=hq.cut (i:=50) (by omega)
    obtain ⟨m,rfl⟩:∃ m,n=m + 2:=⟨n - 2,by have h8:1 < need q.length:=(by unfold need; omega); omega⟩
    have hnd2:=need_drop hn
    have hx2:(xs++lay gen (place + (i:Nat)) (f ||| fl) (q.take 50))++(secsF gen fl (m + 1) 0 (place + ((i + 1:Nat):Int)) (q.drop 50)).flatten=(secs gen place fl p).flatten:=by
      rw [← hx,show (place + ((i + 1:Nat):Int))=place + (i:Nat) + 1 by omega,List.append_assoc]
      rfl
    replace hs:=(hs.pick (L':=[_]) (.cons _ (.refl _))).toL (L':=[.row v35 (i + 1) ((xs++lay gen (place + (i:Nat)) (f ||| fl) (q.take 50)).map B) 29 64]) (by rw [List.map_append])
    exact ⟨m + 1,by omega,⟨i + 1,_,_,0,q.drop 50,xs++lay gen (place + (i:Nat)) (f ||| fl) (q.take 50)⟩,⟨hx2,hnd2,by show i + 1 + (m + 1)=need p.length; omega,hq2,.inr rfl⟩,St.next hs ⟨rfl,rfl,rfl,rfl,rfl,rfl,trivial⟩ rfl⟩
end Go.Proofs.Ytkecdcmjkghddaa
end

section
/- The diary: what writes. -/
namespace Go.Proofs.Ytkecdcmjkghddaa
open Go Go.Fw
def dl (dg g sb:Nat) (qv:Value) (gen:UInt32) (nx:Nat) (s:Sl):List Ent:=[.seg dg (diC g gen nx) 83,Ent.grp (sl g sb qv s)]
theorem dl_sl {w:World} {dg g sb nx:Nat} {qv:Value} {gen:UInt32} {s:Sl} (h:Has 0 w (dl dg g sb qv gen nx s)):Has 0 w (sl g sb qv s):=h.holds _ (List.mem_of_getElem? (i:=1) rfl)
theorem dl_d {w:World} {dg g sb nx:Nat} {qv:Value} {gen:UInt32} {s:Sl} (h:Has 0 w (dl dg g sb qv gen nx s)):w.heap[dg]?=some (.cells (diC g gen nx).toArray 83 (0,0)):=h.holds _ (List.mem_of_getElem? (i:=0) rfl)
def DlTo (w w':World) (M:Nat→Prop) (dg g sb:Nat) (gen:UInt32) (nx:Nat) (s:Sl):Prop:=∃ qv',Has 0 w' (dl dg g sb qv' gen nx s)∧∀ k,(Ent.grp (dl dg g sb qv' gen nx s)).keys k→M k∨w.heap.size≤k
theorem St.dlTo {N:Nat} {F:List (Nat × Value)} {L:List Ent} {M:Nat→Prop} {w0 w:World} {a:Act} {dg g sb nx:Nat} {gen:UInt32} {qv:Value} {s:Sl} (hs:St N F L M w0 a w) (hl:(dl dg g sb qv gen nx s).Sublist L):DlTo w0 w M dg g sb gen nx s:=⟨qv,(hs.pick hl).grp⟩
theorem row_sec {all:List Value} {l:List (List UInt8)} {k:Nat} (h64:∀ x∈l,x.length=64) (h:all.take (l.length * 64)=l.flatten.map B) (hk:k < l.length):(all.drop (0 + k * 64)).take 64=(l.getD k []).map B:=by
  rw [List.map_flatten] at h
  exact fm_row (f:=fun x:List UInt8=>x.map B) (fun x hx=>by rw [List.length_map]; exact h64 x hx) (by rw [h,List.flatMap]) hk
theorem drop_at {l:List (List UInt8)} {i:Nat} (h:i < l.length):l.drop i=l.getD i []::l.drop (i + 1):=by
  rw [List.drop_eq_getElem_cons h,List.getD_eq_getElem?_getD,List.getElem?_eq_getElem h]
  rfl
theorem di_put (dg g sb nx:Nat) (gen:UInt32) (qv:Value) (s:Sl) (fl:UInt8) (p:List UInt8) (pv:Value) (hok:s.Ok) (hst:s.steps≤900000000) (hql:s.q.length≤900000) (hnx:nx≤s.n / 2) (w:World) (hdl:Has 0 w (dl dg g sb qv gen nx s)) (hR:RdB w pv p):Ctr Try.prog 43 [.pointer (some ⟨dg,0,none⟩),pv,B fl] w (Ent.grp (dl dg g sb qv gen nx s)).keys (fun v w'=>v=I (dput s gen nx fl p).1∧DlTo w w' (Ent.grp (dl dg g sb qv gen nx s)).keys dg g sb gen (dput s gen nx fl p).2.2 (dput s gen nx fl p).2.1):=by
  refine fn_start (N:=82) Try.func43 rfl rfl rfl fun ac hk=>?_
  have hs:=St.startG hk hdl
  have hn1:=hok.n1
  refine wp_seq (wp_reg ?_)
  refine s_q hs (c_assign (hs.ev rfl)) rfl fun ac hs=>?_
  refine s_end (then_n (wp_seq (wp_seq (wp_reg ?_))))
  refine s_q hs (c_move (hs.ev rfl)) rfl fun ac hs=>?_
  refine s_q hs (c_lenR un38 (hs.ev rfl) hR) rfl fun ac hs=>?_
  refine s_q hs (c_gtrI (hs.ev rfl) (hs.ev rfl)) rfl fun ac hs=>?_
  refine s_end ?_
  replace hs:=hs.sub (F':=[(0,_),(1,_),(2,_),(6,_),(15,_)]) ⟨rfl,rfl,rfl,rfl,rfl,trivial⟩
  refine then_n ?_
  refine s_cond hs rfl (fun hc=>?_) (fun hc=>?_)
  · try simp only [decide_eq_true_eq,decide_eq_false_iff_not,Bool.not_eq_true',Bool.not_eq_false',Bool.and_eq_true,Bool.or_eq_true,Bool.or_eq_false_iff] at hc
    have hp8:2048 < p.length:=by omega
    refine wp_seq (wp_reg ?_)
    refine s_q hs (c_assign (hs.ev rfl)) rfl fun ac hs=>?_
    refine s_end ?_
    replace hs:=hs.sub (F':=[(0,_),(1,_),(2,_),(6,_)]) ⟨rfl,rfl,rfl,rfl,trivial⟩
    refine then_n (wp_ret (then_r ?_))
    refine s_ret hs rfl (.tmp (hs.tmp rfl) .nil) rfl ⟨_,rfl,hs.fr,?_⟩
    rw [show dput s gen nx fl p=(8,s,nx) from if_pos hp8]
    exact ⟨rfl,St.dlTo hs (.refl _)⟩
  · try simp only [decide_eq_true_eq,decide_eq_false_iff_not,Bool.not_eq_true',Bool.not_eq_false',Bool.and_eq_true,Bool.or_eq_true,Bool.or_eq_false_iff] at hc
    have hp8:¬ 2048 < p.length:=by omega
    have hnd:=need_le (n:=p.length) (by omega)
    have h64:=secs_64 gen nx fl p
    have hsl:=secs_len gen nx fl p
    refine wp_skip (then_n (wp_seq ?_))
    refine wp_region_rg pmix 14 (by kernel_rfl) rfl hs ?_
    simp only [List.take_succ_cons,List.take_zero]
    refine rg_q (fun ac ww h=>c_move (h.ev rfl)) rfl ?_
    refine rg_q (fun ac ww h=>c_nil (h.ev rfl)) rfl ?_
    refine rg_q (fun ac ww h=>c_fld fl83_0 (h.ev rfl)) rfl ?_
    refine rg_q (fun ac ww h=>c_loadS un23 rfl (h.ev rfl) (h.blk (hs.seg (i:=0) rfl)) rfl) rfl ?_
    refine rg_q (fun ac ww h=>c_move (h.ev rfl)) rfl ?_
    refine rg_q (fun ac ww h=>c_nil (h.ev rfl)) rfl ?_
    refine rg_q (fun ac ww h=>c_fld fl83_1 (h.ev rfl)) rfl ?_
    refine rg_q (fun ac ww h=>c_loadS un53 rfl (h.ev rfl) (h.blk (hs.seg (i:=0) rfl)) rfl) rfl ?_
    refine rg_call fu44 (fun ac ww h=>(.cons (h.ev rfl) (.cons (h.ev rfl) .nil))) (fun ww hf=>di_half g sb qv s gen hn1 _ (sl_get ((hs.get (i:=1) rfl:Has 0 _ _).fr0 hf))) rfl ?_
    refine rg_q (fun ac ww h=>c_move (h.ev rfl)) rfl ?_
    refine rg_q (fun ac ww h=>c_extract (h.ev rfl) rfl) rfl ?_
    refine rg_q (fun ac ww h=>c_extract (h.ev rfl) rfl) rfl ?_
    refine rg_q (fun ac ww h=>c_assign (h.ev rfl)) rfl ?_
    refine rg_q (fun ac ww h=>c_assign (h.ev rfl)) rfl ?_
    refine rg_nil fun ac ww L' hf hfe hs=>?_
    simp only [List.drop_succ_cons,List.drop_zero]
    obtain rfl:L'=[]:=hfe
    replace hs:=hs.toL (List.nil_append _)
    refine s_end ?_
    have hf3:=hf
    replace hs:=hs.sub (F':=[(0,_),(1,_),(2,_),(6,_),(7,_),(8,_)]) ⟨rfl,rfl,rfl,rfl,rfl,rfl,trivial⟩
    refine then_n (wp_seq ?_)
    refine wp_region_rg pmix 10 (by kernel_rfl) rfl hs ?_
    simp only [List.take_succ_cons,List.take_zero]
    refine rg_q (fun ac ww h=>c_move (h.ev rfl)) rfl ?_
    refine rg_q (fun ac ww h=>c_nil (h.ev rfl)) rfl ?_
    refine rg_q (fun ac ww h=>c_fld fl83_1 (h.ev rfl)) rfl ?_
    refine rg_q (fun ac ww h=>c_loadS un53 rfl (h.ev rfl) (h.blk (hs.seg (i:=0) rfl)) rfl) rfl ?_
    refine rg_q (fun ac ww h=>c_move (h.ev rfl)) rfl ?_
    refine rg_q (fun ac ww h=>c_nil (h.ev rfl)) rfl ?_
    refine rg_q (fun ac ww h=>c_fld fl83_2 (h.ev rfl)) rfl ?_
    refine rg_q (fun ac ww h=>c_loadS un3 rfl (h.ev rfl) (h.blk (hs.seg (i:=0) rfl)) rfl) rfl ?_
    refine rg_q (fun ac ww h=>c_move (h.ev rfl)) rfl ?_
    refine rg_q (fun ac ww h=>c_move (h.ev rfl)) rfl ?_
    refine rg_nil fun ac ww L' hf hfe hs=>?_
    simp only [List.drop_succ_cons,List.drop_zero]
    obtain rfl:L'=[]:=hfe
    replace hs:=hs.toL (List.nil_append _)
    refine s_call hs fu49 (.cons (hs.ev rfl) (.cons (hs.ev rfl) (.cons (hs.ev rfl) (.cons (hs.ev rfl) .nil)))) (di_sectors gen nx fl p pv (by omega) (by omega) (by omega) _ ((hR.fr0 hf3).fr0 hf)) rfl fun ac ww v38 hf hp hs=>?_
    replace hs:=hs _ hp
    refine s_q hs (c_assign (hs.ev rfl)) rfl fun ac hs=>?_
    refine s_end ?_
    replace hs:=hs.sub (F':=[(0,_),(6,_),(7,_),(8,_),(9,_)]) ⟨rfl,rfl,rfl,rfl,rfl,trivial⟩
    refine then_n (wp_seq (wp_seq (wp_reg ?_)))
    refine s_q hs (c_move (hs.ev rfl)) rfl fun ac hs=>?_
    refine s_q hs (c_lenR un69 (hs.ev rfl) (Rd.of_row (hs.get (i:=0) rfl))) rfl fun ac hs=>?_
    refine s_q hs (c_move (hs.ev rfl)) rfl fun ac hs=>?_
    refine s_q hs (c_move (hs.ev rfl)) rfl fun ac hs=>?_
    refine s_q hs (c_nil (hs.ev rfl)) rfl fun ac hs=>?_
    refine s_q hs (c_fld fl83_2 (hs.ev rfl)) rfl fun ac hs=>?_
    refine s_q hs (c_loadS un3 rfl (hs.ev rfl) (hs.seg (i:=1) rfl) rfl) rfl fun ac hs=>?_
    refine s_q hs (c_subI (hs.ev rfl) (hs.ev rfl) (by omega) (by omega)) rfl fun ac hs=>?_
    refine s_q hs (c_gtrI (hs.ev rfl) (hs.ev rfl)) rfl fun ac hs=>?_
    refine s_end ?_
    replace hs:=hs.sub (F':=[(0,_),(6,_),(7,_),(9,_),(47,_)]) ⟨rfl,rfl,rfl,rfl,rfl,trivial⟩
    refine then_n ?_
    refine s_cond hs rfl (fun hc=>?_) (fun hc=>?_)
    · try simp only [decide_eq_true_eq,decide_eq_false_iff_not,Bool.not_eq_true',Bool.not_eq_false',Bool.and_eq_true,Bool.or_eq_true,Bool.or_eq_false_iff] at hc
      have hfu:(s.n / 2:Int) - nx < need p.length:=by omega
      refine wp_seq (wp_reg ?_)
      refine s_q hs (c_assign (hs.ev rfl)) rfl fun ac hs=>?_
      refine s_end ?_
      replace hs:=hs.sub (F':=[(0,_),(6,_),(7,_),(9,_)]) ⟨rfl,rfl,rfl,rfl,trivial⟩
      refine then_n (wp_ret (then_r ?_))
      refine s_ret hs rfl (.tmp (hs.tmp rfl) .nil) rfl ⟨_,rfl,hs.fr,?_⟩
      rw [show dput s gen nx fl p=(4,s,nx) from (if_neg hp8).trans (if_pos hfu)]
      exact ⟨rfl,St.dlTo hs (.cons _ (.refl _))⟩
    · try simp only [decide_eq_true_eq,decide_eq_false_iff_not,Bool.not_eq_true',Bool.not_eq_false',Bool.and_eq_true,Bool.or_eq_true,Bool.or_eq_false_iff] at hc
      have hfu:¬ (s.n / 2:Int) - nx < need p.length:=by omega
      refine wp_skip (then_n (wp_seq (wp_seq (wp_reg ?_))))
      refine s_q hs (c_move (hs.ev rfl)) rfl fun ac hs=>?_
      refine s_q hs (c_lenR un69 (hs.ev rfl) (Rd.of_row (hs.get (i:=0) rfl))) rfl fun ac hs=>?_
      refine s_q hs (c_move (hs.ev rfl)) rfl fun ac hs=>?_
      refine s_end ?_
      replace hs:=hs.sub (F':=[(0,_),(6,_),(7,_),(9,_),(48,_),(49,_),(50,_)]) ⟨rfl,rfl,rfl,rfl,rfl,rfl,rfl,trivial⟩
      refine then_n (wp_block ?_)
      refine s_loop hs (X:=Nat × Sl × Value) (fun z=>[(50,I z.1)]) [(0,_),(7,_),(9,_),(48,_),(49,_)] (fun z=>[.row v38 (need p.length) ((secs gen nx fl p).flatten.map B) 29 64,.seg dg (diC g gen nx) 83,Ent.grp (sl g sb z.2.2 z.2.1)]) (fun n z=>z.1≤need p.length∧s.writeL (half s.n gen + nx) (secs gen nx fl p)=z.2.1.writeL (half s.n gen + nx + z.1) ((secs gen nx fl p).drop z.1)∧Kept s z.2.1 z.1∧n=need p.length - z.1) (_) ((0,s,qv)) (⟨Nat.zero_le _,rfl,⟨hok,rfl,Nat.le_refl _,Nat.le_refl _⟩,rfl⟩) ⟨rfl,rfl,rfl,rfl,rfl,rfl,trivial⟩ rfl ?_
      rintro n ⟨i,s1,q1⟩ ac ww hok2 hs
      simp only [List.cons_append,List.nil_append] at hs
      obtain ⟨hi,hw1,hk1,rfl⟩:=hok2
      replace hi:i≤need p.length:=hi
      replace hw1:s.writeL (half s.n gen + nx) (secs gen nx fl p)=s1.writeL (half s.n gen + nx + i) ((secs gen nx fl p).drop i):=hw1
      obtain ⟨hok1,hn1b,hst1,hq1⟩:Kept s s1 i:=hk1
      have hk1:Kept s s1 i:=⟨hok1,hn1b,hst1,hq1⟩
      refine wp_seq (wp_reg ?_)
      refine s_q hs (c_lssI (hs.ev rfl) (hs.ev rfl)) rfl fun ac hs=>?_
      refine s_end (then_n (wp_seq ?_))
      refine s_cond hs rfl (fun hc=>?_) (fun hc=>?_)
      · try simp only [decide_eq_true_eq,decide_eq_false_iff_not,Bool.not_eq_true',Bool.not_eq_false',Bool.and_eq_true,Bool.or_eq_true,Bool.or_eq_false_iff] at hc
        have hin:i < need p.length:=by omega
        have hil:i < (secs gen nx fl p).length:=by omega
        obtain ⟨rb,rcap,rcur,rfl,hrb,hrc,hrm,_,hcur⟩:=hs.row_at (i:=0) rfl (by omega)
        rw [← hsl] at hcur
        have hpc:=row_sec h64 hcur hil
        have hdr:=drop_at hil
        have hb64:((secs gen nx fl p).getD i []).length=64:=by rw [List.getD_eq_getElem?_getD,List.getElem?_eq_getElem hil]; exact h64 _ (List.getElem_mem hil)
        obtain ⟨b,hb⟩:∃ b,(secs gen nx fl p).getD i []=b:=⟨_,rfl⟩
        rw [hb] at hpc hdr hb64
        rw [hdr] at hw1
        refine wp_skip (then_n (wp_seq (wp_block (wp_seq (wp_reg ?_)))))
        refine s_q hs (c_move (hs.ev rfl)) rfl fun ac hs=>?_
        refine s_q hs (c_idxS (j:=i) un69 ty29 (hs.ev rfl) (hs.ev rfl) (by omega) (by omega)) rfl fun ac hs=>?_
        refine s_q hs (c_loadA ty29 rfl (hs.ev rfl) hrb hpc (by simp [hb64])) rfl fun ac hs=>?_
        refine s_alloc hs ty29 rfl fun ac ww g11 hs=>?_
        refine s_q hs (c_assign (hs.ev rfl)) rfl fun ac hs=>?_
        refine s_storeW (i:=0) hs ty29 rfl rfl rfl (by simp [hb64]) (all64 _) (by rfl) fun ww hs=>?_
        refine s_end (then_n (wp_seq ?_))
        refine wp_region_rg pmix 13 (by kernel_rfl) rfl hs ?_
        simp only [List.take_succ_cons,List.take_zero]
        refine rg_q (fun ac ww h=>c_move (h.ev rfl)) rfl ?_
        refine rg_q (fun ac ww h=>c_nil (h.ev rfl)) rfl ?_
        refine rg_q (fun ac ww h=>c_fld fl83_0 (h.ev rfl)) rfl ?_
        refine rg_q (fun ac ww h=>c_loadS un23 rfl (h.ev rfl) (h.blk (hs.seg (i:=2) rfl)) rfl) rfl ?_
        refine rg_q (fun ac ww h=>c_move (h.ev rfl)) rfl ?_
        refine rg_q (fun ac ww h=>c_move (h.ev rfl)) rfl ?_
        refine rg_q (fun ac ww h=>c_nil (h.ev rfl)) rfl ?_
        refine rg_q (fun ac ww h=>c_fld fl83_2 (h.ev rfl)) rfl ?_
        refine rg_q (fun ac ww h=>c_loadS un3 rfl (h.ev rfl) (h.blk (hs.seg (i:=2) rfl)) rfl) rfl ?_
        refine rg_q (fun ac ww h=>c_to (c_addI (h.ev rfl) (h.ev rfl) (by have:=odd01 gen; unfold half; rcases this with h9 | h9 <;> rw [h9] <;> omega) (by have:=odd01 gen; unfold half; rcases this with h9 | h9 <;> rw [h9] <;> omega)) ((congrArg I (show _=((half s.n gen + nx:Nat):Int) by omega)))) rfl ?_
        refine rg_q (fun ac ww h=>c_move (h.ev rfl)) rfl ?_
        refine rg_q (fun ac ww h=>c_to (c_addI (h.ev rfl) (h.ev rfl) (by have:=odd01 gen; unfold half; rcases this with h9 | h9 <;> rw [h9] <;> omega) (by have:=odd01 gen; unfold half; rcases this with h9 | h9 <;> rw [h9] <;> omega)) ((congrArg I (show _=((half s.n gen + nx + i:Nat):Int) by omega)))) rfl ?_
        refine rg_q (fun ac ww h=>c_loadW ty29 rfl (h.ev rfl) (h.blk (hs.seg (i:=0) rfl)) (by simp [hb64])) rfl ?_
        refine rg_nil fun ac ww L' hf hfe hs=>?_
        simp only [List.drop_succ_cons,List.drop_zero]
        obtain rfl:L'=[]:=hfe
        replace hs:=hs.toL (List.nil_append _)
        refine s_callM (i:=3) hs fu11 (.cons (hs.ev rfl) (.cons (hs.ev rfl) (.cons (hs.ev rfl) .nil))) rfl (sl_Write g sb q1 s1 ((half s.n gen + nx + i:Nat):Int) b hb64 hok1 (by omega) (by omega) _ (hs.get (i:=3) rfl)) rfl fun ac ww v68 hf hp hs=>?_
        obtain ⟨rfl,qv',h1,h2⟩:=hp
        replace hs:=hs (Ent.grp (sl g sb qv' (s1.write ((half s.n gen + nx + i:Nat):Int) b).2)) h1 (fun k hk=>⟨h2 k hk,grp_lt h1 k hk⟩)
        refine s_q hs (c_assign (hs.ev rfl)) rfl fun ac hs=>?_
        refine s_end (then_n (wp_seq (wp_reg ?_)))
        refine s_q hs (c_move (hs.ev rfl)) rfl fun ac hs=>?_
        refine s_q hs (c_neqI (hs.ev rfl) (hs.ev rfl)) rfl fun ac hs=>?_
        refine s_end (then_n ?_)
        refine s_cond hs rfl (fun hc=>?_) (fun hc=>?_)
        · try simp only [decide_eq_true_eq,decide_eq_false_iff_not,Bool.not_eq_true',Bool.not_eq_false',Bool.and_eq_true,Bool.or_eq_true,Bool.or_eq_false_iff] at hc
          have hne:¬ (s1.write ((half s.n gen + nx + i:Nat):Int) b).1=0:=by simpa using hc
          replace hw1:s.writeL (half s.n gen + nx) (secs gen nx fl p)=s1.write ((half s.n gen + nx + i:Nat):Int) b:=hw1.trans (by rw [Sl.writeL,if_neg hne])
          refine wp_seq (wp_reg ?_)
          refine s_q hs (c_move (hs.ev rfl)) rfl fun ac hs=>?_
          refine s_q hs (c_assign (hs.ev rfl)) rfl fun ac hs=>?_
          refine s_end (then_n (wp_ret (blk_r (then_r (then_r (blk_r (then_r ?_)))))))
          refine s_ret hs rfl (.tmp (hs.tmp rfl) .nil) rfl ⟨_,rfl,hs.fr,?_⟩
          rw [show dput s gen nx fl p=((s.writeL (half s.n gen + nx) (secs gen nx fl p)).1,(s.writeL (half s.n gen + nx) (secs gen nx fl p)).2,nx) from (if_neg hp8).trans ((if_neg hfu).trans (if_neg (by rw [hw1]; exact hne))),hw1]
          exact ⟨rfl,St.dlTo hs (.cons _ (.cons _ (.refl _)))⟩
        · try simp only [decide_eq_true_eq,decide_eq_false_iff_not,Bool.not_eq_true',Bool.not_eq_false',Bool.and_eq_true,Bool.or_eq_true,Bool.or_eq_false_iff] at hc
          have heq:(s1.write ((half s.n gen + nx + i:Nat):Int) b).1=0:=by simpa using hc
          have hw2:s.writeL (half s.n gen + nx) (secs gen nx fl p)=(s1.write ((half s.n gen + nx + i:Nat):Int) b).2.writeL (half s.n gen + nx + (i + 1)) ((secs gen nx fl p).drop (i + 1)):=hw1.trans (by rw [Sl.writeL,if_pos heq]; rfl)
          have hk2:Kept s (s1.write ((half s.n gen + nx + i:Nat):Int) b).2 (i + 1):=hk1.trans (write_kept hok1 hb64)
          refine wp_skip (blk_n (then_n (wp_reg ?_)))
          refine s_q hs (c_addI (hs.ev rfl) (hs.ev rfl) (by omega) (by omega)) rfl fun ac hs=>?_
          refine s_q hs (c_move (hs.ev rfl)) rfl fun ac hs=>?_
          refine s_end (then_n ?_)
          replace hs:=hs.pick (L':=[_,_,_]) (.cons _ (.refl _))
          exact ⟨need p.length - (i + 1),by omega,(i + 1,_,_),⟨by show i + 1≤_; omega,hw2,hk2,rfl⟩,St.next hs ⟨rfl,rfl,rfl,rfl,rfl,rfl,trivial⟩ rfl⟩
      · try simp only [decide_eq_true_eq,decide_eq_false_iff_not,Bool.not_eq_true',Bool.not_eq_false',Bool.and_eq_true,Bool.or_eq_true,Bool.or_eq_false_iff] at hc
        obtain rfl:i=need p.length:=by omega
        rw [List.drop_of_length_le (by omega)] at hw1
        replace hw1:s.writeL (half s.n gen + nx) (secs gen nx fl p)=(0,s1):=hw1
        refine wp_exit (then_e (then_e (blk_hit (then_n (wp_seq (wp_reg ?_))))))
        refine s_q hs (c_move (hs.ev rfl)) rfl fun ac hs=>?_
        refine s_q hs (c_nil (hs.ev rfl)) rfl fun ac hs=>?_
        refine s_q hs (c_fld fl83_2 (hs.ev rfl)) rfl fun ac hs=>?_
        refine s_q hs (c_loadS un3 rfl (hs.ev rfl) (hs.seg (i:=1) rfl) rfl) rfl fun ac hs=>?_
        refine s_q hs (c_move (hs.ev rfl)) rfl fun ac hs=>?_
        refine s_q hs (c_lenR un69 (hs.ev rfl) (Rd.of_row (hs.get (i:=0) rfl))) rfl fun ac hs=>?_
        refine s_q hs (c_to (c_addI (hs.ev rfl) (hs.ev rfl) (by omega) (by omega)) ((congrArg I (show _=((nx + need p.length:Nat):Int) by omega)))) rfl fun ac hs=>?_
        refine s_q hs (c_nil (hs.ev rfl)) rfl fun ac hs=>?_
        refine s_q hs (c_fld fl83_2 (hs.ev rfl)) rfl fun ac hs=>?_
        refine s_store (i:=1) hs ty3 rfl rfl rfl rfl rfl rfl (by simp [diC,Value.cells]) (show _=diC g gen (nx + need p.length) from rfl) fun ww hs=>?_
        refine s_end ?_
        replace hs:=hs.sub (F':=[]) trivial
        refine then_n (wp_seq (wp_reg ?_))
        refine s_q hs (c_assign (hs.ev rfl)) rfl fun ac hs=>?_
        refine s_end (then_n (wp_ret ?_))
        refine s_ret hs rfl (.tmp (hs.tmp rfl) .nil) rfl ⟨_,rfl,hs.fr,?_⟩
        rw [show dput s gen nx fl p=(0,(s.writeL (half s.n gen + nx) (secs gen nx fl p)).2,nx + need p.length) from (if_neg hp8).trans ((if_neg hfu).trans (if_pos (by rw [hw1]))),hw1]
        exact ⟨rfl,St.dlTo hs (.cons _ (.refl _))⟩
end Go.Proofs.Ytkecdcmjkghddaa
end

section
/- Stores into the elements of a slice that may grow,its length by name. -/
namespace Go.Fw
open Go
section
variable {P:Program} {ops:Array Oper} {Q:Exit→Act→World→Prop} {rest:List Oper} {N:Nat} {F F':List (Nat × Value)} {L L':List Ent} {M:Nat→Prop} {w0 w:World} {a:Act}
variable {d:Tmp} {op:Op} {ty:TypeId} {pos:String} {aft:Array Edge} {x y z:Operand} {t u:TypeId}
end
theorem RdB.nil (w:World):RdB w (.slice none 0 0) []:=⟨none,0,rfl,Nat.le_refl _,Nat.zero_le _,fun _=>rfl,.inl rfl⟩
end Go.Fw
end

section
/- The diary: Start; awake; nil ones. -/
namespace Go.Proofs.Ytkecdcmjkghddaa
open Go Go.Fw
theorem dput_le {s:Sl} {g:UInt32} {next:Nat} {fl:UInt8} {p:List UInt8} (hok:s.Ok) (h:next≤s.n / 2):(dput s g next fl p).2.2≤(dput s g next fl p).2.1.n / 2:=by
  rw [(dput_kept hok).n]
  exact dput_next h
theorem dputs_cons {s:Sl} {g:UInt32} {next:Nat} {p:List UInt8} {t:List (List UInt8)} (h:(dput s g next 0 p).1=0):dputs s g next (p::t)=dputs (dput s g next 0 p).2.1 g (dput s g next 0 p).2.2 t:=by rw [dputs,if_pos h]
theorem dputs_stop {s:Sl} {g:UInt32} {next:Nat} {p:List UInt8} {t:List (List UInt8)} (h:¬ (dput s g next 0 p).1=0):dputs s g next (p::t)=dput s g next 0 p:=by rw [dputs,if_neg h]
theorem rec_at {ps:List (Value × List UInt8)} {i:Nat} (h:i < ps.length):(ps.map (·.2)).drop i=(ps.getD i (.nilIface,[])).2::(ps.map (·.2)).drop (i + 1):=by
  rw [List.drop_eq_getElem_cons (by simpa using h),List.getD_eq_getElem?_getD,List.getElem?_eq_getElem h]
  simp
def dptr (b:Bool) (dg:Nat):Value:=if b=true then .pointer (some ⟨dg,0,none⟩) else .pointer none
theorem di_Start (g sb:Nat) (gen:UInt32) (qv:Value) (s:Sl) (ps:List (Value × List UInt8)) (rv:Value) (hok:s.Ok) (hn2:2≤s.n) (hg0:¬ gen=0) (hlen:ps.length≤1000000) (hst:s.steps≤800000000) (hql:s.q.length≤800000) (hqs:s.q.length + 41 * ps.length≤800000) (w:World) (hsl:Has 0 w (sl g sb qv s)) (hR:∀ w',Fr (Ent.grp (sl g sb qv s)).keys w w'→RdP w' rv ps):Ctr Try.prog 26 [.pointer (some ⟨g,0,none⟩),U gen,rv] w (Ent.grp (sl g sb qv s)).keys (fun v w'=>∃ dg,v=.tuple #[dptr (dstart s gen (ps.map (·.2))).1 dg,I (dstart s gen (ps.map (·.2))).2.1]∧DlTo w w' (Ent.grp (sl g sb qv s)).keys dg g sb gen (dstart s gen (ps.map (·.2))).2.2.2 (dstart s gen (ps.map (·.2))).2.2.1):=by
  refine fn_start (N:=49) Try.func26 rfl rfl rfl fun ac hk=>?_
  have hs:=St.startG hk hsl
  replace hs:=St.grpn (A:=sl g sb qv s) (L:=[]) hs
  refine wp_seq (wp_reg ?_)
  refine s_q hs (c_assign (hs.ev rfl)) rfl fun ac hs=>?_
  refine s_q hs (c_assign (hs.ev rfl)) rfl fun ac hs=>?_
  refine s_end (then_n (wp_seq (wp_block (wp_seq (wp_reg ?_)))))
  refine s_q hs (c_move (hs.ev rfl)) rfl fun ac hs=>?_
  refine s_q hs (c_eqlNil un23 (hs.ev rfl) (hs.ev rfl)) rfl fun ac hs=>?_
  refine s_q hs (c_assign (hs.ev rfl)) rfl fun ac hs=>?_
  refine s_end ?_
  replace hs:=hs.sub (F':=[(0,_),(1,_),(2,_),(6,_),(7,_),(13,_)]) ⟨rfl,rfl,rfl,rfl,rfl,rfl,trivial⟩
  refine then_n ?_
  refine wp_cond_false (hs.ev rfl) ?_
  refine wp_seq (wp_reg ?_)
  refine s_q hs (c_move (hs.ev rfl)) rfl fun ac hs=>?_
  refine s_call hs fu20 (.cons (hs.ev rfl) .nil) (sl_Sectors g sb qv s _ (sl_get (hs.get (i:=0) rfl))) rfl fun ac ww v18 hf hp hs=>?_
  obtain rfl:=hp
  replace hs:=hs [] (.nil _ _)
  refine s_q hs (c_lssI (hs.ev rfl) (hs.ev rfl)) rfl fun ac hs=>?_
  refine s_q hs (c_move (hs.ev rfl)) rfl fun ac hs=>?_
  refine s_g hs rfl rfl (fun hg=>c_move (hs.ev rfl)) rfl fun ac hs=>?_
  refine s_g hs rfl rfl (fun hg=>c_eqlU (gev (hs.ev rfl) hg) (St.ev (v:=U 0) hs rfl)) rfl fun ac hs=>?_
  refine s_q hs (c_ff (c_or (hs.ev rfl) (hs.ev rfl)) ((by simp; exact ⟨by omega,hg0⟩))) rfl fun ac hs=>?_
  refine s_q hs (c_assign (hs.ev rfl)) rfl fun ac hs=>?_
  refine s_end ?_
  replace hs:=hs.sub (F':=[(0,_),(1,_),(2,_),(6,_),(7,_),(16,_)]) ⟨rfl,rfl,rfl,rfl,rfl,rfl,trivial⟩
  refine then_n ?_
  refine wp_cond_false (hs.ev rfl) ?_
  refine wp_skip (blk_n (then_n (wp_seq (wp_reg ?_))))
  refine s_q hs (c_move (hs.ev rfl)) rfl fun ac hs=>?_
  refine s_q hs (c_move (hs.ev rfl)) rfl fun ac hs=>?_
  refine s_q hs (c_buildS (zc:=diC g gen 0) ty83 bp83 (.cons (hs.ev rfl) (.cons (hs.ev rfl) .nil)) ⟨rfl,rfl,trivial⟩ (by simp [flatCells,Value.cells]) rfl) rfl fun ac hs=>?_
  refine s_box hs rfl rfl rfl fun ac ww g27 hs=>?_
  refine s_q hs (c_assign (hs.ev rfl)) rfl fun ac hs=>?_
  refine s_end ?_
  replace hs:=St.grpn (A:=dl g27 g sb qv gen 0 s) (L:=[]) hs
  replace hs:=hs.sub (F':=[(0,_),(2,_),(6,_),(7,_),(8,_)]) ⟨rfl,rfl,rfl,rfl,rfl,trivial⟩
  refine then_n (wp_seq (wp_seq (wp_reg ?_)))
  refine s_q hs (c_move (hs.ev rfl)) rfl fun ac hs=>?_
  refine s_q hs (c_lenR un51 (hs.ev rfl) (hR _ hs.fr).1) rfl fun ac hs=>?_
  refine s_q hs (c_move (hs.ev rfl)) rfl fun ac hs=>?_
  refine s_end ?_
  replace hs:=hs.sub (F':=[(0,_),(6,_),(7,_),(8,_),(28,_),(29,_),(30,_)]) ⟨rfl,rfl,rfl,rfl,rfl,rfl,rfl,trivial⟩
  refine then_n (wp_block ?_)
  have hRP:=hR _ hs.fr
  obtain ⟨rad,rcap,rfl,hrc,hrm⟩:=RdP.sl hRP
  refine s_loop hs (X:=Nat × Sl × Nat × Value) (fun z=>[(30,I z.1)]) [(0,_),(8,_),(28,_),(29,_)] (fun z=>[Ent.grp (dl g27 g sb z.2.2.2 gen z.2.2.1 z.2.1)]) (fun n z=>z.1≤ps.length∧dputs s gen 0 (ps.map (·.2))=dputs z.2.1 gen z.2.2.1 ((ps.map (·.2)).drop z.1)∧Kept s z.2.1 (41 * z.1)∧z.2.2.1≤z.2.1.n / 2∧n=ps.length - z.1) (_) ((0,s,0,qv)) (⟨Nat.zero_le _,rfl,⟨hok,rfl,Nat.le_refl _,Nat.le_refl _⟩,Nat.zero_le _,rfl⟩) ⟨rfl,rfl,rfl,rfl,rfl,trivial⟩ rfl ?_
  rintro n ⟨i,s1,n1,q1⟩ ac ww hok2 hs
  simp only [List.cons_append,List.nil_append] at hs
  obtain ⟨hi,hw1,hk1,hx1,rfl⟩:=hok2
  replace hi:i≤ps.length:=hi
  replace hw1:dputs s gen 0 (ps.map (·.2))=dputs s1 gen n1 ((ps.map (·.2)).drop i):=hw1
  replace hk1:Kept s s1 (41 * i):=hk1
  replace hx1:n1≤s1.n / 2:=hx1
  have hst1:=hk1.st
  have hql1:=hk1.q
  refine wp_seq (wp_reg ?_)
  refine s_q hs (c_lssI (hs.ev rfl) (hs.ev rfl)) rfl fun ac hs=>?_
  refine s_end (then_n (wp_seq ?_))
  refine s_cond hs rfl (fun hc=>?_) (fun hc=>?_)
  · try simp only [decide_eq_true_eq,decide_eq_false_iff_not,Bool.not_eq_true',Bool.not_eq_false',Bool.and_eq_true,Bool.or_eq_true,Bool.or_eq_false_iff] at hc
    have hip:i < ps.length:=by omega
    have hRP1:=hR _ hs.fr
    obtain ⟨rb,ro,rT,rf,rall,rfl,hrb,hps⟩:=RdP.at' hRP1 (by omega)
    have hpi:=RdP.get hRP1 hip
    have hdr:=rec_at hip
    obtain ⟨pi,hpe⟩:∃ x,ps.getD i (.nilIface,[])=x:=⟨_,rfl⟩
    have hps2:=seg_get1 (f:=fun q:Value × List UInt8=>q.1) (i:=i) (.nilIface,[]) hps hip
    rw [hpe] at hpi hdr hps2
    rw [hdr] at hw1
    refine wp_skip (then_n (wp_seq (wp_block (wp_seq (wp_reg ?_)))))
    refine s_q hs (c_idxS (j:=i) un51 ty38 (hs.ev rfl) (hs.ev rfl) (by omega) (by omega)) rfl fun ac hs=>?_
    refine s_q hs (c_loadS un38 rfl (hs.ev rfl) hrb hps2) rfl fun ac hs=>?_
    refine s_q hs (c_assign (hs.ev rfl)) rfl fun ac hs=>?_
    refine s_end (then_n (wp_seq (wp_reg ?_)))
    refine s_q hs (c_move (hs.ev rfl)) rfl fun ac hs=>?_
    refine s_q hs (c_move (hs.ev rfl)) rfl fun ac hs=>?_
    refine s_callM (i:=0) hs fu43 (.cons (hs.ev rfl) (.cons (hs.ev rfl) (.cons (hs.ev rfl) .nil))) rfl (di_put g27 g sb n1 gen q1 s1 0 pi.2 pi.1 hk1.ok (by omega) (by omega) hx1 _ (hs.get (i:=0) rfl) hpi) rfl fun ac ww v36 hf hp hs=>?_
    obtain ⟨rfl,qv',h1,h2⟩:=hp
    replace hs:=hs (Ent.grp (dl g27 g sb qv' gen (dput s1 gen n1 0 pi.2).2.2 (dput s1 gen n1 0 pi.2).2.1)) h1 (fun k hk=>⟨h2 k hk,grp_lt h1 k hk⟩)
    refine s_q hs (c_assign (hs.ev rfl)) rfl fun ac hs=>?_
    refine s_end (then_n (wp_seq (wp_reg ?_)))
    refine s_q hs (c_move (hs.ev rfl)) rfl fun ac hs=>?_
    refine s_q hs (c_neqI (hs.ev rfl) (hs.ev rfl)) rfl fun ac hs=>?_
    refine s_end (then_n ?_)
    refine s_cond hs rfl (fun hc=>?_) (fun hc=>?_)
    · try simp only [decide_eq_true_eq,decide_eq_false_iff_not,Bool.not_eq_true',Bool.not_eq_false',Bool.and_eq_true,Bool.or_eq_true,Bool.or_eq_false_iff] at hc
      have hne:¬ (dput s1 gen n1 0 pi.2).1=0:=by simpa using hc
      rw [dputs_stop hne] at hw1
      refine wp_seq (wp_reg ?_)
      refine s_q hs (c_move (hs.ev rfl)) rfl fun ac hs=>?_
      refine s_q hs (c_assign (hs.ev rfl)) rfl fun ac hs=>?_
      refine s_q hs (c_assign (hs.ev rfl)) rfl fun ac hs=>?_
      refine s_end (then_n (wp_ret (blk_r (then_r (then_r (blk_r (then_r ?_)))))))
      refine s_ret hs rfl (.tmp (hs.tmp rfl) (.tmp (hs.tmp rfl) .nil)) rfl ⟨_,rfl,hs.fr,?_⟩
      rw [show dstart s gen (ps.map (·.2))=(false,(dputs s gen 0 (ps.map (·.2))).1,(dputs s gen 0 (ps.map (·.2))).2.1,(dputs s gen 0 (ps.map (·.2))).2.2) from if_neg (by rw [hw1]; exact hne),hw1]
      exact ⟨g27,rfl,St.dlTo hs.ungrp (.refl _)⟩
    · try simp only [decide_eq_true_eq,decide_eq_false_iff_not,Bool.not_eq_true',Bool.not_eq_false',Bool.and_eq_true,Bool.or_eq_true,Bool.or_eq_false_iff] at hc
      have heq:(dput s1 gen n1 0 pi.2).1=0:=by simpa using hc
      have hw2:=hw1.trans (dputs_cons heq)
      have hk2:Kept s (dput s1 gen n1 0 pi.2).2.1 (41 * (i + 1)):=(hk1.trans (dput_kept hk1.ok)).mono (by omega)
      refine wp_skip (blk_n (then_n (wp_reg ?_)))
      refine s_q hs (c_addI (hs.ev rfl) (hs.ev rfl) (by omega) (by omega)) rfl fun ac hs=>?_
      refine s_q hs (c_move (hs.ev rfl)) rfl fun ac hs=>?_
      refine s_end (then_n ?_)
      exact ⟨ps.length - (i + 1),by omega,(i + 1,_,_,_),⟨by show i + 1≤_; omega,hw2,hk2,dput_le hk1.ok hx1,rfl⟩,St.next hs ⟨rfl,rfl,rfl,rfl,rfl,trivial⟩ rfl⟩
  · try simp only [decide_eq_true_eq,decide_eq_false_iff_not,Bool.not_eq_true',Bool.not_eq_false',Bool.and_eq_true,Bool.or_eq_true,Bool.or_eq_false_iff] at hc
    obtain rfl:i=ps.length:=by omega
    rw [List.drop_of_length_le (by simp)] at hw1
    replace hw1:dputs s gen 0 (ps.map (·.2))=(0,s1,n1):=hw1
    refine wp_exit (then_e (then_e (blk_hit (then_n (wp_seq (wp_seq (wp_reg ?_)))))))
    refine s_q hs (c_move (hs.ev rfl)) rfl fun ac hs=>?_
    refine s_callM (i:=0) hs fu43 (.cons (hs.ev rfl) (.cons (hs.ev rfl) (.cons (hs.ev rfl) .nil))) rfl (di_put g27 g sb n1 gen q1 s1 4 [] (.slice none 0 0) hk1.ok (by omega) (by omega) hx1 _ (hs.get (i:=0) rfl) (RdB.nil _)) rfl fun ac ww v42 hf hp hs=>?_
    obtain ⟨rfl,qv',h1,h2⟩:=hp
    replace hs:=hs (Ent.grp (dl g27 g sb qv' gen (dput s1 gen n1 4 []).2.2 (dput s1 gen n1 4 []).2.1)) h1 (fun k hk=>⟨h2 k hk,grp_lt h1 k hk⟩)
    have hk3:=dput_kept (g:=gen) (next:=n1) (fl:=4) (p:=[]) hk1.ok
    have hst3:=hk3.st
    have hql3:=hk3.q
    refine s_q hs (c_assign (hs.ev rfl)) rfl fun ac hs=>?_
    refine s_end ?_
    replace hs:=hs.sub (F':=[(0,_),(8,_),(12,_)]) ⟨rfl,rfl,rfl,trivial⟩
    refine then_n (wp_seq (wp_reg ?_))
    refine s_q hs (c_move (hs.ev rfl)) rfl fun ac hs=>?_
    refine s_q hs (c_neqI (hs.ev rfl) (hs.ev rfl)) rfl fun ac hs=>?_
    refine s_end ?_
    replace hs:=hs.sub (F':=[(0,_),(8,_),(12,_),(44,_)]) ⟨rfl,rfl,rfl,rfl,trivial⟩
    refine then_n ?_
    refine s_cond hs rfl (fun hc=>?_) (fun hc=>?_)
    · try simp only [decide_eq_true_eq,decide_eq_false_iff_not,Bool.not_eq_true',Bool.not_eq_false',Bool.and_eq_true,Bool.or_eq_true,Bool.or_eq_false_iff] at hc
      have hne:¬ (dput s1 gen n1 4 []).1=0:=by simpa using hc
      refine wp_seq (wp_reg ?_)
      refine s_q hs (c_move (hs.ev rfl)) rfl fun ac hs=>?_
      refine s_q hs (c_assign (hs.ev rfl)) rfl fun ac hs=>?_
      refine s_q hs (c_assign (hs.ev rfl)) rfl fun ac hs=>?_
      refine s_end ?_
      replace hs:=hs.sub (F':=[(0,_),(6,_),(7,_),(8,_)]) ⟨rfl,rfl,rfl,rfl,trivial⟩
      refine then_n (wp_ret (then_r ?_))
      refine s_ret hs rfl (.tmp (hs.tmp rfl) (.tmp (hs.tmp rfl) .nil)) rfl ⟨_,rfl,hs.fr,?_⟩
      rw [show dstart s gen (ps.map (·.2))=(false,(dput s1 gen n1 4 []).1,(dput s1 gen n1 4 []).2.1,(dput s1 gen n1 4 []).2.2) from (if_pos (by rw [hw1])).trans (by rw [hw1]; exact if_neg hne)]
      exact ⟨g27,rfl,St.dlTo hs.ungrp (.refl _)⟩
    · try simp only [decide_eq_true_eq,decide_eq_false_iff_not,Bool.not_eq_true',Bool.not_eq_false',Bool.and_eq_true,Bool.or_eq_true,Bool.or_eq_false_iff] at hc
      have heq:(dput s1 gen n1 4 []).1=0:=by simpa using hc
      replace hs:=hs.ungrp
      refine wp_skip (then_n (wp_seq (wp_reg ?_)))
      refine s_q hs (c_move (hs.ev rfl)) rfl fun ac hs=>?_
      refine s_q hs (c_move (hs.ev rfl)) rfl fun ac hs=>?_
      refine s_callM (i:=1) hs fu12 (.cons (hs.ev rfl) .nil) rfl (sl_Flush g sb qv' (dput s1 gen n1 4 []).2.1 hk3.ok (by omega) (by omega) _ (hs.get (i:=1) rfl)) rfl fun ac ww v48 hf hp hs=>?_
      obtain ⟨rfl,qv',h1,h2⟩:=hp
      replace hs:=hs (Ent.grp (sl g sb qv' (dput s1 gen n1 4 []).2.1.flush.2)) h1 (fun k hk=>⟨h2 k hk,grp_lt h1 k hk⟩)
      refine s_q hs (c_assign (hs.ev rfl)) rfl fun ac hs=>?_
      refine s_q hs (c_assign (hs.ev rfl)) rfl fun ac hs=>?_
      refine s_end ?_
      replace hs:=hs.sub (F':=[(6,_),(7,_)]) ⟨rfl,rfl,trivial⟩
      refine then_n (wp_ret ?_)
      refine s_ret hs rfl (.tmp (hs.tmp rfl) (.tmp (hs.tmp rfl) .nil)) rfl ⟨_,rfl,hs.fr,?_⟩
      rw [show dstart s gen (ps.map (·.2))=(true,(dput s1 gen n1 4 []).2.1.flush.1,(dput s1 gen n1 4 []).2.1.flush.2,(dput s1 gen n1 4 []).2.2) from (if_pos (by rw [hw1])).trans (by rw [hw1]; exact if_pos heq)]
      exact ⟨g27,rfl,St.dlTo hs (.refl _)⟩
theorem nil_Start (gen:UInt32) (rv:Value) (w:World) :Ctr Try.prog 26 [.pointer none,U gen,rv] w (fun _=>False) (fun v _=>v=.tuple #[.pointer none,I 2]):=by
  refine fn_start (N:=49) Try.func26 rfl rfl rfl fun ac hk=>?_
  have hs:=St.start hk w
  refine wp_seq (wp_reg ?_)
  refine s_q hs (c_assign (hs.ev rfl)) rfl fun ac hs=>?_
  refine s_q hs (c_assign (hs.ev rfl)) rfl fun ac hs=>?_
  refine s_end (then_n (wp_seq (wp_block (wp_seq (wp_reg ?_)))))
  refine s_q hs (c_move (hs.ev rfl)) rfl fun ac hs=>?_
  refine s_q hs (c_eqlNil0 un23 (hs.ev rfl) (hs.ev rfl)) rfl fun ac hs=>?_
  refine s_q hs (c_assign (hs.ev rfl)) rfl fun ac hs=>?_
  refine s_end ?_
  replace hs:=hs.sub (F':=[(0,_),(1,_),(2,_),(6,_),(7,_),(13,_)]) ⟨rfl,rfl,rfl,rfl,rfl,rfl,trivial⟩
  refine then_n ?_
  refine wp_cond_true (hs.ev rfl) ?_
  refine wp_seq (wp_reg ?_)
  refine s_q hs (c_assign (hs.ev rfl)) rfl fun ac hs=>?_
  refine s_q hs (c_assign (hs.ev rfl)) rfl fun ac hs=>?_
  refine s_end ?_
  replace hs:=hs.sub (F':=[(0,_),(1,_),(2,_),(6,_),(7,_)]) ⟨rfl,rfl,rfl,rfl,rfl,trivial⟩
  refine then_n (wp_ret (blk_r (then_r ?_)))
  refine s_ret hs rfl (.tmp (hs.tmp rfl) (.tmp (hs.tmp rfl) .nil)) rfl ⟨_,rfl,hs.fr,?_⟩
  rfl
theorem few_Start (g sb:Nat) (gen:UInt32) (qv:Value) (s:Sl) (rv:Value) (h2:s.n < 2) (w:World) (hR:SlR w g sb qv s):Ctr Try.prog 26 [.pointer (some ⟨g,0,none⟩),U gen,rv] w (fun _=>False) (fun v _=>v=.tuple #[.pointer none,I 1]):=by
  refine fn_start (N:=49) Try.func26 rfl rfl rfl fun ac hk=>?_
  have hs:=St.start hk w
  refine wp_seq (wp_reg ?_)
  refine s_q hs (c_assign (hs.ev rfl)) rfl fun ac hs=>?_
  refine s_q hs (c_assign (hs.ev rfl)) rfl fun ac hs=>?_
  refine s_end (then_n (wp_seq (wp_block (wp_seq (wp_reg ?_)))))
  refine s_q hs (c_move (hs.ev rfl)) rfl fun ac hs=>?_
  refine s_q hs (c_eqlNil un23 (hs.ev rfl) (hs.ev rfl)) rfl fun ac hs=>?_
  refine s_q hs (c_assign (hs.ev rfl)) rfl fun ac hs=>?_
  refine s_end ?_
  replace hs:=hs.sub (F':=[(0,_),(1,_),(2,_),(6,_),(7,_),(13,_)]) ⟨rfl,rfl,rfl,rfl,rfl,rfl,trivial⟩
  refine then_n ?_
  refine wp_cond_false (hs.ev rfl) ?_
  refine wp_seq (wp_reg ?_)
  refine s_q hs (c_move (hs.ev rfl)) rfl fun ac hs=>?_
  refine s_call hs fu20 (.cons (hs.ev rfl) .nil) (sl_Sectors g sb qv s _ (hR.fr0 hs.fr)) rfl fun ac ww v18 hf hp hs=>?_
  obtain rfl:=hp
  replace hs:=hs [] (.nil _ _)
  refine s_q hs (c_lssI (hs.ev rfl) (hs.ev rfl)) rfl fun ac hs=>?_
  refine s_q hs (c_move (hs.ev rfl)) rfl fun ac hs=>?_
  refine s_g hs rfl rfl (fun hg=>c_move (hs.ev rfl)) rfl fun ac hs=>?_
  refine s_g hs rfl rfl (fun hg=>c_eqlU (gev (hs.ev rfl) hg) (St.ev (v:=U 0) hs rfl)) rfl fun ac hs=>?_
  refine s_q hs (c_tt (c_or (hs.ev rfl) (hs.ev rfl)) ((by simp; omega))) rfl fun ac hs=>?_
  refine s_q hs (c_assign (hs.ev rfl)) rfl fun ac hs=>?_
  refine s_end ?_
  replace hs:=hs.sub (F':=[(0,_),(1,_),(2,_),(6,_),(7,_),(16,_)]) ⟨rfl,rfl,rfl,rfl,rfl,rfl,trivial⟩
  refine then_n ?_
  refine wp_cond_true (hs.ev rfl) ?_
  refine wp_seq (wp_reg ?_)
  refine s_q hs (c_assign (hs.ev rfl)) rfl fun ac hs=>?_
  refine s_q hs (c_assign (hs.ev rfl)) rfl fun ac hs=>?_
  refine s_end ?_
  replace hs:=hs.sub (F':=[(0,_),(1,_),(2,_),(6,_),(7,_)]) ⟨rfl,rfl,rfl,rfl,rfl,trivial⟩
  refine then_n (wp_ret (blk_r (then_r ?_)))
  refine s_ret hs rfl (.tmp (hs.tmp rfl) (.tmp (hs.tmp rfl) .nil)) rfl ⟨_,rfl,hs.fr,?_⟩
  rfl
theorem nil_Load  (w:World) :Ctr Try.prog 30 [.pointer none] w (fun _=>False) (fun v _=>v=.tuple #[.slice none 0 0,U 0,I 2]):=by
  refine fn_start (N:=90) Try.func30 rfl rfl rfl fun ac hk=>?_
  have hs:=St.start hk w
  refine wp_seq (wp_reg ?_)
  refine s_q hs (c_assign (hs.ev rfl)) rfl fun ac hs=>?_
  refine s_q hs (c_assign (St.ev (v:=U 0) hs rfl)) rfl fun ac hs=>?_
  refine s_q hs (c_assign (hs.ev rfl)) rfl fun ac hs=>?_
  refine s_end (then_n (wp_seq (wp_block (wp_seq (wp_reg ?_)))))
  refine s_q hs (c_move (hs.ev rfl)) rfl fun ac hs=>?_
  refine s_q hs (c_eqlNil0 un23 (hs.ev rfl) (hs.ev rfl)) rfl fun ac hs=>?_
  refine s_q hs (c_assign (hs.ev rfl)) rfl fun ac hs=>?_
  refine s_end ?_
  replace hs:=hs.sub (F':=[(0,_),(2,_),(3,_),(4,_),(13,_)]) ⟨rfl,rfl,rfl,rfl,rfl,trivial⟩
  refine then_n ?_
  refine wp_cond_true (hs.ev rfl) ?_
  refine wp_seq (wp_reg ?_)
  refine s_q hs (c_assign (hs.ev rfl)) rfl fun ac hs=>?_
  refine s_q hs (c_assign (St.ev (v:=U 0) hs rfl)) rfl fun ac hs=>?_
  refine s_q hs (c_assign (hs.ev rfl)) rfl fun ac hs=>?_
  refine s_end ?_
  replace hs:=hs.sub (F':=[(0,_),(2,_),(3,_),(4,_)]) ⟨rfl,rfl,rfl,rfl,trivial⟩
  refine then_n (wp_ret (blk_r (then_r ?_)))
  refine s_ret hs rfl (.tmp (hs.tmp rfl) (.tmp (hs.tmp rfl) (.tmp (hs.tmp rfl) .nil))) rfl ⟨_,rfl,hs.fr,?_⟩
  rfl
theorem few_Load (g sb:Nat) (qv:Value) (s:Sl) (h2:s.n < 2) (w:World) (hR:SlR w g sb qv s):Ctr Try.prog 30 [.pointer (some ⟨g,0,none⟩)] w (fun _=>False) (fun v _=>v=.tuple #[.slice none 0 0,U 0,I 1]):=by
  refine fn_start (N:=90) Try.func30 rfl rfl rfl fun ac hk=>?_
  have hs:=St.start hk w
  refine wp_seq (wp_reg ?_)
  refine s_q hs (c_assign (hs.ev rfl)) rfl fun ac hs=>?_
  refine s_q hs (c_assign (St.ev (v:=U 0) hs rfl)) rfl fun ac hs=>?_
  refine s_q hs (c_assign (hs.ev rfl)) rfl fun ac hs=>?_
  refine s_end (then_n (wp_seq (wp_block (wp_seq (wp_reg ?_)))))
  refine s_q hs (c_move (hs.ev rfl)) rfl fun ac hs=>?_
  refine s_q hs (c_eqlNil un23 (hs.ev rfl) (hs.ev rfl)) rfl fun ac hs=>?_
  refine s_q hs (c_assign (hs.ev rfl)) rfl fun ac hs=>?_
  refine s_end ?_
  replace hs:=hs.sub (F':=[(0,_),(2,_),(3,_),(4,_),(13,_)]) ⟨rfl,rfl,rfl,rfl,rfl,trivial⟩
  refine then_n ?_
  refine wp_cond_false (hs.ev rfl) ?_
  refine wp_seq (wp_reg ?_)
  refine s_q hs (c_move (hs.ev rfl)) rfl fun ac hs=>?_
  refine s_call hs fu20 (.cons (hs.ev rfl) .nil) (sl_Sectors g sb qv s _ (hR.fr0 hs.fr)) rfl fun ac ww v18 hf hp hs=>?_
  obtain rfl:=hp
  replace hs:=hs [] (.nil _ _)
  refine s_q hs (c_tt (c_lssI (hs.ev rfl) (hs.ev rfl)) ((by simp; omega))) rfl fun ac hs=>?_
  refine s_q hs (c_assign (hs.ev rfl)) rfl fun ac hs=>?_
  refine s_end ?_
  replace hs:=hs.sub (F':=[(0,_),(2,_),(3,_),(4,_),(16,_)]) ⟨rfl,rfl,rfl,rfl,rfl,trivial⟩
  refine then_n ?_
  refine wp_cond_true (hs.ev rfl) ?_
  refine wp_seq (wp_reg ?_)
  refine s_q hs (c_assign (hs.ev rfl)) rfl fun ac hs=>?_
  refine s_q hs (c_assign (St.ev (v:=U 0) hs rfl)) rfl fun ac hs=>?_
  refine s_q hs (c_assign (hs.ev rfl)) rfl fun ac hs=>?_
  refine s_end ?_
  replace hs:=hs.sub (F':=[(0,_),(2,_),(3,_),(4,_)]) ⟨rfl,rfl,rfl,rfl,trivial⟩
  refine then_n (wp_ret (blk_r (then_r ?_)))
  refine s_ret hs rfl (.tmp (hs.tmp rfl) (.tmp (hs.tmp rfl) (.tmp (hs.tmp rfl) .nil))) rfl ⟨_,rfl,hs.fr,?_⟩
  rfl
def dw1:=dstart (newS 8) 1 []
theorem dw1_ok:dw1.2.2.1.Ok:=Sl.flush_ok (dput_kept (s:=newS 8) (g:=1) (next:=0) (fl:=4) (p:=[]) (newS_ok (by decide))).ok
theorem dw1_e:dw1.1=true∧dw1.2.1=0∧dw1.2.2.2=1∧dw1.2.2.1.n=8:=by decide +kernel
theorem dw1_r:((dw1.2.2.1.read 4).2=0)∧(dw1.2.2.1.read 4).1.getD 3 0=1∧(dw1.2.2.1.read 4).1.getD 6 0=7∧(dw1.2.2.1.read 4).1.length=64:=by decide +kernel
theorem RdP.noneS (w:World):RdP w (.slice none 0 0) []:=⟨⟨none,0,rfl,Nat.le_refl _,Nat.zero_le _,fun _=>rfl,.inl rfl⟩,fun _ h=>by cases h⟩
theorem getB {l:List UInt8} {i:Nat} (h:i < l.length):(l.map B).toArray.toList[0 + i * 1]?=some (B (l.getD i 0)):=by
  rw [show 0 + i * 1=i by omega]
  simp [h]
theorem di_awake  (w:World) :Ctr Try.prog 24 [] w (fun _=>False) (fun v _=>v=.bool true):=by
  refine fn_start (N:=50) Try.func24 rfl rfl rfl fun ac hk=>?_
  have hs:=St.start hk w
  refine wp_seq (wp_reg ?_)
  refine s_q hs (c_assign (hs.ev rfl)) rfl fun ac hs=>?_
  refine s_end (then_n (wp_seq (wp_reg ?_)))
  refine s_call hs fu9 (.cons (hs.ev rfl) .nil) (sl_New 8 _) rfl fun ac ww v8 hf hp hs=>?_
  rw [if_pos (by decide)] at hp
  obtain ⟨g,sb,rfl,hh⟩:=hp
  replace hs:=hs _ (Has.grp' hh)
  refine s_q hs (c_move (hs.ev rfl)) rfl fun ac hs=>?_
  refine s_q hs (c_extract (hs.ev rfl) rfl) rfl fun ac hs=>?_
  refine s_q hs (c_extract (hs.ev rfl) rfl) rfl fun ac hs=>?_
  refine s_q hs (c_assign (hs.ev rfl)) rfl fun ac hs=>?_
  refine s_q hs (c_assign (hs.ev rfl)) rfl fun ac hs=>?_
  refine s_end ?_
  replace hs:=hs.sub (F':=[(0,_),(1,_)]) ⟨rfl,rfl,trivial⟩
  refine then_n (wp_seq (wp_reg ?_))
  refine s_q hs (c_move (hs.ev rfl)) rfl fun ac hs=>?_
  refine s_callM (i:=0) hs fu26 (.cons (hs.ev rfl) (.cons (hs.ev rfl) (.cons (hs.ev rfl) .nil))) rfl (di_Start g sb 1 _ (newS 8) [] _ (newS_ok (by decide)) (by decide) (by decide) (by decide) (by decide) (by decide) (by decide) _ (hs.get (i:=0) rfl) (fun _ _=>RdP.noneS _)) rfl fun ac ww v13 hf hp hs=>?_
  obtain ⟨dg,rfl,qv',h1,h2⟩:=hp
  replace hs:=(hs (Ent.grp (dl dg g sb qv' 1 _ _)) h1 (fun k hk=>⟨h2 k hk,grp_lt h1 k hk⟩)).toL (L':=[Ent.grp (dl dg g sb qv' 1 1 dw1.2.2.1)]) (by rw [← dw1_e.2.2.1]; rfl)
  have hn8:=dw1_e.2.2.2
  refine s_q hs (c_move (hs.ev rfl)) rfl fun ac hs=>?_
  refine s_q hs (c_extract (hs.ev rfl) (show _=some (Value.pointer (some ⟨dg,0,none⟩)) from congrArg some (congrArg (fun b=>dptr b dg) dw1_e.1))) rfl fun ac hs=>?_
  refine s_q hs (c_extract (hs.ev rfl) (show _=some (I 0) from congrArg (fun n:Int=>some (I n)) dw1_e.2.1)) rfl fun ac hs=>?_
  refine s_q hs (c_assign (hs.ev rfl)) rfl fun ac hs=>?_
  refine s_q hs (c_assign (hs.ev rfl)) rfl fun ac hs=>?_
  refine s_end ?_
  replace hs:=hs.sub (F':=[(0,_),(1,_),(3,_),(4,_)]) ⟨rfl,rfl,rfl,rfl,trivial⟩
  refine then_n (wp_seq (wp_reg ?_))
  refine s_q hs (c_move (hs.ev rfl)) rfl fun ac hs=>?_
  refine s_call hs fu15 (.cons (hs.ev rfl) (.cons (hs.ev rfl) .nil)) (sl_Read g sb qv' dw1.2.2.1 4 dw1_ok _ (sl_get (dl_sl (hs.get (i:=0) rfl)))) rfl fun ac ww v18 hf hp hs=>?_
  rw [dw1_r.1] at hp
  obtain rfl:=hp
  replace hs:=hs [] (.nil _ _)
  obtain ⟨-,hr3,hr6,hrl⟩:=dw1_r
  refine s_q hs (c_move (hs.ev rfl)) rfl fun ac hs=>?_
  refine s_q hs (c_extract (hs.ev rfl) rfl) rfl fun ac hs=>?_
  refine s_q hs (c_extract (hs.ev rfl) rfl) rfl fun ac hs=>?_
  refine s_alloc hs ty29 rfl fun ac ww g5 hs=>?_
  refine s_storeW (i:=0) hs ty29 rfl rfl rfl (by simp [hrl]) (all64 _) (by rfl) fun ww hs=>?_
  refine s_q hs (c_assign (hs.ev rfl)) rfl fun ac hs=>?_
  refine s_end ?_
  replace hs:=hs.sub (F':=[(0,_),(3,_),(4,_),(5,_),(6,_)]) ⟨rfl,rfl,rfl,rfl,rfl,trivial⟩
  refine then_n (wp_seq (wp_reg ?_))
  refine s_q hs (c_move (hs.ev rfl)) rfl fun ac hs=>?_
  refine s_q hs (c_neqNil un56 (hs.ev rfl) (hs.ev rfl)) rfl fun ac hs=>?_
  refine s_q hs (c_move (hs.ev rfl)) rfl fun ac hs=>?_
  refine s_yes hs rfl rfl ?_
  refine s_q hs (c_move (hs.ev rfl)) rfl fun ac hs=>?_
  refine s_yes hs rfl rfl ?_
  refine s_q hs (c_eqlI (hs.ev rfl) (hs.ev rfl)) rfl fun ac hs=>?_
  refine s_q hs (c_pick (hs.ev rfl) (hs.ev rfl) (hs.ev rfl)) rfl fun ac hs=>?_
  refine s_q hs (c_move (hs.ev rfl)) rfl fun ac hs=>?_
  refine s_yes hs rfl rfl ?_
  refine s_q hs (c_move (hs.ev rfl)) rfl fun ac hs=>?_
  refine s_yes hs rfl rfl ?_
  refine s_q hs (c_eqlI (hs.ev rfl) (hs.ev rfl)) rfl fun ac hs=>?_
  refine s_q hs (c_pick (hs.ev rfl) (hs.ev rfl) (hs.ev rfl)) rfl fun ac hs=>?_
  refine s_q hs (c_move (hs.ev rfl)) rfl fun ac hs=>?_
  refine s_yes hs rfl rfl ?_
  refine s_q hs (c_idxA (j:=3) un29 ty5 (hs.ev rfl) (hs.ev rfl) rfl (by decide)) rfl fun ac hs=>?_
  refine s_yes hs rfl rfl ?_
  refine s_q hs (c_loadS un5 rfl (hs.ev rfl) (hs.seg (i:=0) rfl) ((getB (by omega)).trans (congrArg (fun b:UInt8=>some (B b)) hr3))) rfl fun ac hs=>?_
  refine s_yes hs rfl rfl ?_
  refine s_q hs (c_eqlB (hs.ev rfl) (St.ev (v:=B 1) hs rfl)) rfl fun ac hs=>?_
  refine s_q hs (c_pick (hs.ev rfl) (hs.ev rfl) (hs.ev rfl)) rfl fun ac hs=>?_
  refine s_q hs (c_move (hs.ev rfl)) rfl fun ac hs=>?_
  refine s_yes hs rfl rfl ?_
  refine s_q hs (c_idxA (j:=6) un29 ty5 (hs.ev rfl) (hs.ev rfl) rfl (by decide)) rfl fun ac hs=>?_
  refine s_yes hs rfl rfl ?_
  refine s_q hs (c_loadS un5 rfl (hs.ev rfl) (hs.seg (i:=0) rfl) ((getB (by omega)).trans (congrArg (fun b:UInt8=>some (B b)) hr6))) rfl fun ac hs=>?_
  refine s_yes hs rfl rfl ?_
  refine s_q hs (c_eqlB (hs.ev rfl) (St.ev (v:=B 7) hs rfl)) rfl fun ac hs=>?_
  refine s_q hs (c_pick (hs.ev rfl) (hs.ev rfl) (hs.ev rfl)) rfl fun ac hs=>?_
  refine s_q hs (c_move (hs.ev rfl)) rfl fun ac hs=>?_
  refine s_yes hs rfl rfl ?_
  refine s_q hs (c_move (hs.ev rfl)) rfl fun ac hs=>?_
  refine s_yes hs rfl rfl ?_
  refine s_call hs fu29 (.cons (hs.ev rfl) .nil) (di_Free dg g sb 1 1 qv' dw1.2.2.1 (by rw [hn8]; decide) (by rw [hn8]; decide) _ (dl_d (hs.get (i:=1) rfl)) (sl_get (dl_sl (hs.get (i:=1) rfl)))) rfl fun ac ww v43 hf hp hs=>?_
  rw [hn8] at hp
  obtain rfl:=hp
  replace hs:=hs [] (.nil _ _)
  refine s_yes hs rfl rfl ?_
  refine s_q hs (c_eqlI (hs.ev rfl) (hs.ev rfl)) rfl fun ac hs=>?_
  refine s_q hs (c_pick (hs.ev rfl) (hs.ev rfl) (hs.ev rfl)) rfl fun ac hs=>?_
  refine s_q hs (c_move (hs.ev rfl)) rfl fun ac hs=>?_
  refine s_yes hs rfl rfl ?_
  refine s_call hs fu34 (.cons (hs.ev rfl) .nil) (di_Need 51 (by decide) _) rfl fun ac ww v47 hf hp hs=>?_
  obtain rfl:=hp
  replace hs:=hs [] (.nil _ _)
  refine s_yes hs rfl rfl ?_
  refine s_q hs (c_eqlI (hs.ev rfl) (hs.ev rfl)) rfl fun ac hs=>?_
  refine s_q hs (c_pick (hs.ev rfl) (hs.ev rfl) (hs.ev rfl)) rfl fun ac hs=>?_
  refine s_q hs (c_assign (hs.ev rfl)) rfl fun ac hs=>?_
  refine s_end ?_
  replace hs:=hs.sub (F':=[(0,_)]) ⟨rfl,trivial⟩
  refine then_n (wp_ret ?_)
  refine s_ret hs rfl (.tmp (hs.tmp rfl) .nil) rfl ⟨_,rfl,hs.fr,?_⟩
  rfl
theorem law_DiaryNil (n:Int) (p:Value) (w:World) :Ctr Try.prog 7 [I n,p] w (fun _=>False) (fun v _=>v=.bool true):=by
  refine fn_start (N:=99) Try.func7 rfl rfl rfl fun ac hk=>?_
  have hs:=St.start hk w
  refine wp_seq (wp_reg ?_)
  refine s_q hs (c_assign (hs.ev rfl)) rfl fun ac hs=>?_
  refine s_end (then_n (wp_seq (wp_reg ?_)))
  refine s_q hs (c_assign (hs.ev rfl)) rfl fun ac hs=>?_
  refine s_end (then_n (wp_seq (wp_reg ?_)))
  refine s_call hs fu30 (.cons (hs.ev rfl) .nil) (nil_Load _) rfl fun ac ww v20 hf hp hs=>?_
  obtain rfl:=hp
  replace hs:=hs [] (.nil _ _)
  refine s_q hs (c_move (hs.ev rfl)) rfl fun ac hs=>?_
  refine s_q hs (c_extract (hs.ev rfl) rfl) rfl fun ac hs=>?_
  refine s_q hs (c_extract (hs.ev rfl) rfl) rfl fun ac hs=>?_
  refine s_q hs (c_extract (hs.ev rfl) rfl) rfl fun ac hs=>?_
  refine s_q hs (c_assign (hs.ev rfl)) rfl fun ac hs=>?_
  refine s_q hs (c_assign (hs.ev rfl)) rfl fun ac hs=>?_
  refine s_q hs (c_assign (hs.ev rfl)) rfl fun ac hs=>?_
  refine s_end ?_
  replace hs:=hs.sub (F':=[(0,_),(1,_),(4,_),(5,_),(8,_)]) ⟨rfl,rfl,rfl,rfl,rfl,trivial⟩
  refine then_n (wp_seq (wp_reg ?_))
  refine s_call hs fu26 (.cons (hs.ev rfl) (.cons (hs.ev rfl) (.cons (hs.ev rfl) .nil))) (nil_Start 1 _ _) rfl fun ac ww v25 hf hp hs=>?_
  obtain rfl:=hp
  replace hs:=hs [] (.nil _ _)
  refine s_q hs (c_move (hs.ev rfl)) rfl fun ac hs=>?_
  refine s_q hs (c_extract (hs.ev rfl) rfl) rfl fun ac hs=>?_
  refine s_q hs (c_extract (hs.ev rfl) rfl) rfl fun ac hs=>?_
  refine s_q hs (c_assign (hs.ev rfl)) rfl fun ac hs=>?_
  refine s_q hs (c_assign (hs.ev rfl)) rfl fun ac hs=>?_
  refine s_end ?_
  replace hs:=hs.sub (F':=[(0,_),(1,_),(4,_),(5,_),(8,_),(10,_)]) ⟨rfl,rfl,rfl,rfl,rfl,rfl,trivial⟩
  refine then_n (wp_seq (wp_reg ?_))
  refine s_call hs fu9 (.cons (hs.ev rfl) .nil) (sl_New 1 _) rfl fun ac ww v29 hf hp hs=>?_
  rw [if_pos (by decide)] at hp
  obtain ⟨g,sb,rfl,hh⟩:=hp
  replace hs:=hs _ (Has.grp' hh)
  refine s_q hs (c_move (hs.ev rfl)) rfl fun ac hs=>?_
  refine s_q hs (c_extract (hs.ev rfl) rfl) rfl fun ac hs=>?_
  refine s_q hs (c_extract (hs.ev rfl) rfl) rfl fun ac hs=>?_
  refine s_q hs (c_assign (hs.ev rfl)) rfl fun ac hs=>?_
  refine s_q hs (c_assign (hs.ev rfl)) rfl fun ac hs=>?_
  refine s_end ?_
  replace hs:=hs.sub (F':=[(0,_),(1,_),(4,_),(5,_),(8,_),(10,_),(11,_)]) ⟨rfl,rfl,rfl,rfl,rfl,rfl,rfl,trivial⟩
  refine then_n (wp_seq (wp_reg ?_))
  refine s_q hs (c_move (hs.ev rfl)) rfl fun ac hs=>?_
  refine s_call hs fu30 (.cons (hs.ev rfl) .nil) (few_Load g sb _ _ (by decide) _ (sl_get (hs.get (i:=0) rfl))) rfl fun ac ww v34 hf hp hs=>?_
  obtain rfl:=hp
  replace hs:=hs [] (.nil _ _)
  refine s_q hs (c_move (hs.ev rfl)) rfl fun ac hs=>?_
  refine s_q hs (c_extract (hs.ev rfl) rfl) rfl fun ac hs=>?_
  refine s_q hs (c_extract (hs.ev rfl) rfl) rfl fun ac hs=>?_
  refine s_q hs (c_extract (hs.ev rfl) rfl) rfl fun ac hs=>?_
  refine s_q hs (c_assign (hs.ev rfl)) rfl fun ac hs=>?_
  refine s_q hs (c_assign (hs.ev rfl)) rfl fun ac hs=>?_
  refine s_q hs (c_assign (hs.ev rfl)) rfl fun ac hs=>?_
  refine s_end ?_
  replace hs:=hs.sub (F':=[(0,_),(1,_),(4,_),(5,_),(8,_),(10,_),(11,_),(15,_)]) ⟨rfl,rfl,rfl,rfl,rfl,rfl,rfl,rfl,trivial⟩
  refine then_n (wp_seq (wp_reg ?_))
  refine s_q hs (c_move (hs.ev rfl)) rfl fun ac hs=>?_
  refine s_call hs fu26 (.cons (hs.ev rfl) (.cons (hs.ev rfl) (.cons (hs.ev rfl) .nil))) (few_Start g sb 1 _ _ _ (by decide) _ (sl_get (hs.get (i:=0) rfl))) rfl fun ac ww v40 hf hp hs=>?_
  obtain rfl:=hp
  replace hs:=hs [] (.nil _ _)
  refine s_q hs (c_move (hs.ev rfl)) rfl fun ac hs=>?_
  refine s_q hs (c_extract (hs.ev rfl) rfl) rfl fun ac hs=>?_
  refine s_q hs (c_extract (hs.ev rfl) rfl) rfl fun ac hs=>?_
  refine s_q hs (c_assign (hs.ev rfl)) rfl fun ac hs=>?_
  refine s_q hs (c_assign (hs.ev rfl)) rfl fun ac hs=>?_
  refine s_end ?_
  replace hs:=hs.sub (F':=[(0,_),(1,_),(4,_),(5,_),(8,_),(10,_),(15,_),(17,_)]) ⟨rfl,rfl,rfl,rfl,rfl,rfl,rfl,rfl,trivial⟩
  refine then_n (wp_seq (wp_reg ?_))
  refine s_q hs (c_assign (hs.ev rfl)) rfl fun ac hs=>?_
  refine s_end (then_n (wp_seq (wp_seq (wp_reg ?_))))
  refine s_q hs (c_move (hs.ev rfl)) rfl fun ac hs=>?_
  refine s_q hs (c_gtrI (hs.ev rfl) (hs.ev rfl)) rfl fun ac hs=>?_
  refine s_q hs (c_move (hs.ev rfl)) rfl fun ac hs=>?_
  refine s_g hs rfl rfl (fun hg=>c_move (hs.ev rfl)) rfl fun ac hs=>?_
  refine s_g hs rfl rfl (fun hg=>c_lssI (gev (hs.ev rfl) hg) (hs.ev rfl)) rfl fun ac hs=>?_
  refine s_q hs (c_and (hs.ev rfl) (hs.ev rfl)) rfl fun ac hs=>?_
  refine s_end ?_
  replace hs:=hs.sub (F':=[(0,_),(1,_),(4,_),(5,_),(8,_),(10,_),(15,_),(17,_),(18,_),(48,_)]) ⟨rfl,rfl,rfl,rfl,rfl,rfl,rfl,rfl,rfl,rfl,trivial⟩
  refine then_n ?_
  refine s_cond hs rfl (fun hc=>?_) (fun hc=>?_)
  · skip
    have hn:0 < n∧n < 1099511627776:=by simpa using hc
    refine wp_reg ?_
    refine s_q hs (c_move (hs.ev rfl)) rfl fun ac hs=>?_
    refine s_call hs fu32 (.cons (hs.ev rfl) .nil) (ref15_Need n (by omega) (by omega) _) rfl fun ac ww v50 hf hp hs=>?_
    obtain rfl:=hp
    replace hs:=hs [] (.nil _ _)
    refine s_q hs (c_assign (hs.ev rfl)) rfl fun ac hs=>?_
    refine s_end ?_
    obtain ⟨x18,hx18⟩:∃ x,x=((need n.toNat:Nat):Int):=⟨_,rfl⟩
    have hxn:¬ 1099511627776≤n→x18=((need n.toNat:Nat):Int):=fun _=>hx18
    replace hs:=hs.sub (F':=[(18,I x18),(0,_),(1,_),(5,_),(8,_),(10,_),(15,_),(17,_)]) ⟨by rw [hx18]; rfl,rfl,rfl,rfl,rfl,rfl,rfl,rfl,trivial⟩
    refine then_n (wp_seq (wp_reg ?_))
    refine s_call hs fu24 .nil (di_awake _) rfl fun ac ww v51 hf hp hs=>?_
    obtain rfl:=hp
    replace hs:=hs [] (.nil _ _)
    refine s_q hs (c_move (hs.ev rfl)) rfl fun ac hs=>?_
    refine s_yes hs rfl rfl ?_
    refine s_q hs (c_move (hs.ev rfl)) rfl fun ac hs=>?_
    refine s_yes hs rfl rfl ?_
    refine s_q hs (c_move (hs.ev rfl)) rfl fun ac hs=>?_
    refine s_yes hs rfl rfl ?_
    refine s_call hs fu27 (.cons (hs.ev rfl) (.cons (hs.ev rfl) .nil)) (nil_Append p _) rfl fun ac ww v55 hf hp hs=>?_
    obtain rfl:=hp
    replace hs:=hs [] (.nil _ _)
    refine s_yes hs rfl rfl ?_
    refine s_q hs (c_eqlI (hs.ev rfl) (hs.ev rfl)) rfl fun ac hs=>?_
    refine s_q hs (c_pick (hs.ev rfl) (hs.ev rfl) (hs.ev rfl)) rfl fun ac hs=>?_
    refine s_q hs (c_move (hs.ev rfl)) rfl fun ac hs=>?_
    refine s_yes hs rfl rfl ?_
    refine s_q hs (c_move (hs.ev rfl)) rfl fun ac hs=>?_
    refine s_yes hs rfl rfl ?_
    refine s_call hs fu28 (.cons (hs.ev rfl) .nil) (nil_DFlush _) rfl fun ac ww v60 hf hp hs=>?_
    obtain rfl:=hp
    replace hs:=hs [] (.nil _ _)
    refine s_yes hs rfl rfl ?_
    refine s_q hs (c_eqlI (hs.ev rfl) (hs.ev rfl)) rfl fun ac hs=>?_
    refine s_q hs (c_pick (hs.ev rfl) (hs.ev rfl) (hs.ev rfl)) rfl fun ac hs=>?_
    refine s_q hs (c_move (hs.ev rfl)) rfl fun ac hs=>?_
    refine s_yes hs rfl rfl ?_
    refine s_q hs (c_move (hs.ev rfl)) rfl fun ac hs=>?_
    refine s_yes hs rfl rfl ?_
    refine s_call hs fu33 (.cons (hs.ev rfl) .nil) (nil_Gen _) rfl fun ac ww v65 hf hp hs=>?_
    obtain rfl:=hp
    replace hs:=hs [] (.nil _ _)
    refine s_yes hs rfl rfl ?_
    refine s_q hs (c_eqlU (hs.ev rfl) (St.ev (v:=U 0) hs rfl)) rfl fun ac hs=>?_
    refine s_q hs (c_pick (hs.ev rfl) (hs.ev rfl) (hs.ev rfl)) rfl fun ac hs=>?_
    refine s_q hs (c_move (hs.ev rfl)) rfl fun ac hs=>?_
    refine s_yes hs rfl rfl ?_
    refine s_q hs (c_move (hs.ev rfl)) rfl fun ac hs=>?_
    refine s_yes hs rfl rfl ?_
    refine s_call hs fu29 (.cons (hs.ev rfl) .nil) (nil_Free _) rfl fun ac ww v70 hf hp hs=>?_
    obtain rfl:=hp
    replace hs:=hs [] (.nil _ _)
    refine s_yes hs rfl rfl ?_
    refine s_q hs (c_eqlI (hs.ev rfl) (hs.ev rfl)) rfl fun ac hs=>?_
    refine s_q hs (c_pick (hs.ev rfl) (hs.ev rfl) (hs.ev rfl)) rfl fun ac hs=>?_
    refine s_q hs (c_move (hs.ev rfl)) rfl fun ac hs=>?_
    refine s_yes hs rfl rfl ?_
    refine s_q hs (c_move (hs.ev rfl)) rfl fun ac hs=>?_
    refine s_yes hs rfl rfl ?_
    refine s_q hs (c_eqlI (hs.ev rfl) (hs.ev rfl)) rfl fun ac hs=>?_
    refine s_q hs (c_pick (hs.ev rfl) (hs.ev rfl) (hs.ev rfl)) rfl fun ac hs=>?_
    refine s_q hs (c_move (hs.ev rfl)) rfl fun ac hs=>?_
    refine s_yes hs rfl rfl ?_
    refine s_q hs (c_move (hs.ev rfl)) rfl fun ac hs=>?_
    refine s_yes hs rfl rfl ?_
    refine s_q hs (c_eqlI (hs.ev rfl) (hs.ev rfl)) rfl fun ac hs=>?_
    refine s_q hs (c_pick (hs.ev rfl) (hs.ev rfl) (hs.ev rfl)) rfl fun ac hs=>?_
    refine s_q hs (c_move (hs.ev rfl)) rfl fun ac hs=>?_
    refine s_yes hs rfl rfl ?_
    refine s_q hs (c_move (hs.ev rfl)) rfl fun ac hs=>?_
    refine s_yes hs rfl rfl ?_
    refine s_q hs (c_eqlI (hs.ev rfl) (hs.ev rfl)) rfl fun ac hs=>?_
    refine s_q hs (c_pick (hs.ev rfl) (hs.ev rfl) (hs.ev rfl)) rfl fun ac hs=>?_
    refine s_q hs (c_move (hs.ev rfl)) rfl fun ac hs=>?_
    refine s_yes hs rfl rfl ?_
    refine s_q hs (c_move (hs.ev rfl)) rfl fun ac hs=>?_
    refine s_yes hs rfl rfl ?_
    refine s_q hs (c_eqlI (hs.ev rfl) (hs.ev rfl)) rfl fun ac hs=>?_
    refine s_q hs (c_pick (hs.ev rfl) (hs.ev rfl) (hs.ev rfl)) rfl fun ac hs=>?_
    refine s_q hs (c_move (hs.ev rfl)) rfl fun ac hs=>?_
    refine s_yes hs rfl rfl ?_
    refine s_q hs (c_move (hs.ev rfl)) rfl fun ac hs=>?_
    refine s_yes hs rfl rfl ?_
    refine s_q hs (c_geqI (hs.ev rfl) (hs.ev rfl)) rfl fun ac hs=>?_
    refine s_yes hs rfl rfl ?_
    refine s_q hs (c_move (hs.ev rfl)) rfl fun ac hs=>?_
    refine s_g hs rfl rfl (fun hg=>c_move (hs.ev rfl)) rfl fun ac hs=>?_
    refine s_gcall hs rfl rfl fu34 (fun hg=>(.cons (gev (hs.ev rfl) hg) .nil)) (fun hg=>di_Need n (by have:=hg; simp at this; omega) _) rfl fun ac ww hf hs=>?_
    refine s_g hs rfl rfl (fun hg=>c_move (hs.ev rfl)) rfl fun ac hs=>?_
    refine s_g hs rfl rfl (fun hg=>c_eqlI (gev (hs.ev rfl) hg) (gev (hs.ev rfl) hg)) rfl fun ac hs=>?_
    refine s_yes hs rfl rfl ?_
    refine s_q hs (c_tt (c_or (hs.ev rfl) (hs.ev rfl)) ((by by_cases h9:1099511627776≤n <;> simp [h9,hxn]))) rfl fun ac hs=>?_
    refine s_q hs (c_pick (hs.ev rfl) (hs.ev rfl) (hs.ev rfl)) rfl fun ac hs=>?_
    refine s_q hs (c_assign (hs.ev rfl)) rfl fun ac hs=>?_
    refine s_end ?_
    replace hs:=hs.sub (F':=[(4,_)]) ⟨rfl,trivial⟩
    refine then_n (wp_ret ?_)
    refine s_ret hs rfl (.tmp (hs.tmp rfl) .nil) rfl ⟨_,rfl,hs.fr,?_⟩
    rfl
  · skip
    have hn:¬ (0 < n∧n < 1099511627776):=fun h=>by simp [h.1,h.2] at hc
    obtain ⟨x18,hx18⟩:∃ x,x=(1:Int):=⟨_,rfl⟩
    have hxn:¬ 1099511627776≤n→x18=((need n.toNat:Nat):Int):=fun h=>by rw [hx18]; unfold need; omega
    replace hs:=hs.sub (F':=[(18,I x18),(0,_),(1,_),(5,_),(8,_),(10,_),(15,_),(17,_)]) ⟨by rw [hx18]; rfl,rfl,rfl,rfl,rfl,rfl,rfl,rfl,trivial⟩
    refine wp_skip (then_n (wp_seq (wp_reg ?_)))
    refine s_call hs fu24 .nil (di_awake _) rfl fun ac ww v51 hf hp hs=>?_
    obtain rfl:=hp
    replace hs:=hs [] (.nil _ _)
    refine s_q hs (c_move (hs.ev rfl)) rfl fun ac hs=>?_
    refine s_yes hs rfl rfl ?_
    refine s_q hs (c_move (hs.ev rfl)) rfl fun ac hs=>?_
    refine s_yes hs rfl rfl ?_
    refine s_q hs (c_move (hs.ev rfl)) rfl fun ac hs=>?_
    refine s_yes hs rfl rfl ?_
    refine s_call hs fu27 (.cons (hs.ev rfl) (.cons (hs.ev rfl) .nil)) (nil_Append p _) rfl fun ac ww v55 hf hp hs=>?_
    obtain rfl:=hp
    replace hs:=hs [] (.nil _ _)
    refine s_yes hs rfl rfl ?_
    refine s_q hs (c_eqlI (hs.ev rfl) (hs.ev rfl)) rfl fun ac hs=>?_
    refine s_q hs (c_pick (hs.ev rfl) (hs.ev rfl) (hs.ev rfl)) rfl fun ac hs=>?_
    refine s_q hs (c_move (hs.ev rfl)) rfl fun ac hs=>?_
    refine s_yes hs rfl rfl ?_
    refine s_q hs (c_move (hs.ev rfl)) rfl fun ac hs=>?_
    refine s_yes hs rfl rfl ?_
    refine s_call hs fu28 (.cons (hs.ev rfl) .nil) (nil_DFlush _) rfl fun ac ww v60 hf hp hs=>?_
    obtain rfl:=hp
    replace hs:=hs [] (.nil _ _)
    refine s_yes hs rfl rfl ?_
    refine s_q hs (c_eqlI (hs.ev rfl) (hs.ev rfl)) rfl fun ac hs=>?_
    refine s_q hs (c_pick (hs.ev rfl) (hs.ev rfl) (hs.ev rfl)) rfl fun ac hs=>?_
    refine s_q hs (c_move (hs.ev rfl)) rfl fun ac hs=>?_
    refine s_yes hs rfl rfl ?_
    refine s_q hs (c_move (hs.ev rfl)) rfl fun ac hs=>?_
    refine s_yes hs rfl rfl ?_
    refine s_call hs fu33 (.cons (hs.ev rfl) .nil) (nil_Gen _) rfl fun ac ww v65 hf hp hs=>?_
    obtain rfl:=hp
    replace hs:=hs [] (.nil _ _)
    refine s_yes hs rfl rfl ?_
    refine s_q hs (c_eqlU (hs.ev rfl) (St.ev (v:=U 0) hs rfl)) rfl fun ac hs=>?_
    refine s_q hs (c_pick (hs.ev rfl) (hs.ev rfl) (hs.ev rfl)) rfl fun ac hs=>?_
    refine s_q hs (c_move (hs.ev rfl)) rfl fun ac hs=>?_
    refine s_yes hs rfl rfl ?_
    refine s_q hs (c_move (hs.ev rfl)) rfl fun ac hs=>?_
    refine s_yes hs rfl rfl ?_
    refine s_call hs fu29 (.cons (hs.ev rfl) .nil) (nil_Free _) rfl fun ac ww v70 hf hp hs=>?_
    obtain rfl:=hp
    replace hs:=hs [] (.nil _ _)
    refine s_yes hs rfl rfl ?_
    refine s_q hs (c_eqlI (hs.ev rfl) (hs.ev rfl)) rfl fun ac hs=>?_
    refine s_q hs (c_pick (hs.ev rfl) (hs.ev rfl) (hs.ev rfl)) rfl fun ac hs=>?_
    refine s_q hs (c_move (hs.ev rfl)) rfl fun ac hs=>?_
    refine s_yes hs rfl rfl ?_
    refine s_q hs (c_move (hs.ev rfl)) rfl fun ac hs=>?_
    refine s_yes hs rfl rfl ?_
    refine s_q hs (c_eqlI (hs.ev rfl) (hs.ev rfl)) rfl fun ac hs=>?_
    refine s_q hs (c_pick (hs.ev rfl) (hs.ev rfl) (hs.ev rfl)) rfl fun ac hs=>?_
    refine s_q hs (c_move (hs.ev rfl)) rfl fun ac hs=>?_
    refine s_yes hs rfl rfl ?_
    refine s_q hs (c_move (hs.ev rfl)) rfl fun ac hs=>?_
    refine s_yes hs rfl rfl ?_
    refine s_q hs (c_eqlI (hs.ev rfl) (hs.ev rfl)) rfl fun ac hs=>?_
    refine s_q hs (c_pick (hs.ev rfl) (hs.ev rfl) (hs.ev rfl)) rfl fun ac hs=>?_
    refine s_q hs (c_move (hs.ev rfl)) rfl fun ac hs=>?_
    refine s_yes hs rfl rfl ?_
    refine s_q hs (c_move (hs.ev rfl)) rfl fun ac hs=>?_
    refine s_yes hs rfl rfl ?_
    refine s_q hs (c_eqlI (hs.ev rfl) (hs.ev rfl)) rfl fun ac hs=>?_
    refine s_q hs (c_pick (hs.ev rfl) (hs.ev rfl) (hs.ev rfl)) rfl fun ac hs=>?_
    refine s_q hs (c_move (hs.ev rfl)) rfl fun ac hs=>?_
    refine s_yes hs rfl rfl ?_
    refine s_q hs (c_move (hs.ev rfl)) rfl fun ac hs=>?_
    refine s_yes hs rfl rfl ?_
    refine s_q hs (c_eqlI (hs.ev rfl) (hs.ev rfl)) rfl fun ac hs=>?_
    refine s_q hs (c_pick (hs.ev rfl) (hs.ev rfl) (hs.ev rfl)) rfl fun ac hs=>?_
    refine s_q hs (c_move (hs.ev rfl)) rfl fun ac hs=>?_
    refine s_yes hs rfl rfl ?_
    refine s_q hs (c_move (hs.ev rfl)) rfl fun ac hs=>?_
    refine s_yes hs rfl rfl ?_
    refine s_q hs (c_geqI (hs.ev rfl) (hs.ev rfl)) rfl fun ac hs=>?_
    refine s_yes hs rfl rfl ?_
    refine s_q hs (c_move (hs.ev rfl)) rfl fun ac hs=>?_
    refine s_g hs rfl rfl (fun hg=>c_move (hs.ev rfl)) rfl fun ac hs=>?_
    refine s_gcall hs rfl rfl fu34 (fun hg=>(.cons (gev (hs.ev rfl) hg) .nil)) (fun hg=>di_Need n (by have:=hg; simp at this; omega) _) rfl fun ac ww hf hs=>?_
    refine s_g hs rfl rfl (fun hg=>c_move (hs.ev rfl)) rfl fun ac hs=>?_
    refine s_g hs rfl rfl (fun hg=>c_eqlI (gev (hs.ev rfl) hg) (gev (hs.ev rfl) hg)) rfl fun ac hs=>?_
    refine s_yes hs rfl rfl ?_
    refine s_q hs (c_tt (c_or (hs.ev rfl) (hs.ev rfl)) ((by by_cases h9:1099511627776≤n <;> simp [h9,hxn]))) rfl fun ac hs=>?_
    refine s_q hs (c_pick (hs.ev rfl) (hs.ev rfl) (hs.ev rfl)) rfl fun ac hs=>?_
    refine s_q hs (c_assign (hs.ev rfl)) rfl fun ac hs=>?_
    refine s_end ?_
    replace hs:=hs.sub (F':=[(4,_)]) ⟨rfl,trivial⟩
    refine then_n (wp_ret ?_)
    refine s_ret hs rfl (.tmp (hs.tmp rfl) .nil) rfl ⟨_,rfl,hs.fr,?_⟩
    rfl
end Go.Proofs.Ytkecdcmjkghddaa
end
