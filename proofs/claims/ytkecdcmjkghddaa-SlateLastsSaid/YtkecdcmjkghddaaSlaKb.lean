/- Own texts of this seat,laid together for one claim (with what its proof uses alone). -/
import Derived.Test.YtkecdcmjkghddaaSlaKa
set_option linter.unusedSimpArgs false
set_option linter.unusedVariables false
set_option maxRecDepth 100000
set_option maxHeartbeats 4000000
section
/- The device: what its calls come to,in plain words. -/
namespace Go.Proofs.Ytkecdcmjkghddaa
open Go Go.Fw
structure Wr where
  p:Nat
  b:List UInt8
  deriving Inhabited
def Wr.c (x:Wr):List Value:=I x.p::x.b.map B
def wrC (q:List Wr):List Value:=q.flatMap Wr.c
def Wr.Ok (n:Nat) (x:Wr):Prop:=x.b.length=64∧x.p < n
theorem Wr.c_len {n:Nat} {x:Wr} (h:x.Ok n):x.c.length=65:=by simp [Wr.c,h.1]
theorem wr_at {q:List Wr} {k:Nat} (h:k < q.length):q.getD k default=q[k]:=by simp [List.getD_eq_getElem?_getD,h]
theorem wr_ok {n:Nat} {q:List Wr} (hq:∀ x∈q,x.Ok n) {k:Nat} (h:k < q.length):(q.getD k default).Ok n:=by
  rw [wr_at h]; exact hq _ (List.getElem_mem h)
theorem wrC_app (q r:List Wr):wrC (q++r)=wrC q++wrC r:=by simp [wrC]
theorem wrC_one (x:Wr):wrC [x]=x.c:=by simp [wrC]
theorem wrC_piece {n:Nat}:∀ {q:List Wr} {k:Nat},(∀ x∈q,x.Ok n)→k < q.length→((wrC q).drop (k * 65)).take 65=(q.getD k default).c
  | [],k,_,h=>absurd h (by simp)
  | x::q,0,h,_=>by
    have h2:=Wr.c_len (h x (List.mem_cons_self ..))
    simp [wrC,h2]
  | x::q,k + 1,h,hk=>by
    have h1:=wrC_piece (n:=n) (k:=k) (fun y hy=>h y (List.mem_cons_of_mem _ hy)) (show k < q.length by simpa using hk)
    have h2:=Wr.c_len (h x (List.mem_cons_self ..))
    rw [show (k + 1) * 65=x.c.length + k * 65 by omega]
    show (List.take 65 (List.drop (x.c.length + k * 65) (x.c++wrC q)))=_
    rw [← List.drop_drop,List.drop_left,h1]
    rfl
theorem wr_piece {n:Nat} {all:List Value} {k:Nat} {q:List Wr} (hq:∀ x∈q,x.Ok n) (h:all.take (q.length * 65)=wrC q) (hk:k < q.length):(all.drop (0 + k * 65)).take 65=(q.getD k default).c:=by
  have h2:((all.take (q.length * 65)).drop (k * 65)).take 65=((wrC q).drop (k * 65)).take 65:=by rw [h]
  rw [List.drop_take,List.take_take,Nat.min_eq_left (by omega),wrC_piece hq hk] at h2
  rw [Nat.zero_add,h2]
theorem wr_cell {n:Nat} {all:List Value} {k:Nat} {q:List Wr} (hq:∀ x∈q,x.Ok n) (h:all.take (q.length * 65)=wrC q) (hk:k < q.length):all[0 + k * 65 + 0]?=some (I (q.getD k default).p):=by
  have h1:=wr_piece hq h hk
  have h2:=congrArg (fun l:List Value=>l[0]?) h1
  simp only [List.getElem?_take,List.getElem?_drop] at h2
  simpa [Wr.c] using h2
theorem wr_body {n:Nat} {all:List Value} {k:Nat} {q:List Wr} (hq:∀ x∈q,x.Ok n) (h:all.take (q.length * 65)=wrC q) (hk:k < q.length):(all.drop (0 + k * 65 + 1)).take 64=(q.getD k default).b.map B:=by
  have h1:=wr_piece hq h hk
  have h2:=congrArg (fun l:List Value=>l.drop 1) h1
  simp only [List.drop_take,List.drop_drop] at h2
  simpa [Wr.c] using h2
def putW (xs:List UInt8) (x:Wr):List UInt8:=xs.take (x.p * 64)++x.b++xs.drop (x.p * 64 + 64)
def putQ (xs:List UInt8) (q:List Wr):List UInt8:=q.foldl putW xs
def tearW (xs:List UInt8) (x:Wr) (t:Nat):List UInt8:=xs.take (x.p * 64)++x.b.take t++xs.drop (x.p * 64 + t)
def sec (xs:List UInt8) (j:Nat):List UInt8:=(xs.drop (j * 64)).take 64
theorem putW_len {n:Nat} {xs:List UInt8} {x:Wr} (hx:xs.length=n * 64) (h:x.Ok n):(putW xs x).length=n * 64:=by
  obtain ⟨h1,h2⟩:=h
  have:x.p * 64 + 64≤n * 64:=by omega
  simp [putW,h1,hx]
  omega
theorem tearW_len {n t:Nat} {xs:List UInt8} {x:Wr} (hx:xs.length=n * 64) (h:x.Ok n) (ht:t≤64):(tearW xs x t).length=n * 64:=by
  obtain ⟨h1,h2⟩:=h
  have:x.p * 64 + 64≤n * 64:=by omega
  simp [tearW,h1,hx]
  omega
theorem putQ_len {n:Nat}:∀ {q:List Wr} {xs:List UInt8},xs.length=n * 64→(∀ x∈q,x.Ok n)→(putQ xs q).length=n * 64
  | [],xs,hx,_=>hx
  | x::q,xs,hx,h=>putQ_len (q:=q) (putW_len hx (h x (List.mem_cons_self ..))) fun y hy=>h y (List.mem_cons_of_mem _ hy)
theorem putQ_succ {xs:List UInt8} {q:List Wr} {k:Nat} (h:k < q.length):putQ xs (q.take (k + 1))=putW (putQ xs (q.take k)) (q.getD k default):=by
  rw [putQ,putQ,List.take_add_one,List.foldl_append,wr_at h,List.getElem?_eq_getElem h]
  rfl
theorem take_ok {n k:Nat} {q:List Wr} (h:∀ x∈q,x.Ok n):∀ x∈q.take k,x.Ok n:=fun x hx=>h x (List.mem_of_mem_take hx)
theorem sec_len {n j:Nat} {xs:List UInt8} (hx:xs.length=n * 64) (h:j < n):(sec xs j).length=64:=by
  have:j * 64 + 64≤n * 64:=by omega
  simp [sec,hx]
  omega
def ofW (q:List Wr) (j:Nat) (first:List UInt8):List UInt8:=q.foldl (fun f x=>if x.p=j then x.b else f) first
theorem ofW_app (q r:List Wr) (j:Nat) (f:List UInt8):ofW (q++r) j f=ofW r j (ofW q j f):=List.foldl_append ..
theorem ofW_succ {q:List Wr} {k j:Nat} {f:List UInt8} (h:k < q.length):ofW (q.take (k + 1)) j f=if (q.getD k default).p=j then (q.getD k default).b else ofW (q.take k) j f:=by
  rw [ofW,List.take_add_one,List.foldl_append,wr_at h,List.getElem?_eq_getElem h]
  rfl
theorem ofW_none {j:Nat}:∀ {q:List Wr} {f:List UInt8},(∀ x∈q,¬ x.p=j)→ofW q j f=f
  | [],_,_=>rfl
  | x::q,f,h=>by
    simp only [ofW,List.foldl_cons,if_neg (h x (List.mem_cons_self ..))]
    exact ofW_none (q:=q) fun y hy=>h y (List.mem_cons_of_mem _ hy)
theorem ofW_hit {j k:Nat} {q:List Wr} {f:List UInt8} (hk:k < q.length) (he:(q.getD k default).p=j) (hn:∀ i,k < i→i < q.length→¬ (q.getD i default).p=j):ofW q j f=(q.getD k default).b:=by
  rw [← List.take_append_drop (k + 1) q,ofW_app,ofW_none (q:=q.drop (k + 1)),ofW_succ hk,if_pos he]
  · rw [List.take_append_drop]
  · intro x hx
    obtain ⟨i,hi,rfl⟩:=List.getElem_of_mem hx
    simp only [List.length_drop] at hi
    have:=hn (k + 1 + i) (by omega) (by omega)
    rw [wr_at (by omega)] at this
    simpa using this
theorem ofW_miss {j:Nat} {q:List Wr} {f:List UInt8} (hn:∀ i,i < q.length→¬ (q.getD i default).p=j):ofW q j f=f :=
  ofW_none fun x hx=>by
    obtain ⟨i,hi,rfl⟩:=List.getElem_of_mem hx
    have:=hn i hi
    rwa [wr_at hi] at this
structure Sl where
  n:Nat
  xs:List UInt8
  q:List Wr
  fuse:Int
  down:Bool
  steps:Nat
  deriving Inhabited
structure Sl.Ok (s:Sl):Prop where
  n1:s.n≤4096
  xl:s.xs.length=s.n * 64
  qo:∀ x∈s.q,x.Ok s.n
  f1:-1≤s.fuse
  f2:s.fuse≤9223372036854775807
def newS (n:Nat):Sl:=⟨n,List.replicate (n * 64) 0,[],-1,false,0⟩
def Sl.up (s:Sl):Int:=if s.down=true then 5 else 0
def Sl.off (s:Sl):Sl:={ s with down:=true }
def Sl.on (s:Sl):Sl:={ s with fuse:=if 0 < s.fuse then s.fuse - 1 else s.fuse,steps:=s.steps + 1 }
def Sl.pow (s:Sl):Sl:=if s.fuse=0 then s.off else s.on
def Sl.write (s:Sl) (j:Int) (b:List UInt8):Int × Sl :=
  if s.down=true then (5,s) else if j < 0∨s.n≤j then (1,s) else if s.fuse=0 then (5,s.off) else (0,{ s.on with q:=s.q++[⟨j.toNat,b⟩] })
def Sl.flush (s:Sl):Int × Sl:=if s.down=true then (5,s) else if s.fuse=0 then (5,s.off) else (0,{ s.on with xs:=putQ s.xs s.q,q:=[] })
def Sl.fus (s:Sl) (n:Int):Int × Sl:=if s.down=true then (5,s) else (0,{ s with fuse:=max n (-1) })
def zero64:List UInt8:=List.replicate 64 0
def Sl.read (s:Sl) (j:Int):List UInt8 × Int:=if s.down=true then (zero64,5) else if j < 0∨s.n≤j then (zero64,1) else (ofW s.q j.toNat (sec s.xs j.toNat),0)
def clampN (n:Int) (m:Nat):Nat:=min n.toNat m
def Sl.crash (s:Sl) (wr by_:Int):Sl :=
  { s with xs:=(if clampN wr s.q.length < s.q.length then tearW (putQ s.xs (s.q.take (clampN wr s.q.length))) (s.q.getD (clampN wr s.q.length) default) (clampN by_ 64) else putQ s.xs (s.q.take (clampN wr s.q.length))),q:=[],fuse:=-1,down:=false }
theorem clampN_eq (n:Int) (m:Nat):max 0 (min n (m:Int))=(clampN n m:Int):=by unfold clampN; omega
theorem clampN_le (n:Int) (m:Nat):clampN n m≤m:=by unfold clampN; omega
theorem newS_ok {n:Nat} (h:n≤4096):(newS n).Ok:=⟨h,by simp [newS],fun x hx=>(by cases hx),(by show (-1:Int)≤-1; decide),(by show (-1:Int)≤_; decide)⟩
theorem Sl.on_ok {s:Sl} (h:s.Ok):s.on.Ok:=⟨h.n1,h.xl,h.qo,by
  have:=h.f1
  simp only [Sl.on]
  split <;> omega,by
  have:=h.f2
  simp only [Sl.on]
  split <;> omega⟩
theorem Sl.off_ok {s:Sl} (h:s.Ok):s.off.Ok:=⟨h.n1,h.xl,h.qo,h.f1,h.f2⟩
theorem Sl.write_ok {s:Sl} (h:s.Ok) {j:Int} {b:List UInt8} (hb:b.length=64):(s.write j b).2.Ok:=by
  unfold Sl.write
  split
  · exact h
  split
  · exact h
  split
  · exact Sl.off_ok h
  · obtain ⟨h1,h2,h3,h4,h5⟩:=Sl.on_ok h
    refine ⟨h1,h2,fun x hx=>?_,h4,h5⟩
    rcases List.mem_append.1 hx with hx | hx
    · exact h.qo x hx
    · obtain rfl:=List.mem_singleton.1 hx
      refine ⟨hb,?_⟩
      show j.toNat < s.n
      omega
theorem Sl.flush_ok {s:Sl} (h:s.Ok):s.flush.2.Ok:=by
  unfold Sl.flush
  split
  · exact h
  split
  · exact Sl.off_ok h
  · obtain ⟨h1,h2,h3,h4,h5⟩:=Sl.on_ok h
    exact ⟨h1,putQ_len h.xl h.qo,fun x hx=>(by cases hx),h4,h5⟩
theorem Sl.fus_ok {s:Sl} (h:s.Ok) {n:Int} (hn:n≤9223372036854775807):(s.fus n).2.Ok:=by
  unfold Sl.fus
  split
  · exact h
  · refine ⟨h.n1,h.xl,h.qo,?_,?_⟩
    · show -1≤max n (-1); omega
    · show max n (-1)≤_; omega
theorem Sl.crash_ok {s:Sl} (h:s.Ok) (wr by_:Int):(s.crash wr by_).Ok:=by
  refine ⟨h.n1,?_,fun x hx=>(by cases hx),(by show (-1:Int)≤-1; decide),(by show (-1:Int)≤_; decide)⟩
  show (if _ then _ else _:List UInt8).length=s.n * 64
  have h1:=putQ_len h.xl (take_ok (k:=clampN wr s.q.length) h.qo)
  split
  · rename_i hk
    exact tearW_len h1 (wr_ok h.qo hk) (clampN_le _ _)
  · exact h1
end Go.Proofs.Ytkecdcmjkghddaa
end

section
/- The device: what is asked of it; a step with and without power. -/
namespace Go.Proofs.Ytkecdcmjkghddaa
open Go Go.Fw
def hdS (sb:Nat) (qv:Value) (s:Sl):List Value:=[.slice (some ⟨sb,0,none⟩) s.n s.n,qv,I s.fuse,.bool s.down,I s.steps]
def sl (g sb:Nat) (qv:Value) (s:Sl):List Ent:=[.seg g (hdS sb qv s) 72,.seg sb (s.xs.map B) 29,.row qv s.q.length (wrC s.q) 74 65]
structure SlR (w:World) (g sb:Nat) (qv:Value) (s:Sl):Prop where
  hg:w.heap[g]?=some (.cells (hdS sb qv s).toArray 72 (0,0))
  hx:w.heap[sb]?=some (.cells (s.xs.map B).toArray 29 (0,0))
  hq:w.ownsRow 0 74 65 qv s.q.length (wrC s.q)
theorem sl_get {w:World} {g sb:Nat} {qv:Value} {s:Sl} (h:Has 0 w (sl g sb qv s)):SlR w g sb qv s:=⟨h.holds _ (List.mem_of_getElem? (i:=0) rfl),h.holds _ (List.mem_of_getElem? (i:=1) rfl),h.holds _ (List.mem_of_getElem? (i:=2) rfl)⟩
theorem SlR.fr0 {w w':World} {g sb:Nat} {qv:Value} {s:Sl} (h:SlR w g sb qv s) (hf:Fr0 w w'):SlR w' g sb qv s :=
  ⟨(hf.block g (heap_lt h.hg) id).trans h.hg,(hf.block sb (heap_lt h.hx) id).trans h.hx,Ent.loc (.row qv s.q.length (wrC s.q) 74 65) (fun k hk=>hf.block k (ownBlock_row h.hq k hk) id) h.hq⟩
def SlTo (w w':World) (g sb:Nat) (qv:Value) (s s':Sl):Prop:=∃ qv',Has 0 w' (sl g sb qv' s')∧∀ k,(Ent.grp (sl g sb qv' s')).keys k→(Ent.grp (sl g sb qv s)).keys k∨w.heap.size≤k
theorem sec_cells {xs:List UInt8} {j:Nat}:(((xs.map B).drop (0 + j * 64)).take 64)=(sec xs j).map B:=by simp [sec,List.map_take,List.map_drop]
theorem putW_cells (xs:List UInt8) (x:Wr):(xs.map B).take (0 + x.p * 64)++x.b.map B++(xs.map B).drop (0 + x.p * 64 + 64)=(putW xs x).map B:=by simp [putW,List.map_take,List.map_drop]
theorem all64 (b:List UInt8):(b.map B).all (·.oneCell')=true:=all_map_B b
theorem cut0 {ad:Option Addr} {n cap:Nat} {s:Sl} {w:World} {g sb:Nat} (h:SlR w g sb (.slice ad n cap) s):(if cap=0 then ad else ad.map (·.add 0))=ad:=by
  obtain ⟨c2,e⟩:∃ c2,Value.slice ad n cap=.slice ad s.q.length c2:=by
    obtain ⟨ad',cap',e,_⟩:=Rd.sl (Rd.of_row h.hq)
    cases e
    exact ⟨_,rfl⟩
  cases e
  exact owns_cut0 h.hq
theorem sl_up (g sb:Nat) (qv:Value) (s:Sl) (w:World) (hR:SlR w g sb qv s):Ctr Try.prog 36 [.pointer (some ⟨g,0,none⟩)] w (fun _=>False) (fun v _=>v=I s.up):=by
  refine fn_start (N:=11) Try.func36 rfl rfl rfl fun ac hk=>?_
  have hs:=St.start hk w
  refine wp_seq (wp_reg ?_)
  refine s_q hs (c_assign (hs.ev rfl)) rfl fun ac hs=>?_
  refine s_end (then_n (wp_seq (wp_block (wp_seq (wp_reg ?_)))))
  refine s_q hs (c_move (hs.ev rfl)) rfl fun ac hs=>?_
  refine s_q hs (c_eqlNil un23 (hs.ev rfl) (hs.ev rfl)) rfl fun ac hs=>?_
  refine s_q hs (c_assign (hs.ev rfl)) rfl fun ac hs=>?_
  refine s_end ?_
  replace hs:=hs.sub (F':=[(0,_),(2,_),(3,_)]) ⟨rfl,rfl,rfl,trivial⟩
  refine then_n ?_
  refine wp_cond_false (hs.ev rfl) ?_
  refine wp_seq (wp_reg ?_)
  refine s_q hs (c_move (hs.ev rfl)) rfl fun ac hs=>?_
  refine s_q hs (c_nil (hs.ev rfl)) rfl fun ac hs=>?_
  refine s_q hs (c_fld fl72_3 (hs.ev rfl)) rfl fun ac hs=>?_
  refine s_q hs (c_loadS un4 rfl (hs.ev rfl) (hs.old hR.hg (fun h=>h)) rfl) rfl fun ac hs=>?_
  refine s_q hs (c_assign (hs.ev rfl)) rfl fun ac hs=>?_
  refine s_end ?_
  replace hs:=hs.sub (F':=[(2,_),(6,_)]) ⟨rfl,rfl,trivial⟩
  refine then_n ?_
  refine s_cond hs rfl (fun hc=>?_) (fun hc=>?_)
  · try simp only [decide_eq_true_eq,decide_eq_false_iff_not,Bool.not_eq_true',Bool.not_eq_false',Bool.and_eq_true,Bool.or_eq_true,Bool.or_eq_false_iff] at hc
    refine wp_seq (wp_reg ?_)
    refine s_q hs (c_assign (hs.ev rfl)) rfl fun ac hs=>?_
    refine s_end ?_
    replace hs:=hs.sub (F':=[(2,_)]) ⟨rfl,trivial⟩
    refine then_n (wp_ret (blk_r (then_r ?_)))
    refine s_ret hs rfl (.tmp (hs.tmp rfl) .nil) rfl ⟨_,rfl,hs.fr,?_⟩
    rw [Sl.up,if_pos hc]
    rfl
  · try simp only [decide_eq_true_eq,decide_eq_false_iff_not,Bool.not_eq_true',Bool.not_eq_false',Bool.and_eq_true,Bool.or_eq_true,Bool.or_eq_false_iff] at hc
    refine wp_skip (blk_n (then_n (wp_seq (wp_reg ?_))))
    refine s_q hs (c_assign (hs.ev rfl)) rfl fun ac hs=>?_
    refine s_end ?_
    replace hs:=hs.sub (F':=[(2,_)]) ⟨rfl,trivial⟩
    refine then_n (wp_ret ?_)
    refine s_ret hs rfl (.tmp (hs.tmp rfl) .nil) rfl ⟨_,rfl,hs.fr,?_⟩
    rw [Sl.up,if_neg (by rw [hc]; decide)]
    rfl
theorem nil_up  (w:World) :Ctr Try.prog 36 [.pointer none] w (fun _=>False) (fun v _=>v=I 2):=by
  refine fn_start (N:=11) Try.func36 rfl rfl rfl fun ac hk=>?_
  have hs:=St.start hk w
  refine wp_seq (wp_reg ?_)
  refine s_q hs (c_assign (hs.ev rfl)) rfl fun ac hs=>?_
  refine s_end (then_n (wp_seq (wp_block (wp_seq (wp_reg ?_)))))
  refine s_q hs (c_move (hs.ev rfl)) rfl fun ac hs=>?_
  refine s_q hs (c_eqlNil0 un23 (hs.ev rfl) (hs.ev rfl)) rfl fun ac hs=>?_
  refine s_q hs (c_assign (hs.ev rfl)) rfl fun ac hs=>?_
  refine s_end ?_
  replace hs:=hs.sub (F':=[(0,_),(2,_),(3,_)]) ⟨rfl,rfl,rfl,trivial⟩
  refine then_n ?_
  refine wp_cond_true (hs.ev rfl) ?_
  refine wp_seq (wp_reg ?_)
  refine s_q hs (c_assign (hs.ev rfl)) rfl fun ac hs=>?_
  refine s_end ?_
  replace hs:=hs.sub (F':=[(0,_),(2,_)]) ⟨rfl,rfl,trivial⟩
  refine then_n (wp_ret (blk_r (then_r ?_)))
  refine s_ret hs rfl (.tmp (hs.tmp rfl) .nil) rfl ⟨_,rfl,hs.fr,?_⟩
  rfl
theorem nil_Sectors  (w:World) :Ctr Try.prog 20 [.pointer none] w (fun _=>False) (fun v _=>v=I 0):=by
  refine fn_start (N:=10) Try.func20 rfl rfl rfl fun ac hk=>?_
  have hs:=St.start hk w
  refine wp_seq (wp_reg ?_)
  refine s_q hs (c_assign (hs.ev rfl)) rfl fun ac hs=>?_
  refine s_end (then_n (wp_seq (wp_seq (wp_reg ?_))))
  refine s_q hs (c_move (hs.ev rfl)) rfl fun ac hs=>?_
  refine s_q hs (c_eqlNil0 un23 (hs.ev rfl) (hs.ev rfl)) rfl fun ac hs=>?_
  refine s_end ?_
  replace hs:=hs.sub (F':=[(0,_),(2,_),(4,_)]) ⟨rfl,rfl,rfl,trivial⟩
  refine then_n ?_
  refine wp_cond_true (hs.ev rfl) ?_
  refine wp_seq (wp_reg ?_)
  refine s_q hs (c_assign (hs.ev rfl)) rfl fun ac hs=>?_
  refine s_end ?_
  replace hs:=hs.sub (F':=[(0,_),(2,_)]) ⟨rfl,rfl,trivial⟩
  refine then_n (wp_ret (then_r ?_))
  refine s_ret hs rfl (.tmp (hs.tmp rfl) .nil) rfl ⟨_,rfl,hs.fr,?_⟩
  rfl
theorem nil_Loose  (w:World) :Ctr Try.prog 21 [.pointer none] w (fun _=>False) (fun v _=>v=I 0):=by
  refine fn_start (N:=10) Try.func21 rfl rfl rfl fun ac hk=>?_
  have hs:=St.start hk w
  refine wp_seq (wp_reg ?_)
  refine s_q hs (c_assign (hs.ev rfl)) rfl fun ac hs=>?_
  refine s_end (then_n (wp_seq (wp_seq (wp_reg ?_))))
  refine s_q hs (c_move (hs.ev rfl)) rfl fun ac hs=>?_
  refine s_q hs (c_eqlNil0 un23 (hs.ev rfl) (hs.ev rfl)) rfl fun ac hs=>?_
  refine s_end ?_
  replace hs:=hs.sub (F':=[(0,_),(2,_),(4,_)]) ⟨rfl,rfl,rfl,trivial⟩
  refine then_n ?_
  refine wp_cond_true (hs.ev rfl) ?_
  refine wp_seq (wp_reg ?_)
  refine s_q hs (c_assign (hs.ev rfl)) rfl fun ac hs=>?_
  refine s_end ?_
  replace hs:=hs.sub (F':=[(0,_),(2,_)]) ⟨rfl,rfl,trivial⟩
  refine then_n (wp_ret (then_r ?_))
  refine s_ret hs rfl (.tmp (hs.tmp rfl) .nil) rfl ⟨_,rfl,hs.fr,?_⟩
  rfl
theorem nil_Steps  (w:World) :Ctr Try.prog 22 [.pointer none] w (fun _=>False) (fun v _=>v=I 0):=by
  refine fn_start (N:=9) Try.func22 rfl rfl rfl fun ac hk=>?_
  have hs:=St.start hk w
  refine wp_seq (wp_reg ?_)
  refine s_q hs (c_assign (hs.ev rfl)) rfl fun ac hs=>?_
  refine s_end (then_n (wp_seq (wp_seq (wp_reg ?_))))
  refine s_q hs (c_move (hs.ev rfl)) rfl fun ac hs=>?_
  refine s_q hs (c_eqlNil0 un23 (hs.ev rfl) (hs.ev rfl)) rfl fun ac hs=>?_
  refine s_end ?_
  replace hs:=hs.sub (F':=[(0,_),(2,_),(4,_)]) ⟨rfl,rfl,rfl,trivial⟩
  refine then_n ?_
  refine wp_cond_true (hs.ev rfl) ?_
  refine wp_seq (wp_reg ?_)
  refine s_q hs (c_assign (hs.ev rfl)) rfl fun ac hs=>?_
  refine s_end ?_
  replace hs:=hs.sub (F':=[(0,_),(2,_)]) ⟨rfl,rfl,trivial⟩
  refine then_n (wp_ret (then_r ?_))
  refine s_ret hs rfl (.tmp (hs.tmp rfl) .nil) rfl ⟨_,rfl,hs.fr,?_⟩
  rfl
theorem nil_Down  (w:World) :Ctr Try.prog 23 [.pointer none] w (fun _=>False) (fun v _=>v=.bool false):=by
  refine fn_start (N:=11) Try.func23 rfl rfl rfl fun ac hk=>?_
  have hs:=St.start hk w
  refine wp_seq (wp_reg ?_)
  refine s_q hs (c_assign (hs.ev rfl)) rfl fun ac hs=>?_
  refine s_end (then_n (wp_seq (wp_reg ?_)))
  refine s_q hs (c_move (hs.ev rfl)) rfl fun ac hs=>?_
  refine s_q hs (c_neqNil0 un23 (hs.ev rfl) (hs.ev rfl)) rfl fun ac hs=>?_
  refine s_q hs (c_move (hs.ev rfl)) rfl fun ac hs=>?_
  refine s_no hs rfl rfl rfl rfl fun ac hs=>?_
  refine s_no hs rfl rfl rfl rfl fun ac hs=>?_
  refine s_no hs rfl rfl rfl rfl fun ac hs=>?_
  refine s_no hs rfl rfl rfl rfl fun ac hs=>?_
  refine s_q hs (c_pick (hs.ev rfl) (hs.ev rfl) (hs.ev rfl)) rfl fun ac hs=>?_
  refine s_q hs (c_assign (hs.ev rfl)) rfl fun ac hs=>?_
  refine s_end ?_
  replace hs:=hs.sub (F':=[(2,_)]) ⟨rfl,trivial⟩
  refine then_n (wp_ret ?_)
  refine s_ret hs rfl (.tmp (hs.tmp rfl) .nil) rfl ⟨_,rfl,hs.fr,?_⟩
  rfl
theorem sl_power (g sb:Nat) (qv:Value) (s:Sl) (hok:s.Ok) (hst:s.steps≤1000000000) (w:World) (hb:w.heap[g]?=some (.cells (hdS sb qv s).toArray 72 (0,0))):Ctr Try.prog 37 [.pointer (some ⟨g,0,none⟩)] w (fun k=>k=g) (fun v w'=>v=.bool (decide (¬ s.fuse=0))∧w'.heap[g]?=some (.cells (hdS sb qv s.pow).toArray 72 (0,0))):=by
  refine fn_start (N:=30) Try.func37 rfl rfl rfl fun ac hk=>?_
  have hs:=St.own1 hk hb
  refine wp_seq (wp_reg ?_)
  refine s_q hs (c_assign (hs.ev rfl)) rfl fun ac hs=>?_
  refine s_end (then_n (wp_seq (wp_seq (wp_reg ?_))))
  refine s_q hs (c_move (hs.ev rfl)) rfl fun ac hs=>?_
  refine s_q hs (c_nil (hs.ev rfl)) rfl fun ac hs=>?_
  refine s_q hs (c_fld fl72_2 (hs.ev rfl)) rfl fun ac hs=>?_
  refine s_q hs (c_loadS un3 rfl (hs.ev rfl) (hs.seg (i:=0) rfl) rfl) rfl fun ac hs=>?_
  refine s_q hs (c_eqlI (hs.ev rfl) (hs.ev rfl)) rfl fun ac hs=>?_
  refine s_end ?_
  replace hs:=hs.sub (F':=[(0,_),(2,_),(7,_)]) ⟨rfl,rfl,rfl,trivial⟩
  refine then_n ?_
  refine s_cond hs rfl (fun hc=>?_) (fun hc=>?_)
  · try simp only [decide_eq_true_eq,decide_eq_false_iff_not,Bool.not_eq_true',Bool.not_eq_false',Bool.and_eq_true,Bool.or_eq_true,Bool.or_eq_false_iff] at hc
    have hpw:s.pow=s.off:=if_pos hc
    refine wp_seq (wp_reg ?_)
    refine s_q hs (c_move (hs.ev rfl)) rfl fun ac hs=>?_
    refine s_q hs (c_nil (hs.ev rfl)) rfl fun ac hs=>?_
    refine s_q hs (c_fld fl72_3 (hs.ev rfl)) rfl fun ac hs=>?_
    refine s_store (i:=0) hs ty4 rfl rfl rfl rfl rfl rfl (by simp [hdS,Value.cells]) rfl fun ww hs=>?_
    refine s_end ?_
    replace hs:=hs.sub (F':=[(0,_),(2,_)]) ⟨rfl,rfl,trivial⟩
    refine then_n (wp_seq (wp_reg ?_))
    refine s_q hs (c_assign (hs.ev rfl)) rfl fun ac hs=>?_
    refine s_end (then_n (wp_ret (then_r ?_)))
    refine s_ret hs rfl (.tmp (hs.tmp rfl) .nil) rfl ⟨_,rfl,hs.fr,?_⟩
    exact ⟨by rw [decide_eq_false (fun h=>h hc)]; rfl,by rw [hpw]; exact hs.seg (i:=0) rfl⟩
  · try simp only [decide_eq_true_eq,decide_eq_false_iff_not,Bool.not_eq_true',Bool.not_eq_false',Bool.and_eq_true,Bool.or_eq_true,Bool.or_eq_false_iff] at hc
    have hpw:s.pow=s.on:=if_neg hc
    have hf1:=hok.f1
    have hf2:=hok.f2
    refine wp_skip (then_n (wp_seq (wp_seq (wp_reg ?_))))
    refine s_q hs (c_move (hs.ev rfl)) rfl fun ac hs=>?_
    refine s_q hs (c_nil (hs.ev rfl)) rfl fun ac hs=>?_
    refine s_q hs (c_fld fl72_2 (hs.ev rfl)) rfl fun ac hs=>?_
    refine s_q hs (c_loadS un3 rfl (hs.ev rfl) (hs.seg (i:=0) rfl) rfl) rfl fun ac hs=>?_
    refine s_q hs (c_gtrI (hs.ev rfl) (hs.ev rfl)) rfl fun ac hs=>?_
    refine s_end ?_
    replace hs:=hs.sub (F':=[(0,_),(2,_),(15,_)]) ⟨rfl,rfl,rfl,trivial⟩
    refine then_n ?_
    refine s_cond hs rfl (fun hc=>?_) (fun hc=>?_)
    · try simp only [decide_eq_true_eq,decide_eq_false_iff_not,Bool.not_eq_true',Bool.not_eq_false',Bool.and_eq_true,Bool.or_eq_true,Bool.or_eq_false_iff] at hc
      have hfu:(if 0 < s.fuse then s.fuse - 1 else s.fuse)=s.fuse - 1:=if_pos hc
      refine wp_reg ?_
      refine s_q hs (c_move (hs.ev rfl)) rfl fun ac hs=>?_
      refine s_q hs (c_nil (hs.ev rfl)) rfl fun ac hs=>?_
      refine s_q hs (c_fld fl72_2 (hs.ev rfl)) rfl fun ac hs=>?_
      refine s_q hs (c_loadS un3 rfl (hs.ev rfl) (hs.seg (i:=0) rfl) rfl) rfl fun ac hs=>?_
      refine s_q hs (c_subI (hs.ev rfl) (hs.ev rfl) (by omega) (by omega)) rfl fun ac hs=>?_
      refine s_q hs (c_nil (hs.ev rfl)) rfl fun ac hs=>?_
      refine s_q hs (c_fld fl72_2 (hs.ev rfl)) rfl fun ac hs=>?_
      refine s_store (i:=0) hs ty3 rfl rfl rfl rfl rfl rfl (by simp [hdS,Value.cells]) rfl fun ww hs=>?_
      refine s_end ?_
      replace hs:=hs.sub (F':=[(0,_),(2,_)]) ⟨rfl,rfl,trivial⟩
      refine then_n (wp_seq (wp_reg ?_))
      refine s_q hs (c_move (hs.ev rfl)) rfl fun ac hs=>?_
      refine s_q hs (c_nil (hs.ev rfl)) rfl fun ac hs=>?_
      refine s_q hs (c_fld fl72_4 (hs.ev rfl)) rfl fun ac hs=>?_
      refine s_q hs (c_loadS un3 rfl (hs.ev rfl) (hs.seg (i:=0) rfl) rfl) rfl fun ac hs=>?_
      refine s_q hs (c_addI (hs.ev rfl) (hs.ev rfl) (by omega) (by omega)) rfl fun ac hs=>?_
      refine s_q hs (c_nil (hs.ev rfl)) rfl fun ac hs=>?_
      refine s_q hs (c_fld fl72_4 (hs.ev rfl)) rfl fun ac hs=>?_
      refine s_store (i:=0) hs ty3 rfl rfl rfl rfl rfl rfl (by simp [hdS,Value.cells]) rfl fun ww hs=>?_
      refine s_end ?_
      replace hs:=hs.sub (F':=[(2,_)]) ⟨rfl,trivial⟩
      refine then_n (wp_seq (wp_reg ?_))
      refine s_q hs (c_assign (hs.ev rfl)) rfl fun ac hs=>?_
      refine s_end (then_n (wp_ret ?_))
      refine s_ret hs rfl (.tmp (hs.tmp rfl) .nil) rfl ⟨_,rfl,hs.fr,?_⟩
      refine ⟨by rw [decide_eq_true (by omega)]; rfl,?_⟩
      rw [hpw,hdS,Sl.on,hfu]
      exact hs.seg (i:=0) rfl
    · try simp only [decide_eq_true_eq,decide_eq_false_iff_not,Bool.not_eq_true',Bool.not_eq_false',Bool.and_eq_true,Bool.or_eq_true,Bool.or_eq_false_iff] at hc
      have hfu:(if 0 < s.fuse then s.fuse - 1 else s.fuse)=s.fuse:=if_neg hc
      refine wp_skip (then_n (wp_seq (wp_reg ?_)))
      refine s_q hs (c_move (hs.ev rfl)) rfl fun ac hs=>?_
      refine s_q hs (c_nil (hs.ev rfl)) rfl fun ac hs=>?_
      refine s_q hs (c_fld fl72_4 (hs.ev rfl)) rfl fun ac hs=>?_
      refine s_q hs (c_loadS un3 rfl (hs.ev rfl) (hs.seg (i:=0) rfl) rfl) rfl fun ac hs=>?_
      refine s_q hs (c_addI (hs.ev rfl) (hs.ev rfl) (by omega) (by omega)) rfl fun ac hs=>?_
      refine s_q hs (c_nil (hs.ev rfl)) rfl fun ac hs=>?_
      refine s_q hs (c_fld fl72_4 (hs.ev rfl)) rfl fun ac hs=>?_
      refine s_store (i:=0) hs ty3 rfl rfl rfl rfl rfl rfl (by simp [hdS,Value.cells]) rfl fun ww hs=>?_
      refine s_end ?_
      replace hs:=hs.sub (F':=[(2,_)]) ⟨rfl,trivial⟩
      refine then_n (wp_seq (wp_reg ?_))
      refine s_q hs (c_assign (hs.ev rfl)) rfl fun ac hs=>?_
      refine s_end (then_n (wp_ret ?_))
      refine s_ret hs rfl (.tmp (hs.tmp rfl) .nil) rfl ⟨_,rfl,hs.fr,?_⟩
      refine ⟨by rw [decide_eq_true (by omega)]; rfl,?_⟩
      rw [hpw,hdS,Sl.on,hfu]
      exact hs.seg (i:=0) rfl
end Go.Proofs.Ytkecdcmjkghddaa
end

section
/- The device: Write,Flush,Fuse. -/
namespace Go.Proofs.Ytkecdcmjkghddaa
open Go Go.Fw
theorem Sl.up_ne {s:Sl} (h:¬ s.up=0):s.down=true:=by
  unfold Sl.up at h
  split at h
  · assumption
  · exact absurd rfl h
theorem Sl.up_eq {s:Sl} (h:s.up=0):¬ s.down=true:=fun e=>by
  unfold Sl.up at h
  rw [if_pos e] at h
  cases h
theorem St.slTo {N:Nat} {F:List (Nat × Value)} {L:List Ent} {w0 w:World} {a:Act} {g sb:Nat} {qv qv':Value} {s s':Sl} (hs:St N F L (Ent.grp (sl g sb qv s)).keys w0 a w) (hl:(sl g sb qv' s').Sublist L):SlTo w0 w g sb qv s s':=⟨qv',(hs.pick hl).grp⟩
theorem wr_one (x:Wr):x.c.all (·.oneCell')=true:=by
  simp only [Wr.c,List.all_cons,Value.oneCell',Bool.true_and]
  exact all_map_B _
theorem seg_lt {w:World} {g:Nat} {o:Obj} (h:w.heap[g]?=some o):∀ k,k=g→k < w.heap.size:=fun k e=>by rw [e]; exact heap_lt h
theorem sl_Write (g sb:Nat) (qv:Value) (s:Sl) (j:Int) (b:List UInt8) (hb:b.length=64) (hok:s.Ok) (hst:s.steps≤1000000000) (hql:s.q.length≤1000000) (w:World) (hsl:Has 0 w (sl g sb qv s)):Ctr Try.prog 11 [.pointer (some ⟨g,0,none⟩),I j,.agg (b.map B).toArray] w (Ent.grp (sl g sb qv s)).keys (fun v w'=>v=I (s.write j b).1∧SlTo w w' g sb qv s (s.write j b).2):=by
  refine fn_start (N:=41) Try.func11 rfl rfl rfl fun ac hk=>?_
  have hs:=St.startG hk hsl
  refine wp_seq (wp_reg ?_)
  refine s_box hs rfl rfl rfl fun ac ww g5 hs=>?_
  refine s_q hs (c_assign (hs.ev rfl)) rfl fun ac hs=>?_
  refine s_end ?_
  replace hs:=hs.sub (F':=[(0,_),(1,_),(5,_),(6,_)]) ⟨rfl,rfl,rfl,rfl,trivial⟩
  refine then_n (wp_seq (wp_seq (wp_reg ?_)))
  refine s_q hs (c_move (hs.ev rfl)) rfl fun ac hs=>?_
  refine s_call hs fu36 (.cons (hs.ev rfl) .nil) (sl_up g sb qv s _ ⟨hs.seg (i:=1) rfl,hs.seg (i:=2) rfl,hs.get (i:=3) rfl⟩) rfl fun ac ww v9 hf hp hs=>?_
  obtain rfl:=hp
  replace hs:=hs [] (.nil _ _)
  refine s_q hs (c_assign (hs.ev rfl)) rfl fun ac hs=>?_
  refine s_end ?_
  replace hs:=hs.sub (F':=[(0,_),(1,_),(5,_),(6,_),(7,_)]) ⟨rfl,rfl,rfl,rfl,rfl,trivial⟩
  refine then_n (wp_seq (wp_reg ?_))
  refine s_q hs (c_move (hs.ev rfl)) rfl fun ac hs=>?_
  refine s_q hs (c_neqI (hs.ev rfl) (hs.ev rfl)) rfl fun ac hs=>?_
  refine s_end ?_
  replace hs:=hs.sub (F':=[(0,_),(1,_),(5,_),(6,_),(7,_),(11,_)]) ⟨rfl,rfl,rfl,rfl,rfl,rfl,trivial⟩
  refine then_n ?_
  refine s_cond hs rfl (fun hc=>?_) (fun hc=>?_)
  · try simp only [decide_eq_true_eq,decide_eq_false_iff_not,Bool.not_eq_true',Bool.not_eq_false',Bool.and_eq_true,Bool.or_eq_true,Bool.or_eq_false_iff] at hc
    have hd:=Sl.up_ne hc
    refine wp_seq (wp_reg ?_)
    refine s_q hs (c_move (hs.ev rfl)) rfl fun ac hs=>?_
    refine s_q hs (c_assign (hs.ev rfl)) rfl fun ac hs=>?_
    refine s_end ?_
    replace hs:=hs.sub (F':=[(0,_),(1,_),(5,_),(6,_)]) ⟨rfl,rfl,rfl,rfl,trivial⟩
    refine then_n (wp_ret (then_r ?_))
    refine s_ret hs rfl (.tmp (hs.tmp rfl) .nil) rfl ⟨_,rfl,hs.fr,?_⟩
    rw [show s.write j b=(5,s) from if_pos hd,Sl.up,if_pos hd]
    exact ⟨rfl,St.slTo hs (.cons _ (.refl _))⟩
  · try simp only [decide_eq_true_eq,decide_eq_false_iff_not,Bool.not_eq_true',Bool.not_eq_false',Bool.and_eq_true,Bool.or_eq_true,Bool.or_eq_false_iff] at hc
    have hd:=Sl.up_eq (by simpa using hc)
    refine wp_skip (then_n (wp_seq (wp_block (wp_seq (wp_reg ?_)))))
    refine s_q hs (c_move (hs.ev rfl)) rfl fun ac hs=>?_
    refine s_q hs (c_lssI (hs.ev rfl) (hs.ev rfl)) rfl fun ac hs=>?_
    refine s_q hs (c_move (hs.ev rfl)) rfl fun ac hs=>?_
    refine s_g hs rfl rfl (fun hg=>c_move (hs.ev rfl)) rfl fun ac hs=>?_
    refine s_g hs rfl rfl (fun hg=>c_move (hs.ev rfl)) rfl fun ac hs=>?_
    refine s_g hs rfl rfl (fun hg=>c_nil (gev (hs.ev rfl) hg)) rfl fun ac hs=>?_
    refine s_g hs rfl rfl (fun hg=>c_fld fl72_0 (gev (hs.ev rfl) hg)) rfl fun ac hs=>?_
    refine s_g hs rfl rfl (fun hg=>c_loadS un69 rfl (gev (hs.ev rfl) hg) (hs.seg (i:=1) rfl) rfl) rfl fun ac hs=>?_
    refine s_g hs rfl rfl (fun hg=>c_lenS un69 (gev (hs.ev rfl) hg)) rfl fun ac hs=>?_
    refine s_g hs rfl rfl (fun hg=>c_geqI (gev (hs.ev rfl) hg) (gev (hs.ev rfl) hg)) rfl fun ac hs=>?_
    refine s_q hs (c_or (hs.ev rfl) (hs.ev rfl)) rfl fun ac hs=>?_
    refine s_q hs (c_assign (hs.ev rfl)) rfl fun ac hs=>?_
    refine s_end ?_
    replace hs:=hs.sub (F':=[(0,_),(1,_),(5,_),(6,_),(13,_)]) ⟨rfl,rfl,rfl,rfl,rfl,trivial⟩
    refine then_n ?_
    refine s_cond hs rfl (fun hc=>?_) (fun hc=>?_)
    · skip
      have hj:j < 0∨(s.n:Int)≤j:=by simpa using hc
      refine wp_seq (wp_reg ?_)
      refine s_q hs (c_assign (hs.ev rfl)) rfl fun ac hs=>?_
      refine s_end ?_
      replace hs:=hs.sub (F':=[(0,_),(1,_),(5,_),(6,_)]) ⟨rfl,rfl,rfl,rfl,trivial⟩
      refine then_n (wp_ret (blk_r (then_r ?_)))
      refine s_ret hs rfl (.tmp (hs.tmp rfl) .nil) rfl ⟨_,rfl,hs.fr,?_⟩
      rw [show s.write j b=(1,s) from (if_neg hd).trans (if_pos hj)]
      exact ⟨rfl,St.slTo hs (.cons _ (.refl _))⟩
    · skip
      have hj:¬ (j < 0∨(s.n:Int)≤j):=by
        simp at hc
        omega
      obtain ⟨jn,rfl⟩:∃ jn:Nat,j=jn:=⟨j.toNat,by omega⟩
      refine wp_seq (wp_reg ?_)
      refine s_q hs (c_move (hs.ev rfl)) rfl fun ac hs=>?_
      refine s_callM (i:=1) hs fu37 (.cons (hs.ev rfl) .nil) rfl (sl_power g sb qv s hok hst _ (hs.seg (i:=1) rfl)) rfl fun ac ww v27 hf hp hs=>?_
      obtain ⟨rfl,hb'⟩:=hp
      replace hs:=hs (.seg g (hdS sb qv s.pow) 72) hb' (fun k hk=>⟨.inl hk,seg_lt hb' k hk⟩)
      refine s_q hs (c_not (hs.ev rfl)) rfl fun ac hs=>?_
      refine s_q hs (c_assign (hs.ev rfl)) rfl fun ac hs=>?_
      refine s_end ?_
      replace hs:=hs.sub (F':=[(0,_),(1,_),(5,_),(6,_),(25,_)]) ⟨rfl,rfl,rfl,rfl,rfl,trivial⟩
      refine then_n ?_
      refine s_cond hs rfl (fun hc=>?_) (fun hc=>?_)
      · try simp only [decide_eq_true_eq,decide_eq_false_iff_not,Bool.not_eq_true',Bool.not_eq_false',Bool.and_eq_true,Bool.or_eq_true,Bool.or_eq_false_iff] at hc
        have hf0:s.fuse=0:=by simpa using hc
        have hpw:s.pow=s.off:=if_pos hf0
        rw [hpw] at hs
        refine wp_seq (wp_reg ?_)
        refine s_q hs (c_assign (hs.ev rfl)) rfl fun ac hs=>?_
        refine s_end ?_
        replace hs:=hs.sub (F':=[(0,_),(1,_),(5,_),(6,_)]) ⟨rfl,rfl,rfl,rfl,trivial⟩
        refine then_n (wp_ret (blk_r (then_r ?_)))
        refine s_ret hs rfl (.tmp (hs.tmp rfl) .nil) rfl ⟨_,rfl,hs.fr,?_⟩
        rw [show s.write jn b=(5,s.off) from (if_neg hd).trans ((if_neg hj).trans (if_pos hf0))]
        exact ⟨rfl,St.slTo (s':=s.off) hs (.cons _ (.refl _))⟩
      · try simp only [decide_eq_true_eq,decide_eq_false_iff_not,Bool.not_eq_true',Bool.not_eq_false',Bool.and_eq_true,Bool.or_eq_true,Bool.or_eq_false_iff] at hc
        have hf0:¬ s.fuse=0:=by simpa using hc
        have hpw:s.pow=s.on:=if_neg hf0
        rw [hpw] at hs
        refine wp_skip (blk_n (then_n (wp_seq ?_)))
        obtain ⟨qad,qcap,rfl,hqc,hqm⟩:=Rd.sl (Rd.of_row (hs.get (i:=3) rfl))
        refine wp_region_rgX (J:=[0]) pmix 9 (by kernel_rfl) (by kernel_rfl) rfl rfl hs ?_
        simp only [List.take_succ_cons,List.take_zero]
        refine rg_q (fun ac ww h=>c_move (h.ev rfl)) rfl ?_
        refine rg_q (fun ac ww h=>c_move (h.ev rfl)) rfl ?_
        refine rg_q (fun ac ww h=>c_nil (h.ev rfl)) rfl ?_
        refine rg_q (fun ac ww h=>c_fld fl72_1 (h.ev rfl)) rfl ?_
        refine rg_q (fun ac ww h=>c_loadS un70 rfl (h.ev rfl) (h.blk (hs.seg (i:=1) rfl)) rfl) rfl ?_
        refine rg_q (fun ac ww h=>c_move (h.ev rfl)) rfl ?_
        refine rg_q (fun ac ww h=>c_loadW ty29 rfl (h.ev rfl) (h.blk (hs.seg (i:=0) rfl)) (by simp [hb])) rfl ?_
        refine rg_q (fun ac ww h=>c_buildS (zc:=I (jn:Nat)::b.map B) ty74 bp74 (.cons (h.ev rfl) (.cons (h.ev rfl) .nil)) ⟨rfl,by simp [Value.cells,hb],trivial⟩ (by simp [flatCells,Value.cells,hb]) (by simp [flatCells,Value.cells,hb])) rfl ?_
        refine rg_bslice un70 ty74 (fun ac ww h=>(.cons (h.ev rfl) .nil)) rfl (by simp [Value.cells,hb]) (by decide) (show _=Wr.c ⟨jn,b⟩ by simp [flatCells,Value.cells,Wr.c]) rfl ?_
        refine rg_nil fun ac ww L' hf hfe hs hlk=>?_
        simp only [List.drop_succ_cons,List.drop_zero]
        obtain ⟨v37,L37,M37,h37,e37,rfl,rfl⟩:=hfe
        replace hs:=hs.add h37
        obtain ⟨g37,rfl,rfl⟩:=e37
        refine sk_append (i:=4) hs un70 ty74 (by decide) rfl rfl rfl (Rd.of_seg (n:=1) (hs.seg (i:=0) rfl) (Nat.le_refl _) (by decide) (List.take_of_length_le (by simp))) (Wr.c_len (x:=⟨jn,b⟩) (n:=s.n) ⟨hb,by show jn < s.n; omega⟩) (wr_one _) (by unfold maxLen; omega) (by omega) rfl (fun ac ww v38 hf hnil hs=>late_turn rfl rfl (late_nil)) fun ac ww v38 hf hnil hs=>?_
        obtain ⟨ad38,cap38,rfl,_,_⟩:=Rd.sl (Rd.of_row (hs.get (i:=4) rfl))
        refine s_q hs (c_nil (hs.ev rfl)) rfl fun ac hs=>?_
        refine s_q hs (c_fld fl72_1 (hs.ev rfl)) rfl fun ac hs=>?_
        refine s_store (i:=2) hs ty70 rfl rfl rfl rfl rfl rfl (by simp [hdS,Value.cells]) rfl fun ww hs=>?_
        refine s_end ?_
        replace hs:=hs.sub (F':=[(6,_)]) ⟨rfl,trivial⟩
        refine then_n (wp_seq (wp_reg ?_))
        refine s_q hs (c_assign (hs.ev rfl)) rfl fun ac hs=>?_
        refine s_end (then_n (wp_ret ?_))
        refine s_ret hs rfl (.tmp (hs.tmp rfl) .nil) rfl ⟨_,rfl,hs.fr,?_⟩
        rw [show s.write jn b=(0,{ s.on with q:=s.q++[⟨jn,b⟩] }) from (if_neg hd).trans ((if_neg hj).trans (if_neg hf0))]
        exact ⟨rfl,_,((hs.pick (L':=[_,_,_]) (.cons _ (.cons _ (.refl _)))).toL (L':=sl g sb _ { s.on with q:=s.q++[⟨jn,b⟩] }) (by rw [sl,wrC_app,wrC_one,List.length_append]; rfl)).grp⟩
theorem sl_Fuse (g sb:Nat) (qv:Value) (s:Sl) (n:Int) (w:World) (hsl:Has 0 w (sl g sb qv s)):Ctr Try.prog 13 [.pointer (some ⟨g,0,none⟩),I n] w (Ent.grp (sl g sb qv s)).keys (fun v w'=>v=I (s.fus n).1∧SlTo w w' g sb qv s (s.fus n).2):=by
  refine fn_start (N:=16) Try.func13 rfl rfl rfl fun ac hk=>?_
  have hs:=St.startG hk hsl
  refine wp_seq (wp_reg ?_)
  refine s_q hs (c_assign (hs.ev rfl)) rfl fun ac hs=>?_
  refine s_end (then_n (wp_seq (wp_seq (wp_reg ?_))))
  refine s_q hs (c_move (hs.ev rfl)) rfl fun ac hs=>?_
  refine s_call hs fu36 (.cons (hs.ev rfl) .nil) (sl_up g sb qv s _ ⟨hs.seg (i:=0) rfl,hs.seg (i:=1) rfl,hs.get (i:=2) rfl⟩) rfl fun ac ww v7 hf hp hs=>?_
  obtain rfl:=hp
  replace hs:=hs [] (.nil _ _)
  refine s_q hs (c_assign (hs.ev rfl)) rfl fun ac hs=>?_
  refine s_end ?_
  replace hs:=hs.sub (F':=[(0,_),(1,_),(4,_),(5,_)]) ⟨rfl,rfl,rfl,rfl,trivial⟩
  refine then_n (wp_seq (wp_reg ?_))
  refine s_q hs (c_move (hs.ev rfl)) rfl fun ac hs=>?_
  refine s_q hs (c_neqI (hs.ev rfl) (hs.ev rfl)) rfl fun ac hs=>?_
  refine s_end ?_
  replace hs:=hs.sub (F':=[(0,_),(1,_),(4,_),(5,_),(9,_)]) ⟨rfl,rfl,rfl,rfl,rfl,trivial⟩
  refine then_n ?_
  refine s_cond hs rfl (fun hc=>?_) (fun hc=>?_)
  · try simp only [decide_eq_true_eq,decide_eq_false_iff_not,Bool.not_eq_true',Bool.not_eq_false',Bool.and_eq_true,Bool.or_eq_true,Bool.or_eq_false_iff] at hc
    have hd:=Sl.up_ne hc
    refine wp_seq (wp_reg ?_)
    refine s_q hs (c_move (hs.ev rfl)) rfl fun ac hs=>?_
    refine s_q hs (c_assign (hs.ev rfl)) rfl fun ac hs=>?_
    refine s_end ?_
    replace hs:=hs.sub (F':=[(0,_),(1,_),(4,_)]) ⟨rfl,rfl,rfl,trivial⟩
    refine then_n (wp_ret (then_r ?_))
    refine s_ret hs rfl (.tmp (hs.tmp rfl) .nil) rfl ⟨_,rfl,hs.fr,?_⟩
    rw [show s.fus n=(5,s) from if_pos hd,Sl.up,if_pos hd]
    exact ⟨rfl,St.slTo hs (.refl _)⟩
  · try simp only [decide_eq_true_eq,decide_eq_false_iff_not,Bool.not_eq_true',Bool.not_eq_false',Bool.and_eq_true,Bool.or_eq_true,Bool.or_eq_false_iff] at hc
    have hd:=Sl.up_eq (by simpa using hc)
    refine wp_skip (then_n (wp_seq (wp_reg ?_)))
    refine s_q hs (c_move (hs.ev rfl)) rfl fun ac hs=>?_
    refine s_q hs (c_move (hs.ev rfl)) rfl fun ac hs=>?_
    refine s_q hs (c_max (hs.ev rfl) (hs.ev rfl)) rfl fun ac hs=>?_
    refine s_q hs (c_nil (hs.ev rfl)) rfl fun ac hs=>?_
    refine s_q hs (c_fld fl72_2 (hs.ev rfl)) rfl fun ac hs=>?_
    refine s_store (i:=0) hs ty3 rfl rfl rfl rfl rfl rfl (by simp [hdS,Value.cells]) rfl fun ww hs=>?_
    refine s_end ?_
    replace hs:=hs.sub (F':=[(4,_)]) ⟨rfl,trivial⟩
    refine then_n (wp_seq (wp_reg ?_))
    refine s_q hs (c_assign (hs.ev rfl)) rfl fun ac hs=>?_
    refine s_end (then_n (wp_ret ?_))
    refine s_ret hs rfl (.tmp (hs.tmp rfl) .nil) rfl ⟨_,rfl,hs.fr,?_⟩
    rw [show s.fus n=(0,{ s with fuse:=max n (-1) }) from if_neg hd]
    exact ⟨rfl,St.slTo (s':={ s with fuse:=max n (-1) }) hs (.refl _)⟩
theorem sl_Flush (g sb:Nat) (qv:Value) (s:Sl) (hok:s.Ok) (hst:s.steps≤1000000000) (hql:s.q.length≤1000000) (w:World) (hsl:Has 0 w (sl g sb qv s)):Ctr Try.prog 12 [.pointer (some ⟨g,0,none⟩)] w (Ent.grp (sl g sb qv s)).keys (fun v w'=>v=I s.flush.1∧SlTo w w' g sb qv s s.flush.2):=by
  refine fn_start (N:=36) Try.func12 rfl rfl rfl fun ac hk=>?_
  have hs:=St.startG hk hsl
  refine wp_seq (wp_reg ?_)
  refine s_q hs (c_assign (hs.ev rfl)) rfl fun ac hs=>?_
  refine s_end (then_n (wp_seq (wp_seq (wp_reg ?_))))
  refine s_q hs (c_move (hs.ev rfl)) rfl fun ac hs=>?_
  refine s_call hs fu36 (.cons (hs.ev rfl) .nil) (sl_up g sb qv s _ ⟨hs.seg (i:=0) rfl,hs.seg (i:=1) rfl,hs.get (i:=2) rfl⟩) rfl fun ac ww v7 hf hp hs=>?_
  obtain rfl:=hp
  replace hs:=hs [] (.nil _ _)
  refine s_q hs (c_assign (hs.ev rfl)) rfl fun ac hs=>?_
  refine s_end ?_
  replace hs:=hs.sub (F':=[(0,_),(2,_),(3,_)]) ⟨rfl,rfl,rfl,trivial⟩
  refine then_n (wp_seq (wp_reg ?_))
  refine s_q hs (c_move (hs.ev rfl)) rfl fun ac hs=>?_
  refine s_q hs (c_neqI (hs.ev rfl) (hs.ev rfl)) rfl fun ac hs=>?_
  refine s_end ?_
  replace hs:=hs.sub (F':=[(0,_),(2,_),(3,_),(9,_)]) ⟨rfl,rfl,rfl,rfl,trivial⟩
  refine then_n ?_
  refine s_cond hs rfl (fun hc=>?_) (fun hc=>?_)
  · try simp only [decide_eq_true_eq,decide_eq_false_iff_not,Bool.not_eq_true',Bool.not_eq_false',Bool.and_eq_true,Bool.or_eq_true,Bool.or_eq_false_iff] at hc
    have hd:=Sl.up_ne hc
    refine wp_seq (wp_reg ?_)
    refine s_q hs (c_move (hs.ev rfl)) rfl fun ac hs=>?_
    refine s_q hs (c_assign (hs.ev rfl)) rfl fun ac hs=>?_
    refine s_end ?_
    replace hs:=hs.sub (F':=[(0,_),(2,_)]) ⟨rfl,rfl,trivial⟩
    refine then_n (wp_ret (then_r ?_))
    refine s_ret hs rfl (.tmp (hs.tmp rfl) .nil) rfl ⟨_,rfl,hs.fr,?_⟩
    rw [show s.flush=(5,s) from if_pos hd,Sl.up,if_pos hd]
    exact ⟨rfl,St.slTo hs (.refl _)⟩
  · try simp only [decide_eq_true_eq,decide_eq_false_iff_not,Bool.not_eq_true',Bool.not_eq_false',Bool.and_eq_true,Bool.or_eq_true,Bool.or_eq_false_iff] at hc
    have hd:=Sl.up_eq (by simpa using hc)
    refine wp_skip (then_n (wp_seq (wp_seq (wp_reg ?_))))
    refine s_q hs (c_move (hs.ev rfl)) rfl fun ac hs=>?_
    refine s_callM (i:=0) hs fu37 (.cons (hs.ev rfl) .nil) rfl (sl_power g sb qv s hok hst _ (hs.seg (i:=0) rfl)) rfl fun ac ww v12 hf hp hs=>?_
    obtain ⟨rfl,hb'⟩:=hp
    replace hs:=hs (.seg g (hdS sb qv s.pow) 72) hb' (fun k hk=>⟨.inl hk,seg_lt hb' k hk⟩)
    refine s_q hs (c_not (hs.ev rfl)) rfl fun ac hs=>?_
    refine s_end ?_
    replace hs:=hs.sub (F':=[(0,_),(2,_),(13,_)]) ⟨rfl,rfl,rfl,trivial⟩
    refine then_n ?_
    refine s_cond hs rfl (fun hc=>?_) (fun hc=>?_)
    · try simp only [decide_eq_true_eq,decide_eq_false_iff_not,Bool.not_eq_true',Bool.not_eq_false',Bool.and_eq_true,Bool.or_eq_true,Bool.or_eq_false_iff] at hc
      have hf0:s.fuse=0:=by simpa using hc
      have hpw:s.pow=s.off:=if_pos hf0
      rw [hpw] at hs
      refine wp_seq (wp_reg ?_)
      refine s_q hs (c_assign (hs.ev rfl)) rfl fun ac hs=>?_
      refine s_end ?_
      replace hs:=hs.sub (F':=[(0,_),(2,_)]) ⟨rfl,rfl,trivial⟩
      refine then_n (wp_ret (then_r ?_))
      refine s_ret hs rfl (.tmp (hs.tmp rfl) .nil) rfl ⟨_,rfl,hs.fr,?_⟩
      rw [show s.flush=(5,s.off) from (if_neg hd).trans (if_pos hf0)]
      exact ⟨rfl,St.slTo (s':=s.off) hs (.refl _)⟩
    · try simp only [decide_eq_true_eq,decide_eq_false_iff_not,Bool.not_eq_true',Bool.not_eq_false',Bool.and_eq_true,Bool.or_eq_true,Bool.or_eq_false_iff] at hc
      have hf0:¬ s.fuse=0:=by simpa using hc
      have hpw:s.pow=s.on:=if_neg hf0
      rw [hpw] at hs
      refine wp_skip (then_n (wp_seq (wp_seq ?_)))
      obtain ⟨qad,qcap,rfl,hqc,hqm⟩:=Rd.sl (Rd.of_row (hs.get (i:=2) rfl))
      refine wp_reg ?_
      refine s_q hs (c_move (hs.ev rfl)) rfl fun ac hs=>?_
      refine s_q hs (c_nil (hs.ev rfl)) rfl fun ac hs=>?_
      refine s_q hs (c_fld fl72_1 (hs.ev rfl)) rfl fun ac hs=>?_
      refine s_q hs (c_loadS un70 rfl (hs.ev rfl) (hs.seg (i:=0) rfl) rfl) rfl fun ac hs=>?_
      refine s_q hs (c_lenS un70 (hs.ev rfl)) rfl fun ac hs=>?_
      refine s_q hs (c_move (hs.ev rfl)) rfl fun ac hs=>?_
      refine s_end ?_
      replace hs:=hs.sub (F':=[(0,_),(2,_),(17,_),(18,_),(19,_)]) ⟨rfl,rfl,rfl,rfl,rfl,trivial⟩
      refine then_n (wp_block ?_)
      refine s_loop hs (X:=Nat) (fun k=>[(19,I k)]) [(0,_),(2,_),(17,_),(18,_)] (fun k=>[.seg g (hdS sb (.slice qad s.q.length qcap) s.on) 72,.seg sb ((putQ s.xs (s.q.take k)).map B) 29,.row (.slice qad s.q.length qcap) s.q.length (wrC s.q) 74 65]) (fun n k=>k≤s.q.length∧n=s.q.length - k) (_) (0) (⟨Nat.zero_le _,rfl⟩) ⟨rfl,rfl,rfl,rfl,rfl,trivial⟩ rfl ?_
      rintro n k ac ww hok2 hs
      simp only [List.cons_append,List.nil_append] at hs
      obtain ⟨hk,rfl⟩:=hok2
      refine wp_seq (wp_reg ?_)
      refine s_q hs (c_lssI (hs.ev rfl) (hs.ev rfl)) rfl fun ac hs=>?_
      refine s_end (then_n (wp_seq ?_))
      refine s_cond hs rfl (fun hc=>?_) (fun hc=>?_)
      · try simp only [decide_eq_true_eq,decide_eq_false_iff_not,Bool.not_eq_true',Bool.not_eq_false',Bool.and_eq_true,Bool.or_eq_true,Bool.or_eq_false_iff] at hc
        have hkn:k < s.q.length:=by omega
        have hxo:=wr_ok hok.qo hkn
        obtain ⟨qb,qcap2,qcur,he,hqb,_,_,_,hcur⟩:=hs.row_at (i:=2) rfl (by omega)
        cases he
        have hpc:=wr_piece hok.qo hcur hkn
        obtain ⟨x,hx⟩:∃ x,s.q.getD k default=x:=⟨_,rfl⟩
        rw [hx] at hpc hxo
        refine wp_skip (then_n (wp_seq (wp_block (wp_seq (wp_reg ?_)))))
        refine s_q hs (c_idxS (j:=k) un70 ty74 (hs.ev rfl) (hs.ev rfl) (by omega) (by omega)) rfl fun ac hs=>?_
        refine s_q hs (c_loadA ty74 ag74 (hs.ev rfl) hqb hpc (Wr.c_len hxo)) rfl fun ac hs=>?_
        refine s_alloc hs ty74 rfl fun ac ww g5 hs=>?_
        refine s_storeW (i:=0) hs ty74 rfl rfl rfl (Wr.c_len hxo) (wr_one _) (by rfl) fun ww hs=>?_
        refine s_end (then_n ?_)
        refine wp_region_rg pmix 9 (by kernel_rfl) rfl hs ?_
        simp only [List.take_succ_cons,List.take_zero]
        refine rg_q (fun ac ww h=>c_move (h.ev rfl)) rfl ?_
        refine rg_q (fun ac ww h=>c_nil (h.ev rfl)) rfl ?_
        refine rg_q (fun ac ww h=>c_fld fl72_0 (h.ev rfl)) rfl ?_
        refine rg_q (fun ac ww h=>c_loadS un69 rfl (h.ev rfl) (h.blk (hs.seg (i:=1) rfl)) rfl) rfl ?_
        refine rg_q (fun ac ww h=>c_fld fl74_0 (h.ev rfl)) rfl ?_
        refine rg_q (fun ac ww h=>c_loadS un3 rfl (h.ev rfl) (h.blk (hs.seg (i:=0) rfl)) rfl) rfl ?_
        refine rg_q (fun ac ww h=>c_fld fl74_1 (h.ev rfl)) rfl ?_
        refine rg_q (fun ac ww h=>c_loadA ty29 rfl (h.ev rfl) (h.blk (hs.seg (i:=0) rfl)) (show _=x.b.map B from List.take_of_length_le (by simp [Wr.c,hxo.1])) (by simp [hxo.1])) rfl ?_
        refine rg_q (fun ac ww h=>c_idxS (j:=x.p) un69 ty29 (h.ev rfl) (h.ev rfl) rfl hxo.2) rfl ?_
        refine rg_nil fun ac ww L' hf hfe hs=>?_
        simp only [List.drop_succ_cons,List.drop_zero]
        obtain rfl:L'=[]:=hfe
        replace hs:=hs.toL (List.nil_append _)
        refine s_store (i:=2) hs ty29 rfl rfl rfl rfl (by simp [Value.cells,hxo.1]) (all64 _) (by have:=hxo.2; rw [List.length_map,putQ_len hok.xl (take_ok hok.qo)]; omega) (putW_cells _ _) fun ww hs=>?_
        refine s_end (blk_n (then_n (wp_reg ?_)))
        refine s_q hs (c_addI (hs.ev rfl) (hs.ev rfl) (by omega) (by omega)) rfl fun ac hs=>?_
        refine s_q hs (c_move (hs.ev rfl)) rfl fun ac hs=>?_
        refine s_end (then_n ?_)
        replace hs:=hs.pick (L':=[_,_,_]) (.cons _ (.refl _))
        rw [show putW (putQ s.xs (s.q.take k)) x=putQ s.xs (s.q.take (k + 1)) from by rw [putQ_succ hkn,hx]] at hs
        exact ⟨s.q.length - (k + 1),by omega,k + 1,⟨by omega,rfl⟩,St.next hs ⟨rfl,rfl,rfl,rfl,rfl,trivial⟩ rfl⟩
      · try simp only [decide_eq_true_eq,decide_eq_false_iff_not,Bool.not_eq_true',Bool.not_eq_false',Bool.and_eq_true,Bool.or_eq_true,Bool.or_eq_false_iff] at hc
        obtain rfl:k=s.q.length:=by omega
        rw [List.take_length] at hs
        refine wp_exit (then_e (then_e (blk_hit (then_n (wp_seq (wp_reg ?_))))))
        refine s_q hs (c_move (hs.ev rfl)) rfl fun ac hs=>?_
        refine s_q hs (c_nil (hs.ev rfl)) rfl fun ac hs=>?_
        refine s_q hs (c_fld fl72_1 (hs.ev rfl)) rfl fun ac hs=>?_
        refine s_store (i:=0) hs ty70 rfl rfl rfl rfl rfl rfl (by simp [hdS,Value.cells]) rfl fun ww hs=>?_
        refine s_end ?_
        replace hs:=hs.sub (F':=[(2,_)]) ⟨rfl,trivial⟩
        refine then_n (wp_seq (wp_reg ?_))
        refine s_q hs (c_assign (hs.ev rfl)) rfl fun ac hs=>?_
        refine s_end (then_n (wp_ret ?_))
        replace hs:=((hs.nilrow 74 65).pick (L':=[_,_,_]) (.cons_cons _ (.cons_cons _ (.cons_cons _ (.cons _ .slnil))))).perm (L':=[_,_,_]) (List.perm_append_comm (l₁:=[_,_]) (l₂:=[_]))
        refine s_ret hs rfl (.tmp (hs.tmp rfl) .nil) rfl ⟨_,rfl,hs.fr,?_⟩
        rw [show s.flush=(0,{ s.on with xs:=putQ s.xs s.q,q:=[] }) from (if_neg hd).trans (if_neg hf0)]
        exact ⟨rfl,St.slTo (s':={ s.on with xs:=putQ s.xs s.q,q:=[] }) hs (.refl _)⟩
end Go.Proofs.Ytkecdcmjkghddaa
end

section
/- The device: Read,Crash,New; what is asked of no device. -/
namespace Go.Proofs.Ytkecdcmjkghddaa
open Go Go.Fw
theorem tearW_cells (xs:List UInt8) (x:Wr) (t:Nat):xs.take (0 + x.p * 64)++x.b.take t++xs.drop (0 + x.p * 64 + t)=tearW xs x t:=by simp [tearW]
theorem sl_Read (g sb:Nat) (qv:Value) (s:Sl) (j:Int) (hok:s.Ok) (w:World) (hR:SlR w g sb qv s):Ctr Try.prog 15 [.pointer (some ⟨g,0,none⟩),I j] w (fun _=>False) (fun v _=>v=.tuple #[.agg ((s.read j).1.map B).toArray,I (s.read j).2]):=by
  refine fn_start (N:=61) Try.func15 rfl rfl rfl fun ac hk=>?_
  have hs:=St.start hk w
  refine wp_seq (wp_reg ?_)
  refine s_alloc hs ty29 rfl fun ac ww g4 hs=>?_
  refine s_q hs (c_assign (hs.ev rfl)) rfl fun ac hs=>?_
  refine s_end (then_n (wp_seq (wp_seq (wp_reg ?_))))
  refine s_q hs (c_move (hs.ev rfl)) rfl fun ac hs=>?_
  refine s_call hs fu36 (.cons (hs.ev rfl) .nil) (sl_up g sb qv s _ (hR.fr0 hs.fr)) rfl fun ac ww v9 hf hp hs=>?_
  obtain rfl:=hp
  replace hs:=hs [] (.nil _ _)
  refine s_q hs (c_assign (hs.ev rfl)) rfl fun ac hs=>?_
  refine s_end ?_
  replace hs:=hs.sub (F':=[(0,_),(1,_),(4,_),(5,_),(6,_)]) ⟨rfl,rfl,rfl,rfl,rfl,trivial⟩
  refine then_n (wp_seq (wp_reg ?_))
  refine s_q hs (c_move (hs.ev rfl)) rfl fun ac hs=>?_
  refine s_q hs (c_neqI (hs.ev rfl) (hs.ev rfl)) rfl fun ac hs=>?_
  refine s_end ?_
  replace hs:=hs.sub (F':=[(0,_),(1,_),(4,_),(5,_),(6,_),(11,_)]) ⟨rfl,rfl,rfl,rfl,rfl,rfl,trivial⟩
  refine then_n ?_
  refine s_cond hs rfl (fun hc=>?_) (fun hc=>?_)
  · try simp only [decide_eq_true_eq,decide_eq_false_iff_not,Bool.not_eq_true',Bool.not_eq_false',Bool.and_eq_true,Bool.or_eq_true,Bool.or_eq_false_iff] at hc
    have hd:=Sl.up_ne hc
    refine wp_seq (wp_reg ?_)
    refine s_q hs (c_buildA (zc:=zero64.map B) ty29 un29 ty5 .nil (by simp [Value.cells]) (by simp [flatCells,Value.cells]) rfl) rfl fun ac hs=>?_
    refine s_q hs (c_move (hs.ev rfl)) rfl fun ac hs=>?_
    refine s_storeW (i:=0) hs ty29 rfl rfl rfl (by rfl) (by simp [Value.oneCell']) (by simp) fun ww hs=>?_
    refine s_q hs (c_assign (hs.ev rfl)) rfl fun ac hs=>?_
    refine s_end ?_
    replace hs:=hs.sub (F':=[(0,_),(1,_),(4,_),(5,_)]) ⟨rfl,rfl,rfl,rfl,trivial⟩
    refine then_n (wp_ret (then_r ?_))
    refine s_ret hs rfl (.cell (hs.tmp rfl) (run_loadA ty29 rfl (hs.seg (i:=0) rfl) rfl (by rfl)) (.tmp (hs.tmp rfl) .nil)) rfl ⟨_,rfl,hs.fr,?_⟩
    rw [show s.read j=(zero64,5) from if_pos hd,Sl.up,if_pos hd]
    rfl
  · try simp only [decide_eq_true_eq,decide_eq_false_iff_not,Bool.not_eq_true',Bool.not_eq_false',Bool.and_eq_true,Bool.or_eq_true,Bool.or_eq_false_iff] at hc
    have hd:=Sl.up_eq (by simpa using hc)
    refine wp_skip (then_n (wp_seq (wp_seq (wp_reg ?_))))
    refine s_q hs (c_move (hs.ev rfl)) rfl fun ac hs=>?_
    refine s_q hs (c_lssI (hs.ev rfl) (hs.ev rfl)) rfl fun ac hs=>?_
    refine s_q hs (c_move (hs.ev rfl)) rfl fun ac hs=>?_
    refine s_g hs rfl rfl (fun hg=>c_move (hs.ev rfl)) rfl fun ac hs=>?_
    refine s_g hs rfl rfl (fun hg=>c_move (hs.ev rfl)) rfl fun ac hs=>?_
    refine s_g hs rfl rfl (fun hg=>c_nil (gev (hs.ev rfl) hg)) rfl fun ac hs=>?_
    refine s_g hs rfl rfl (fun hg=>c_fld fl72_0 (gev (hs.ev rfl) hg)) rfl fun ac hs=>?_
    refine s_g hs rfl rfl (fun hg=>c_loadS un69 rfl (gev (hs.ev rfl) hg) (hs.old hR.hg (fun h=>h)) rfl) rfl fun ac hs=>?_
    refine s_g hs rfl rfl (fun hg=>c_lenS un69 (gev (hs.ev rfl) hg)) rfl fun ac hs=>?_
    refine s_g hs rfl rfl (fun hg=>c_geqI (gev (hs.ev rfl) hg) (gev (hs.ev rfl) hg)) rfl fun ac hs=>?_
    refine s_q hs (c_or (hs.ev rfl) (hs.ev rfl)) rfl fun ac hs=>?_
    refine s_end ?_
    replace hs:=hs.sub (F':=[(0,_),(1,_),(4,_),(5,_),(24,_)]) ⟨rfl,rfl,rfl,rfl,rfl,trivial⟩
    refine then_n ?_
    refine s_cond hs rfl (fun hc=>?_) (fun hc=>?_)
    · skip
      have hj:j < 0∨(s.n:Int)≤j:=by simpa using hc
      refine wp_seq (wp_reg ?_)
      refine s_q hs (c_buildA (zc:=zero64.map B) ty29 un29 ty5 .nil (by simp [Value.cells]) (by simp [flatCells,Value.cells]) rfl) rfl fun ac hs=>?_
      refine s_storeW (i:=0) hs ty29 rfl rfl rfl (by rfl) (by simp [Value.oneCell']) (by simp) fun ww hs=>?_
      refine s_q hs (c_assign (hs.ev rfl)) rfl fun ac hs=>?_
      refine s_end ?_
      replace hs:=hs.sub (F':=[(0,_),(1,_),(4,_),(5,_)]) ⟨rfl,rfl,rfl,rfl,trivial⟩
      refine then_n (wp_ret (then_r ?_))
      refine s_ret hs rfl (.cell (hs.tmp rfl) (run_loadA ty29 rfl (hs.seg (i:=0) rfl) rfl (by rfl)) (.tmp (hs.tmp rfl) .nil)) rfl ⟨_,rfl,hs.fr,?_⟩
      rw [show s.read j=(zero64,1) from (if_neg hd).trans (if_pos hj)]
      rfl
    · skip
      have hj:¬ (j < 0∨(s.n:Int)≤j):=by
        simp at hc
        omega
      obtain ⟨jn,rfl⟩:∃ jn:Nat,j=jn:=⟨j.toNat,by omega⟩
      have hjn:jn < s.n:=by omega
      obtain ⟨qad,qcap,rfl,hqc,hqm⟩:=Rd.sl (Rd.of_row hR.hq)
      have hnl:=(Rd.of_row hR.hq).le
      refine wp_skip (then_n (wp_seq (wp_seq (wp_reg ?_))))
      refine s_q hs (c_move (hs.ev rfl)) rfl fun ac hs=>?_
      refine s_q hs (c_nil (hs.ev rfl)) rfl fun ac hs=>?_
      refine s_q hs (c_fld fl72_1 (hs.ev rfl)) rfl fun ac hs=>?_
      refine s_q hs (c_loadS un70 rfl (hs.ev rfl) (hs.old hR.hg (fun h=>h)) rfl) rfl fun ac hs=>?_
      refine s_q hs (c_lenS un70 (hs.ev rfl)) rfl fun ac hs=>?_
      refine s_q hs (c_subI (hs.ev rfl) (hs.ev rfl) (by omega) (by omega)) rfl fun ac hs=>?_
      refine s_q hs (c_assign (hs.ev rfl)) rfl fun ac hs=>?_
      refine s_end ?_
      replace hs:=hs.sub (F':=[(0,_),(1,_),(4,_),(5,_),(7,_)]) ⟨rfl,rfl,rfl,rfl,rfl,trivial⟩
      refine then_n (wp_block ?_)
      refine s_loop hs (X:=Nat) (fun k=>[(7,I ((k:Int) - 1))]) [(0,_),(1,_),(4,_)] (fun _=>[_]) (fun n k=>k≤s.q.length∧n=k∧∀ i,k≤i→i < s.q.length→¬ (s.q.getD i default).p=jn) (_) (s.q.length) (⟨Nat.le_refl _,rfl,fun i h1 h2=>by omega⟩) ⟨rfl,rfl,rfl,rfl,trivial⟩ rfl ?_
      rintro n k ac ww hok2 hs
      simp only [List.cons_append,List.nil_append] at hs
      obtain ⟨hk,rfl,hno⟩:=hok2
      refine wp_seq (wp_seq (wp_reg ?_))
      refine s_q hs (c_move (hs.ev rfl)) rfl fun ac hs=>?_
      refine s_q hs (c_geqI (hs.ev rfl) (hs.ev rfl)) rfl fun ac hs=>?_
      refine s_end (then_n ?_)
      refine s_cond hs rfl (fun hc=>?_) (fun hc=>?_)
      · try simp only [decide_eq_true_eq,decide_eq_false_iff_not,Bool.not_eq_true',Bool.not_eq_false',Bool.and_eq_true,Bool.or_eq_true,Bool.or_eq_false_iff] at hc
        obtain ⟨m,rfl⟩:∃ m,n=m + 1:=⟨n - 1,by omega⟩
        have hmn:m < s.q.length:=by omega
        have hxo:=wr_ok hok.qo hmn
        obtain ⟨qb,qcap2,qcur,he,hqb,_,_,hcur⟩:=owns_at hR.hq (by omega)
        have hs9:=hs
        cases he
        replace hs:=hs9
        obtain ⟨x,hx⟩:∃ x,s.q.getD m default=x:=⟨_,rfl⟩
        have hpc:=wr_cell hok.qo hcur hmn
        have hbd:=wr_body hok.qo hcur hmn
        rw [hx] at hpc hbd hxo
        refine wp_skip (then_n (wp_seq (wp_block (wp_seq (wp_reg ?_)))))
        refine s_q hs (c_move (hs.ev rfl)) rfl fun ac hs=>?_
        refine s_q hs (c_nil (hs.ev rfl)) rfl fun ac hs=>?_
        refine s_q hs (c_fld fl72_1 (hs.ev rfl)) rfl fun ac hs=>?_
        refine s_q hs (c_loadS un70 rfl (hs.ev rfl) (hs.old hR.hg (fun h=>h)) rfl) rfl fun ac hs=>?_
        refine s_q hs (c_move (hs.ev rfl)) rfl fun ac hs=>?_
        refine s_q hs (c_idxS (j:=m) un70 ty74 (hs.ev rfl) (hs.ev rfl) (by omega) (by omega)) rfl fun ac hs=>?_
        refine s_q hs (c_fld fl74_0 (hs.ev rfl)) rfl fun ac hs=>?_
        refine s_q hs (c_loadS un3 rfl (hs.ev rfl) (hs.old hqb id) hpc) rfl fun ac hs=>?_
        refine s_q hs (c_move (hs.ev rfl)) rfl fun ac hs=>?_
        refine s_q hs (c_eqlI (hs.ev rfl) (hs.ev rfl)) rfl fun ac hs=>?_
        refine s_end (then_n ?_)
        refine s_cond hs rfl (fun hc=>?_) (fun hc=>?_)
        · try simp only [decide_eq_true_eq,decide_eq_false_iff_not,Bool.not_eq_true',Bool.not_eq_false',Bool.and_eq_true,Bool.or_eq_true,Bool.or_eq_false_iff] at hc
          have heq:x.p=jn:=by omega
          refine wp_seq (wp_reg ?_)
          refine s_q hs (c_move (hs.ev rfl)) rfl fun ac hs=>?_
          refine s_q hs (c_nil (hs.ev rfl)) rfl fun ac hs=>?_
          refine s_q hs (c_fld fl72_1 (hs.ev rfl)) rfl fun ac hs=>?_
          refine s_q hs (c_loadS un70 rfl (hs.ev rfl) (hs.old hR.hg (fun h=>h)) rfl) rfl fun ac hs=>?_
          refine s_q hs (c_move (hs.ev rfl)) rfl fun ac hs=>?_
          refine s_q hs (c_idxS (j:=m) un70 ty74 (hs.ev rfl) (hs.ev rfl) (by omega) (by omega)) rfl fun ac hs=>?_
          refine s_q hs (c_fld fl74_1 (hs.ev rfl)) rfl fun ac hs=>?_
          refine s_q hs (c_loadA ty29 rfl (hs.ev rfl) (hs.old hqb id) hbd (by simp [hxo.1])) rfl fun ac hs=>?_
          refine s_storeW (i:=0) hs ty29 rfl rfl rfl (by simp [hxo.1]) (all64 _) (by rfl) fun ww hs=>?_
          refine s_q hs (c_assign (hs.ev rfl)) rfl fun ac hs=>?_
          refine s_end (then_n (wp_ret (blk_r (then_r (then_r (blk_r (then_r ?_)))))))
          refine s_ret hs rfl (.cell (hs.tmp rfl) (run_loadA ty29 rfl (hs.seg (i:=0) rfl) (List.take_of_length_le (by simp [hxo.1])) (by simp [hxo.1])) (.tmp (hs.tmp rfl) .nil)) rfl ⟨_,rfl,hs.fr,?_⟩
          rw [show s.read jn=(x.b,0) from (if_neg hd).trans ((if_neg hj).trans (by rw [show (jn:Int).toNat=jn from rfl,ofW_hit hmn (by rw [hx]; exact heq) (fun i h1 h2=>hno i h1 h2),hx]))]
          rfl
        · try simp only [decide_eq_true_eq,decide_eq_false_iff_not,Bool.not_eq_true',Bool.not_eq_false',Bool.and_eq_true,Bool.or_eq_true,Bool.or_eq_false_iff] at hc
          have hne:¬ x.p=jn:=by omega
          refine wp_skip (blk_n (then_n (wp_reg ?_)))
          refine s_q hs (c_move (hs.ev rfl)) rfl fun ac hs=>?_
          refine s_q hs (c_subI (hs.ev rfl) (hs.ev rfl) (by omega) (by omega)) rfl fun ac hs=>?_
          refine s_q hs (c_assign (hs.ev rfl)) rfl fun ac hs=>?_
          refine s_end (then_n ?_)
          exact ⟨m,by omega,m,⟨by omega,rfl,fun i h1 h2=>by
              by_cases e:i=m
              · subst e; rw [hx]; exact hne
              · exact hno i (by omega) h2⟩,St.next hs ⟨(show some (I _)=some (I _) by congr 2; omega),rfl,rfl,rfl,trivial⟩ rfl⟩
      · try simp only [decide_eq_true_eq,decide_eq_false_iff_not,Bool.not_eq_true',Bool.not_eq_false',Bool.and_eq_true,Bool.or_eq_true,Bool.or_eq_false_iff] at hc
        obtain rfl:n=0:=by omega
        refine wp_exit (then_e (then_e (blk_hit (then_n (wp_seq (wp_reg ?_))))))
        refine s_q hs (c_move (hs.ev rfl)) rfl fun ac hs=>?_
        refine s_q hs (c_nil (hs.ev rfl)) rfl fun ac hs=>?_
        refine s_q hs (c_fld fl72_0 (hs.ev rfl)) rfl fun ac hs=>?_
        refine s_q hs (c_loadS un69 rfl (hs.ev rfl) (hs.old hR.hg (fun h=>h)) rfl) rfl fun ac hs=>?_
        refine s_q hs (c_move (hs.ev rfl)) rfl fun ac hs=>?_
        refine s_q hs (c_idxS (j:=jn) un69 ty29 (hs.ev rfl) (hs.ev rfl) rfl (by omega)) rfl fun ac hs=>?_
        refine s_q hs (c_loadA ty29 rfl (hs.ev rfl) (hs.old hR.hx (fun h=>h)) sec_cells (by simp [sec_len hok.xl hjn])) rfl fun ac hs=>?_
        refine s_storeW (i:=0) hs ty29 rfl rfl rfl (by simp [sec_len hok.xl hjn]) (all64 _) (by rfl) fun ww hs=>?_
        refine s_q hs (c_assign (hs.ev rfl)) rfl fun ac hs=>?_
        refine s_end ?_
        replace hs:=hs.sub (F':=[(4,_),(5,_)]) ⟨rfl,rfl,trivial⟩
        refine then_n (wp_ret ?_)
        refine s_ret hs rfl (.cell (hs.tmp rfl) (run_loadA ty29 rfl (hs.seg (i:=0) rfl) (List.take_of_length_le (by simp [sec_len hok.xl hjn])) (by simp [sec_len hok.xl hjn])) (.tmp (hs.tmp rfl) .nil)) rfl ⟨_,rfl,hs.fr,?_⟩
        rw [show s.read jn=(sec s.xs jn,0) from (if_neg hd).trans ((if_neg hj).trans (by rw [show (jn:Int).toNat=jn from rfl,ofW_miss (fun i h=>hno i (Nat.zero_le _) h)]))]
        rfl
theorem clamp64 (n:Int):max 0 (min n 64)=(clampN n 64:Int):=clampN_eq n 64
theorem rd_body {w:World} {g t:Nat} {x:Wr} {T:TypeId} (hb:w.heap[g]?=some (.cells x.c.toArray T (0,0))) (hx:x.b.length=64) (ht:t≤64):RdB w (.slice (some ⟨g,0 + 1,none⟩) t 64) (x.b.take t):=by
  have hl:(x.b.take t).length=t:=by simp [hx]; omega
  refine ⟨_,64,by rw [hl],by omega,by decide,(fun h=>by cases h),.inr ⟨g,0 + 1,T,(0,0),x.c.toArray,rfl,hb,?_⟩⟩
  simp [Wr.c,hx,List.map_take]
theorem crash_t {s:Sl} {wr by_:Int} {k:Nat} (hk:clampN wr s.q.length=k) (h:k < s.q.length):(s.crash wr by_).xs=tearW (putQ s.xs (s.q.take k)) (s.q.getD k default) (clampN by_ 64):=by
  subst hk
  simp only [Sl.crash,if_pos h]
theorem crash_f {s:Sl} {wr by_:Int} {k:Nat} (hk:clampN wr s.q.length=k) (h:¬ k < s.q.length):(s.crash wr by_).xs=putQ s.xs (s.q.take k):=by
  subst hk
  simp only [Sl.crash,if_neg h]
theorem sl_Crash (g sb:Nat) (qv:Value) (s:Sl) (wr by_:Int) (hok:s.Ok) (w:World) (hsl:Has 0 w (sl g sb qv s)):Ctr Try.prog 14 [.pointer (some ⟨g,0,none⟩),I wr,I by_] w (Ent.grp (sl g sb qv s)).keys (fun v w'=>v=I 0∧SlTo w w' g sb qv s (s.crash wr by_)):=by
  refine fn_start (N:=81) Try.func14 rfl rfl rfl fun ac hk=>?_
  have hs:=St.startG hk hsl
  obtain ⟨qad,qcap,rfl,hqc,hqm⟩:=Rd.sl (Rd.of_row (hs.get (i:=2) rfl))
  have hnl:=(Rd.of_row (hs.get (i:=2) rfl)).le
  obtain ⟨kk,hkk⟩:∃ kk,clampN wr s.q.length=kk:=⟨_,rfl⟩
  have hkle:kk≤s.q.length:=hkk ▸ clampN_le _ _
  refine wp_seq (wp_reg ?_)
  refine s_q hs (c_assign (hs.ev rfl)) rfl fun ac hs=>?_
  refine s_end (then_n (wp_seq (wp_seq (wp_reg ?_))))
  refine s_q hs (c_move (hs.ev rfl)) rfl fun ac hs=>?_
  refine s_q hs (c_eqlNil un23 (hs.ev rfl) (hs.ev rfl)) rfl fun ac hs=>?_
  refine s_end ?_
  replace hs:=hs.sub (F':=[(0,_),(1,_),(2,_),(6,_),(12,_)]) ⟨rfl,rfl,rfl,rfl,rfl,trivial⟩
  refine then_n ?_
  refine wp_cond_false (hs.ev rfl) ?_
  refine wp_skip (then_n (wp_seq (wp_reg ?_)))
  refine s_q hs (c_move (hs.ev rfl)) rfl fun ac hs=>?_
  refine s_q hs (c_move (hs.ev rfl)) rfl fun ac hs=>?_
  refine s_q hs (c_nil (hs.ev rfl)) rfl fun ac hs=>?_
  refine s_q hs (c_fld fl72_1 (hs.ev rfl)) rfl fun ac hs=>?_
  refine s_q hs (c_loadS un70 rfl (hs.ev rfl) (hs.seg (i:=0) rfl) rfl) rfl fun ac hs=>?_
  refine s_q hs (c_lenS un70 (hs.ev rfl)) rfl fun ac hs=>?_
  refine s_q hs (c_min (hs.ev rfl) (hs.ev rfl)) rfl fun ac hs=>?_
  refine s_q hs (c_to (c_max (hs.ev rfl) (hs.ev rfl)) ((congrArg I ((clampN_eq wr s.q.length).trans (congrArg (fun n:Nat=>(n:Int)) hkk))))) rfl fun ac hs=>?_
  refine s_q hs (c_assign (hs.ev rfl)) rfl fun ac hs=>?_
  refine s_end ?_
  replace hs:=hs.sub (F':=[(0,_),(1,_),(2,_),(6,_)]) ⟨rfl,rfl,rfl,rfl,trivial⟩
  refine then_n (wp_seq (wp_seq (wp_reg ?_)))
  refine s_q hs (c_move (hs.ev rfl)) rfl fun ac hs=>?_
  refine s_q hs (c_nil (hs.ev rfl)) rfl fun ac hs=>?_
  refine s_q hs (c_fld fl72_1 (hs.ev rfl)) rfl fun ac hs=>?_
  refine s_q hs (c_loadS un70 rfl (hs.ev rfl) (hs.seg (i:=0) rfl) rfl) rfl fun ac hs=>?_
  refine s_q hs (c_move (hs.ev rfl)) rfl fun ac hs=>?_
  refine s_q hs (c_to (c_sliceH (j:=kk) un70 ty74 (hs.ev rfl) (hs.ev rfl) (by omega) (by omega)) ((congrArg (fun ad=>Value.slice ad kk qcap) (cut0 ⟨hs.seg (i:=0) rfl,hs.seg (i:=1) rfl,hs.get (i:=2) rfl⟩)))) rfl fun ac hs=>?_
  refine s_q hs (c_lenS un70 (hs.ev rfl)) rfl fun ac hs=>?_
  refine s_q hs (c_move (hs.ev rfl)) rfl fun ac hs=>?_
  refine s_end ?_
  replace hs:=hs.sub (F':=[(0,_),(1,_),(2,_),(6,_),(26,_),(27,_),(28,_)]) ⟨rfl,rfl,rfl,rfl,rfl,rfl,rfl,trivial⟩
  refine then_n (wp_block ?_)
  refine s_loop hs (X:=Nat) (fun k=>[(28,I k)]) [(0,_),(1,_),(2,_),(6,_),(26,_),(27,_)] (fun k=>[.seg g (hdS sb (.slice qad s.q.length qcap) s) 72,.seg sb ((putQ s.xs (s.q.take k)).map B) 29,.row (.slice qad s.q.length qcap) s.q.length (wrC s.q) 74 65]) (fun n k=>k≤kk∧n=kk - k) (_) (0) (⟨Nat.zero_le _,rfl⟩) ⟨rfl,rfl,rfl,rfl,rfl,rfl,rfl,trivial⟩ rfl ?_
  rintro n k ac ww hok2 hs
  simp only [List.cons_append,List.nil_append] at hs
  obtain ⟨hk,rfl⟩:=hok2
  refine wp_seq (wp_reg ?_)
  refine s_q hs (c_lssI (hs.ev rfl) (hs.ev rfl)) rfl fun ac hs=>?_
  refine s_end (then_n (wp_seq ?_))
  refine s_cond hs rfl (fun hc=>?_) (fun hc=>?_)
  · try simp only [decide_eq_true_eq,decide_eq_false_iff_not,Bool.not_eq_true',Bool.not_eq_false',Bool.and_eq_true,Bool.or_eq_true,Bool.or_eq_false_iff] at hc
    have hkn:k < kk:=by omega
    have hkq:k < s.q.length:=by omega
    have hxo:=wr_ok hok.qo hkq
    obtain ⟨qb,qcap2,qcur,he,hqb,_,_,_,hcur⟩:=hs.row_at (i:=2) rfl (by omega)
    have hs9:=hs
    cases he
    replace hs:=hs9
    have hpc:=wr_piece hok.qo hcur hkq
    obtain ⟨x,hx⟩:∃ x,s.q.getD k default=x:=⟨_,rfl⟩
    rw [hx] at hpc hxo
    refine wp_skip (then_n (wp_seq (wp_block (wp_seq (wp_reg ?_)))))
    refine s_q hs (c_idxS (j:=k) un70 ty74 (hs.ev rfl) (hs.ev rfl) (by omega) (by omega)) rfl fun ac hs=>?_
    refine s_q hs (c_loadA ty74 ag74 (hs.ev rfl) hqb hpc (Wr.c_len hxo)) rfl fun ac hs=>?_
    refine s_alloc hs ty74 rfl fun ac ww g8 hs=>?_
    refine s_storeW (i:=0) hs ty74 rfl rfl rfl (Wr.c_len hxo) (wr_one _) (by rfl) fun ww hs=>?_
    refine s_end (then_n ?_)
    refine wp_region_rg pmix 9 (by kernel_rfl) rfl hs ?_
    simp only [List.take_succ_cons,List.take_zero]
    refine rg_q (fun ac ww h=>c_move (h.ev rfl)) rfl ?_
    refine rg_q (fun ac ww h=>c_nil (h.ev rfl)) rfl ?_
    refine rg_q (fun ac ww h=>c_fld fl72_0 (h.ev rfl)) rfl ?_
    refine rg_q (fun ac ww h=>c_loadS un69 rfl (h.ev rfl) (h.blk (hs.seg (i:=1) rfl)) rfl) rfl ?_
    refine rg_q (fun ac ww h=>c_fld fl74_0 (h.ev rfl)) rfl ?_
    refine rg_q (fun ac ww h=>c_loadS un3 rfl (h.ev rfl) (h.blk (hs.seg (i:=0) rfl)) rfl) rfl ?_
    refine rg_q (fun ac ww h=>c_fld fl74_1 (h.ev rfl)) rfl ?_
    refine rg_q (fun ac ww h=>c_loadA ty29 rfl (h.ev rfl) (h.blk (hs.seg (i:=0) rfl)) (show _=x.b.map B from List.take_of_length_le (by simp [Wr.c,hxo.1])) (by simp [hxo.1])) rfl ?_
    refine rg_q (fun ac ww h=>c_idxS (j:=x.p) un69 ty29 (h.ev rfl) (h.ev rfl) rfl hxo.2) rfl ?_
    refine rg_nil fun ac ww L' hf hfe hs=>?_
    simp only [List.drop_succ_cons,List.drop_zero]
    obtain rfl:L'=[]:=hfe
    replace hs:=hs.toL (List.nil_append _)
    refine s_store (i:=2) hs ty29 rfl rfl rfl rfl (by simp [Value.cells,hxo.1]) (all64 _) (by have:=hxo.2; rw [List.length_map,putQ_len hok.xl (take_ok hok.qo)]; omega) (putW_cells _ _) fun ww hs=>?_
    refine s_end (blk_n (then_n (wp_reg ?_)))
    refine s_q hs (c_addI (hs.ev rfl) (hs.ev rfl) (by omega) (by omega)) rfl fun ac hs=>?_
    refine s_q hs (c_move (hs.ev rfl)) rfl fun ac hs=>?_
    refine s_end (then_n ?_)
    replace hs:=hs.pick (L':=[_,_,_]) (.cons _ (.refl _))
    rw [show putW (putQ s.xs (s.q.take k)) x=putQ s.xs (s.q.take (k + 1)) from by rw [putQ_succ hkq,hx]] at hs
    exact ⟨kk - (k + 1),by omega,k + 1,⟨by omega,rfl⟩,St.next hs ⟨rfl,rfl,rfl,rfl,rfl,rfl,rfl,trivial⟩ rfl⟩
  · try simp only [decide_eq_true_eq,decide_eq_false_iff_not,Bool.not_eq_true',Bool.not_eq_false',Bool.and_eq_true,Bool.or_eq_true,Bool.or_eq_false_iff] at hc
    obtain rfl:k=kk:=by omega
    refine wp_exit (then_e (then_e (blk_hit (then_n (wp_seq (wp_seq (wp_reg ?_)))))))
    refine s_q hs (c_move (hs.ev rfl)) rfl fun ac hs=>?_
    refine s_q hs (c_move (hs.ev rfl)) rfl fun ac hs=>?_
    refine s_q hs (c_nil (hs.ev rfl)) rfl fun ac hs=>?_
    refine s_q hs (c_fld fl72_1 (hs.ev rfl)) rfl fun ac hs=>?_
    refine s_q hs (c_loadS un70 rfl (hs.ev rfl) (hs.seg (i:=0) rfl) rfl) rfl fun ac hs=>?_
    refine s_q hs (c_lenS un70 (hs.ev rfl)) rfl fun ac hs=>?_
    refine s_q hs (c_lssI (hs.ev rfl) (hs.ev rfl)) rfl fun ac hs=>?_
    refine s_end ?_
    replace hs:=hs.sub (F':=[(0,_),(1,_),(2,_),(6,_),(48,_)]) ⟨rfl,rfl,rfl,rfl,rfl,trivial⟩
    refine then_n ?_
    refine s_cond hs rfl (fun hc=>?_) (fun hc=>?_)
    · try simp only [decide_eq_true_eq,decide_eq_false_iff_not,Bool.not_eq_true',Bool.not_eq_false',Bool.and_eq_true,Bool.or_eq_true,Bool.or_eq_false_iff] at hc
      have hkl:k < s.q.length:=by omega
      have hxo:=wr_ok hok.qo hkl
      obtain ⟨tt,htt⟩:∃ tt,clampN by_ 64=tt:=⟨_,rfl⟩
      have htl:tt≤64:=htt ▸ clampN_le _ _
      refine wp_seq (wp_reg ?_)
      refine s_q hs (c_move (hs.ev rfl)) rfl fun ac hs=>?_
      refine s_q hs (c_nil (hs.ev rfl)) rfl fun ac hs=>?_
      refine s_q hs (c_fld fl72_1 (hs.ev rfl)) rfl fun ac hs=>?_
      refine s_q hs (c_loadS un70 rfl (hs.ev rfl) (hs.seg (i:=0) rfl) rfl) rfl fun ac hs=>?_
      refine s_q hs (c_move (hs.ev rfl)) rfl fun ac hs=>?_
      obtain ⟨qb,qcap2,qcur,he,hqb,_,_,_,hcur⟩:=hs.row_at (i:=2) rfl (by omega)
      have hs9:=hs
      cases he
      replace hs:=hs9
      have hpc:=wr_piece hok.qo hcur hkl
      obtain ⟨x,hx⟩:∃ x,s.q.getD k default=x:=⟨_,rfl⟩
      rw [hx] at hpc hxo
      refine s_q hs (c_idxS (j:=k) un70 ty74 (hs.ev rfl) (hs.ev rfl) (by omega) (by omega)) rfl fun ac hs=>?_
      refine s_q hs (c_loadA ty74 ag74 (hs.ev rfl) hqb hpc (Wr.c_len hxo)) rfl fun ac hs=>?_
      refine s_alloc hs ty74 rfl fun ac ww g9 hs=>?_
      refine s_storeW (i:=0) hs ty74 rfl rfl rfl (Wr.c_len hxo) (wr_one _) (by rfl) fun ww hs=>?_
      refine s_end ?_
      replace hs:=hs.sub (F':=[(0,_),(2,_),(6,_),(9,_)]) ⟨rfl,rfl,rfl,rfl,trivial⟩
      refine then_n (wp_seq (wp_reg ?_))
      refine s_q hs (c_move (hs.ev rfl)) rfl fun ac hs=>?_
      refine s_q hs (c_min (hs.ev rfl) (hs.ev rfl)) rfl fun ac hs=>?_
      refine s_q hs (c_to (c_max (hs.ev rfl) (hs.ev rfl)) ((congrArg I ((clamp64 by_).trans (congrArg (fun n:Nat=>(n:Int)) htt))))) rfl fun ac hs=>?_
      refine s_q hs (c_assign (hs.ev rfl)) rfl fun ac hs=>?_
      refine s_end ?_
      replace hs:=hs.sub (F':=[(0,_),(6,_),(9,_),(10,_)]) ⟨rfl,rfl,rfl,rfl,trivial⟩
      refine then_n ?_
      refine wp_region_rg pmix 12 (by kernel_rfl) rfl hs ?_
      simp only [List.take_succ_cons,List.take_zero]
      refine rg_q (fun ac ww h=>c_move (h.ev rfl)) rfl ?_
      refine rg_q (fun ac ww h=>c_nil (h.ev rfl)) rfl ?_
      refine rg_q (fun ac ww h=>c_fld fl72_0 (h.ev rfl)) rfl ?_
      refine rg_q (fun ac ww h=>c_loadS un69 rfl (h.ev rfl) (h.blk (hs.seg (i:=1) rfl)) rfl) rfl ?_
      refine rg_q (fun ac ww h=>c_fld fl74_0 (h.ev rfl)) rfl ?_
      refine rg_q (fun ac ww h=>c_loadS un3 rfl (h.ev rfl) (h.blk (hs.seg (i:=0) rfl)) rfl) rfl ?_
      refine rg_q (fun ac ww h=>c_idxS (j:=x.p) un69 ty29 (h.ev rfl) (h.ev rfl) rfl hxo.2) rfl ?_
      refine rg_q (fun ac ww h=>c_move (h.ev rfl)) rfl ?_
      refine rg_q (fun ac ww h=>c_sliceAH (j:=tt) un29 ty5 (h.ev rfl) (h.ev rfl) rfl htl) rfl ?_
      refine rg_q (fun ac ww h=>c_fld fl74_1 (h.ev rfl)) rfl ?_
      refine rg_q (fun ac ww h=>c_move (h.ev rfl)) rfl ?_
      refine rg_q (fun ac ww h=>c_sliceAH (j:=tt) un29 ty5 (h.ev rfl) (h.ev rfl) rfl htl) rfl ?_
      refine rg_nil fun ac ww L' hf hfe hs=>?_
      simp only [List.drop_succ_cons,List.drop_zero]
      obtain rfl:L'=[]:=hfe
      replace hs:=hs.toL (List.nil_append _)
      have hfx:(putQ s.xs (s.q.take k)).length=s.n * 64:=putQ_len hok.xl (take_ok hok.qo)
      have hxp:=hxo.2
      refine s_copyAt (i:=2) (p:=x.b.take tt) hs un38 ty5 rfl rfl rfl (rd_body (hs.seg (i:=0) rfl) hxo.1 htl) (by rw [List.length_take,hxo.1]; omega) (by rw [hfx]; omega) rfl fun ac ww hs=>?_
      replace hs:=hs.pick (L':=[_,_,_]) (.cons _ (.refl _))
      rw [tearW_cells,← hx,← htt,← crash_t hkk hkl] at hs
      refine s_end ?_
      replace hs:=hs.sub (F':=[(0,_),(6,_)]) ⟨rfl,rfl,trivial⟩
      refine then_n (wp_seq (wp_reg ?_))
      refine s_q hs (c_move (hs.ev rfl)) rfl fun ac hs=>?_
      refine s_q hs (c_move (hs.ev rfl)) rfl fun ac hs=>?_
      refine s_q hs (c_move (hs.ev rfl)) rfl fun ac hs=>?_
      refine s_q hs (c_nil (hs.ev rfl)) rfl fun ac hs=>?_
      refine s_q hs (c_fld fl72_1 (hs.ev rfl)) rfl fun ac hs=>?_
      refine s_store (i:=0) hs ty70 rfl rfl rfl rfl rfl rfl (by simp [hdS,Value.cells]) rfl fun ww hs=>?_
      refine s_q hs (c_nil (hs.ev rfl)) rfl fun ac hs=>?_
      refine s_q hs (c_fld fl72_2 (hs.ev rfl)) rfl fun ac hs=>?_
      refine s_store (i:=0) hs ty3 rfl rfl rfl rfl rfl rfl (by simp [hdS,Value.cells]) rfl fun ww hs=>?_
      refine s_q hs (c_nil (hs.ev rfl)) rfl fun ac hs=>?_
      refine s_q hs (c_fld fl72_3 (hs.ev rfl)) rfl fun ac hs=>?_
      refine s_store (i:=0) hs ty4 rfl rfl rfl rfl rfl rfl (by simp [hdS,Value.cells]) rfl fun ww hs=>?_
      refine s_end ?_
      replace hs:=hs.sub (F':=[(6,_)]) ⟨rfl,trivial⟩
      refine then_n (wp_seq (wp_reg ?_))
      refine s_q hs (c_assign (hs.ev rfl)) rfl fun ac hs=>?_
      refine s_end (then_n (wp_ret ?_))
      replace hs:=((hs.nilrow 74 65).pick (L':=[_,_,_]) (.cons_cons _ (.cons_cons _ (.cons_cons _ (.cons _ .slnil))))).perm (L':=[_,_,_]) (List.perm_append_comm (l₁:=[_,_]) (l₂:=[_]))
      refine s_ret hs rfl (.tmp (hs.tmp rfl) .nil) rfl ⟨_,rfl,hs.fr,?_⟩
      exact ⟨rfl,St.slTo (s':=s.crash wr by_) hs (.refl _)⟩
    · try simp only [decide_eq_true_eq,decide_eq_false_iff_not,Bool.not_eq_true',Bool.not_eq_false',Bool.and_eq_true,Bool.or_eq_true,Bool.or_eq_false_iff] at hc
      have hkl:¬ k < s.q.length:=by omega
      rw [← crash_f (by_:=by_) hkk hkl] at hs
      refine wp_skip (then_n (wp_seq (wp_reg ?_)))
      refine s_q hs (c_move (hs.ev rfl)) rfl fun ac hs=>?_
      refine s_q hs (c_move (hs.ev rfl)) rfl fun ac hs=>?_
      refine s_q hs (c_move (hs.ev rfl)) rfl fun ac hs=>?_
      refine s_q hs (c_nil (hs.ev rfl)) rfl fun ac hs=>?_
      refine s_q hs (c_fld fl72_1 (hs.ev rfl)) rfl fun ac hs=>?_
      refine s_store (i:=0) hs ty70 rfl rfl rfl rfl rfl rfl (by simp [hdS,Value.cells]) rfl fun ww hs=>?_
      refine s_q hs (c_nil (hs.ev rfl)) rfl fun ac hs=>?_
      refine s_q hs (c_fld fl72_2 (hs.ev rfl)) rfl fun ac hs=>?_
      refine s_store (i:=0) hs ty3 rfl rfl rfl rfl rfl rfl (by simp [hdS,Value.cells]) rfl fun ww hs=>?_
      refine s_q hs (c_nil (hs.ev rfl)) rfl fun ac hs=>?_
      refine s_q hs (c_fld fl72_3 (hs.ev rfl)) rfl fun ac hs=>?_
      refine s_store (i:=0) hs ty4 rfl rfl rfl rfl rfl rfl (by simp [hdS,Value.cells]) rfl fun ww hs=>?_
      refine s_end ?_
      replace hs:=hs.sub (F':=[(6,_)]) ⟨rfl,trivial⟩
      refine then_n (wp_seq (wp_reg ?_))
      refine s_q hs (c_assign (hs.ev rfl)) rfl fun ac hs=>?_
      refine s_end (then_n (wp_ret ?_))
      replace hs:=((hs.nilrow 74 65).pick (L':=[_,_,_]) (.cons_cons _ (.cons_cons _ (.cons_cons _ (.cons _ .slnil))))).perm (L':=[_,_,_]) (List.perm_append_comm (l₁:=[_,_]) (l₂:=[_]))
      refine s_ret hs rfl (.tmp (hs.tmp rfl) .nil) rfl ⟨_,rfl,hs.fr,?_⟩
      exact ⟨rfl,St.slTo (s':=s.crash wr by_) hs (.refl _)⟩
theorem sl_New (n:Int) (w:World) :Ctr Try.prog 9 [I n] w (fun _=>False) (fun v w'=>if 1≤n∧n≤4096 then ∃ g sb,v=.tuple #[.pointer (some ⟨g,0,none⟩),I 0]∧Has w.heap.size w' (sl g sb (.slice none 0 0) (newS n.toNat)) else v=.tuple #[.pointer none,I 1]):=by
  refine fn_start (N:=14) Try.func9 rfl rfl rfl fun ac hk=>?_
  have hs:=St.start hk w
  refine wp_seq (wp_reg ?_)
  refine s_q hs (c_assign (hs.ev rfl)) rfl fun ac hs=>?_
  refine s_q hs (c_assign (hs.ev rfl)) rfl fun ac hs=>?_
  refine s_end (then_n (wp_seq (wp_seq (wp_reg ?_))))
  refine s_q hs (c_move (hs.ev rfl)) rfl fun ac hs=>?_
  refine s_q hs (c_lssI (hs.ev rfl) (hs.ev rfl)) rfl fun ac hs=>?_
  refine s_q hs (c_move (hs.ev rfl)) rfl fun ac hs=>?_
  refine s_g hs rfl rfl (fun hg=>c_move (hs.ev rfl)) rfl fun ac hs=>?_
  refine s_g hs rfl rfl (fun hg=>c_gtrI (gev (hs.ev rfl) hg) (hs.ev rfl)) rfl fun ac hs=>?_
  refine s_q hs (c_or (hs.ev rfl) (hs.ev rfl)) rfl fun ac hs=>?_
  refine s_end ?_
  replace hs:=hs.sub (F':=[(0,_),(2,_),(3,_),(9,_)]) ⟨rfl,rfl,rfl,rfl,trivial⟩
  refine then_n ?_
  refine s_cond hs rfl (fun hc=>?_) (fun hc=>?_)
  · skip
    have hn:¬ (1≤n∧n≤4096):=by
      simp at hc
      omega
    refine wp_seq (wp_reg ?_)
    refine s_q hs (c_assign (hs.ev rfl)) rfl fun ac hs=>?_
    refine s_q hs (c_assign (hs.ev rfl)) rfl fun ac hs=>?_
    refine s_end ?_
    replace hs:=hs.sub (F':=[(0,_),(2,_),(3,_)]) ⟨rfl,rfl,rfl,trivial⟩
    refine then_n (wp_ret (then_r ?_))
    refine s_ret hs rfl (.tmp (hs.tmp rfl) (.tmp (hs.tmp rfl) .nil)) rfl ⟨_,rfl,hs.fr,?_⟩
    rw [if_neg hn]
    rfl
  · skip
    have hn:1≤n∧n≤4096:=by
      simp at hc
      omega
    obtain ⟨m,rfl⟩:∃ m:Nat,n=m:=⟨n.toNat,by omega⟩
    refine wp_skip (then_n (wp_seq (wp_reg ?_)))
    refine s_q hs (c_move (hs.ev rfl)) rfl fun ac hs=>?_
    refine s_make (n:=m) hs un69 ty29 rfl rfl rfl rfl (by omega) (by unfold maxLen; omega) rfl fun ac ww g11 hs=>?_
    rw [flatZ] at hs
    refine s_q hs (c_buildQ (zc:=[.slice (some ⟨g11,0,none⟩) m m,.slice none 0 0,I (-1),.bool false,I 0]) ty72 bp72 (.cons (hs.ev rfl) (.cons (hs.ev rfl) .nil)) rfl) rfl fun ac hs=>?_
    refine s_box hs rfl rfl rfl fun ac ww g13 hs=>?_
    refine s_q hs (c_assign (hs.ev rfl)) rfl fun ac hs=>?_
    refine s_q hs (c_assign (hs.ev rfl)) rfl fun ac hs=>?_
    refine s_end ?_
    replace hs:=hs.sub (F':=[(2,_),(3,_)]) ⟨rfl,rfl,trivial⟩
    refine then_n (wp_ret ?_)
    replace hs:=(hs.nilrow 74 65).perm (L':=[_,_,_]) (List.perm_append_comm (l₁:=[_,_]) (l₂:=[_]))
    refine s_ret hs rfl (.tmp (hs.tmp rfl) (.tmp (hs.tmp rfl) .nil)) rfl ⟨_,rfl,hs.fr,?_⟩
    rw [if_pos hn]
    exact ⟨g13,g11,rfl,hs.made⟩
theorem nil_Read (j:Int) (w:World) :Ctr Try.prog 15 [.pointer none,I j] w (fun _=>False) (fun v _=>v=.tuple #[.agg (zero64.map B).toArray,I 2]):=by
  refine fn_start (N:=61) Try.func15 rfl rfl rfl fun ac hk=>?_
  have hs:=St.start hk w
  refine wp_seq (wp_reg ?_)
  refine s_alloc hs ty29 rfl fun ac ww g4 hs=>?_
  refine s_q hs (c_assign (hs.ev rfl)) rfl fun ac hs=>?_
  refine s_end (then_n (wp_seq (wp_seq (wp_reg ?_))))
  refine s_q hs (c_move (hs.ev rfl)) rfl fun ac hs=>?_
  refine s_call hs fu36 (.cons (hs.ev rfl) .nil) (nil_up _) rfl fun ac ww v9 hf hp hs=>?_
  obtain rfl:=hp
  replace hs:=hs [] (.nil _ _)
  refine s_q hs (c_assign (hs.ev rfl)) rfl fun ac hs=>?_
  refine s_end ?_
  replace hs:=hs.sub (F':=[(0,_),(1,_),(4,_),(5,_),(6,_)]) ⟨rfl,rfl,rfl,rfl,rfl,trivial⟩
  refine then_n (wp_seq (wp_reg ?_))
  refine s_q hs (c_move (hs.ev rfl)) rfl fun ac hs=>?_
  refine s_q hs (c_neqI (hs.ev rfl) (hs.ev rfl)) rfl fun ac hs=>?_
  refine s_end ?_
  replace hs:=hs.sub (F':=[(0,_),(1,_),(4,_),(5,_),(6,_),(11,_)]) ⟨rfl,rfl,rfl,rfl,rfl,rfl,trivial⟩
  refine then_n ?_
  refine wp_cond_true (hs.ev rfl) ?_
  refine wp_seq (wp_reg ?_)
  refine s_q hs (c_buildA (zc:=zero64.map B) ty29 un29 ty5 .nil (by simp [Value.cells]) (by simp [flatCells,Value.cells]) rfl) rfl fun ac hs=>?_
  refine s_q hs (c_move (hs.ev rfl)) rfl fun ac hs=>?_
  refine s_storeW (i:=0) hs ty29 rfl rfl rfl (by rfl) (by simp [Value.oneCell']) (by simp) fun ww hs=>?_
  refine s_q hs (c_assign (hs.ev rfl)) rfl fun ac hs=>?_
  refine s_end ?_
  replace hs:=hs.sub (F':=[(0,_),(1,_),(4,_),(5,_)]) ⟨rfl,rfl,rfl,rfl,trivial⟩
  refine then_n (wp_ret (then_r ?_))
  refine s_ret hs rfl (.cell (hs.tmp rfl) (run_loadA ty29 rfl (hs.seg (i:=0) rfl) rfl (by rfl)) (.tmp (hs.tmp rfl) .nil)) rfl ⟨_,rfl,hs.fr,?_⟩
  rfl
theorem nil_Write (j:Int) (b:List UInt8) (w:World) :Ctr Try.prog 11 [.pointer none,I j,.agg (b.map B).toArray] w (fun _=>False) (fun v _=>v=I 2):=by
  refine fn_start (N:=41) Try.func11 rfl rfl rfl fun ac hk=>?_
  have hs:=St.start hk w
  refine wp_seq (wp_reg ?_)
  refine s_box hs rfl rfl rfl fun ac ww g5 hs=>?_
  refine s_q hs (c_assign (hs.ev rfl)) rfl fun ac hs=>?_
  refine s_end ?_
  replace hs:=hs.sub (F':=[(0,_),(1,_),(5,_),(6,_)]) ⟨rfl,rfl,rfl,rfl,trivial⟩
  refine then_n (wp_seq (wp_seq (wp_reg ?_)))
  refine s_q hs (c_move (hs.ev rfl)) rfl fun ac hs=>?_
  refine s_call hs fu36 (.cons (hs.ev rfl) .nil) (nil_up _) rfl fun ac ww v9 hf hp hs=>?_
  obtain rfl:=hp
  replace hs:=hs [] (.nil _ _)
  refine s_q hs (c_assign (hs.ev rfl)) rfl fun ac hs=>?_
  refine s_end ?_
  replace hs:=hs.sub (F':=[(0,_),(1,_),(5,_),(6,_),(7,_)]) ⟨rfl,rfl,rfl,rfl,rfl,trivial⟩
  refine then_n (wp_seq (wp_reg ?_))
  refine s_q hs (c_move (hs.ev rfl)) rfl fun ac hs=>?_
  refine s_q hs (c_neqI (hs.ev rfl) (hs.ev rfl)) rfl fun ac hs=>?_
  refine s_end ?_
  replace hs:=hs.sub (F':=[(0,_),(1,_),(5,_),(6,_),(7,_),(11,_)]) ⟨rfl,rfl,rfl,rfl,rfl,rfl,trivial⟩
  refine then_n ?_
  refine wp_cond_true (hs.ev rfl) ?_
  refine wp_seq (wp_reg ?_)
  refine s_q hs (c_move (hs.ev rfl)) rfl fun ac hs=>?_
  refine s_q hs (c_assign (hs.ev rfl)) rfl fun ac hs=>?_
  refine s_end ?_
  replace hs:=hs.sub (F':=[(0,_),(1,_),(5,_),(6,_)]) ⟨rfl,rfl,rfl,rfl,trivial⟩
  refine then_n (wp_ret (then_r ?_))
  refine s_ret hs rfl (.tmp (hs.tmp rfl) .nil) rfl ⟨_,rfl,hs.fr,?_⟩
  rfl
theorem nil_Flush  (w:World) :Ctr Try.prog 12 [.pointer none] w (fun _=>False) (fun v _=>v=I 2):=by
  refine fn_start (N:=36) Try.func12 rfl rfl rfl fun ac hk=>?_
  have hs:=St.start hk w
  refine wp_seq (wp_reg ?_)
  refine s_q hs (c_assign (hs.ev rfl)) rfl fun ac hs=>?_
  refine s_end (then_n (wp_seq (wp_seq (wp_reg ?_))))
  refine s_q hs (c_move (hs.ev rfl)) rfl fun ac hs=>?_
  refine s_call hs fu36 (.cons (hs.ev rfl) .nil) (nil_up _) rfl fun ac ww v7 hf hp hs=>?_
  obtain rfl:=hp
  replace hs:=hs [] (.nil _ _)
  refine s_q hs (c_assign (hs.ev rfl)) rfl fun ac hs=>?_
  refine s_end ?_
  replace hs:=hs.sub (F':=[(0,_),(2,_),(3,_)]) ⟨rfl,rfl,rfl,trivial⟩
  refine then_n (wp_seq (wp_reg ?_))
  refine s_q hs (c_move (hs.ev rfl)) rfl fun ac hs=>?_
  refine s_q hs (c_neqI (hs.ev rfl) (hs.ev rfl)) rfl fun ac hs=>?_
  refine s_end ?_
  replace hs:=hs.sub (F':=[(0,_),(2,_),(3,_),(9,_)]) ⟨rfl,rfl,rfl,rfl,trivial⟩
  refine then_n ?_
  refine wp_cond_true (hs.ev rfl) ?_
  refine wp_seq (wp_reg ?_)
  refine s_q hs (c_move (hs.ev rfl)) rfl fun ac hs=>?_
  refine s_q hs (c_assign (hs.ev rfl)) rfl fun ac hs=>?_
  refine s_end ?_
  replace hs:=hs.sub (F':=[(0,_),(2,_)]) ⟨rfl,rfl,trivial⟩
  refine then_n (wp_ret (then_r ?_))
  refine s_ret hs rfl (.tmp (hs.tmp rfl) .nil) rfl ⟨_,rfl,hs.fr,?_⟩
  rfl
theorem nil_Fuse (n:Int) (w:World) :Ctr Try.prog 13 [.pointer none,I n] w (fun _=>False) (fun v _=>v=I 2):=by
  refine fn_start (N:=16) Try.func13 rfl rfl rfl fun ac hk=>?_
  have hs:=St.start hk w
  refine wp_seq (wp_reg ?_)
  refine s_q hs (c_assign (hs.ev rfl)) rfl fun ac hs=>?_
  refine s_end (then_n (wp_seq (wp_seq (wp_reg ?_))))
  refine s_q hs (c_move (hs.ev rfl)) rfl fun ac hs=>?_
  refine s_call hs fu36 (.cons (hs.ev rfl) .nil) (nil_up _) rfl fun ac ww v7 hf hp hs=>?_
  obtain rfl:=hp
  replace hs:=hs [] (.nil _ _)
  refine s_q hs (c_assign (hs.ev rfl)) rfl fun ac hs=>?_
  refine s_end ?_
  replace hs:=hs.sub (F':=[(0,_),(1,_),(4,_),(5,_)]) ⟨rfl,rfl,rfl,rfl,trivial⟩
  refine then_n (wp_seq (wp_reg ?_))
  refine s_q hs (c_move (hs.ev rfl)) rfl fun ac hs=>?_
  refine s_q hs (c_neqI (hs.ev rfl) (hs.ev rfl)) rfl fun ac hs=>?_
  refine s_end ?_
  replace hs:=hs.sub (F':=[(0,_),(1,_),(4,_),(5,_),(9,_)]) ⟨rfl,rfl,rfl,rfl,rfl,trivial⟩
  refine then_n ?_
  refine wp_cond_true (hs.ev rfl) ?_
  refine wp_seq (wp_reg ?_)
  refine s_q hs (c_move (hs.ev rfl)) rfl fun ac hs=>?_
  refine s_q hs (c_assign (hs.ev rfl)) rfl fun ac hs=>?_
  refine s_end ?_
  replace hs:=hs.sub (F':=[(0,_),(1,_),(4,_)]) ⟨rfl,rfl,rfl,trivial⟩
  refine then_n (wp_ret (then_r ?_))
  refine s_ret hs rfl (.tmp (hs.tmp rfl) .nil) rfl ⟨_,rfl,hs.fr,?_⟩
  rfl
theorem nil_Crash (a b:Int) (w:World) :Ctr Try.prog 14 [.pointer none,I a,I b] w (fun _=>False) (fun v _=>v=I 2):=by
  refine fn_start (N:=81) Try.func14 rfl rfl rfl fun ac hk=>?_
  have hs:=St.start hk w
  refine wp_seq (wp_reg ?_)
  refine s_q hs (c_assign (hs.ev rfl)) rfl fun ac hs=>?_
  refine s_end (then_n (wp_seq (wp_seq (wp_reg ?_))))
  refine s_q hs (c_move (hs.ev rfl)) rfl fun ac hs=>?_
  refine s_q hs (c_eqlNil0 un23 (hs.ev rfl) (hs.ev rfl)) rfl fun ac hs=>?_
  refine s_end ?_
  replace hs:=hs.sub (F':=[(0,_),(1,_),(2,_),(6,_),(12,_)]) ⟨rfl,rfl,rfl,rfl,rfl,trivial⟩
  refine then_n ?_
  refine wp_cond_true (hs.ev rfl) ?_
  refine wp_seq (wp_reg ?_)
  refine s_q hs (c_assign (hs.ev rfl)) rfl fun ac hs=>?_
  refine s_end ?_
  replace hs:=hs.sub (F':=[(0,_),(1,_),(2,_),(6,_)]) ⟨rfl,rfl,rfl,rfl,trivial⟩
  refine then_n (wp_ret (then_r ?_))
  refine s_ret hs rfl (.tmp (hs.tmp rfl) .nil) rfl ⟨_,rfl,hs.fr,?_⟩
  rfl
end Go.Proofs.Ytkecdcmjkghddaa
end

section
/- The device awake; no device. -/
namespace Go.Proofs.Ytkecdcmjkghddaa
open Go Go.Fw
def awA:List UInt8:=97::List.replicate 63 0
def awB:List UInt8:=98::98::98::98::List.replicate 60 0
def awC:List UInt8:=98::98::98::List.replicate 61 0
def aw0:Sl:=newS 2
def aw1:Sl:=(aw0.write 0 awA).2
def aw2:Sl:=(aw1.write 1 awB).2
def aw3:Sl:=aw2.crash 1 3
theorem aw0_ok:aw0.Ok:=newS_ok (by decide)
theorem aw1_ok:aw1.Ok:=Sl.write_ok aw0_ok (by rfl)
theorem aw2_ok:aw2.Ok:=Sl.write_ok aw1_ok (by rfl)
theorem aw3_ok:aw3.Ok:=Sl.crash_ok aw2_ok _ _
theorem aw_r0:aw3.read 0=(awA,0):=by decide +kernel
theorem aw_r1:aw3.read 1=(awC,0):=by decide +kernel
theorem sl_awake  (w:World) :Ctr Try.prog 10 [] w (fun _=>False) (fun v _=>v=.bool true):=by
  refine fn_start (N:=51) Try.func10 rfl rfl rfl fun ac hk=>?_
  have hs:=St.start hk w
  refine wp_seq (wp_reg ?_)
  refine s_q hs (c_assign (hs.ev rfl)) rfl fun ac hs=>?_
  refine s_end (then_n (wp_seq (wp_reg ?_)))
  refine s_call hs fu9 (.cons (hs.ev rfl) .nil) (sl_New 2 _) rfl fun ac ww v8 hf hp hs=>?_
  rw [if_pos (by decide)] at hp
  obtain ⟨g,sb,rfl,hh⟩:=hp
  replace hs:=hs _ (Has.grp' hh)
  refine s_q hs (c_move (hs.ev rfl)) rfl fun ac hs=>?_
  refine s_q hs (c_extract (hs.ev rfl) rfl) rfl fun ac hs=>?_
  refine s_q hs (c_extract (hs.ev rfl) rfl) rfl fun ac hs=>?_
  refine s_q hs (c_assign (hs.ev rfl)) rfl fun ac hs=>?_
  refine s_q hs (c_assign (hs.ev rfl)) rfl fun ac hs=>?_
  refine s_end ?_
  replace hs:=hs.sub (F':=[(0,_),(1,_),(2,_)]) ⟨rfl,rfl,rfl,trivial⟩
  refine then_n (wp_seq (wp_seq (wp_reg ?_)))
  refine s_q hs (c_move (hs.ev rfl)) rfl fun ac hs=>?_
  refine s_q hs (c_eqlNil un23 (hs.ev rfl) (hs.ev rfl)) rfl fun ac hs=>?_
  refine s_q hs (c_move (hs.ev rfl)) rfl fun ac hs=>?_
  refine s_yes hs rfl rfl ?_
  refine s_q hs (c_move (hs.ev rfl)) rfl fun ac hs=>?_
  refine s_yes hs rfl rfl ?_
  refine s_q hs (c_neqI (hs.ev rfl) (hs.ev rfl)) rfl fun ac hs=>?_
  refine s_q hs (c_pick (hs.ev rfl) (hs.ev rfl) (hs.ev rfl)) rfl fun ac hs=>?_
  refine s_end ?_
  replace hs:=hs.sub (F':=[(0,_),(1,_),(16,_)]) ⟨rfl,rfl,rfl,trivial⟩
  refine then_n ?_
  refine wp_cond_false (hs.ev rfl) ?_
  refine wp_skip (then_n (wp_seq (wp_reg ?_)))
  refine s_q hs (c_move (hs.ev rfl)) rfl fun ac hs=>?_
  refine s_q hs (c_buildA (zc:=awA.map B) ty29 un29 ty5 (.cons (St.ev (v:=B 97) hs rfl) .nil) (by simp [Value.cells]) (by simp [flatCells,Value.cells]) (by rfl)) rfl fun ac hs=>?_
  refine s_callM (i:=0) hs fu11 (.cons (hs.ev rfl) (.cons (hs.ev rfl) (.cons (hs.ev rfl) .nil))) rfl (sl_Write g sb _ aw0 0 awA (by rfl) aw0_ok (by decide) (by decide) _ (hs.get (i:=0) rfl)) rfl fun ac ww v19 hf hp hs=>?_
  obtain ⟨rfl,qv',h1,h2⟩:=hp
  replace hs:=hs (Ent.grp (sl g sb qv' aw1)) h1 (fun k hk=>⟨h2 k hk,grp_lt h1 k hk⟩)
  refine s_end ?_
  replace hs:=hs.sub (F':=[(0,_),(1,_)]) ⟨rfl,rfl,trivial⟩
  refine then_n (wp_seq (wp_reg ?_))
  refine s_q hs (c_move (hs.ev rfl)) rfl fun ac hs=>?_
  refine s_q hs (c_buildA (zc:=awB.map B) ty29 un29 ty5 (.cons (St.ev (v:=B 98) hs rfl) (.cons (St.ev (v:=B 98) hs rfl) (.cons (St.ev (v:=B 98) hs rfl) (.cons (St.ev (v:=B 98) hs rfl) .nil)))) (by simp [Value.cells]) (by simp [flatCells,Value.cells]) (by rfl)) rfl fun ac hs=>?_
  refine s_callM (i:=0) hs fu11 (.cons (hs.ev rfl) (.cons (hs.ev rfl) (.cons (hs.ev rfl) .nil))) rfl (sl_Write g sb _ aw1 1 awB (by rfl) aw1_ok (by decide +kernel) (by decide +kernel) _ (hs.get (i:=0) rfl)) rfl fun ac ww v22 hf hp hs=>?_
  obtain ⟨rfl,qv',h1,h2⟩:=hp
  replace hs:=hs (Ent.grp (sl g sb qv' aw2)) h1 (fun k hk=>⟨h2 k hk,grp_lt h1 k hk⟩)
  refine s_end ?_
  replace hs:=hs.sub (F':=[(0,_),(1,_)]) ⟨rfl,rfl,trivial⟩
  refine then_n (wp_seq (wp_reg ?_))
  refine s_q hs (c_move (hs.ev rfl)) rfl fun ac hs=>?_
  refine s_callM (i:=0) hs fu14 (.cons (hs.ev rfl) (.cons (hs.ev rfl) (.cons (hs.ev rfl) .nil))) rfl (sl_Crash g sb _ aw2 1 3 aw2_ok _ (hs.get (i:=0) rfl)) rfl fun ac ww v24 hf hp hs=>?_
  obtain ⟨rfl,qv',h1,h2⟩:=hp
  replace hs:=hs (Ent.grp (sl g sb qv' aw3)) h1 (fun k hk=>⟨h2 k hk,grp_lt h1 k hk⟩)
  refine s_end ?_
  replace hs:=hs.sub (F':=[(0,_),(1,_)]) ⟨rfl,rfl,trivial⟩
  refine then_n (wp_seq (wp_reg ?_))
  refine s_q hs (c_move (hs.ev rfl)) rfl fun ac hs=>?_
  refine s_call hs fu15 (.cons (hs.ev rfl) (.cons (hs.ev rfl) .nil)) (sl_Read g sb _ aw3 0 aw3_ok _ (sl_get (hs.get (i:=0) rfl))) rfl fun ac ww v27 hf hp hs=>?_
  rw [aw_r0] at hp
  obtain rfl:=hp
  replace hs:=hs [] (.nil _ _)
  refine s_q hs (c_move (hs.ev rfl)) rfl fun ac hs=>?_
  refine s_q hs (c_extract (hs.ev rfl) rfl) rfl fun ac hs=>?_
  refine s_q hs (c_extract (hs.ev rfl) rfl) rfl fun ac hs=>?_
  refine s_alloc hs ty29 rfl fun ac ww g3 hs=>?_
  refine s_storeW (i:=0) hs ty29 rfl rfl rfl (by rfl) (by rfl) (by rfl) fun ww hs=>?_
  refine s_q hs (c_assign (hs.ev rfl)) rfl fun ac hs=>?_
  refine s_end ?_
  replace hs:=hs.sub (F':=[(0,_),(1,_),(3,_),(4,_)]) ⟨rfl,rfl,rfl,rfl,trivial⟩
  refine then_n (wp_seq (wp_reg ?_))
  refine s_q hs (c_move (hs.ev rfl)) rfl fun ac hs=>?_
  refine s_call hs fu15 (.cons (hs.ev rfl) (.cons (hs.ev rfl) .nil)) (sl_Read g sb _ aw3 1 aw3_ok _ (sl_get (hs.get (i:=1) rfl))) rfl fun ac ww v32 hf hp hs=>?_
  rw [aw_r1] at hp
  obtain rfl:=hp
  replace hs:=hs [] (.nil _ _)
  refine s_q hs (c_move (hs.ev rfl)) rfl fun ac hs=>?_
  refine s_q hs (c_extract (hs.ev rfl) rfl) rfl fun ac hs=>?_
  refine s_q hs (c_extract (hs.ev rfl) rfl) rfl fun ac hs=>?_
  refine s_alloc hs ty29 rfl fun ac ww g5 hs=>?_
  refine s_storeW (i:=0) hs ty29 rfl rfl rfl (by rfl) (by rfl) (by rfl) fun ww hs=>?_
  refine s_q hs (c_assign (hs.ev rfl)) rfl fun ac hs=>?_
  refine s_end ?_
  replace hs:=hs.sub (F':=[(0,_),(3,_),(4,_),(5,_),(6,_)]) ⟨rfl,rfl,rfl,rfl,rfl,trivial⟩
  refine then_n (wp_seq (wp_reg ?_))
  refine s_q hs (c_move (hs.ev rfl)) rfl fun ac hs=>?_
  refine s_q hs (c_eqlI (hs.ev rfl) (hs.ev rfl)) rfl fun ac hs=>?_
  refine s_q hs (c_move (hs.ev rfl)) rfl fun ac hs=>?_
  refine s_yes hs rfl rfl ?_
  refine s_q hs (c_move (hs.ev rfl)) rfl fun ac hs=>?_
  refine s_yes hs rfl rfl ?_
  refine s_q hs (c_eqlI (hs.ev rfl) (hs.ev rfl)) rfl fun ac hs=>?_
  refine s_q hs (c_pick (hs.ev rfl) (hs.ev rfl) (hs.ev rfl)) rfl fun ac hs=>?_
  refine s_q hs (c_move (hs.ev rfl)) rfl fun ac hs=>?_
  refine s_yes hs rfl rfl ?_
  refine s_q hs (c_idxA un29 ty5 (hs.ev rfl) (hs.ev rfl) rfl (by decide)) rfl fun ac hs=>?_
  refine s_yes hs rfl rfl ?_
  refine s_q hs (c_loadS un5 rfl (hs.ev rfl) (hs.seg (i:=1) rfl) rfl) rfl fun ac hs=>?_
  refine s_yes hs rfl rfl ?_
  refine s_q hs (c_eqlB (hs.ev rfl) (St.ev (v:=B 97) hs rfl)) rfl fun ac hs=>?_
  refine s_q hs (c_pick (hs.ev rfl) (hs.ev rfl) (hs.ev rfl)) rfl fun ac hs=>?_
  refine s_q hs (c_move (hs.ev rfl)) rfl fun ac hs=>?_
  refine s_yes hs rfl rfl ?_
  refine s_q hs (c_loadW ty29 rfl (hs.ev rfl) (hs.seg (i:=0) rfl) (by rfl)) rfl fun ac hs=>?_
  refine s_yes hs rfl rfl ?_
  refine s_q hs (c_buildA (zc:=awC.map B) ty29 un29 ty5 (.cons (St.ev (v:=B 98) hs rfl) (.cons (St.ev (v:=B 98) hs rfl) (.cons (St.ev (v:=B 98) hs rfl) .nil))) (by simp [Value.cells]) (by simp [flatCells,Value.cells]) (by rfl)) rfl fun ac hs=>?_
  refine s_yes hs rfl rfl ?_
  refine s_q hs (c_tt (c_eqlAB un29 ty5 eg29 (hs.ev rfl) (hs.ev rfl) (by rfl) (by rfl)) ((by rfl))) rfl fun ac hs=>?_
  refine s_q hs (c_pick (hs.ev rfl) (hs.ev rfl) (hs.ev rfl)) rfl fun ac hs=>?_
  refine s_q hs (c_assign (hs.ev rfl)) rfl fun ac hs=>?_
  refine s_end ?_
  replace hs:=hs.sub (F':=[(0,_)]) ⟨rfl,trivial⟩
  refine then_n (wp_ret ?_)
  refine s_ret hs rfl (.tmp (hs.tmp rfl) .nil) rfl ⟨_,rfl,hs.fr,?_⟩
  rfl
theorem law_SlateNil (j n:Int) (w:World) :Ctr Try.prog 5 [I j,I n] w (fun _=>False) (fun v _=>v=.bool true):=by
  refine fn_start (N:=64) Try.func5 rfl rfl rfl fun ac hk=>?_
  have hs:=St.start hk w
  refine wp_seq (wp_reg ?_)
  refine s_q hs (c_assign (hs.ev rfl)) rfl fun ac hs=>?_
  refine s_end (then_n (wp_seq (wp_reg ?_)))
  refine s_q hs (c_assign (hs.ev rfl)) rfl fun ac hs=>?_
  refine s_end (then_n (wp_seq (wp_reg ?_)))
  refine s_q hs (c_move (hs.ev rfl)) rfl fun ac hs=>?_
  refine s_q hs (c_move (hs.ev rfl)) rfl fun ac hs=>?_
  refine s_call hs fu15 (.cons (hs.ev rfl) (.cons (hs.ev rfl) .nil)) (nil_Read j _) rfl fun ac ww v11 hf hp hs=>?_
  obtain rfl:=hp
  replace hs:=hs [] (.nil _ _)
  refine s_q hs (c_move (hs.ev rfl)) rfl fun ac hs=>?_
  refine s_q hs (c_extract (hs.ev rfl) rfl) rfl fun ac hs=>?_
  refine s_q hs (c_extract (hs.ev rfl) rfl) rfl fun ac hs=>?_
  refine s_alloc hs ty29 rfl fun ac ww g6 hs=>?_
  refine s_storeW (i:=0) hs ty29 rfl rfl rfl (by rfl) (by rfl) (by rfl) fun ww hs=>?_
  refine s_q hs (c_assign (hs.ev rfl)) rfl fun ac hs=>?_
  refine s_end ?_
  replace hs:=hs.sub (F':=[(0,_),(1,_),(4,_),(5,_),(7,_)]) ⟨rfl,rfl,rfl,rfl,rfl,trivial⟩
  refine then_n (wp_seq (wp_reg ?_))
  refine s_call hs fu10 .nil (sl_awake _) rfl fun ac ww v14 hf hp hs=>?_
  obtain rfl:=hp
  replace hs:=hs [] (.nil _ _)
  refine s_q hs (c_move (hs.ev rfl)) rfl fun ac hs=>?_
  refine s_yes hs rfl rfl ?_
  refine s_q hs (c_move (hs.ev rfl)) rfl fun ac hs=>?_
  refine s_yes hs rfl rfl ?_
  refine s_q hs (c_move (hs.ev rfl)) rfl fun ac hs=>?_
  refine s_yes hs rfl rfl ?_
  refine s_q hs (c_buildA (zc:=zero64.map B) ty29 un29 ty5 .nil (by simp [Value.cells]) (by simp [flatCells,Value.cells]) rfl) rfl fun ac hs=>?_
  refine s_yes hs rfl rfl ?_
  refine s_call hs fu11 (.cons (hs.ev rfl) (.cons (hs.ev rfl) (.cons (hs.ev rfl) .nil))) (nil_Write j zero64 _) rfl fun ac ww v19 hf hp hs=>?_
  obtain rfl:=hp
  replace hs:=hs [] (.nil _ _)
  refine s_yes hs rfl rfl ?_
  refine s_q hs (c_eqlI (hs.ev rfl) (hs.ev rfl)) rfl fun ac hs=>?_
  refine s_q hs (c_pick (hs.ev rfl) (hs.ev rfl) (hs.ev rfl)) rfl fun ac hs=>?_
  refine s_q hs (c_move (hs.ev rfl)) rfl fun ac hs=>?_
  refine s_yes hs rfl rfl ?_
  refine s_q hs (c_move (hs.ev rfl)) rfl fun ac hs=>?_
  refine s_yes hs rfl rfl ?_
  refine s_call hs fu12 (.cons (hs.ev rfl) .nil) (nil_Flush _) rfl fun ac ww v24 hf hp hs=>?_
  obtain rfl:=hp
  replace hs:=hs [] (.nil _ _)
  refine s_yes hs rfl rfl ?_
  refine s_q hs (c_eqlI (hs.ev rfl) (hs.ev rfl)) rfl fun ac hs=>?_
  refine s_q hs (c_pick (hs.ev rfl) (hs.ev rfl) (hs.ev rfl)) rfl fun ac hs=>?_
  refine s_q hs (c_move (hs.ev rfl)) rfl fun ac hs=>?_
  refine s_yes hs rfl rfl ?_
  refine s_q hs (c_move (hs.ev rfl)) rfl fun ac hs=>?_
  refine s_yes hs rfl rfl ?_
  refine s_q hs (c_eqlI (hs.ev rfl) (hs.ev rfl)) rfl fun ac hs=>?_
  refine s_q hs (c_pick (hs.ev rfl) (hs.ev rfl) (hs.ev rfl)) rfl fun ac hs=>?_
  refine s_q hs (c_move (hs.ev rfl)) rfl fun ac hs=>?_
  refine s_yes hs rfl rfl ?_
  refine s_q hs (c_move (hs.ev rfl)) rfl fun ac hs=>?_
  refine s_yes hs rfl rfl ?_
  refine s_q hs (c_move (hs.ev rfl)) rfl fun ac hs=>?_
  refine s_yes hs rfl rfl ?_
  refine s_call hs fu13 (.cons (hs.ev rfl) (.cons (hs.ev rfl) .nil)) (nil_Fuse n _) rfl fun ac ww v34 hf hp hs=>?_
  obtain rfl:=hp
  replace hs:=hs [] (.nil _ _)
  refine s_yes hs rfl rfl ?_
  refine s_q hs (c_eqlI (hs.ev rfl) (hs.ev rfl)) rfl fun ac hs=>?_
  refine s_q hs (c_pick (hs.ev rfl) (hs.ev rfl) (hs.ev rfl)) rfl fun ac hs=>?_
  refine s_q hs (c_move (hs.ev rfl)) rfl fun ac hs=>?_
  refine s_yes hs rfl rfl ?_
  refine s_q hs (c_move (hs.ev rfl)) rfl fun ac hs=>?_
  refine s_yes hs rfl rfl ?_
  refine s_q hs (c_move (hs.ev rfl)) rfl fun ac hs=>?_
  refine s_yes hs rfl rfl ?_
  refine s_q hs (c_move (hs.ev rfl)) rfl fun ac hs=>?_
  refine s_yes hs rfl rfl ?_
  refine s_call hs fu14 (.cons (hs.ev rfl) (.cons (hs.ev rfl) (.cons (hs.ev rfl) .nil))) (nil_Crash n j _) rfl fun ac ww v41 hf hp hs=>?_
  obtain rfl:=hp
  replace hs:=hs [] (.nil _ _)
  refine s_yes hs rfl rfl ?_
  refine s_q hs (c_eqlI (hs.ev rfl) (hs.ev rfl)) rfl fun ac hs=>?_
  refine s_q hs (c_pick (hs.ev rfl) (hs.ev rfl) (hs.ev rfl)) rfl fun ac hs=>?_
  refine s_q hs (c_move (hs.ev rfl)) rfl fun ac hs=>?_
  refine s_yes hs rfl rfl ?_
  refine s_q hs (c_move (hs.ev rfl)) rfl fun ac hs=>?_
  refine s_yes hs rfl rfl ?_
  refine s_call hs fu20 (.cons (hs.ev rfl) .nil) (nil_Sectors _) rfl fun ac ww v46 hf hp hs=>?_
  obtain rfl:=hp
  replace hs:=hs [] (.nil _ _)
  refine s_yes hs rfl rfl ?_
  refine s_q hs (c_eqlI (hs.ev rfl) (hs.ev rfl)) rfl fun ac hs=>?_
  refine s_q hs (c_pick (hs.ev rfl) (hs.ev rfl) (hs.ev rfl)) rfl fun ac hs=>?_
  refine s_q hs (c_move (hs.ev rfl)) rfl fun ac hs=>?_
  refine s_yes hs rfl rfl ?_
  refine s_q hs (c_move (hs.ev rfl)) rfl fun ac hs=>?_
  refine s_yes hs rfl rfl ?_
  refine s_call hs fu21 (.cons (hs.ev rfl) .nil) (nil_Loose _) rfl fun ac ww v51 hf hp hs=>?_
  obtain rfl:=hp
  replace hs:=hs [] (.nil _ _)
  refine s_yes hs rfl rfl ?_
  refine s_q hs (c_eqlI (hs.ev rfl) (hs.ev rfl)) rfl fun ac hs=>?_
  refine s_q hs (c_pick (hs.ev rfl) (hs.ev rfl) (hs.ev rfl)) rfl fun ac hs=>?_
  refine s_q hs (c_move (hs.ev rfl)) rfl fun ac hs=>?_
  refine s_yes hs rfl rfl ?_
  refine s_q hs (c_move (hs.ev rfl)) rfl fun ac hs=>?_
  refine s_yes hs rfl rfl ?_
  refine s_call hs fu22 (.cons (hs.ev rfl) .nil) (nil_Steps _) rfl fun ac ww v56 hf hp hs=>?_
  obtain rfl:=hp
  replace hs:=hs [] (.nil _ _)
  refine s_yes hs rfl rfl ?_
  refine s_q hs (c_eqlI (hs.ev rfl) (hs.ev rfl)) rfl fun ac hs=>?_
  refine s_q hs (c_pick (hs.ev rfl) (hs.ev rfl) (hs.ev rfl)) rfl fun ac hs=>?_
  refine s_q hs (c_move (hs.ev rfl)) rfl fun ac hs=>?_
  refine s_yes hs rfl rfl ?_
  refine s_q hs (c_move (hs.ev rfl)) rfl fun ac hs=>?_
  refine s_yes hs rfl rfl ?_
  refine s_call hs fu23 (.cons (hs.ev rfl) .nil) (nil_Down _) rfl fun ac ww v61 hf hp hs=>?_
  obtain rfl:=hp
  replace hs:=hs [] (.nil _ _)
  refine s_yes hs rfl rfl ?_
  refine s_q hs (c_not (hs.ev rfl)) rfl fun ac hs=>?_
  refine s_q hs (c_pick (hs.ev rfl) (hs.ev rfl) (hs.ev rfl)) rfl fun ac hs=>?_
  refine s_q hs (c_assign (hs.ev rfl)) rfl fun ac hs=>?_
  refine s_end ?_
  replace hs:=hs.sub (F':=[(4,_)]) ⟨rfl,trivial⟩
  refine then_n (wp_ret ?_)
  refine s_ret hs rfl (.tmp (hs.tmp rfl) .nil) rfl ⟨_,rfl,hs.fr,?_⟩
  rfl
end Go.Proofs.Ytkecdcmjkghddaa
end

section
/- Openings of structs of ints and bytes. -/
namespace Go.Fw
open Go Go.ChangeShapes Go.WideShapes Go.ChangeAt Go.RowKit
section
variable {H:Type} {enc:TypeId × Value→H} {P:Program} {w:World} {base:Nat} {spare:Nat→Bool} {held:Bool} {fuel:Nat} {t e u:TypeId} {cs:List Value} {x:DataW H × List MemPlace} {v:Value} {d:DataW H} {ps:List MemPlace} {r:Reach} {b0:Nat}
theorem cut_at {α:Type} (l:List α) (a b:Nat):l.drop a=(l.drop a).take b++l.drop (a + b):=by rw [← List.drop_drop,List.take_append_drop]
theorem trodI {f:Field} {y:DataW H × List MemPlace} (h0:P.underlying f.type=some (.int .i64)) (c0:P.cellsOf f.type=1) {o:Nat} (o0:f.offset=o) (h:DataW.trod enc P w base spare held fuel f.type ((cs.drop f.offset).take (P.cellsOf f.type))=some y) :
    ∃ n:Int,(cs.drop o).take 1=[I n]∧-9223372036854775808≤n∧n≤9223372036854775807:=by
  rw [o0,c0] at h
  obtain ⟨z,hz,_,hw⟩:=DataW.trod_int h0 h
  exact ⟨z,hz,bounds_i64 hw⟩
theorem trodIIIA {m:Nat} {f0 f1 f2 f3:Field} (ht:P.underlying t=some (.struct #[f0,f1,f2,f3])) (h0:P.underlying f0.type=some (.int .i64)) (h1:P.underlying f1.type=some (.int .i64)) (h2:P.underlying f2.type=some (.int .i64)) (h3:P.underlying f3.type=some (.array m u)) (hu:P.underlying u=some (.int .u8))
    (o0:f0.offset=0) (o1:f1.offset=1) (o2:f2.offset=2) (o3:f3.offset=3) (c0:P.cellsOf f0.type=1) (c1:P.cellsOf f1.type=1) (c2:P.cellsOf f2.type=1) (c3:P.cellsOf f3.type=m) (hcu:P.cellsOf u=1) (ct:P.cellsOf t=3 + m)
    (h:DataW.trod enc P w base spare held fuel t cs=some x) :
    ∃ (k a n:Int) (l:List UInt8),cs=I k::I a::I n::l.map B∧l.length=m∧(-9223372036854775808≤k∧k≤9223372036854775807)∧(-9223372036854775808≤a∧a≤9223372036854775807)∧(-9223372036854775808≤n∧n≤9223372036854775807):=by
  obtain ⟨y0,y1,y2,y3,n,_,hl,hy0,hy1,hy2,hy3⟩:=Go.Joins.trod_struct4 ht h
  obtain ⟨z0,e0,b0⟩:=trodI h0 c0 o0 hy0
  obtain ⟨z1,e1,b1⟩:=trodI h1 c1 o1 hy1
  obtain ⟨z2,e2,b2⟩:=trodI h2 c2 o2 hy2
  rw [o3,c3] at hy3
  obtain ⟨l,hll,he3⟩:=trodBs h3 hu hcu c3 hy3
  refine ⟨z0,z1,z2,l,?_,hll,b0,b1,b2⟩
  have hd:cs.drop (3 + m)=[]:=List.drop_of_length_le (by omega)
  have:=cut_at cs 0 1
  rw [e0,cut_at cs (0 + 1) 1,e1,cut_at cs (0 + 1 + 1) 1,e2,cut_at cs (0 + 1 + 1 + 1) m,he3,hd] at this
  simpa using this
end
/-! rows of anything,piece by piece -/
theorem fm_len {α:Type} {f:α→List Value} {m:Nat}:∀ {l:List α},(∀ x∈l,(f x).length=m)→(l.flatMap f).length=l.length * m
  | [],_=>by simp
  | x::l,h=>by
    rw [List.flatMap_cons,List.length_append,fm_len (l:=l) (fun y hy=>h y (List.mem_cons_of_mem _ hy)),h x (List.mem_cons_self ..),List.length_cons,Nat.succ_mul,Nat.add_comm]
section
variable {α:Type} [Inhabited α] {f:α→List Value} {m:Nat}
theorem getD_lt {l:List α} {k:Nat} (h:k < l.length):l.getD k default=l[k]:=by simp [List.getD_eq_getElem?_getD,h]
theorem getD_mem {l:List α} {k:Nat} (h:k < l.length):l.getD k default∈l:=by rw [getD_lt h]; exact List.getElem_mem h
theorem fm_piece:∀ {l:List α} {k:Nat},(∀ x∈l,(f x).length=m)→k < l.length→((l.flatMap f).drop (k * m)).take m=f (l.getD k default)
  | [],k,_,h=>absurd h (by simp)
  | x::l,0,h,_=>by
    rw [List.flatMap_cons,Nat.zero_mul,List.drop_zero]
    exact List.take_left' (h x (List.mem_cons_self ..))
  | x::l,k + 1,h,hk=>by
    rw [List.flatMap_cons,Nat.succ_mul,Nat.add_comm,← List.drop_drop,List.drop_left' (h x (List.mem_cons_self ..)),fm_piece (fun y hy=>h y (List.mem_cons_of_mem _ hy)) (show k < l.length by simpa using hk)]
    rfl
theorem fm_row {all:List Value} {l:List α} {k:Nat} (hl:∀ x∈l,(f x).length=m) (h:all.take (l.length * m)=l.flatMap f) (hk:k < l.length):(all.drop (0 + k * m)).take m=f (l.getD k default):=by
  have hle:(k + 1) * m≤l.length * m:=Nat.mul_le_mul_right _ (by omega)
  rw [Nat.succ_mul] at hle
  have h2:((all.take (l.length * m)).drop (k * m)).take m=((l.flatMap f).drop (k * m)).take m:=by rw [h]
  rw [List.drop_take,List.take_take,Nat.min_eq_left (by omega),fm_piece hl hk] at h2
  rw [Nat.zero_add,h2]
theorem Rd.fm_at {w:World} {ad:Option Addr} {cap:Nat} {l:List α} (hm:0 < m) (hl:∀ x∈l,(f x).length=m) (h:Rd w (.slice ad l.length cap) l.length (l.flatMap f)) (hn:0 < l.length) :
    ∃ b o T fr all,ad=some ⟨b,o,none⟩∧w.heap[b]?=some (.cells all T fr)∧∀ k,k < l.length→(all.toList.drop (o + k * m)).take m=f (l.getD k default):=by
  obtain ⟨b,o,cap',T,fr,all,e,_,_,hb,hc⟩:=Rd.at_ h (by
    intro e
    have:=congrArg List.length e
    rw [fm_len hl] at this
    have h2:1 * 1≤l.length * m:=Nat.mul_le_mul hn hm
    simp only [List.length_nil] at this
    omega)
  cases e
  refine ⟨b,o,T,fr,all,rfl,hb,fun k hk=>?_⟩
  have hle:(k + 1) * m≤l.length * m:=Nat.mul_le_mul_right _ (by omega)
  rw [Nat.succ_mul] at hle
  have h2:(((all.toList.drop o).take (l.flatMap f).length).drop (k * m)).take m=((l.flatMap f).drop (k * m)).take m:=by rw [hc]
  rw [fm_len hl,List.drop_take,List.take_take,Nat.min_eq_left (by omega),List.drop_drop,fm_piece hl hk] at h2
  exact h2
end
end Go.Fw
end

section
/- SlateLasts: what lasts behind a crash. -/
namespace Go.Proofs.Ytkecdcmjkghddaa
open Go Go.Fw
structure O14 where
  k:Int
  a:Int
  n:Int
  b:List UInt8
  deriving Inhabited
def O14.c (o:O14):List Value:=I o.k::I o.a::I o.n::o.b.map B
def O14.w (o:O14):Wr:=⟨o.a.toNat,o.b⟩
theorem O14.len {o:O14} (h:o.b.length=64):o.c.length=67:=by simp [O14.c,h]
theorem o14_app (l:List O14) (o:O14):(l++[o]).flatMap O14.c=l.flatMap O14.c++o.c:=by simp
theorem O14.one (o:O14):o.c.all (·.oneCell')=true:=by
  simp only [O14.c,List.all_cons,Value.oneCell',Bool.true_and]
  exact all_map_B _
theorem O14.body {o:O14} (h:o.b.length=64):(o.c.toArray.toList.drop (0 + 3)).take 64=o.b.map B:=List.take_of_length_le (by simp [O14.c,h])
def crStep (keep:Int) (t:Nat) (xs:List UInt8) (j:Nat) (x:Wr):List UInt8:=if (j:Int) < keep then putW xs x else if (j:Int)=max keep 0 then tearW xs x t else xs
def crN (xs:List UInt8) (q:List Wr) (keep:Int) (t:Nat):Nat→List UInt8
  | 0=>xs
  | j + 1=>crStep keep t (crN xs q keep t j) j (q.getD j default)
theorem crN_len {n:Nat} {xs:List UInt8} {q:List Wr} {keep:Int} {t:Nat} (hx:xs.length=n * 64) (hq:∀ x∈q,x.Ok n) (ht:t≤64):∀ j,j≤q.length→(crN xs q keep t j).length=n * 64
  | 0,_=>hx
  | j + 1,h=>by
    have ih:=crN_len (keep:=keep) hx hq ht j (by omega)
    have hxo:=wr_ok hq (show j < q.length by omega)
    show (crStep _ _ _ _ _).length=_
    unfold crStep
    split
    · exact putW_len ih hxo
    split
    · exact tearW_len ih hxo ht
    · exact ih
theorem crN_lo {xs:List UInt8} {q:List Wr} {keep:Int} {t:Nat}:∀ j,j≤q.length→(j:Int)≤max keep 0→crN xs q keep t j=putQ xs (q.take j)
  | 0,_,_=>by simp [crN,putQ]
  | j + 1,h,hk=>by
    show crStep _ _ (crN xs q keep t j) j _=_
    rw [crN_lo j (by omega) (by omega),putQ_succ (by omega),crStep,if_pos (by omega)]
theorem crN_hi {xs:List UInt8} {q:List Wr} {keep:Int} {t kk:Nat} (hkk:(kk:Int)=max keep 0):∀ j,kk < j→j≤q.length→crN xs q keep t j=tearW (putQ xs (q.take kk)) (q.getD kk default) t
  | 0,h,_=>by omega
  | j + 1,h,hj=>by
    show crStep _ _ (crN xs q keep t j) j _=_
    by_cases e:j=kk
    · subst e
      rw [crN_lo j (by omega) (by omega),crStep,if_neg (by omega),if_pos hkk]
    · rw [crN_hi hkk j (by omega) (by omega),crStep,if_neg (by omega),if_neg (by omega)]
theorem crN_all {s:Sl} {keep:Int} {t:Nat} (ht:t≤64):crN s.xs s.q keep t s.q.length=(s.crash keep t).xs:=by
  have hc:clampN (t:Int) 64=t:=by unfold clampN; omega
  by_cases h:clampN keep s.q.length < s.q.length
  · rw [crash_t rfl h,hc]
    have h2:(clampN keep s.q.length:Int)=max keep 0:=by unfold clampN at h ⊢; omega
    exact crN_hi h2 _ h (Nat.le_refl _)
  · rw [crash_f rfl h]
    have h2:clampN keep s.q.length=s.q.length:=by have:=clampN_le keep s.q.length; omega
    rw [h2]
    exact crN_lo _ (Nat.le_refl _) (by unfold clampN at h; omega)
theorem crash_read {s:Sl} {a b:Int} {j:Nat} (h:j < s.n):(s.crash a b).read j=(sec (s.crash a b).xs j,0):=by
  have h1:¬ (s.crash a b).down=true:=by show ¬ false=true; decide
  have h2:¬ ((j:Int) < 0∨((s.crash a b).n:Int)≤j):=by show ¬ ((j:Int) < 0∨(s.n:Int)≤j); omega
  rw [Sl.read,if_neg h1,if_neg h2]
  rfl
theorem write_yes {s:Sl} {j:Nat} {b:List UInt8} (h:(s.write j b).1=0):(s.write j b).2={ s.on with q:=s.q++[⟨j,b⟩] }:=by
  unfold Sl.write at h ⊢
  split at h
  · cases h
  split at h
  · cases h
  split at h
  · cases h
  · rename_i h1 h2 h3
    rw [if_neg h1,if_neg h2,if_neg h3]
    rfl
theorem write_no {s:Sl} {j:Int} {b:List UInt8} (h:¬ (s.write j b).1=0):(s.write j b).2=s∨(s.write j b).2=s.off:=by
  unfold Sl.write at h ⊢
  split at h
  · rename_i h1; rw [if_pos h1]; exact .inl rfl
  split at h
  · rename_i h1 h2; rw [if_neg h1,if_pos h2]; exact .inl rfl
  split at h
  · rename_i h1 h2 h3; rw [if_neg h1,if_neg h2,if_pos h3]; exact .inr rfl
  · exact absurd rfl h
theorem flush_yes {s:Sl} (h:s.flush.1=0):s.flush.2={ s.on with xs:=putQ s.xs s.q,q:=[] }:=by
  unfold Sl.flush at h ⊢
  split at h
  · cases h
  split at h
  · cases h
  · rename_i h1 h2
    rw [if_neg h1,if_neg h2]
theorem flush_no {s:Sl} (h:¬ s.flush.1=0):s.flush.2=s∨s.flush.2=s.off:=by
  unfold Sl.flush at h ⊢
  split at h
  · rename_i h1; rw [if_pos h1]; exact .inl rfl
  split at h
  · rename_i h1 h2; rw [if_neg h1,if_pos h2]; exact .inr rfl
  · exact absurd rfl h
structure LS where
  s:Sl
  qv:Value
  lv:Value
  lo:List O14
structure LO (k:Nat) (z:LS):Prop where
  ok:z.s.Ok
  n5:z.s.n=5
  st:z.s.steps≤k
  q:z.s.q=z.lo.map O14.w
  le:z.lo.length≤k
  lo:∀ o∈z.lo,o.b.length=64∧0≤o.a∧o.a < 5
theorem LO.to {k:Nat} {z:LS} {s':Sl} {qv' lv':Value} (h:LO k z) (ok:s'.Ok) (hn:s'.n=z.s.n) (hst:s'.steps≤k + 1) (hq:s'.q=z.s.q):LO (k + 1) ⟨s',qv',lv',z.lo⟩ :=
  ⟨ok,hn.trans h.n5,hst,hq.trans h.q,Nat.le_succ_of_le h.le,h.lo⟩
theorem LO.off {k:Nat} {z:LS} {s':Sl} {qv' lv':Value} (h:LO k z) (e:s'=z.s∨s'=z.s.off):LO (k + 1) ⟨s',qv',lv',z.lo⟩:=by
  have:=h.st
  rcases e with rfl | rfl
  · exact h.to h.ok rfl (by omega) rfl
  · exact h.to (Sl.off_ok h.ok) rfl (by show z.s.steps≤_; omega) rfl
theorem LO.wr {k:Nat} {s:Sl} {qv lv qv' lv':Value} {lo:List O14} {o:O14} (h:LO k ⟨s,qv,lv,lo⟩) (ho:o.b.length=64∧0≤o.a∧o.a < 5) (hok:({ s.on with q:=s.q++[o.w] }:Sl).Ok):LO (k + 1) ⟨{ s.on with q:=s.q++[o.w] },qv',lv',lo++[o]⟩:=by
  have h1:=h.st
  have h2:=h.le
  have h3:=h.q
  refine ⟨hok,h.n5,?_,?_,?_,fun x hx=>?_⟩
  · show s.steps + 1≤k + 1
    exact Nat.succ_le_succ h1
  · show s.q++[o.w]=(lo++[o]).map O14.w
    rw [List.map_append]
    exact congrArg (·++[o.w]) h3
  · show (lo++[o]).length≤k + 1
    rw [List.length_append]
    exact Nat.succ_le_succ h2
  · rcases List.mem_append.1 hx with hx | hx
    · exact h.lo x hx
    · rw [List.mem_singleton.1 hx]; exact ho
theorem LO.fl {k:Nat} {s s':Sl} {qv lv qv' lv':Value} {lo:List O14} (h:LO k ⟨s,qv,lv,lo⟩) (hok:s'.Ok) (hn:s'.n=s.n) (hst:s'.steps≤k + 1) (hq:s'.q=[]):LO (k + 1) ⟨s',qv',lv',[]⟩ :=
  ⟨hok,hn.trans h.n5,hst,hq,Nat.zero_le _,fun x hx=>by cases hx⟩
theorem lo_getD {lo:List O14} {q:List Wr} (h:q=lo.map O14.w) {j:Nat} (hj:j < lo.length):q.getD j default=(lo.getD j default).w:=by
  subst h
  rw [getD_lt (by simpa using hj),getD_lt hj]
  simp
theorem mod5 (a:Int):(i64 a % 5).toNat < 5:=by
  rw [UInt64.toNat_mod]
  exact Nat.mod_lt _ (by decide)
theorem rd_body14 {w:World} {g t:Nat} {x:O14} {T:TypeId} (hb:w.heap[g]?=some (.cells x.c.toArray T (0,0))) (hx:x.b.length=64) (ht:t≤64):RdB w (.slice (some ⟨g,0 + 3,none⟩) t 64) (x.b.take t):=by
  have hl:(x.b.take t).length=t:=by simp [hx]; omega
  refine ⟨_,64,by rw [hl],by omega,by decide,(fun h=>by cases h),.inr ⟨g,0 + 3,T,(0,0),x.c.toArray,rfl,hb,?_⟩⟩
  simp [O14.c,hx,List.map_take]
theorem fus_n (s:Sl) (n:Int):(s.fus n).2.n=s.n∧(s.fus n).2.steps=s.steps∧(s.fus n).2.q=s.q∧(s.fus n).2.xs=s.xs:=by
  unfold Sl.fus
  split <;> exact ⟨rfl,rfl,rfl,rfl⟩
theorem law_SlateLasts (ops:List O14) (hops:∀ y∈ops,y.b.length=64) (honA:∀ y∈ops,y.n≤9223372036854775807) (v:Value) (w:World) (hqo:Rd w v ops.length (ops.flatMap O14.c)):Ctr Try.prog 3 [v] w (fun _=>False) (fun v2 _=>v2=.bool true):=by
  have hnl0:=hqo.le
  obtain ⟨vad,vcap,rfl,hvc,hvm⟩:=Rd.sl hqo
  refine fn_start (N:=140) Try.func3 rfl rfl rfl fun ac hk=>?_
  have hs:=St.start hk w
  refine wp_seq (wp_reg ?_)
  refine s_q hs (c_assign (hs.ev rfl)) rfl fun ac hs=>?_
  refine s_end (then_n (wp_seq (wp_reg ?_)))
  refine s_call hs fu9 (.cons (hs.ev rfl) .nil) (sl_New 5 _) rfl fun ac ww v19 hf hp hs=>?_
  rw [if_pos (by decide)] at hp
  obtain ⟨g,sb,rfl,hh⟩:=hp
  replace hs:=hs _ (Has.grp' hh)
  refine s_q hs (c_move (hs.ev rfl)) rfl fun ac hs=>?_
  refine s_q hs (c_extract (hs.ev rfl) rfl) rfl fun ac hs=>?_
  refine s_q hs (c_extract (hs.ev rfl) rfl) rfl fun ac hs=>?_
  refine s_q hs (c_assign (hs.ev rfl)) rfl fun ac hs=>?_
  refine s_q hs (c_assign (hs.ev rfl)) rfl fun ac hs=>?_
  refine s_end ?_
  replace hs:=hs.sub (F':=[(0,_),(2,_),(3,_)]) ⟨rfl,rfl,rfl,trivial⟩
  refine then_n (wp_seq (wp_seq (wp_reg ?_)))
  refine s_call hs fu10 .nil (sl_awake _) rfl fun ac ww v22 hf hp hs=>?_
  obtain rfl:=hp
  replace hs:=hs [] (.nil _ _)
  refine s_q hs (c_not (hs.ev rfl)) rfl fun ac hs=>?_
  refine s_q hs (c_move (hs.ev rfl)) rfl fun ac hs=>?_
  refine s_yes hs rfl rfl ?_
  refine s_q hs (c_move (hs.ev rfl)) rfl fun ac hs=>?_
  refine s_yes hs rfl rfl ?_
  refine s_q hs (c_eqlNil un23 (hs.ev rfl) (hs.ev rfl)) rfl fun ac hs=>?_
  refine s_q hs (c_pick (hs.ev rfl) (hs.ev rfl) (hs.ev rfl)) rfl fun ac hs=>?_
  refine s_end ?_
  replace hs:=hs.sub (F':=[(0,_),(2,_),(3,_),(27,_)]) ⟨rfl,rfl,rfl,rfl,trivial⟩
  refine then_n ?_
  refine wp_cond_false (hs.ev rfl) ?_
  refine wp_skip (then_n (wp_seq (wp_reg ?_)))
  refine s_alloc hs ty30 rfl fun ac ww g5 hs=>?_
  refine s_end ?_
  replace hs:=hs.sub (F':=[(0,_),(2,_),(3,_),(5,_)]) ⟨rfl,rfl,rfl,rfl,trivial⟩
  refine then_n (wp_seq (wp_reg ?_))
  refine s_q hs (c_assign (hs.ev rfl)) rfl fun ac hs=>?_
  refine s_end ?_
  replace hs:=hs.nilrow 32 67
  refine then_n (wp_seq (wp_seq (wp_reg ?_)))
  refine s_q hs (c_move (hs.ev rfl)) rfl fun ac hs=>?_
  refine s_q hs (c_lenS un22 (hs.ev rfl)) rfl fun ac hs=>?_
  refine s_q hs (c_move (hs.ev rfl)) rfl fun ac hs=>?_
  refine s_end ?_
  replace hs:=hs.sub (F':=[(2,_),(3,_),(5,_),(6,_),(28,_),(29,_),(30,_)]) ⟨rfl,rfl,rfl,rfl,rfl,rfl,rfl,trivial⟩
  refine then_n (wp_block ?_)
  refine s_loop hs (X:=Nat × LS) (fun z=>[(30,I z.1),(6,z.2.lv)]) [(3,_),(5,_),(28,_),(29,_)] (fun z=>[.row (z.2.lv) (z.2.lo).length ((z.2.lo).flatMap O14.c) 32 67,.seg g5 (((z.2.s).xs).map B) 30,Ent.grp (sl g sb (z.2.qv) (z.2.s))]) (fun n z=>z.1≤ops.length∧z.1≤60∧LO z.1 z.2∧n=ops.length - z.1) (_) ((0,⟨newS 5,.slice none 0 0,.slice none 0 0,[]⟩)) (⟨Nat.zero_le _,Nat.zero_le _,⟨newS_ok (by decide),rfl,Nat.le_refl _,rfl,Nat.le_refl _,fun _ h=>by cases h⟩,rfl⟩) ⟨rfl,rfl,rfl,rfl,rfl,rfl,trivial⟩ (by rfl) ?_
  rintro n ⟨k,s,qv,lv,lo⟩ ac ww hok hs
  simp only [List.cons_append,List.nil_append] at hs
  obtain ⟨hk,hk60,hI,rfl⟩:=hok
  obtain ⟨lad,lcap,rfl,hlc,hlm⟩:=Rd.sl (Rd.of_row (hs.get (i:=0) rfl))
  have hq:s.q=lo.map O14.w:=hI.q
  have hlk:lo.length≤k:=hI.le
  have hqk:s.q.length=lo.length:=by rw [hq,List.length_map]
  have hst:s.steps≤k:=hI.st
  have hok:s.Ok:=hI.ok
  have hn5:s.n=5:=hI.n5
  refine wp_seq (wp_reg ?_)
  refine s_q hs (c_lssI (hs.ev rfl) (hs.ev rfl)) rfl fun ac hs=>?_
  refine s_end (then_n (wp_seq ?_))
  refine s_cond hs rfl (fun hc=>?_) (fun hc=>?_)
  · try simp only [decide_eq_true_eq,decide_eq_false_iff_not,Bool.not_eq_true',Bool.not_eq_false',Bool.and_eq_true,Bool.or_eq_true,Bool.or_eq_false_iff] at hc
    have hkn:k < ops.length:=by omega
    obtain ⟨pb,po,pT,pf,pall,rfl,hpb,hps⟩:=Rd.fm_at (by decide) (fun y hy=>O14.len (hops y hy)) hqo (by omega)
    replace hps:=hps k hkn
    have hob:=hops _ (getD_mem hkn)
    have hon:=honA _ (getD_mem hkn)
    obtain ⟨⟨ok,oa,on,ob⟩,hx⟩:∃ x,ops.getD k default=x:=⟨_,rfl⟩
    rw [hx] at hps hob hon
    replace hon:on≤9223372036854775807:=hon
    replace hob:ob.length=64:=hob
    refine wp_skip (then_n (wp_seq (wp_block (wp_seq (wp_reg ?_)))))
    refine s_q hs (c_move (hs.ev rfl)) rfl fun ac hs=>?_
    refine s_q hs (c_idxS (j:=k) un22 ty32 (hs.ev rfl) (hs.ev rfl) (by omega) (by omega)) rfl fun ac hs=>?_
    refine s_q hs (c_loadA ty32 ag32 (hs.ev rfl) (hs.old hpb id) hps (O14.len hob)) rfl fun ac hs=>?_
    refine s_alloc hs ty32 rfl fun ac ww g8 hs=>?_
    refine s_q hs (c_assign (hs.ev rfl)) rfl fun ac hs=>?_
    refine s_storeW (i:=0) hs ty32 rfl rfl rfl (O14.len hob) (O14.one _) (by rfl) fun ww hs=>?_
    refine s_end (then_n (wp_seq (wp_seq (wp_reg ?_))))
    refine s_q hs (c_move (hs.ev rfl)) rfl fun ac hs=>?_
    refine s_q hs (c_geqI (hs.ev rfl) (hs.ev rfl)) rfl fun ac hs=>?_
    refine s_end (then_n ?_)
    refine s_cond hs rfl (fun hc=>?_) (fun hc=>?_)
    · try simp only [decide_eq_true_eq,decide_eq_false_iff_not,Bool.not_eq_true',Bool.not_eq_false',Bool.and_eq_true,Bool.or_eq_true,Bool.or_eq_false_iff] at hc
      refine wp_exit (then_e (blk_miss rfl (then_e (then_e (blk_hit (then_n (wp_seq (wp_reg ?_))))))))
      refine s_q hs (c_assign (hs.ev rfl)) rfl fun ac hs=>?_
      refine s_end ?_
      replace hs:=hs.sub (F':=[(2,_)]) ⟨rfl,trivial⟩
      refine then_n (wp_ret ?_)
      refine s_ret hs rfl (.tmp (hs.tmp rfl) .nil) rfl ⟨_,rfl,hs.fr,?_⟩
      rfl
    · try simp only [decide_eq_true_eq,decide_eq_false_iff_not,Bool.not_eq_true',Bool.not_eq_false',Bool.and_eq_true,Bool.or_eq_true,Bool.or_eq_false_iff] at hc
      have hk59:k < 60:=by omega
      refine wp_skip (then_n (wp_seq (wp_reg ?_)))
      refine s_q hs (c_fld fl32_1 (hs.ev rfl)) rfl fun ac hs=>?_
      obtain ⟨am,ham⟩:∃ am:Nat,(i64 oa % 5).toNat=am:=⟨_,rfl⟩
      have ham5:am < 5:=ham ▸ mod5 oa
      refine s_q hs (c_loadS un3 rfl (hs.ev rfl) (hs.seg (i:=0) rfl) rfl) rfl fun ac hs=>?_
      refine s_q hs (c_cvIV un3 un33 (hs.ev rfl)) rfl fun ac hs=>?_
      refine s_q hs (c_remV (hs.ev rfl) (St.ev (v:=V 5) hs rfl) (by decide)) rfl fun ac hs=>?_
      refine s_q hs (c_to (c_cvVI un33 un3 (hs.ev rfl) (by rw [ham]; omega)) ((congrArg (fun n:Nat=>I (n:Int)) ham))) rfl fun ac hs=>?_
      refine s_q hs (c_fld fl32_1 (hs.ev rfl)) rfl fun ac hs=>?_
      refine s_store (i:=0) hs ty3 rfl rfl rfl rfl rfl rfl (by simp [O14.c]) (show _=O14.c ⟨ok,am,on,ob⟩ from rfl) fun ww hs=>?_
      refine s_end (then_n (wp_seq (wp_reg ?_)))
      refine s_q hs (c_fld fl32_0 (hs.ev rfl)) rfl fun ac hs=>?_
      refine s_q hs (c_loadS un3 rfl (hs.ev rfl) (hs.seg (i:=0) rfl) rfl) rfl fun ac hs=>?_
      refine s_end (then_n (wp_block (wp_seq (wp_reg ?_))))
      refine s_q hs (c_eqlI (hs.ev rfl) (hs.ev rfl)) rfl fun ac hs=>?_
      refine s_q hs (c_assign (hs.ev rfl)) rfl fun ac hs=>?_
      refine s_end (then_n ?_)
      refine s_cond hs rfl (fun hc=>?_) (fun hc=>?_)
      · try simp only [decide_eq_true_eq,decide_eq_false_iff_not,Bool.not_eq_true',Bool.not_eq_false',Bool.and_eq_true,Bool.or_eq_true,Bool.or_eq_false_iff] at hc
        refine wp_seq (wp_reg ?_)
        refine s_q hs (c_move (hs.ev rfl)) rfl fun ac hs=>?_
        refine s_q hs (c_fld fl32_1 (hs.ev rfl)) rfl fun ac hs=>?_
        refine s_q hs (c_loadS un3 rfl (hs.ev rfl) (hs.seg (i:=0) rfl) rfl) rfl fun ac hs=>?_
        refine s_q hs (c_fld fl32_3 (hs.ev rfl)) rfl fun ac hs=>?_
        refine s_q hs (c_loadA ty28 rfl (hs.ev rfl) (hs.seg (i:=0) rfl) (O14.body hob) (by simp [hob])) rfl fun ac hs=>?_
        refine s_callM (i:=3) hs fu11 (.cons (hs.ev rfl) (.cons (hs.ev rfl) (.cons (hs.ev rfl) .nil))) rfl (sl_Write g sb qv s am ob hob hok (by omega) (by omega) _ (hs.get (i:=3) rfl)) rfl fun ac ww v52 hf hp hs=>?_
        obtain ⟨rfl,qv',h1,h2⟩:=hp
        replace hs:=hs (Ent.grp (sl g sb qv' (s.write am ob).2)) h1 (fun k hk=>⟨h2 k hk,grp_lt h1 k hk⟩)
        refine s_q hs (c_eqlI (hs.ev rfl) (hs.ev rfl)) rfl fun ac hs=>?_
        refine s_end (then_n ?_)
        refine s_cond hs rfl (fun hc=>?_) (fun hc=>?_)
        · try simp only [decide_eq_true_eq,decide_eq_false_iff_not,Bool.not_eq_true',Bool.not_eq_false',Bool.and_eq_true,Bool.or_eq_true,Bool.or_eq_false_iff] at hc
          have hw:(s.write am ob).1=0:=hc
          rw [write_yes hw] at hs
          refine wp_reg ?_
          refine s_q hs (c_move (hs.ev rfl)) rfl fun ac hs=>?_
          refine s_q hs (c_loadW ty32 ag32 (hs.ev rfl) (hs.seg (i:=0) rfl) (O14.len hob)) rfl fun ac hs=>?_
          refine s_bslice hs un22 ty32 (.cons (hs.ev rfl) .nil) rfl (fun v hv=>by rw [List.mem_singleton.1 hv]; exact O14.len hob) (by decide) (show _=O14.c ⟨ok,am,on,ob⟩ by simp [flatCells,Value.cells]) rfl fun ac ww g56 hs=>?_
          refine s_append (i:=2) hs un22 ty32 (by decide) rfl rfl rfl (Rd.of_seg (n:=1) (hs.seg (i:=0) rfl) (Nat.le_refl _) (by decide) (List.take_of_length_le (by simp))) (O14.len hob) (O14.one _) (by unfold maxLen; omega) (by omega) rfl fun ac ww v57 hf hnil hs=>?_
          obtain ⟨ad57,cap57,rfl,_,_⟩:=Rd.sl (Rd.of_row (hs.get (i:=2) rfl))
          refine s_q hs (c_assign (hs.ev rfl)) rfl fun ac hs=>?_
          refine s_end ?_
          replace hs:=hs.pick (L':=[_,_,_]) (.cons _ (.cons _ (.refl _)))
          have hI2:LO (k + 1) ⟨{ s.on with q:=s.q++[(O14.mk ok am on ob).w] },qv',.slice ad57 (lo.length + 1) cap57,lo++[⟨ok,am,on,ob⟩]⟩:=hI.wr ⟨hob,by show (0:Int)≤am; omega,by show (am:Int) < 5; omega⟩ (write_yes hw ▸ Sl.write_ok hok hob)
          replace hs:=hs.toL (L':=[.row (.slice ad57 (lo.length + 1) cap57) (lo++[O14.mk ok am on ob]).length ((lo++[O14.mk ok am on ob]).flatMap O14.c) 32 67,.seg g5 ((({ s.on with q:=s.q++[(O14.mk ok am on ob).w] }).xs).map B) 30,Ent.grp (sl g sb (qv') ({ s.on with q:=s.q++[(O14.mk ok am on ob).w] }))]) (by rw [o14_app,List.length_append]; rfl)
          refine blk_n (blk_n (then_n (wp_reg ?_)))
          refine s_q hs (c_addI (hs.ev rfl) (hs.ev rfl) (by omega) (by omega)) rfl fun ac hs=>?_
          refine s_q hs (c_move (hs.ev rfl)) rfl fun ac hs=>?_
          refine s_end (then_n ?_)
          exact ⟨ops.length - (k + 1),by omega,(k + 1,_),⟨by show k + 1≤_; omega,by show k + 1≤_; omega,hI2,rfl⟩,St.next hs ⟨rfl,rfl,rfl,rfl,rfl,rfl,trivial⟩ rfl⟩
        · try simp only [decide_eq_true_eq,decide_eq_false_iff_not,Bool.not_eq_true',Bool.not_eq_false',Bool.and_eq_true,Bool.or_eq_true,Bool.or_eq_false_iff] at hc
          have hw:¬ (s.write am ob).1=0:=hc
          have e:=write_no hw
          have hI2:LO (k + 1) ⟨(s.write am ob).2,qv',.slice lad lo.length lcap,lo⟩:=hI.off e
          replace hs:=hs.pick (L':=[_,_,_]) (.cons _ (.refl _))
          replace hs:=hs.toL (L':=[.row (.slice lad lo.length lcap) (lo).length ((lo).flatMap O14.c) 32 67,.seg g5 ((((s.write am ob).2).xs).map B) 30,Ent.grp (sl g sb (qv') ((s.write am ob).2))]) (by rw [show (s.write am ob).2.xs=s.xs by rcases e with e | e <;> rw [e] <;> rfl])
          refine wp_skip (blk_n (blk_n (then_n (wp_reg ?_))))
          refine s_q hs (c_addI (hs.ev rfl) (hs.ev rfl) (by omega) (by omega)) rfl fun ac hs=>?_
          refine s_q hs (c_move (hs.ev rfl)) rfl fun ac hs=>?_
          refine s_end (then_n ?_)
          exact ⟨ops.length - (k + 1),by omega,(k + 1,_),⟨by show k + 1≤_; omega,by show k + 1≤_; omega,hI2,rfl⟩,St.next hs ⟨rfl,rfl,rfl,rfl,rfl,rfl,trivial⟩ rfl⟩
      · try simp only [decide_eq_true_eq,decide_eq_false_iff_not,Bool.not_eq_true',Bool.not_eq_false',Bool.and_eq_true,Bool.or_eq_true,Bool.or_eq_false_iff] at hc
        refine wp_seq (wp_reg ?_)
        refine s_q hs (c_eqlI (hs.ev rfl) (hs.ev rfl)) rfl fun ac hs=>?_
        refine s_q hs (c_assign (hs.ev rfl)) rfl fun ac hs=>?_
        refine s_end (then_n ?_)
        refine s_cond hs rfl (fun hc=>?_) (fun hc=>?_)
        · try simp only [decide_eq_true_eq,decide_eq_false_iff_not,Bool.not_eq_true',Bool.not_eq_false',Bool.and_eq_true,Bool.or_eq_true,Bool.or_eq_false_iff] at hc
          refine wp_seq (wp_reg ?_)
          refine s_q hs (c_move (hs.ev rfl)) rfl fun ac hs=>?_
          refine s_callM (i:=3) hs fu12 (.cons (hs.ev rfl) .nil) rfl (sl_Flush g sb qv s hok (by omega) (by omega) _ (hs.get (i:=3) rfl)) rfl fun ac ww v61 hf hp hs=>?_
          obtain ⟨rfl,qv',h1,h2⟩:=hp
          replace hs:=hs (Ent.grp (sl g sb qv' s.flush.2)) h1 (fun k hk=>⟨h2 k hk,grp_lt h1 k hk⟩)
          refine s_q hs (c_eqlI (hs.ev rfl) (hs.ev rfl)) rfl fun ac hs=>?_
          refine s_end (then_n ?_)
          refine s_cond hs rfl (fun hc=>?_) (fun hc=>?_)
          · try simp only [decide_eq_true_eq,decide_eq_false_iff_not,Bool.not_eq_true',Bool.not_eq_false',Bool.and_eq_true,Bool.or_eq_true,Bool.or_eq_false_iff] at hc
            have hw:s.flush.1=0:=hc
            refine wp_seq (wp_seq (wp_reg ?_))
            refine s_q hs (c_move (hs.ev rfl)) rfl fun ac hs=>?_
            refine s_q hs (c_lenS un22 (hs.ev rfl)) rfl fun ac hs=>?_
            refine s_q hs (c_move (hs.ev rfl)) rfl fun ac hs=>?_
            refine s_end (then_n (wp_block ?_))
            refine s_loop hs (X:=Nat) (fun j=>[(65,I j)]) [(3,_),(5,_),(6,_),(7,_),(8,_),(28,_),(29,_),(30,_),(31,_),(32,_),(33,_),(34,_),(35,_),(36,_),(37,_),(38,_),(39,_),(40,_),(41,_),(42,_),(43,_),(44,_),(45,_),(46,_),(58,_),(59,_),(60,_),(61,_),(62,_),(63,_),(64,_)] (fun j=>.seg g8 (O14.c ⟨ok,am,on,ob⟩) 32::[.row (.slice lad lo.length lcap) (lo).length ((lo).flatMap O14.c) 32 67,.seg g5 ((putQ s.xs (s.q.take j)).map B) 30,Ent.grp (sl g sb (qv') (s.flush.2))]) (fun n j=>j≤lo.length∧n=lo.length - j) (_) (0) (⟨Nat.zero_le _,rfl⟩) ⟨rfl,rfl,rfl,rfl,rfl,rfl,rfl,rfl,rfl,rfl,rfl,rfl,rfl,rfl,rfl,rfl,rfl,rfl,rfl,rfl,rfl,rfl,rfl,rfl,rfl,rfl,rfl,rfl,rfl,rfl,rfl,rfl,trivial⟩ rfl ?_
            rintro n j ac ww hok2 hs
            simp only [List.cons_append,List.nil_append] at hs
            obtain ⟨hj,rfl⟩:=hok2
            refine wp_seq (wp_reg ?_)
            refine s_q hs (c_lssI (hs.ev rfl) (hs.ev rfl)) rfl fun ac hs=>?_
            refine s_end (then_n (wp_seq ?_))
            refine s_cond hs rfl (fun hc=>?_) (fun hc=>?_)
            · try simp only [decide_eq_true_eq,decide_eq_false_iff_not,Bool.not_eq_true',Bool.not_eq_false',Bool.and_eq_true,Bool.or_eq_true,Bool.or_eq_false_iff] at hc
              have hjl:j < lo.length:=by omega
              have hxo:=hI.lo _ (getD_mem hjl)
              obtain ⟨pb2,pcap2,pcur,he,hpb2,_,_,_,hcur⟩:=hs.row_at (i:=1) rfl (by omega)
              have hs9:=hs
              cases he
              replace hs:=hs9
              have hpc:=fm_row (fun x hx=>O14.len (hI.lo x hx).1) hcur hjl
              have hqj:=lo_getD hI.q hjl
              obtain ⟨o,ho⟩:∃ o,lo.getD j default=o:=⟨_,rfl⟩
              rw [ho] at hpc hxo hqj
              obtain ⟨hob2,hoa,hoa5⟩:=hxo
              obtain ⟨ka,hka⟩:∃ ka:Nat,o.a=ka:=⟨o.a.toNat,by omega⟩
              have hka2:o.w.p=ka:=by show o.a.toNat=ka; omega
              refine wp_skip (then_n (wp_seq (wp_block (wp_seq (wp_reg ?_)))))
              refine s_q hs (c_idxS (j:=j) un22 ty32 (hs.ev rfl) (hs.ev rfl) (by omega) (by omega)) rfl fun ac hs=>?_
              refine s_q hs (c_loadA ty32 ag32 (hs.ev rfl) hpb2 hpc (O14.len hob2)) rfl fun ac hs=>?_
              refine s_alloc hs ty32 rfl fun ac ww g10 hs=>?_
              refine s_storeW (i:=0) hs ty32 rfl rfl rfl (O14.len hob2) (O14.one _) (by rfl) fun ww hs=>?_
              refine s_end (then_n (wp_reg ?_))
              refine s_q hs (c_fld fl32_1 (hs.ev rfl)) rfl fun ac hs=>?_
              refine s_q hs (c_loadS un3 rfl (hs.ev rfl) (hs.seg (i:=0) rfl) rfl) rfl fun ac hs=>?_
              refine s_q hs (c_fld fl32_3 (hs.ev rfl)) rfl fun ac hs=>?_
              refine s_q hs (c_loadA ty28 rfl (hs.ev rfl) (hs.seg (i:=0) rfl) (O14.body hob2) (by simp [hob2])) rfl fun ac hs=>?_
              refine s_q hs (c_idxA (j:=ka) un30 ty29 (hs.ev rfl) (hs.ev rfl) hka (by omega)) rfl fun ac hs=>?_
              refine s_store (i:=3) hs ty29 rfl rfl rfl rfl (by simp [Value.cells,hob2]) (all64 _) (by rw [List.length_map,putQ_len hok.xl (take_ok hok.qo)]; omega) (show _=(putW _ o.w).map B by rw [← hka2]; exact putW_cells _ o.w) fun ww hs=>?_
              refine s_end (blk_n (then_n (wp_reg ?_)))
              refine s_q hs (c_addI (hs.ev rfl) (hs.ev rfl) (by omega) (by omega)) rfl fun ac hs=>?_
              refine s_q hs (c_move (hs.ev rfl)) rfl fun ac hs=>?_
              refine s_end (then_n ?_)
              replace hs:=hs.pick (L':=[_,_,_,_]) (.cons _ (.refl _))
              rw [show putW (putQ s.xs (s.q.take j)) o.w=putQ s.xs (s.q.take (j + 1)) from by rw [putQ_succ (by omega),hqj]] at hs
              exact ⟨lo.length - (j + 1),by omega,j + 1,⟨by omega,rfl⟩,St.next hs ⟨rfl,rfl,rfl,rfl,rfl,rfl,rfl,rfl,rfl,rfl,rfl,rfl,rfl,rfl,rfl,rfl,rfl,rfl,rfl,rfl,rfl,rfl,rfl,rfl,rfl,rfl,rfl,rfl,rfl,rfl,rfl,rfl,trivial⟩ rfl⟩
            · try simp only [decide_eq_true_eq,decide_eq_false_iff_not,Bool.not_eq_true',Bool.not_eq_false',Bool.and_eq_true,Bool.or_eq_true,Bool.or_eq_false_iff] at hc
              obtain rfl:j=lo.length:=by omega
              rw [← hqk,List.take_length,hqk] at hs
              refine wp_exit (then_e (then_e (blk_hit (then_n (wp_reg ?_)))))
              refine s_q hs (c_assign (hs.ev rfl)) rfl fun ac hs=>?_
              refine s_end ?_
              replace hs:=(hs.nilrow 32 67).pick (L':=[_,_,_]) (.cons_cons _ (.cons _ (.cons _ (.refl _))))
              have hI2:LO (k + 1) ⟨s.flush.2,qv',.slice none 0 0,[]⟩:=hI.fl (Sl.flush_ok hok) (by rw [flush_yes hw]; rfl) (by rw [flush_yes hw]; show s.steps + 1≤_; omega) (by rw [flush_yes hw])
              replace hs:=hs.toL (L':=[.row (.slice none 0 0) (([]:List O14)).length ((([]:List O14)).flatMap O14.c) 32 67,.seg g5 (((s.flush.2).xs).map B) 30,Ent.grp (sl g sb (qv') (s.flush.2))]) (by rw [show s.flush.2.xs=putQ s.xs s.q by rw [flush_yes hw]]; rfl)
              refine blk_n (blk_n (then_n (wp_reg ?_)))
              refine s_q hs (c_addI (hs.ev rfl) (hs.ev rfl) (by omega) (by omega)) rfl fun ac hs=>?_
              refine s_q hs (c_move (hs.ev rfl)) rfl fun ac hs=>?_
              refine s_end (then_n ?_)
              exact ⟨ops.length - (k + 1),by omega,(k + 1,_),⟨by show k + 1≤_; omega,by show k + 1≤_; omega,hI2,rfl⟩,St.next hs ⟨rfl,rfl,rfl,rfl,rfl,rfl,trivial⟩ rfl⟩
          · try simp only [decide_eq_true_eq,decide_eq_false_iff_not,Bool.not_eq_true',Bool.not_eq_false',Bool.and_eq_true,Bool.or_eq_true,Bool.or_eq_false_iff] at hc
            have hw:¬ s.flush.1=0:=hc
            have e:=flush_no hw
            have hI2:LO (k + 1) ⟨s.flush.2,qv',.slice lad lo.length lcap,lo⟩:=hI.off e
            replace hs:=hs.pick (L':=[_,_,_]) (.cons _ (.refl _))
            replace hs:=hs.toL (L':=[.row (.slice lad lo.length lcap) (lo).length ((lo).flatMap O14.c) 32 67,.seg g5 (((s.flush.2).xs).map B) 30,Ent.grp (sl g sb (qv') (s.flush.2))]) (by rw [show s.flush.2.xs=s.xs by rcases e with e | e <;> rw [e] <;> rfl])
            refine wp_skip (blk_n (blk_n (then_n (wp_reg ?_))))
            refine s_q hs (c_addI (hs.ev rfl) (hs.ev rfl) (by omega) (by omega)) rfl fun ac hs=>?_
            refine s_q hs (c_move (hs.ev rfl)) rfl fun ac hs=>?_
            refine s_end (then_n ?_)
            exact ⟨ops.length - (k + 1),by omega,(k + 1,_),⟨by show k + 1≤_; omega,by show k + 1≤_; omega,hI2,rfl⟩,St.next hs ⟨rfl,rfl,rfl,rfl,rfl,rfl,trivial⟩ rfl⟩
        · try simp only [decide_eq_true_eq,decide_eq_false_iff_not,Bool.not_eq_true',Bool.not_eq_false',Bool.and_eq_true,Bool.or_eq_true,Bool.or_eq_false_iff] at hc
          refine wp_seq (wp_reg ?_)
          refine s_q hs (c_eqlI (hs.ev rfl) (hs.ev rfl)) rfl fun ac hs=>?_
          refine s_q hs (c_assign (hs.ev rfl)) rfl fun ac hs=>?_
          refine s_end (then_n ?_)
          refine s_cond hs rfl (fun hc=>?_) (fun hc=>?_)
          · try simp only [decide_eq_true_eq,decide_eq_false_iff_not,Bool.not_eq_true',Bool.not_eq_false',Bool.and_eq_true,Bool.or_eq_true,Bool.or_eq_false_iff] at hc
            refine wp_reg ?_
            refine s_q hs (c_move (hs.ev rfl)) rfl fun ac hs=>?_
            refine s_q hs (c_fld fl32_2 (hs.ev rfl)) rfl fun ac hs=>?_
            refine s_q hs (c_loadS un3 rfl (hs.ev rfl) (hs.seg (i:=0) rfl) rfl) rfl fun ac hs=>?_
            refine s_callM (i:=3) hs fu13 (.cons (hs.ev rfl) (.cons (hs.ev rfl) .nil)) rfl (sl_Fuse g sb qv s on _ (hs.get (i:=3) rfl)) rfl fun ac ww v80 hf hp hs=>?_
            obtain ⟨rfl,qv',h1,h2⟩:=hp
            replace hs:=hs (Ent.grp (sl g sb qv' (s.fus on).2)) h1 (fun k hk=>⟨h2 k hk,grp_lt h1 k hk⟩)
            replace hs:=hs.pick (L':=[_,_,_]) (.cons _ (.refl _))
            have hI2:LO (k + 1) ⟨(s.fus on).2,qv',.slice lad lo.length lcap,lo⟩:=hI.to (Sl.fus_ok hok hon) (fus_n s on).1 (by rw [(fus_n s on).2.1]; omega) (fus_n s on).2.2.1
            replace hs:=hs.toL (L':=[.row (.slice lad lo.length lcap) (lo).length ((lo).flatMap O14.c) 32 67,.seg g5 ((((s.fus on).2).xs).map B) 30,Ent.grp (sl g sb (qv') ((s.fus on).2))]) (by rw [(fus_n s on).2.2.2])
            refine s_end ?_
            replace hs:=hs.sub (F':=[(3,_),(5,_),(6,_),(7,_),(8,_),(28,_),(29,_),(30,_),(31,_),(32,_),(33,_),(34,_),(35,_),(36,_),(37,_),(38,_),(39,_),(40,_),(41,_),(42,_),(43,_),(44,_),(45,_),(46,_),(58,_),(59,_),(75,_),(76,_),(77,_),(78,_),(79,_)]) ⟨rfl,rfl,rfl,rfl,rfl,rfl,rfl,rfl,rfl,rfl,rfl,rfl,rfl,rfl,rfl,rfl,rfl,rfl,rfl,rfl,rfl,rfl,rfl,rfl,rfl,rfl,rfl,rfl,rfl,rfl,rfl,trivial⟩
            refine blk_n (blk_n (then_n (wp_reg ?_)))
            refine s_q hs (c_addI (hs.ev rfl) (hs.ev rfl) (by omega) (by omega)) rfl fun ac hs=>?_
            refine s_q hs (c_move (hs.ev rfl)) rfl fun ac hs=>?_
            refine s_end (then_n ?_)
            exact ⟨ops.length - (k + 1),by omega,(k + 1,_),⟨by show k + 1≤_; omega,by show k + 1≤_; omega,hI2,rfl⟩,St.next hs ⟨rfl,rfl,rfl,rfl,rfl,rfl,trivial⟩ rfl⟩
          · try simp only [decide_eq_true_eq,decide_eq_false_iff_not,Bool.not_eq_true',Bool.not_eq_false',Bool.and_eq_true,Bool.or_eq_true,Bool.or_eq_false_iff] at hc
            refine wp_seq (wp_reg ?_)
            refine s_q hs (c_eqlI (hs.ev rfl) (hs.ev rfl)) rfl fun ac hs=>?_
            refine s_q hs (c_assign (hs.ev rfl)) rfl fun ac hs=>?_
            refine s_end (then_n ?_)
            refine s_cond hs rfl (fun hc=>?_) (fun hc=>?_)
            · try simp only [decide_eq_true_eq,decide_eq_false_iff_not,Bool.not_eq_true',Bool.not_eq_false',Bool.and_eq_true,Bool.or_eq_true,Bool.or_eq_false_iff] at hc
              refine wp_seq ?_
              refine wp_region_rg pmix 6 (by kernel_rfl) rfl hs ?_
              simp only [List.take_succ_cons,List.take_zero]
              refine rg_q (fun ac ww h=>c_fld fl32_2 (h.ev rfl)) rfl ?_
              refine rg_q (fun ac ww h=>c_loadS un3 rfl (h.ev rfl) (h.blk (hs.seg (i:=0) rfl)) rfl) rfl ?_
              refine rg_q (fun ac ww h=>c_fld fl32_1 (h.ev rfl)) rfl ?_
              refine rg_q (fun ac ww h=>c_loadS un3 rfl (h.ev rfl) (h.blk (hs.seg (i:=0) rfl)) rfl) rfl ?_
              refine rg_q (fun ac ww h=>c_assign (h.ev rfl)) rfl ?_
              refine rg_q (fun ac ww h=>c_assign (h.ev rfl)) rfl ?_
              refine rg_nil fun ac ww L' hf hfe hs=>?_
              simp only [List.drop_succ_cons,List.drop_zero]
              obtain rfl:L'=[]:=hfe
              replace hs:=hs.toL (List.nil_append _)
              refine s_end (then_n (wp_seq (wp_reg ?_)))
              refine s_q hs (c_move (hs.ev rfl)) rfl fun ac hs=>?_
              refine s_q hs (c_move (hs.ev rfl)) rfl fun ac hs=>?_
              refine s_q hs (c_move (hs.ev rfl)) rfl fun ac hs=>?_
              refine s_callM (i:=3) hs fu14 (.cons (hs.ev rfl) (.cons (hs.ev rfl) (.cons (hs.ev rfl) .nil))) rfl (sl_Crash g sb qv s on am hok _ (hs.get (i:=3) rfl)) rfl fun ac ww v90 hf hp hs=>?_
              obtain ⟨rfl,qv',h1,h2⟩:=hp
              replace hs:=hs (Ent.grp (sl g sb qv' (s.crash on am))) h1 (fun k hk=>⟨h2 k hk,grp_lt h1 k hk⟩)
              refine s_end ?_
              replace hs:=hs.sub (F':=[(3,_),(5,_),(6,_),(7,_),(8,_),(11,_),(12,_),(28,_),(29,_),(30,_),(31,_),(32,_),(33,_),(34,_),(35,_),(36,_),(37,_),(38,_),(39,_),(40,_),(41,_),(42,_),(43,_),(44,_),(45,_),(46,_),(58,_),(59,_),(75,_),(76,_),(81,_),(82,_),(83,_),(84,_),(85,_),(86,_),(87,_),(88,_),(89,_)]) ⟨rfl,rfl,rfl,rfl,rfl,rfl,rfl,rfl,rfl,rfl,rfl,rfl,rfl,rfl,rfl,rfl,rfl,rfl,rfl,rfl,rfl,rfl,rfl,rfl,rfl,rfl,rfl,rfl,rfl,rfl,rfl,rfl,rfl,rfl,rfl,rfl,rfl,rfl,rfl,trivial⟩
              refine then_n (wp_seq (wp_seq (wp_reg ?_)))
              refine s_q hs (c_move (hs.ev rfl)) rfl fun ac hs=>?_
              refine s_q hs (c_lenS un22 (hs.ev rfl)) rfl fun ac hs=>?_
              refine s_q hs (c_move (hs.ev rfl)) rfl fun ac hs=>?_
              refine s_end (then_n (wp_block ?_))
              refine s_loop hs (X:=Nat) (fun j=>[(93,I j)]) [(3,_),(5,_),(6,_),(7,_),(8,_),(11,_),(12,_),(28,_),(29,_),(30,_),(31,_),(32,_),(33,_),(34,_),(35,_),(36,_),(37,_),(38,_),(39,_),(40,_),(41,_),(42,_),(43,_),(44,_),(45,_),(46,_),(58,_),(59,_),(75,_),(76,_),(81,_),(82,_),(83,_),(84,_),(85,_),(86,_),(87,_),(88,_),(89,_),(91,_),(92,_)] (fun j=>.seg g8 (O14.c ⟨ok,am,on,ob⟩) 32::[.row (.slice lad lo.length lcap) (lo).length ((lo).flatMap O14.c) 32 67,.seg g5 ((crN s.xs s.q on am j).map B) 30,Ent.grp (sl g sb (qv') (s.crash on am))]) (fun n j=>j≤lo.length∧n=lo.length - j) (_) (0) (⟨Nat.zero_le _,rfl⟩) ⟨rfl,rfl,rfl,rfl,rfl,rfl,rfl,rfl,rfl,rfl,rfl,rfl,rfl,rfl,rfl,rfl,rfl,rfl,rfl,rfl,rfl,rfl,rfl,rfl,rfl,rfl,rfl,rfl,rfl,rfl,rfl,rfl,rfl,rfl,rfl,rfl,rfl,rfl,rfl,rfl,rfl,rfl,trivial⟩ rfl ?_
              rintro n j ac ww hok2 hs
              simp only [List.cons_append,List.nil_append] at hs
              obtain ⟨hj,rfl⟩:=hok2
              refine wp_seq (wp_reg ?_)
              refine s_q hs (c_lssI (hs.ev rfl) (hs.ev rfl)) rfl fun ac hs=>?_
              refine s_end (then_n (wp_seq ?_))
              refine s_cond hs rfl (fun hc=>?_) (fun hc=>?_)
              · try simp only [decide_eq_true_eq,decide_eq_false_iff_not,Bool.not_eq_true',Bool.not_eq_false',Bool.and_eq_true,Bool.or_eq_true,Bool.or_eq_false_iff] at hc
                have hjl:j < lo.length:=by omega
                have hxo:=hI.lo _ (getD_mem hjl)
                obtain ⟨pb2,pcap2,pcur,he,hpb2,_,_,_,hcur⟩:=hs.row_at (i:=1) rfl (by omega)
                have hs9:=hs
                cases he
                replace hs:=hs9
                have hpc:=fm_row (fun x hx=>O14.len (hI.lo x hx).1) hcur hjl
                have hqj:=lo_getD hI.q hjl
                obtain ⟨o,ho⟩:∃ o,lo.getD j default=o:=⟨_,rfl⟩
                rw [ho] at hpc hxo hqj
                obtain ⟨hob2,hoa,hoa5⟩:=hxo
                obtain ⟨ka,hka⟩:∃ ka:Nat,o.a=ka:=⟨o.a.toNat,by omega⟩
                have hka2:o.w.p=ka:=by show o.a.toNat=ka; omega
                have hcl:=crN_len (keep:=on) (t:=am) hok.xl hok.qo (by omega) j (by omega)
                refine wp_skip (then_n (wp_seq (wp_block (wp_seq (wp_reg ?_)))))
                refine s_q hs (c_move (hs.ev rfl)) rfl fun ac hs=>?_
                refine s_q hs (c_idxS (j:=j) un22 ty32 (hs.ev rfl) (hs.ev rfl) (by omega) (by omega)) rfl fun ac hs=>?_
                refine s_q hs (c_loadA ty32 ag32 (hs.ev rfl) hpb2 hpc (O14.len hob2)) rfl fun ac hs=>?_
                refine s_alloc hs ty32 rfl fun ac ww g14 hs=>?_
                refine s_q hs (c_assign (hs.ev rfl)) rfl fun ac hs=>?_
                refine s_storeW (i:=0) hs ty32 rfl rfl rfl (O14.len hob2) (O14.one _) (by rfl) fun ww hs=>?_
                refine s_end (then_n (wp_seq (wp_seq (wp_reg ?_))))
                refine s_q hs (c_move (hs.ev rfl)) rfl fun ac hs=>?_
                refine s_q hs (c_move (hs.ev rfl)) rfl fun ac hs=>?_
                refine s_q hs (c_lssI (hs.ev rfl) (hs.ev rfl)) rfl fun ac hs=>?_
                refine s_end (then_n ?_)
                refine s_cond hs rfl (fun hc=>?_) (fun hc=>?_)
                · try simp only [decide_eq_true_eq,decide_eq_false_iff_not,Bool.not_eq_true',Bool.not_eq_false',Bool.and_eq_true,Bool.or_eq_true,Bool.or_eq_false_iff] at hc
                  have hjo:(j:Int) < on:=hc
                  have hstep:putW (crN s.xs s.q on am j) o.w=crN s.xs s.q on am (j + 1):=by
                    show _=crStep on am _ j _
                    rw [crStep,if_pos hjo,hqj]
                  refine wp_seq (wp_reg ?_)
                  refine s_q hs (c_fld fl32_1 (hs.ev rfl)) rfl fun ac hs=>?_
                  refine s_q hs (c_loadS un3 rfl (hs.ev rfl) (hs.seg (i:=0) rfl) rfl) rfl fun ac hs=>?_
                  refine s_q hs (c_fld fl32_3 (hs.ev rfl)) rfl fun ac hs=>?_
                  refine s_q hs (c_loadA ty28 rfl (hs.ev rfl) (hs.seg (i:=0) rfl) (O14.body hob2) (by simp [hob2])) rfl fun ac hs=>?_
                  refine s_q hs (c_idxA (j:=ka) un30 ty29 (hs.ev rfl) (hs.ev rfl) hka (by omega)) rfl fun ac hs=>?_
                  refine s_store (i:=3) hs ty29 rfl rfl rfl rfl (by simp [Value.cells,hob2]) (all64 _) (by rw [List.length_map,hcl]; omega) (show _=(putW _ o.w).map B by rw [← hka2]; exact putW_cells _ o.w) fun ww hs=>?_
                  refine s_end (then_n (wp_exit (then_e (blk_hit (then_n (wp_reg ?_))))))
                  refine s_q hs (c_addI (hs.ev rfl) (hs.ev rfl) (by omega) (by omega)) rfl fun ac hs=>?_
                  refine s_q hs (c_move (hs.ev rfl)) rfl fun ac hs=>?_
                  refine s_end (then_n ?_)
                  replace hs:=hs.pick (L':=[_,_,_,_]) (.cons _ (.refl _))
                  rw [show _=crN s.xs s.q on am (j + 1) from hstep] at hs
                  exact ⟨lo.length - (j + 1),by omega,j + 1,⟨by omega,rfl⟩,St.next hs ⟨rfl,rfl,rfl,rfl,rfl,rfl,rfl,rfl,rfl,rfl,rfl,rfl,rfl,rfl,rfl,rfl,rfl,rfl,rfl,rfl,rfl,rfl,rfl,rfl,rfl,rfl,rfl,rfl,rfl,rfl,rfl,rfl,rfl,rfl,rfl,rfl,rfl,rfl,rfl,rfl,rfl,rfl,trivial⟩ rfl⟩
                · try simp only [decide_eq_true_eq,decide_eq_false_iff_not,Bool.not_eq_true',Bool.not_eq_false',Bool.and_eq_true,Bool.or_eq_true,Bool.or_eq_false_iff] at hc
                  have hjo:¬ (j:Int) < on:=hc
                  refine wp_skip (then_n (wp_seq (wp_reg ?_)))
                  refine s_q hs (c_move (hs.ev rfl)) rfl fun ac hs=>?_
                  refine s_q hs (c_move (hs.ev rfl)) rfl fun ac hs=>?_
                  refine s_q hs (c_max (hs.ev rfl) (hs.ev rfl)) rfl fun ac hs=>?_
                  refine s_q hs (c_eqlI (hs.ev rfl) (hs.ev rfl)) rfl fun ac hs=>?_
                  refine s_end (then_n ?_)
                  refine s_cond hs rfl (fun hc=>?_) (fun hc=>?_)
                  · try simp only [decide_eq_true_eq,decide_eq_false_iff_not,Bool.not_eq_true',Bool.not_eq_false',Bool.and_eq_true,Bool.or_eq_true,Bool.or_eq_false_iff] at hc
                    have hjm:(j:Int)=max on 0:=hc
                    have hstep:tearW (crN s.xs s.q on am j) o.w am=crN s.xs s.q on am (j + 1):=by
                      show _=crStep on am _ j _
                      rw [crStep,if_neg hjo,if_pos hjm,hqj]
                    refine wp_region_rg pmix 8 (by kernel_rfl) rfl hs ?_
                    simp only [List.take_succ_cons,List.take_zero]
                    refine rg_q (fun ac ww h=>c_fld fl32_1 (h.ev rfl)) rfl ?_
                    refine rg_q (fun ac ww h=>c_loadS un3 rfl (h.ev rfl) (h.blk (hs.seg (i:=0) rfl)) rfl) rfl ?_
                    refine rg_q (fun ac ww h=>c_idxA (j:=ka) un30 ty29 (h.ev rfl) (h.ev rfl) hka (by omega)) rfl ?_
                    refine rg_q (fun ac ww h=>c_move (h.ev rfl)) rfl ?_
                    refine rg_q (fun ac ww h=>c_sliceAH (j:=am) un29 ty5 (h.ev rfl) (h.ev rfl) rfl (by omega)) rfl ?_
                    refine rg_q (fun ac ww h=>c_fld fl32_3 (h.ev rfl)) rfl ?_
                    refine rg_q (fun ac ww h=>c_move (h.ev rfl)) rfl ?_
                    refine rg_q (fun ac ww h=>c_sliceAH (j:=am) un28 ty5 (h.ev rfl) (h.ev rfl) rfl (by omega)) rfl ?_
                    refine rg_nil fun ac ww L' hf hfe hs=>?_
                    simp only [List.drop_succ_cons,List.drop_zero]
                    obtain rfl:L'=[]:=hfe
                    replace hs:=hs.toL (List.nil_append _)
                    refine s_copyAt (i:=3) (p:=o.w.b.take am) hs un38 ty5 rfl rfl rfl (rd_body14 (hs.seg (i:=0) rfl) hob2 (by omega)) (by rw [List.length_take,show o.w.b.length=64 from hob2]; omega) (by rw [hcl]; omega) rfl fun ac ww hs=>?_
                    rw [← hka2,tearW_cells _ o.w am] at hs
                    refine s_end ?_
                    replace hs:=hs.sub (F':=[(3,_),(5,_),(6,_),(7,_),(8,_),(11,_),(12,_),(13,_),(14,_),(28,_),(29,_),(30,_),(31,_),(32,_),(33,_),(34,_),(35,_),(36,_),(37,_),(38,_),(39,_),(40,_),(41,_),(42,_),(43,_),(44,_),(45,_),(46,_),(58,_),(59,_),(75,_),(76,_),(81,_),(82,_),(83,_),(84,_),(85,_),(86,_),(87,_),(88,_),(89,_),(91,_),(92,_),(93,_),(94,_),(95,_),(96,_),(97,_),(98,_),(99,_),(100,_),(106,_),(107,_),(108,_),(109,_),(110,_),(111,_),(112,_),(113,_),(114,_),(115,_),(116,_),(117,_)]) ⟨rfl,rfl,rfl,rfl,rfl,rfl,rfl,rfl,rfl,rfl,rfl,rfl,rfl,rfl,rfl,rfl,rfl,rfl,rfl,rfl,rfl,rfl,rfl,rfl,rfl,rfl,rfl,rfl,rfl,rfl,rfl,rfl,rfl,rfl,rfl,rfl,rfl,rfl,rfl,rfl,rfl,rfl,rfl,rfl,rfl,rfl,rfl,rfl,rfl,rfl,rfl,rfl,rfl,rfl,rfl,rfl,rfl,rfl,rfl,rfl,rfl,rfl,rfl,trivial⟩
                    refine blk_n (then_n (wp_reg ?_))
                    refine s_q hs (c_addI (hs.ev rfl) (hs.ev rfl) (by omega) (by omega)) rfl fun ac hs=>?_
                    refine s_q hs (c_move (hs.ev rfl)) rfl fun ac hs=>?_
                    refine s_end (then_n ?_)
                    replace hs:=hs.pick (L':=[_,_,_,_]) (.cons _ (.refl _))
                    rw [show _=crN s.xs s.q on am (j + 1) from hstep] at hs
                    exact ⟨lo.length - (j + 1),by omega,j + 1,⟨by omega,rfl⟩,St.next hs ⟨rfl,rfl,rfl,rfl,rfl,rfl,rfl,rfl,rfl,rfl,rfl,rfl,rfl,rfl,rfl,rfl,rfl,rfl,rfl,rfl,rfl,rfl,rfl,rfl,rfl,rfl,rfl,rfl,rfl,rfl,rfl,rfl,rfl,rfl,rfl,rfl,rfl,rfl,rfl,rfl,rfl,rfl,trivial⟩ rfl⟩
                  · try simp only [decide_eq_true_eq,decide_eq_false_iff_not,Bool.not_eq_true',Bool.not_eq_false',Bool.and_eq_true,Bool.or_eq_true,Bool.or_eq_false_iff] at hc
                    have hjm:¬ (j:Int)=max on 0:=hc
                    have hstep:crN s.xs s.q on am j=crN s.xs s.q on am (j + 1):=by
                      show _=crStep on am _ j _
                      rw [crStep,if_neg hjo,if_neg hjm]
                    refine wp_skip (blk_n (then_n (wp_reg ?_)))
                    refine s_q hs (c_addI (hs.ev rfl) (hs.ev rfl) (by omega) (by omega)) rfl fun ac hs=>?_
                    refine s_q hs (c_move (hs.ev rfl)) rfl fun ac hs=>?_
                    refine s_end (then_n ?_)
                    replace hs:=hs.pick (L':=[_,_,_,_]) (.cons _ (.refl _))
                    rw [show _=crN s.xs s.q on am (j + 1) from hstep] at hs
                    exact ⟨lo.length - (j + 1),by omega,j + 1,⟨by omega,rfl⟩,St.next hs ⟨rfl,rfl,rfl,rfl,rfl,rfl,rfl,rfl,rfl,rfl,rfl,rfl,rfl,rfl,rfl,rfl,rfl,rfl,rfl,rfl,rfl,rfl,rfl,rfl,rfl,rfl,rfl,rfl,rfl,rfl,rfl,rfl,rfl,rfl,rfl,rfl,rfl,rfl,rfl,rfl,rfl,rfl,trivial⟩ rfl⟩
              · try simp only [decide_eq_true_eq,decide_eq_false_iff_not,Bool.not_eq_true',Bool.not_eq_false',Bool.and_eq_true,Bool.or_eq_true,Bool.or_eq_false_iff] at hc
                obtain rfl:j=lo.length:=by omega
                rw [← hqk,crN_all (by omega),hqk] at hs
                refine wp_exit (then_e (then_e (blk_hit (then_n (wp_seq (wp_reg ?_))))))
                refine s_q hs (c_assign (hs.ev rfl)) rfl fun ac hs=>?_
                refine s_end ?_
                replace hs:=(hs.nilrow 32 67).pick (L':=[_,_,_]) (.cons_cons _ (.cons _ (.cons _ (.refl _))))
                have hI2:LO (k + 1) ⟨s.crash on am,qv',.slice none 0 0,[]⟩:=hI.fl (Sl.crash_ok hok _ _) rfl (by show s.steps≤_; omega) rfl
                have hcok:=Sl.crash_ok hok on am
                refine then_n (wp_seq (wp_reg ?_))
                refine s_q hs (c_move (hs.ev rfl)) rfl fun ac hs=>?_
                refine s_end (then_n (wp_block ?_))
                refine s_loop hs (X:=Nat) (fun j=>[(120,I j)]) [(3,_),(5,_),(6,_),(7,_),(8,_),(11,_),(12,_),(28,_),(29,_),(30,_),(31,_),(32,_),(33,_),(34,_),(35,_),(36,_),(37,_),(38,_),(39,_),(40,_),(41,_),(42,_),(43,_),(44,_),(45,_),(46,_),(58,_),(59,_),(75,_),(76,_),(81,_),(82,_),(83,_),(84,_),(85,_),(86,_),(87,_),(88,_),(89,_),(91,_),(92,_),(93,_),(94,_)] (fun j=>[.row (.slice none 0 0) (([]:List O14)).length ((([]:List O14)).flatMap O14.c) 32 67,.seg g5 (((s.crash on am).xs).map B) 30,Ent.grp (sl g sb (qv') (s.crash on am))]) (fun n j=>j≤5∧n=5 - j) (_) (0) (⟨Nat.zero_le _,rfl⟩) ⟨rfl,rfl,rfl,rfl,rfl,rfl,rfl,rfl,rfl,rfl,rfl,rfl,rfl,rfl,rfl,rfl,rfl,rfl,rfl,rfl,rfl,rfl,rfl,rfl,rfl,rfl,rfl,rfl,rfl,rfl,rfl,rfl,rfl,rfl,rfl,rfl,rfl,rfl,rfl,rfl,rfl,rfl,rfl,rfl,trivial⟩ rfl ?_
                rintro n j ac ww hok2 hs
                simp only [List.cons_append,List.nil_append] at hs
                obtain ⟨hj,rfl⟩:=hok2
                refine wp_seq (wp_reg ?_)
                refine s_q hs (c_lssI (hs.ev rfl) (hs.ev rfl)) rfl fun ac hs=>?_
                refine s_end (then_n (wp_seq ?_))
                refine s_cond hs rfl (fun hc=>?_) (fun hc=>?_)
                · try simp only [decide_eq_true_eq,decide_eq_false_iff_not,Bool.not_eq_true',Bool.not_eq_false',Bool.and_eq_true,Bool.or_eq_true,Bool.or_eq_false_iff] at hc
                  have hj5:j < 5:=by omega
                  have hjn:j < s.n:=by omega
                  have hsl:(sec (s.crash on am).xs j).length=64:=sec_len hcok.xl hjn
                  refine wp_skip (then_n (wp_seq (wp_block (wp_seq (wp_reg ?_)))))
                  refine s_q hs (c_move (hs.ev rfl)) rfl fun ac hs=>?_
                  refine s_q hs (c_assign (hs.ev rfl)) rfl fun ac hs=>?_
                  refine s_end (then_n (wp_seq (wp_reg ?_)))
                  refine s_q hs (c_move (hs.ev rfl)) rfl fun ac hs=>?_
                  refine s_q hs (c_move (hs.ev rfl)) rfl fun ac hs=>?_
                  refine s_call hs fu15 (.cons (hs.ev rfl) (.cons (hs.ev rfl) .nil)) (sl_Read g sb qv' (s.crash on am) j hcok _ (sl_get (hs.get (i:=2) rfl))) rfl fun ac ww v126 hf hp hs=>?_
                  rw [crash_read hjn] at hp
                  obtain rfl:=hp
                  replace hs:=hs [] (.nil _ _)
                  refine s_q hs (c_move (hs.ev rfl)) rfl fun ac hs=>?_
                  refine s_q hs (c_extract (hs.ev rfl) rfl) rfl fun ac hs=>?_
                  refine s_q hs (c_extract (hs.ev rfl) rfl) rfl fun ac hs=>?_
                  refine s_alloc hs ty29 rfl fun ac ww g16 hs=>?_
                  refine s_storeW (i:=0) hs ty29 rfl rfl rfl (by simp [hsl]) (all64 _) (by rfl) fun ww hs=>?_
                  refine s_q hs (c_assign (hs.ev rfl)) rfl fun ac hs=>?_
                  refine s_end (then_n (wp_seq ?_))
                  refine wp_region_rg pmix 9 (by kernel_rfl) rfl hs ?_
                  simp only [List.take_succ_cons,List.take_zero]
                  refine rg_q (fun ac ww h=>c_move (h.ev rfl)) rfl ?_
                  refine rg_q (fun ac ww h=>c_neqI (h.ev rfl) (h.ev rfl)) rfl ?_
                  refine rg_q (fun ac ww h=>c_move (h.ev rfl)) rfl ?_
                  refine rg_yes rfl rfl (fun ac ww h=>c_loadW ty29 rfl (h.ev rfl) (h.blk (hs.seg (i:=0) rfl)) (by simp [hsl])) rfl ?_
                  refine rg_yes rfl rfl (fun ac ww h=>c_move (h.ev rfl)) rfl ?_
                  refine rg_yes rfl rfl (fun ac ww h=>c_idxA (j:=j) un30 ty29 (h.ev rfl) (h.ev rfl) (by omega) (by omega)) rfl ?_
                  refine rg_yes rfl rfl (fun ac ww h=>c_loadA ty29 rfl (h.ev rfl) (h.blk (hs.seg (i:=2) rfl)) sec_cells (by simp [hsl])) rfl ?_
                  refine rg_yes rfl rfl (fun ac ww h=>c_ff (c_neqAB un29 ty5 eg29 (h.ev rfl) (h.ev rfl) hsl hsl) ((by simp))) rfl ?_
                  refine rg_q (fun ac ww h=>c_pick (h.ev rfl) (h.ev rfl) (h.ev rfl)) rfl ?_
                  refine rg_nil fun ac ww L' hf hfe hs=>?_
                  simp only [List.drop_succ_cons,List.drop_zero]
                  obtain rfl:L'=[]:=hfe
                  replace hs:=hs.toL (List.nil_append _)
                  refine s_end (then_n ?_)
                  refine wp_cond_false (hs.ev rfl) ?_
                  refine wp_skip (blk_n (then_n (wp_reg ?_)))
                  refine s_q hs (c_addI (hs.ev rfl) (hs.ev rfl) (by omega) (by omega)) rfl fun ac hs=>?_
                  refine s_q hs (c_move (hs.ev rfl)) rfl fun ac hs=>?_
                  refine s_end (then_n ?_)
                  replace hs:=hs.pick (L':=[_,_,_]) (.cons _ (.refl _))
                  exact ⟨5 - (j + 1),by omega,j + 1,⟨by omega,rfl⟩,St.next hs ⟨rfl,rfl,rfl,rfl,rfl,rfl,rfl,rfl,rfl,rfl,rfl,rfl,rfl,rfl,rfl,rfl,rfl,rfl,rfl,rfl,rfl,rfl,rfl,rfl,rfl,rfl,rfl,rfl,rfl,rfl,rfl,rfl,rfl,rfl,rfl,rfl,rfl,rfl,rfl,rfl,rfl,rfl,rfl,rfl,trivial⟩ rfl⟩
                · try simp only [decide_eq_true_eq,decide_eq_false_iff_not,Bool.not_eq_true',Bool.not_eq_false',Bool.and_eq_true,Bool.or_eq_true,Bool.or_eq_false_iff] at hc
                  skip
                  refine wp_exit (then_e (then_e (blk_hit (blk_n (blk_n (then_n (wp_reg ?_)))))))
                  refine s_q hs (c_addI (hs.ev rfl) (hs.ev rfl) (by omega) (by omega)) rfl fun ac hs=>?_
                  refine s_q hs (c_move (hs.ev rfl)) rfl fun ac hs=>?_
                  refine s_end (then_n ?_)
                  exact ⟨ops.length - (k + 1),by omega,(k + 1,_),⟨by show k + 1≤_; omega,by show k + 1≤_; omega,hI2,rfl⟩,St.next hs ⟨rfl,rfl,rfl,rfl,rfl,rfl,trivial⟩ rfl⟩
            · try simp only [decide_eq_true_eq,decide_eq_false_iff_not,Bool.not_eq_true',Bool.not_eq_false',Bool.and_eq_true,Bool.or_eq_true,Bool.or_eq_false_iff] at hc
              have hI2:LO (k + 1) ⟨s,qv,.slice lad lo.length lcap,lo⟩:=hI.to hok rfl (by omega) rfl
              replace hs:=hs.pick (L':=[_,_,_]) (.cons _ (.refl _))
              refine wp_skip (blk_n (blk_n (then_n (wp_reg ?_))))
              refine s_q hs (c_addI (hs.ev rfl) (hs.ev rfl) (by omega) (by omega)) rfl fun ac hs=>?_
              refine s_q hs (c_move (hs.ev rfl)) rfl fun ac hs=>?_
              refine s_end (then_n ?_)
              exact ⟨ops.length - (k + 1),by omega,(k + 1,_),⟨by show k + 1≤_; omega,by show k + 1≤_; omega,hI2,rfl⟩,St.next hs ⟨rfl,rfl,rfl,rfl,rfl,rfl,trivial⟩ rfl⟩
  · try simp only [decide_eq_true_eq,decide_eq_false_iff_not,Bool.not_eq_true',Bool.not_eq_false',Bool.and_eq_true,Bool.or_eq_true,Bool.or_eq_false_iff] at hc
    skip
    refine wp_exit (then_e (then_e (blk_hit (then_n (wp_seq (wp_reg ?_))))))
    refine s_q hs (c_assign (hs.ev rfl)) rfl fun ac hs=>?_
    refine s_end ?_
    replace hs:=hs.sub (F':=[(2,_)]) ⟨rfl,trivial⟩
    refine then_n (wp_ret ?_)
    refine s_ret hs rfl (.tmp (hs.tmp rfl) .nil) rfl ⟨_,rfl,hs.fr,?_⟩
    rfl
end Go.Proofs.Ytkecdcmjkghddaa
end
