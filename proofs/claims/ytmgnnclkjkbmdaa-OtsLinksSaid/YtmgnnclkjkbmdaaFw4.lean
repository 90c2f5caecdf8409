/- The operations that touch memory, one law each; conversions. -/
import Derived.Test.YtmgnnclkjkbmdaaFw3
import Derived.Laws.AppendOwnNone
set_option linter.unusedSimpArgs false
set_option linter.unusedVariables false
namespace Go.Fw
open Go

def i8 (n : Int) : UInt8 := UInt8.ofNat (n % 256).toNat
def i32 (n : Int) : UInt32 := UInt32.ofNat (n % 4294967296).toNat
def i64 (n : Int) : UInt64 := UInt64.ofNat (n % 18446744073709551616).toNat
theorem i8_toNat (n : Int) : ((i8 n).toNat : Int) = n % 256 := by
  unfold i8; rw [UInt8.toNat_ofNat']; omega
theorem i32_toNat (n : Int) : ((i32 n).toNat : Int) = n % 4294967296 := by
  unfold i32; rw [UInt32.toNat_ofNat']; omega
theorem i64_toNat (n : Int) : ((i64 n).toNat : Int) = n % 18446744073709551616 := by
  unfold i64; rw [UInt64.toNat_ofNat']; omega

/-- Operands and their values. -/
inductive Evs (a : Act) : List Operand → List Value → Prop
  | nil : Evs a [] []
  | cons {x : Operand} {v : Value} {xs : List Operand} {vs : List Value} (h : a.eval x = v) (t : Evs a xs vs) : Evs a (x :: xs) (v :: vs)

theorem Evs.map {a : Act} {xs : List Operand} {vs : List Value} (h : Evs a xs vs) : xs.map a.eval = vs := by
  induction h with
  | nil => rfl
  | cons h _ ih => simp [h, ih]

/-- The parts of a literal in their order. -/
inductive Evp (a : Act) : Nat → List (Nat × Operand) → List Value → Prop
  | nil {k : Nat} : Evp a k [] []
  | cons {k : Nat} {x : Operand} {v : Value} {xs : List (Nat × Operand)} {vs : List Value} (h : a.eval x = v) (t : Evp a (k + 1) xs vs) : Evp a k ((k, x) :: xs) (v :: vs)

def pairsFrom : Nat → List Value → List (Nat × Value)
  | _, [] => []
  | k, v :: t => (k, v) :: pairsFrom (k + 1) t

theorem Evp.map {a : Act} {k : Nat} {xs : List (Nat × Operand)} {vs : List Value} (h : Evp a k xs vs) : (xs.map fun p => (p.1, a.eval p.2)) = pairsFrom k vs := by
  induction h with
  | nil => rfl
  | cons h _ ih => simp [h, ih, pairsFrom]

def flatCells (vs : List Value) : List Value := vs.flatMap (·.cells.toList)

theorem foldl_set_cells (off : Nat) : ∀ (c : List Value) (j : Nat) (cur : List Value), off + j + c.length ≤ cur.length →
    (c.zipIdx j).foldl (fun (cs : List Value) p => cs.set (off + p.2) p.1) cur = cur.take (off + j) ++ c ++ cur.drop (off + j + c.length)
  | [], j, cur, h => by simp
  | v :: t, j, cur, h => by
    simp only [List.length_cons] at h
    simp only [List.zipIdx_cons, List.foldl_cons]
    rw [foldl_set_cells off t (j + 1) _ (by simp; omega)]
    have h1 : (cur.set (off + j) v).take (off + (j + 1)) = cur.take (off + j) ++ [v] := by
      rw [← Nat.add_assoc, List.take_succ_eq_append_getElem (by simp; omega)]
      simp [List.take_set_of_le]
    have h2 : (cur.set (off + j) v).drop (off + (j + 1) + t.length) = cur.drop (off + j + (t.length + 1)) := by
      rw [List.drop_set_of_lt (by omega)]
      congr 1
      omega
    rw [h1, h2]
    simp [Nat.add_assoc]

theorem array_foldl_set (off : Nat) (v : Array Value) (cur : Array Value) (h : off + v.size ≤ cur.size) :
    v.zipIdx.foldl (fun (cs : Array Value) (p : Value × Nat) => cs.setIfInBounds (off + p.2) p.1) cur = (cur.toList.take off ++ v.toList ++ cur.toList.drop (off + v.size)).toArray := by
  have e : ∀ (l : List (Value × Nat)) (c : Array Value), (l.foldl (fun (cs : Array Value) (p : Value × Nat) => cs.setIfInBounds (off + p.2) p.1) c).toList = l.foldl (fun (cs : List Value) p => cs.set (off + p.2) p.1) c.toList := by
    intro l
    induction l with
    | nil => intro c; rfl
    | cons x t ih => intro c; simp only [List.foldl_cons]; rw [ih]; simp
  rw [← Array.foldl_toList]
  apply Array.ext'
  rw [e, Array.toList_zipIdx, foldl_set_cells off v.toList 0 cur.toList (by simpa using h)]
  simp

theorem fill_row (s : Nat) : ∀ (vs : List Value) (k : Nat) (done zeros : List Value), (∀ v ∈ vs, v.cells.size = s) → done.length = k * s → zeros.length = vs.length * s →
    Instr.fill (fun i => some (i * s, s)) (done ++ zeros).toArray (pairsFrom k vs) = some (done ++ flatCells vs).toArray
  | [], k, done, zeros, _, _, hz => by
    have : zeros = [] := List.eq_nil_of_length_eq_zero (by simpa using hz)
    subst this
    simp [Instr.fill, pairsFrom, flatCells]
  | v :: t, k, done, zeros, hv, hd, hz => by
    have h1 : v.cells.size = s := hv v (by simp)
    have hlen : zeros.length = t.length * s + s := by rw [hz, List.length_cons, Nat.succ_mul]
    have hfit : k * s + v.cells.size ≤ (done ++ zeros).length := by simp [hd, h1]; omega
    have step := array_foldl_set (k * s) v.cells (done ++ zeros).toArray (by simpa using hfit)
    have e1 : ((done ++ zeros).toArray.toList.take (k * s) ++ v.cells.toList ++ (done ++ zeros).toArray.toList.drop (k * s + v.cells.size)) = (done ++ v.cells.toList) ++ zeros.drop s := by
      simp [← hd, h1]
    have ih := fill_row s t (k + 1) (done ++ v.cells.toList) (zeros.drop s) (fun u hu => hv u (by simp [hu])) (by simp [hd, h1, Nat.succ_mul]) (by simp [hlen])
    have hn : ¬ (v.cells.size ≠ s ∨ k * s + v.cells.size > (done ++ zeros).toArray.size) := by
      simp only [List.size_toArray]
      intro h
      rcases h with h | h
      · exact h h1
      · omega
    simp only [pairsFrom, Instr.fill]
    rw [if_neg (by simpa using hn), step, e1, ih]
    simp [flatCells]

section
variable {P : Program} {a : Act} {w : World} {d : Option Tmp} {ty : TypeId} {pos : String} {aft : Array Edge} {g : Option (Nat × Bool)} {x y z : Operand} {t u : TypeId}

/-! conversions -/
theorem c_conv {k k' : IntKind} {n : Int} {ds : TypeDesc} (hs : P.underlying t = some ds) (hd : P.underlying u = some (.int k)) (hx : a.eval x = .int k' n) :
    (execOp a.eval ⟨d, .convert t u x, ty, pos, aft, g⟩).run P w = .ok (.value (.int k (k.wrap n))) w := by
  simp [execOp, hx, convert, run_underlying hs, run_underlying hd, Conv.intToInt]
section
variable {ds : TypeDesc} (hs : P.underlying t = some ds)
include hs
theorem c_cvBU {b : UInt8} (hd : P.underlying u = some (.int .u32)) (hx : a.eval x = B b) : (execOp a.eval ⟨d, .convert t u x, ty, pos, aft, g⟩).run P w = .ok (.value (U b.toUInt32)) w := by
  have := b.toNat_lt
  rw [c_conv hs hd hx, wrapU]; simp; omega
theorem c_cvBB {b : UInt8} (hd : P.underlying u = some (.int .u8)) (hx : a.eval x = B b) : (execOp a.eval ⟨d, .convert t u x, ty, pos, aft, g⟩).run P w = .ok (.value (B b)) w := by
  have := b.toNat_lt
  rw [c_conv hs hd hx, wrapB]; simp; omega
theorem c_cvBI {b : UInt8} (hd : P.underlying u = some (.int .i64)) (hx : a.eval x = B b) : (execOp a.eval ⟨d, .convert t u x, ty, pos, aft, g⟩).run P w = .ok (.value (I b.toNat)) w := by
  have := b.toNat_lt
  rw [c_conv hs hd hx, wrap64_in (by omega) (by omega)]
theorem c_cvUB {b : UInt32} (hd : P.underlying u = some (.int .u8)) (hx : a.eval x = U b) : (execOp a.eval ⟨d, .convert t u x, ty, pos, aft, g⟩).run P w = .ok (.value (B b.toUInt8)) w := by
  rw [c_conv hs hd hx, wrapB]; simp
theorem c_cvUV {b : UInt32} (hd : P.underlying u = some (.int .u64)) (hx : a.eval x = U b) : (execOp a.eval ⟨d, .convert t u x, ty, pos, aft, g⟩).run P w = .ok (.value (V b.toUInt64)) w := by
  have := b.toNat_lt
  rw [c_conv hs hd hx, wrapV]; simp; omega
theorem c_cvUI {b : UInt32} (hd : P.underlying u = some (.int .i64)) (hx : a.eval x = U b) : (execOp a.eval ⟨d, .convert t u x, ty, pos, aft, g⟩).run P w = .ok (.value (I b.toNat)) w := by
  have := b.toNat_lt
  rw [c_conv hs hd hx, wrap64_in (by omega) (by omega)]
theorem c_cvVB {b : UInt64} (hd : P.underlying u = some (.int .u8)) (hx : a.eval x = V b) : (execOp a.eval ⟨d, .convert t u x, ty, pos, aft, g⟩).run P w = .ok (.value (B b.toUInt8)) w := by
  rw [c_conv hs hd hx, wrapB]; simp
theorem c_cvIB {n : Int} (hd : P.underlying u = some (.int .u8)) (hx : a.eval x = I n) : (execOp a.eval ⟨d, .convert t u x, ty, pos, aft, g⟩).run P w = .ok (.value (B (i8 n))) w := by
  rw [c_conv hs hd hx, wrapB, ← i8_toNat]
theorem c_cvIU {n : Int} (hd : P.underlying u = some (.int .u32)) (hx : a.eval x = I n) : (execOp a.eval ⟨d, .convert t u x, ty, pos, aft, g⟩).run P w = .ok (.value (U (i32 n))) w := by
  rw [c_conv hs hd hx, wrapU, ← i32_toNat]
theorem c_cvIV {n : Int} (hd : P.underlying u = some (.int .u64)) (hx : a.eval x = I n) : (execOp a.eval ⟨d, .convert t u x, ty, pos, aft, g⟩).run P w = .ok (.value (V (i64 n))) w := by
  rw [c_conv hs hd hx, wrapV, ← i64_toNat]
end

/-! memory -/
theorem Ty.zero {T : TypeId} {td : TypeDesc} {sz bytes : Nat} {z : List Value} (h : Ty P T td sz bytes z) : ∃ v, (zeroValue T).run P w = .ok v w ∧ v.cells = z.toArray := by
  obtain ⟨i, hi, h1, h2, v, hv, hz⟩ := h.info
  exact ⟨v, by simp [zeroValue, typeInfo, hi, hv], hz⟩
theorem Ty.size {T : TypeId} {td : TypeDesc} {sz bytes : Nat} {z : List Value} (h : Ty P T td sz bytes z) : (sizeOf T).run P w = .ok sz w := by
  obtain ⟨i, hi, h1, h2, v, hv, hz⟩ := h.info
  simp [sizeOf, typeInfo, hi, h1]

theorem c_alloc {td : TypeDesc} {sz bytes : Nat} {z : List Value} (hT : Ty P t td sz bytes z) :
    (execOp a.eval ⟨d, .alloc t, ty, pos, aft, g⟩).run P w = .ok (.value (.pointer (some ⟨w.heap.size, 0, none⟩))) (w.alloc (.cells z.toArray t)) := by
  obtain ⟨v, hv, hz⟩ := hT.zero (w := w)
  simp [execOp, Instr.alloc, hv, newVar, newRow, hz]
theorem c_box {v : Value} (hx : a.eval x = v) :
    (execOp a.eval ⟨d, .box t x, ty, pos, aft, g⟩).run P w = .ok (.value (.pointer (some ⟨w.heap.size, 0, none⟩))) (w.alloc (.cells v.cells t)) := by
  simp [execOp, Instr.box, hx, newVar, newRow]

theorem cell_of {w : World} {gb o : Nat} {cs : Array Value} {T : TypeId} {fr : Nat × Nat} (h : w.heap[gb]? = some (.cells cs T fr)) : w.cell? ⟨gb, o, none⟩ = cs[o]? := by
  simp [World.cell?, h]

theorem run_loadS {T T' : TypeId} {td : TypeDesc} {gb o : Nat} {cs : Array Value} {fr : Nat × Nat} {v : Value} (hu : P.underlying T = some td) (hd : aggD td = false)
    (hc : w.heap[gb]? = some (.cells cs T' fr)) (hv : cs.toList[o]? = some v) : (loadVar T ⟨gb, o, none⟩).run P w = .ok v w := by
  have hagg : (isAgg T).run P w = .ok false w := by
    unfold isAgg
    rw [Sem.run_bind, run_underlying hu w]
    cases td <;> simp_all [aggD]
  have hv' : cs[o]? = some v := by simpa using hv
  simp [loadVar, Sem.run_bind, hagg, cell_of hc, hv']
theorem run_loadA {T T' : TypeId} {td : TypeDesc} {sz bytes : Nat} {z : List Value} {gb o : Nat} {cs : Array Value} {fr : Nat × Nat} {c : List Value} (hT : Ty P T td sz bytes z) (hd : aggD td = true)
    (hc : w.heap[gb]? = some (.cells cs T' fr)) (hv : (cs.toList.drop o).take sz = c) (hl : c.length = sz) : (loadVar T ⟨gb, o, none⟩).run P w = .ok (.agg c.toArray) w := by
  have hagg : (isAgg T).run P w = .ok true w := by
    unfold isAgg
    rw [Sem.run_bind, run_underlying hT.und w]
    cases td <;> simp_all [aggD]
  have hl2 := run_loadCells_list (P := P) w ⟨gb, o, none⟩ c (fun j v hj => by
    have e : (⟨gb, o, none⟩ : Addr).add j = ⟨gb, o + j, none⟩ := by unfold Addr.add; split <;> simp_all
    rw [e, cell_of hc]
    have hlt : j < sz := by rw [← hl]; exact (List.getElem?_eq_some_iff.1 hj).1
    rw [← hv, List.getElem?_take_of_lt hlt, List.getElem?_drop] at hj
    simpa using hj)
  rw [hl] at hl2
  simp [loadVar, Sem.run_bind, hagg, hT.size, hl2]
/-- A load of one cell. -/
theorem c_loadS {T' : TypeId} {td : TypeDesc} {gb o : Nat} {cs : Array Value} {fr : Nat × Nat} {v : Value} (hu : P.underlying t = some td) (hd : aggD td = false) (hx : a.eval x = .pointer (some ⟨gb, o, none⟩))
    (hc : w.heap[gb]? = some (.cells cs T' fr)) (hv : cs.toList[o]? = some v) : (execOp a.eval ⟨d, .load t x, ty, pos, aft, g⟩).run P w = .ok (.value v) w := by
  simp [execOp, Instr.loadAt, Instr.sureAddr, hx, run_loadS hu hd hc hv]
/-- A load of a struct or an array out of a row. -/
theorem c_loadA {T' : TypeId} {td : TypeDesc} {sz bytes : Nat} {z : List Value} {gb o : Nat} {cs : Array Value} {fr : Nat × Nat} {c : List Value} (hT : Ty P t td sz bytes z) (hd : aggD td = true) (hx : a.eval x = .pointer (some ⟨gb, o, none⟩))
    (hc : w.heap[gb]? = some (.cells cs T' fr)) (hv : (cs.toList.drop o).take sz = c) (hl : c.length = sz) : (execOp a.eval ⟨d, .load t x, ty, pos, aft, g⟩).run P w = .ok (.value (.agg c.toArray)) w := by
  simp [execOp, Instr.loadAt, Instr.sureAddr, hx, run_loadA hT hd hc hv hl]
/-- A load of a whole variable. -/
theorem c_loadW {T' : TypeId} {td : TypeDesc} {sz bytes : Nat} {z : List Value} {gb : Nat} {c : List Value} {fr : Nat × Nat} (hT : Ty P t td sz bytes z) (hd : aggD td = true) (hx : a.eval x = .pointer (some ⟨gb, 0, none⟩))
    (hc : w.heap[gb]? = some (.cells c.toArray T' fr)) (hl : c.length = sz) : (execOp a.eval ⟨d, .load t x, ty, pos, aft, g⟩).run P w = .ok (.value (.agg c.toArray)) w :=
  c_loadA hT hd hx hc (by simp [← hl]) hl
theorem c_store {T' : TypeId} {td : TypeDesc} {sz bytes : Nat} {z : List Value} {gb o : Nat} {cs : List Value} {v : Value} {c : List Value} (hT : Ty P t td sz bytes z) (hx : a.eval x = .pointer (some ⟨gb, o, none⟩)) (hy : a.eval y = v)
    (hv : v.cells.toList = c) (hl : c.length = sz) (h1 : c.all (·.oneCell') = true)
    (hc : w.heap[gb]? = some (.cells cs.toArray T' (0, 0))) (hfit : o + sz ≤ cs.length) :
    (execOp a.eval ⟨d, .store t x y, ty, pos, aft, g⟩).run P w = .ok .skip (w.setRow gb (cs.take o ++ c ++ cs.drop (o + sz)).toArray) := by
  have hst := run_storeCells_at P gb o T' c 0 cs.toArray w hc (by simpa [hl] using hfit) (fun v hv => List.all_eq_true.1 h1 v hv)
  have hs : v.cells.size = sz := by rw [← hl, ← hv]; simp
  simp only [Nat.add_zero, hl] at hst
  simp [execOp, Instr.storeAt, Instr.sureAddr, hx, hy, storeVar, hT.size, hs, hv, hst]

theorem add_lit {gb o n : Nat} : (⟨gb, o, none⟩ : Addr).add n = ⟨gb, o + n, none⟩ := by unfold Addr.add; split <;> simp_all

theorem c_idxA {n : Nat} {E : TypeId} {s bytes : Nat} {ed : TypeDesc} {z : List Value} {gb o j : Nat} {k : IntKind} {i : Int} (hu : P.underlying t = some (.array n E)) (hE : Ty P E ed s bytes z)
    (hx : a.eval x = .pointer (some ⟨gb, o, none⟩)) (hy : a.eval y = .int k i) (hj : i = (j : Int)) (hlt : j < n) :
    (execOp a.eval ⟨d, .indexAddr t x y, ty, pos, aft, g⟩).run P w = .ok (.value (.pointer (some ⟨gb, o + j * s, none⟩))) w := by
  subst hj
  have h1 : (j : Int) < (n : Int) := by omega
  simp [execOp, Instr.indexAt, hx, hy, asIntOf, run_underlying hu, Instr.sureAddr, hE.size, hlt, add_lit]
theorem c_idxS {E : TypeId} {s bytes : Nat} {ed : TypeDesc} {z : List Value} {gb o j len cap : Nat} {k : IntKind} {i : Int} (hu : P.underlying t = some (.slice E)) (hE : Ty P E ed s bytes z)
    (hx : a.eval x = .slice (some ⟨gb, o, none⟩) len cap) (hy : a.eval y = .int k i) (hj : i = (j : Int)) (hlt : j < len) :
    (execOp a.eval ⟨d, .indexAddr t x y, ty, pos, aft, g⟩).run P w = .ok (.value (.pointer (some ⟨gb, o + j * s, none⟩))) w := by
  subst hj
  simp [execOp, Instr.indexAt, hx, hy, asIntOf, run_underlying hu, hE.size, hlt, add_lit]
/-- Where a field lies. -/
def Fld (P : Program) (S : TypeId) (f off : Nat) : Prop := ∃ fs fl i, P.underlying S = some (.struct fs) ∧ fs[f]? = some fl ∧ fl.offset = off ∧ P.info? fl.type = some i ∧ i.size ≠ 0
theorem c_fld {f off gb o : Nat} (hF : Fld P t f off) (hx : a.eval x = .pointer (some ⟨gb, o, none⟩)) :
    (execOp a.eval ⟨d, .fieldAddr t x f, ty, pos, aft, g⟩).run P w = .ok (.value (.pointer (some ⟨gb, o + off, none⟩))) w := by
  obtain ⟨fs, fl, i, h1, h2, rfl, h4, h5⟩ := hF
  simp [execOp, Instr.fieldAt, hx, run_underlying h1, h2, Instr.sureAddr, fieldPlace, sizeOf, typeInfo, h4, h5, add_lit]
/-- 'arr[:]' -/
theorem c_sliceA {n : Nat} {E : TypeId} {s bytes : Nat} {ed : TypeDesc} {z : List Value} {gb o : Nat} (hu : P.underlying t = some (.array n E)) (hE : Ty P E ed s bytes z) (hx : a.eval x = .pointer (some ⟨gb, o, none⟩)) :
    (execOp a.eval ⟨d, .slice t x none none none, ty, pos, aft, g⟩).run P w = .ok (.value (.slice (some ⟨gb, o, none⟩) n n)) w := by
  simp [execOp, Instr.sliceAt, hx, run_underlying hu, Instr.sureAddr, Instr.sliceBounds, hE.size, add_lit]
/-- 's[lo:hi]' -/
theorem c_sliceS {z' : Operand} {E : TypeId} {s bytes : Nat} {ed : TypeDesc} {z : List Value} {ad : Option Addr} {len cap i j : Nat} {k k' : IntKind} {m n : Int} (hu : P.underlying t = some (.slice E)) (hE : Ty P E ed s bytes z)
    (hx : a.eval x = .slice ad len cap) (hy : a.eval y = .int k m) (hz : a.eval z' = .int k' n) (hm : m = (i : Int)) (hn : n = (j : Int)) (hij : i ≤ j) (hj : j ≤ cap) :
    (execOp a.eval ⟨d, .slice t x (some y) (some z') none, ty, pos, aft, g⟩).run P w = .ok (.value (.slice (if cap = i then ad else ad.map (·.add (i * s))) (j - i) (cap - i))) w := by
  subst hm; subst hn
  simp [execOp, Instr.sliceAt, Instr.slice, hx, hy, hz, run_underlying hu, Instr.sliceBounds, Instr.sliceBound, asIntOf, hE.size, hij, hj]
theorem c_sliceL {E : TypeId} {s bytes : Nat} {ed : TypeDesc} {z : List Value} {ad : Option Addr} {len cap i : Nat} {k : IntKind} {m : Int} (hu : P.underlying t = some (.slice E)) (hE : Ty P E ed s bytes z)
    (hx : a.eval x = .slice ad len cap) (hy : a.eval y = .int k m) (hm : m = (i : Int)) (hi : i ≤ len) :
    (execOp a.eval ⟨d, .slice t x (some y) none none, ty, pos, aft, g⟩).run P w = .ok (.value (.slice (if cap = i then ad else ad.map (·.add (i * s))) (len - i) (cap - i))) w := by
  subst hm
  simp [execOp, Instr.sliceAt, Instr.slice, hx, hy, run_underlying hu, Instr.sliceBounds, Instr.sliceBound, asIntOf, hE.size, hi]
theorem c_sliceH {E : TypeId} {s bytes : Nat} {ed : TypeDesc} {z : List Value} {ad : Option Addr} {len cap j : Nat} {k : IntKind} {n : Int} (hu : P.underlying t = some (.slice E)) (hE : Ty P E ed s bytes z)
    (hx : a.eval x = .slice ad len cap) (hz : a.eval y = .int k n) (hn : n = (j : Int)) (hj : j ≤ cap) :
    (execOp a.eval ⟨d, .slice t x none (some y) none, ty, pos, aft, g⟩).run P w = .ok (.value (.slice (if cap = 0 then ad else ad.map (·.add 0)) j cap)) w := by
  subst hn
  simp [execOp, Instr.sliceAt, Instr.slice, hx, hz, run_underlying hu, Instr.sliceBounds, Instr.sliceBound, asIntOf, hE.size, hj]
theorem c_lenS {T E : TypeId} {ad : Option Addr} {len cap : Nat} (hu : P.underlying T = some (.slice E)) (hx : a.eval x = .slice ad len cap) :
    (execOp a.eval ⟨d, .call { callee := .builtin .len, args := #[x], argTypes := #[T] }, ty, pos, aft, g⟩).run P w = .ok (.value (I len)) w := by
  simp [execOp, resolve, invoke, builtin, hx, Builtin.len_, run_underlying hu, goInt]
theorem c_lenT {T : TypeId} {s : ByteArray} (hu : P.underlying T = some .string) (hx : a.eval x = .string s) :
    (execOp a.eval ⟨d, .call { callee := .builtin .len, args := #[x], argTypes := #[T] }, ty, pos, aft, g⟩).run P w = .ok (.value (I s.size)) w := by
  simp [execOp, resolve, invoke, builtin, hx, Builtin.len_, run_underlying hu, goInt]
theorem c_max {i j : Int} {ts : Array TypeId} (hx : a.eval x = I i) (hy : a.eval y = I j) :
    (execOp a.eval ⟨d, .call { callee := .builtin .max, args := #[x, y], argTypes := ts }, ty, pos, aft, g⟩).run P w = .ok (.value (I (max i j))) w := by
  have e : (if i < j then j else i) = max i j := by rw [Int.max_def]; split <;> split <;> omega
  simp [execOp, resolve, invoke, builtin, hx, hy, Builtin.max_, Builtin.max2, e]
theorem c_min {i j : Int} {ts : Array TypeId} (hx : a.eval x = I i) (hy : a.eval y = I j) :
    (execOp a.eval ⟨d, .call { callee := .builtin .min, args := #[x, y], argTypes := ts }, ty, pos, aft, g⟩).run P w = .ok (.value (I (min i j))) w := by
  have e : (if j < i then j else i) = min i j := by rw [Int.min_def]; split <;> split <;> omega
  simp [execOp, resolve, invoke, builtin, hx, hy, Builtin.min_, Builtin.min2, e]
theorem c_idxS1 {n : Nat} {E : TypeId} {ed : TypeDesc} {bytes : Nat} {z : List Value} {cs : Array Value} {v : Value} {j : Nat} {k : IntKind} {i : Int} (hu : P.underlying t = some (.array n E)) (hE : Ty P E ed 1 bytes z) (hd : aggD ed = false)
    (hx : a.eval x = .agg cs) (hy : a.eval y = .int k i) (hj : i = (j : Int)) (hlt : j < n) (hv : cs[j]? = some v) :
    (execOp a.eval ⟨d, .index t x y, ty, pos, aft, g⟩).run P w = .ok (.value v) w := by
  subst hj
  have hagg : (isAgg E).run P w = .ok false w := by
    unfold isAgg
    rw [Sem.run_bind, run_underlying hE.und w]
    cases ed <;> simp_all [aggD]
  simp [execOp, Instr.index, hx, hy, asIntOf, run_underlying hu, hlt, hE.size, part, hagg, hv]
theorem c_idxT {s : ByteArray} {j : Nat} {k : IntKind} {i : Int} (hu : P.underlying t = some .string)
    (hx : a.eval x = .string s) (hy : a.eval y = .int k i) (hj : i = (j : Int)) (hlt : j < s.size) :
    (execOp a.eval ⟨d, .index t x y, ty, pos, aft, g⟩).run P w = .ok (.value (B (s.data.toList.getD j 0))) w := by
  subst hj
  have hlt' : j < s.data.size := hlt
  have e2 : s.data[j]?.getD 0 = s.data[j]'hlt' := by rw [Array.getElem?_eq_getElem hlt']; rfl
  have e : s[j]? = some (s.data[j]'hlt') := by
    rw [getElem?_pos s j hlt]
    rfl
  simp [execOp, Instr.index, hx, hy, asIntOf, run_underlying hu, e, e2]
theorem c_bslice {E : TypeId} {ed : TypeDesc} {s bytes n : Nat} {z : List Value} {ps : Array (Nat × Operand)} {vs : List Value} (hu : P.underlying t = some (.slice E)) (hE : Ty P E ed s bytes z)
    (hps : Evp a 0 ps.toList vs) (hn : vs.length = n) (hv : ∀ v ∈ vs, v.cells.size = s) (hsmall : n * s ≤ 16777216) :
    (execOp a.eval ⟨d, .buildSlice t n ps, ty, pos, aft, g⟩).run P w = .ok (.value (.slice (some ⟨w.heap.size, 0, none⟩) n n)) (w.alloc (.cells (flatCells vs).toArray E)) := by
  have hm : (ps.map fun p => (p.1, a.eval p.2)).toList = pairsFrom 0 vs := by rw [← hps.map]; simp
  obtain ⟨v, hz, hzc⟩ := hE.zero (w := w)
  have hf := fill_row s vs 0 [] ((Array.range (n * s)).map (v.cells[· % v.cells.size]!)).toList hv (by simp) (by simp [hn])
  have hf0 : n * s = 0 → Instr.fill (fun i => some (i * s, s)) #[] (pairsFrom 0 vs) = some (flatCells vs).toArray := fun h0 => by
    have := fill_row s vs 0 [] [] hv (by simp) (by simp [hn, h0])
    simpa using this
  simp only [List.nil_append, Array.toArray_toList] at hf
  have hn2 : ¬ (16777216 < n * s) := by omega
  by_cases h0 : n * s = 0
  · have h := hf0 h0
    simp [execOp, Instr.buildSlice, run_underlying hu, hE.size, hn2, h0, hps.map, newRow, h, Array.range_zero']
  · simp [execOp, Instr.buildSlice, run_underlying hu, hE.size, hn2, h0, hz, hps.map, newRow, hf]
end
end Go.Fw
