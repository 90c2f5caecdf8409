/- The operations, one law each: what an operation comes to, its operands' values given. -/
import Derived.Test.YtmgnnclkjkbmdaaFw1
namespace Go.Fw
open Go

abbrev I (n : Int) : Value := .int .i64 n
abbrev B (b : UInt8) : Value := .int .u8 (b.toNat : Int)
abbrev U (x : UInt32) : Value := .int .u32 (x.toNat : Int)
abbrev V (x : UInt64) : Value := .int .u64 (x.toNat : Int)

/-- A function that the program has, with a body. -/
def Fun (P : Program) (f : FuncId) : Prop := ∃ fn, P.funcs[f]? = some fn ∧ (fn.name == "runtime.NumGoroutine") = false ∧ fn.body.isNone = false

def aggD : TypeDesc → Bool
  | .struct _ | .array _ _ => true
  | _ => false

/-- A row of the program's table of types. -/
structure Ty (P : Program) (T : TypeId) (d : TypeDesc) (sz bytes : Nat) (z : List Value) : Prop where
  und : P.underlying T = some d
  info : ∃ i, P.info? T = some i ∧ i.size = sz ∧ i.bytes = bytes ∧ ∃ v, i.zero = some v ∧ v.cells = z.toArray
  len : z.length = sz
  one : z.all (·.oneCell') = true

section
variable {P : Program} {a : Act} {w : World} {d : Option Tmp} {ty : TypeId} {pos : String} {aft : Array Edge} {g : Option (Nat × Bool)} {x y z : Operand}

theorem c_move {v : Value} (hx : a.eval x = v) : (execOp a.eval ⟨d, .move x, ty, pos, aft, g⟩).run P w = .ok (.value v) w := by simp [execOp, hx]
theorem c_assign {v : Value} (hx : a.eval x = v) : (execOp a.eval ⟨d, .assign x, ty, pos, aft, g⟩).run P w = .ok (.value v) w := by simp [execOp, hx]
theorem c_pick {b : Bool} {u v : Value} (hc : a.eval x = .bool b) (hu : a.eval y = u) (hv : a.eval z = v) :
    (execOp a.eval ⟨d, .pick x y z, ty, pos, aft, g⟩).run P w = .ok (.value (if b then u else v)) w := by
  cases b <;> simp [execOp, hc, hu, hv, asBool]
theorem c_nil {p : Addr} (hx : a.eval x = .pointer (some p)) : (execOp a.eval ⟨d, .nilCheck x, ty, pos, aft, g⟩).run P w = .ok (.value (.pointer (some p))) w := by simp [execOp, hx]
theorem c_extract {vs : Array Value} {i : Nat} {v : Value} (hx : a.eval x = .tuple vs) (hv : vs[i]? = some v) : (execOp a.eval ⟨d, .extract x i, ty, pos, aft, g⟩).run P w = .ok (.value v) w := by
  simp [execOp, hx, Instr.extract, hv]
theorem c_not {b : Bool} {t : TypeId} (hx : a.eval x = .bool b) : (execOp a.eval ⟨d, .unOp .not t x, ty, pos, aft, g⟩).run P w = .ok (.value (.bool (!b))) w := by
  simp [execOp, hx, Op.unary]

/-! int -/
section
variable {i j : Int} {t u : TypeId}
theorem wrap64_in {n : Int} (h1 : -9223372036854775808 ≤ n) (h2 : n < 9223372036854775808) : IntKind.i64.wrap n = n := by
  simp only [IntKind.wrap, IntKind.bits, IntKind.signed]; simp; omega
theorem c_addI (hx : a.eval x = I i) (hy : a.eval y = I j) (h1 : -9223372036854775808 ≤ i + j) (h2 : i + j < 9223372036854775808) :
    (execOp a.eval ⟨d, .binOp .add t x y u, ty, pos, aft, g⟩).run P w = .ok (.value (I (i + j))) w := by
  simp [execOp, hx, hy, eqGuard, binOp, Op.intArith, wrap64_in h1 h2]
theorem c_subI (hx : a.eval x = I i) (hy : a.eval y = I j) (h1 : -9223372036854775808 ≤ i - j) (h2 : i - j < 9223372036854775808) :
    (execOp a.eval ⟨d, .binOp .sub t x y u, ty, pos, aft, g⟩).run P w = .ok (.value (I (i - j))) w := by
  simp [execOp, hx, hy, eqGuard, binOp, Op.intArith, wrap64_in h1 h2]
theorem c_mulI (hx : a.eval x = I i) (hy : a.eval y = I j) (h1 : -9223372036854775808 ≤ i * j) (h2 : i * j < 9223372036854775808) :
    (execOp a.eval ⟨d, .binOp .mul t x y u, ty, pos, aft, g⟩).run P w = .ok (.value (I (i * j))) w := by
  simp [execOp, hx, hy, eqGuard, binOp, Op.intArith, wrap64_in h1 h2]
theorem c_addIw (hx : a.eval x = I i) (hy : a.eval y = I j) :
    (execOp a.eval ⟨d, .binOp .add t x y u, ty, pos, aft, g⟩).run P w = .ok (.value (I (IntKind.i64.wrap (i + j)))) w := by
  simp [execOp, hx, hy, eqGuard, binOp, Op.intArith]
theorem c_subIw (hx : a.eval x = I i) (hy : a.eval y = I j) :
    (execOp a.eval ⟨d, .binOp .sub t x y u, ty, pos, aft, g⟩).run P w = .ok (.value (I (IntKind.i64.wrap (i - j)))) w := by
  simp [execOp, hx, hy, eqGuard, binOp, Op.intArith]
theorem c_mulIw (hx : a.eval x = I i) (hy : a.eval y = I j) :
    (execOp a.eval ⟨d, .binOp .mul t x y u, ty, pos, aft, g⟩).run P w = .ok (.value (I (IntKind.i64.wrap (i * j)))) w := by
  simp [execOp, hx, hy, eqGuard, binOp, Op.intArith]
/-- A quotient of what isn't negative. -/
theorem c_quoI (hx : a.eval x = I i) (hy : a.eval y = I j) (hi : 0 ≤ i) (hj : 0 < j) (h2 : i < 9223372036854775808) :
    (execOp a.eval ⟨d, .binOp .quo t x y u, ty, pos, aft, g⟩).run P w = .ok (.value (I (i / j))) w := by
  have h3 : i.tdiv j = i / j := Int.tdiv_eq_ediv_of_nonneg hi
  have h4 : 0 ≤ i / j := Int.ediv_nonneg hi (by omega)
  have h5 : i / j ≤ i := Int.ediv_le_self j hi
  simp [execOp, hx, hy, eqGuard, binOp, Op.intDiv, show j ≠ 0 by omega, h3, wrap64_in (n := i / j) (by omega) (by omega)]
theorem c_remI (hx : a.eval x = I i) (hy : a.eval y = I j) (hi : 0 ≤ i) (hj : 0 < j) :
    (execOp a.eval ⟨d, .binOp .rem t x y u, ty, pos, aft, g⟩).run P w = .ok (.value (I (i % j))) w := by
  have h3 : i.tmod j = i % j := Int.tmod_eq_emod_of_nonneg hi
  simp [execOp, hx, hy, eqGuard, binOp, Op.intDiv, show j ≠ 0 by omega, h3]
theorem c_quoIt (hx : a.eval x = I i) (hy : a.eval y = I j) (hj : j ≠ 0) :
    (execOp a.eval ⟨d, .binOp .quo t x y u, ty, pos, aft, g⟩).run P w = .ok (.value (I (IntKind.i64.wrap (i.tdiv j)))) w := by
  simp [execOp, hx, hy, eqGuard, binOp, Op.intDiv, hj]
theorem c_remIt (hx : a.eval x = I i) (hy : a.eval y = I j) (hj : j ≠ 0) :
    (execOp a.eval ⟨d, .binOp .rem t x y u, ty, pos, aft, g⟩).run P w = .ok (.value (I (i.tmod j))) w := by
  simp [execOp, hx, hy, eqGuard, binOp, Op.intDiv, hj]
theorem c_lssI (hx : a.eval x = I i) (hy : a.eval y = I j) : (execOp a.eval ⟨d, .binOp .lss t x y u, ty, pos, aft, g⟩).run P w = .ok (.value (.bool (decide (i < j)))) w := by
  simp [execOp, hx, hy, eqGuard, binOp, Op.intCmp]
theorem c_leqI (hx : a.eval x = I i) (hy : a.eval y = I j) : (execOp a.eval ⟨d, .binOp .leq t x y u, ty, pos, aft, g⟩).run P w = .ok (.value (.bool (decide (i ≤ j)))) w := by
  simp [execOp, hx, hy, eqGuard, binOp, Op.intCmp]
theorem c_gtrI (hx : a.eval x = I i) (hy : a.eval y = I j) : (execOp a.eval ⟨d, .binOp .gtr t x y u, ty, pos, aft, g⟩).run P w = .ok (.value (.bool (decide (j < i)))) w := by
  simp [execOp, hx, hy, eqGuard, binOp, Op.intCmp]
theorem c_geqI (hx : a.eval x = I i) (hy : a.eval y = I j) : (execOp a.eval ⟨d, .binOp .geq t x y u, ty, pos, aft, g⟩).run P w = .ok (.value (.bool (decide (j ≤ i)))) w := by
  simp [execOp, hx, hy, eqGuard, binOp, Op.intCmp]
theorem c_eqlI (hx : a.eval x = I i) (hy : a.eval y = I j) : (execOp a.eval ⟨d, .binOp .eql t x y u, ty, pos, aft, g⟩).run P w = .ok (.value (.bool (decide (i = j)))) w := by
  simp [execOp, hx, hy, eqGuard, binOp, Op.intCmp]
  rfl
theorem c_neqI (hx : a.eval x = I i) (hy : a.eval y = I j) : (execOp a.eval ⟨d, .binOp .neq t x y u, ty, pos, aft, g⟩).run P w = .ok (.value (.bool (!decide (i = j)))) w := by
  simp [execOp, hx, hy, eqGuard, binOp, Op.intCmp]
  rfl
end
end
end Go.Fw
