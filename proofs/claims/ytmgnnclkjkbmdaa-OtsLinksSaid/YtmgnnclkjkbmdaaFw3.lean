/- The operations on uint8, uint32, uint64, one law each. -/
import Derived.Test.YtmgnnclkjkbmdaaFw2
set_option linter.unusedSimpArgs false
set_option linter.unusedVariables false
namespace Go.Fw
open Go
section
variable {P : Program} {a : Act} {w : World} {d : Option Tmp} {ty : TypeId} {pos : String} {aft : Array Edge} {g : Option (Nat × Bool)} {x y z : Operand} {t u : TypeId}

theorem wrapU {n : Int} : IntKind.u32.wrap n = n % 4294967296 := by simp [IntKind.wrap, IntKind.bits, IntKind.signed]
theorem wrapB {n : Int} : IntKind.u8.wrap n = n % 256 := by simp [IntKind.wrap, IntKind.bits, IntKind.signed]
theorem wrapV {n : Int} : IntKind.u64.wrap n = n % 18446744073709551616 := by simp [IntKind.wrap, IntKind.bits, IntKind.signed]

theorem bvU (b : UInt32) : IntKind.u32.wrap ((b.toBitVec.toNat : Nat) : Int) = (b.toNat : Int) := by
  have := b.toNat_lt
  rw [wrapU]
  show ((b.toNat : Nat) : Int) % _ = _
  omega
theorem bvB (b : UInt8) : IntKind.u8.wrap ((b.toBitVec.toNat : Nat) : Int) = (b.toNat : Int) := by
  have := b.toNat_lt
  rw [wrapB]
  show ((b.toNat : Nat) : Int) % _ = _
  omega
theorem bvV (b : UInt64) : IntKind.u64.wrap ((b.toBitVec.toNat : Nat) : Int) = (b.toNat : Int) := by
  have := b.toNat_lt
  rw [wrapV]
  show ((b.toNat : Nat) : Int) % _ = _
  omega

theorem ofInt32 (b : UInt32) : BitVec.ofInt 32 (b.toNat : Int) = b.toBitVec := by
  apply BitVec.eq_of_toNat_eq
  simp
theorem ofInt8 (b : UInt8) : BitVec.ofInt 8 (b.toNat : Int) = b.toBitVec := by
  apply BitVec.eq_of_toNat_eq
  simp
theorem ofInt64 (b : UInt64) : BitVec.ofInt 64 (b.toNat : Int) = b.toBitVec := by
  apply BitVec.eq_of_toNat_eq
  simp

theorem ib_xorU (p q : UInt32) : Op.intBits .xor .u32 (p.toNat : Int) (q.toNat : Int) = pure (U (p ^^^ q)) := by
  show (pure (.int .u32 (IntKind.u32.wrap ((BitVec.ofInt 32 (p.toNat : Int) ^^^ BitVec.ofInt 32 (q.toNat : Int)).toNat : Nat))) : Sem Value) = _
  rw [ofInt32, ofInt32]
  exact congrArg (fun i : Int => (pure (.int .u32 i) : Sem Value)) (bvU (p ^^^ q))
theorem ib_andU (p q : UInt32) : Op.intBits .and .u32 (p.toNat : Int) (q.toNat : Int) = pure (U (p &&& q)) := by
  show (pure (.int .u32 (IntKind.u32.wrap ((BitVec.ofInt 32 (p.toNat : Int) &&& BitVec.ofInt 32 (q.toNat : Int)).toNat : Nat))) : Sem Value) = _
  rw [ofInt32, ofInt32]
  exact congrArg (fun i : Int => (pure (.int .u32 i) : Sem Value)) (bvU (p &&& q))
theorem ib_orU (p q : UInt32) : Op.intBits .or .u32 (p.toNat : Int) (q.toNat : Int) = pure (U (p ||| q)) := by
  show (pure (.int .u32 (IntKind.u32.wrap ((BitVec.ofInt 32 (p.toNat : Int) ||| BitVec.ofInt 32 (q.toNat : Int)).toNat : Nat))) : Sem Value) = _
  rw [ofInt32, ofInt32]
  exact congrArg (fun i : Int => (pure (.int .u32 i) : Sem Value)) (bvU (p ||| q))
theorem ib_andNotU (p q : UInt32) : Op.intBits .andNot .u32 (p.toNat : Int) (q.toNat : Int) = pure (U (p &&& ~~~q)) := by
  show (pure (.int .u32 (IntKind.u32.wrap ((BitVec.ofInt 32 (p.toNat : Int) &&& ~~~BitVec.ofInt 32 (q.toNat : Int)).toNat : Nat))) : Sem Value) = _
  rw [ofInt32, ofInt32]
  exact congrArg (fun i : Int => (pure (.int .u32 i) : Sem Value)) (bvU (p &&& ~~~q))
theorem ib_xorB (p q : UInt8) : Op.intBits .xor .u8 (p.toNat : Int) (q.toNat : Int) = pure (B (p ^^^ q)) := by
  show (pure (.int .u8 (IntKind.u8.wrap ((BitVec.ofInt 8 (p.toNat : Int) ^^^ BitVec.ofInt 8 (q.toNat : Int)).toNat : Nat))) : Sem Value) = _
  rw [ofInt8, ofInt8]
  exact congrArg (fun i : Int => (pure (.int .u8 i) : Sem Value)) (bvB (p ^^^ q))
theorem ib_andB (p q : UInt8) : Op.intBits .and .u8 (p.toNat : Int) (q.toNat : Int) = pure (B (p &&& q)) := by
  show (pure (.int .u8 (IntKind.u8.wrap ((BitVec.ofInt 8 (p.toNat : Int) &&& BitVec.ofInt 8 (q.toNat : Int)).toNat : Nat))) : Sem Value) = _
  rw [ofInt8, ofInt8]
  exact congrArg (fun i : Int => (pure (.int .u8 i) : Sem Value)) (bvB (p &&& q))
theorem ib_orB (p q : UInt8) : Op.intBits .or .u8 (p.toNat : Int) (q.toNat : Int) = pure (B (p ||| q)) := by
  show (pure (.int .u8 (IntKind.u8.wrap ((BitVec.ofInt 8 (p.toNat : Int) ||| BitVec.ofInt 8 (q.toNat : Int)).toNat : Nat))) : Sem Value) = _
  rw [ofInt8, ofInt8]
  exact congrArg (fun i : Int => (pure (.int .u8 i) : Sem Value)) (bvB (p ||| q))
theorem ib_andNotB (p q : UInt8) : Op.intBits .andNot .u8 (p.toNat : Int) (q.toNat : Int) = pure (B (p &&& ~~~q)) := by
  show (pure (.int .u8 (IntKind.u8.wrap ((BitVec.ofInt 8 (p.toNat : Int) &&& ~~~BitVec.ofInt 8 (q.toNat : Int)).toNat : Nat))) : Sem Value) = _
  rw [ofInt8, ofInt8]
  exact congrArg (fun i : Int => (pure (.int .u8 i) : Sem Value)) (bvB (p &&& ~~~q))
theorem ib_xorV (p q : UInt64) : Op.intBits .xor .u64 (p.toNat : Int) (q.toNat : Int) = pure (V (p ^^^ q)) := by
  show (pure (.int .u64 (IntKind.u64.wrap ((BitVec.ofInt 64 (p.toNat : Int) ^^^ BitVec.ofInt 64 (q.toNat : Int)).toNat : Nat))) : Sem Value) = _
  rw [ofInt64, ofInt64]
  exact congrArg (fun i : Int => (pure (.int .u64 i) : Sem Value)) (bvV (p ^^^ q))
theorem ib_andV (p q : UInt64) : Op.intBits .and .u64 (p.toNat : Int) (q.toNat : Int) = pure (V (p &&& q)) := by
  show (pure (.int .u64 (IntKind.u64.wrap ((BitVec.ofInt 64 (p.toNat : Int) &&& BitVec.ofInt 64 (q.toNat : Int)).toNat : Nat))) : Sem Value) = _
  rw [ofInt64, ofInt64]
  exact congrArg (fun i : Int => (pure (.int .u64 i) : Sem Value)) (bvV (p &&& q))
theorem ib_orV (p q : UInt64) : Op.intBits .or .u64 (p.toNat : Int) (q.toNat : Int) = pure (V (p ||| q)) := by
  show (pure (.int .u64 (IntKind.u64.wrap ((BitVec.ofInt 64 (p.toNat : Int) ||| BitVec.ofInt 64 (q.toNat : Int)).toNat : Nat))) : Sem Value) = _
  rw [ofInt64, ofInt64]
  exact congrArg (fun i : Int => (pure (.int .u64 i) : Sem Value)) (bvV (p ||| q))
theorem ib_andNotV (p q : UInt64) : Op.intBits .andNot .u64 (p.toNat : Int) (q.toNat : Int) = pure (V (p &&& ~~~q)) := by
  show (pure (.int .u64 (IntKind.u64.wrap ((BitVec.ofInt 64 (p.toNat : Int) &&& ~~~BitVec.ofInt 64 (q.toNat : Int)).toNat : Nat))) : Sem Value) = _
  rw [ofInt64, ofInt64]
  exact congrArg (fun i : Int => (pure (.int .u64 i) : Sem Value)) (bvV (p &&& ~~~q))

/-! uint32 -/
section
variable {p q : UInt32}
theorem c_addU (hx : a.eval x = U p) (hy : a.eval y = U q) : (execOp a.eval ⟨d, .binOp .add t x y u, ty, pos, aft, g⟩).run P w = .ok (.value (U (p + q))) w := by
  simp [execOp, hx, hy, eqGuard, binOp, Op.intArith, wrapU, UInt32.toNat_add]
theorem c_mulU (hx : a.eval x = U p) (hy : a.eval y = U q) : (execOp a.eval ⟨d, .binOp .mul t x y u, ty, pos, aft, g⟩).run P w = .ok (.value (U (p * q))) w := by
  simp [execOp, hx, hy, eqGuard, binOp, Op.intArith, wrapU, UInt32.toNat_mul]
theorem c_subU (hx : a.eval x = U p) (hy : a.eval y = U q) : (execOp a.eval ⟨d, .binOp .sub t x y u, ty, pos, aft, g⟩).run P w = .ok (.value (U (p - q))) w := by
  have h1 := p.toNat_lt; have h2 := q.toNat_lt
  simp [execOp, hx, hy, eqGuard, binOp, Op.intArith, wrapU, UInt32.toNat_sub]
  omega
theorem c_xorU (hx : a.eval x = U p) (hy : a.eval y = U q) : (execOp a.eval ⟨d, .binOp .xor t x y u, ty, pos, aft, g⟩).run P w = .ok (.value (U (p ^^^ q))) w := by
  simp [execOp, hx, hy, eqGuard, binOp, ib_xorU]
theorem c_andU (hx : a.eval x = U p) (hy : a.eval y = U q) : (execOp a.eval ⟨d, .binOp .and t x y u, ty, pos, aft, g⟩).run P w = .ok (.value (U (p &&& q))) w := by
  simp [execOp, hx, hy, eqGuard, binOp, ib_andU]
theorem c_orU (hx : a.eval x = U p) (hy : a.eval y = U q) : (execOp a.eval ⟨d, .binOp .or t x y u, ty, pos, aft, g⟩).run P w = .ok (.value (U (p ||| q))) w := by
  simp [execOp, hx, hy, eqGuard, binOp, ib_orU]
theorem c_notU (hx : a.eval x = U p) : (execOp a.eval ⟨d, .unOp .xor t x, ty, pos, aft, g⟩).run P w = .ok (.value (U (~~~p))) w := by
  have e : Op.unary .xor (U p) = pure (U (~~~p)) := by
    show (pure (.int .u32 (IntKind.u32.wrap ((BitVec.ofInt 32 (4294967295 : Int) ^^^ BitVec.ofInt 32 (p.toNat : Int)).toNat : Nat))) : Sem Value) = _
    rw [ofInt32, show BitVec.ofInt 32 (4294967295 : Int) = BitVec.allOnes 32 from rfl, BitVec.allOnes_xor]
    exact congrArg (fun i : Int => (pure (.int .u32 i) : Sem Value)) (bvU (~~~p))
  simp [execOp, hx, e]
theorem c_shrU {k : IntKind} {n : Nat} (hx : a.eval x = U p) (hy : a.eval y = .int k (n : Int)) (hn : n < 32) :
    (execOp a.eval ⟨d, .binOp .shr t x y u, ty, pos, aft, g⟩).run P w = .ok (.value (U (p >>> UInt32.ofNat n))) w := by
  have e : (p >>> UInt32.ofNat n).toNat = p.toNat / 2 ^ n := by
    rw [UInt32.toNat_shiftRight, Nat.shiftRight_eq_div_pow]
    simp [Nat.mod_eq_of_lt (a := n) (b := 4294967296) (by omega), Nat.mod_eq_of_lt hn]
  have hm : min n 32 = n := by omega
  simp [execOp, hx, hy, eqGuard, binOp, Op.shift, IntKind.bits, hm, e]
theorem c_shlU {k : IntKind} {n : Nat} (hx : a.eval x = U p) (hy : a.eval y = .int k (n : Int)) (hn : n < 32) :
    (execOp a.eval ⟨d, .binOp .shl t x y u, ty, pos, aft, g⟩).run P w = .ok (.value (U (p <<< UInt32.ofNat n))) w := by
  have e : (p <<< UInt32.ofNat n).toNat = p.toNat * 2 ^ n % 4294967296 := by
    rw [UInt32.toNat_shiftLeft, Nat.shiftLeft_eq]
    simp [Nat.mod_eq_of_lt (a := n) (b := 4294967296) (by omega), Nat.mod_eq_of_lt hn]
  have hm : min n 32 = n := by omega
  simp [execOp, hx, hy, eqGuard, binOp, Op.shift, IntKind.bits, hm, e, wrapU]
theorem c_quoU (hx : a.eval x = U p) (hy : a.eval y = U q) (hq : q ≠ 0) : (execOp a.eval ⟨d, .binOp .quo t x y u, ty, pos, aft, g⟩).run P w = .ok (.value (U (p / q))) w := by
  have h0 : q.toNat ≠ 0 := fun e => hq (UInt32.toNat_inj.1 (by simpa using e))
  have h1 := p.toNat_lt
  have h2 : (0 : Int) ≤ (p.toNat : Int) / (q.toNat : Int) := Int.ediv_nonneg (by omega) (by omega)
  have h3 : (p.toNat : Int) / (q.toNat : Int) ≤ p.toNat := Int.ediv_le_self _ (by omega)
  simp [execOp, hx, hy, eqGuard, binOp, Op.intDiv, wrapU, h0, UInt32.toNat_div]
  omega
theorem c_remU (hx : a.eval x = U p) (hy : a.eval y = U q) (hq : q ≠ 0) : (execOp a.eval ⟨d, .binOp .rem t x y u, ty, pos, aft, g⟩).run P w = .ok (.value (U (p % q))) w := by
  have h0 : q.toNat ≠ 0 := fun e => hq (UInt32.toNat_inj.1 (by simpa using e))
  simp [execOp, hx, hy, eqGuard, binOp, Op.intDiv, h0, UInt32.toNat_mod]
  exact Int.tmod_eq_emod_of_nonneg (by omega)
theorem c_eqlU (hx : a.eval x = U p) (hy : a.eval y = U q) : (execOp a.eval ⟨d, .binOp .eql t x y u, ty, pos, aft, g⟩).run P w = .ok (.value (.bool (decide (p = q)))) w := by
  simp [execOp, hx, hy, eqGuard, binOp, Op.intCmp, ← UInt32.toNat_inj]
  rw [Bool.eq_iff_iff]; simp; omega
theorem c_neqU (hx : a.eval x = U p) (hy : a.eval y = U q) : (execOp a.eval ⟨d, .binOp .neq t x y u, ty, pos, aft, g⟩).run P w = .ok (.value (.bool (!decide (p = q)))) w := by
  simp [execOp, hx, hy, eqGuard, binOp, Op.intCmp, ← UInt32.toNat_inj]
  rw [Bool.eq_iff_iff]; simp; omega
theorem c_lssU (hx : a.eval x = U p) (hy : a.eval y = U q) : (execOp a.eval ⟨d, .binOp .lss t x y u, ty, pos, aft, g⟩).run P w = .ok (.value (.bool (decide (p.toNat < q.toNat)))) w := by
  simp [execOp, hx, hy, eqGuard, binOp, Op.intCmp]
theorem c_leqU (hx : a.eval x = U p) (hy : a.eval y = U q) : (execOp a.eval ⟨d, .binOp .leq t x y u, ty, pos, aft, g⟩).run P w = .ok (.value (.bool (decide (p.toNat ≤ q.toNat)))) w := by
  simp [execOp, hx, hy, eqGuard, binOp, Op.intCmp]
theorem c_gtrU (hx : a.eval x = U p) (hy : a.eval y = U q) : (execOp a.eval ⟨d, .binOp .gtr t x y u, ty, pos, aft, g⟩).run P w = .ok (.value (.bool (decide (q.toNat < p.toNat)))) w := by
  simp [execOp, hx, hy, eqGuard, binOp, Op.intCmp]
end
/-! UInt8 -/
section
variable {p q : UInt8}
theorem c_addB (hx : a.eval x = B p) (hy : a.eval y = B q) : (execOp a.eval ⟨d, .binOp .add t x y u, ty, pos, aft, g⟩).run P w = .ok (.value (B (p + q))) w := by
  simp [execOp, hx, hy, eqGuard, binOp, Op.intArith, wrapB, UInt8.toNat_add]
theorem c_mulB (hx : a.eval x = B p) (hy : a.eval y = B q) : (execOp a.eval ⟨d, .binOp .mul t x y u, ty, pos, aft, g⟩).run P w = .ok (.value (B (p * q))) w := by
  simp [execOp, hx, hy, eqGuard, binOp, Op.intArith, wrapB, UInt8.toNat_mul]
theorem c_subB (hx : a.eval x = B p) (hy : a.eval y = B q) : (execOp a.eval ⟨d, .binOp .sub t x y u, ty, pos, aft, g⟩).run P w = .ok (.value (B (p - q))) w := by
  have h1 := p.toNat_lt; have h2 := q.toNat_lt
  simp [execOp, hx, hy, eqGuard, binOp, Op.intArith, wrapB, UInt8.toNat_sub]
  omega
theorem c_xorB (hx : a.eval x = B p) (hy : a.eval y = B q) : (execOp a.eval ⟨d, .binOp .xor t x y u, ty, pos, aft, g⟩).run P w = .ok (.value (B (p ^^^ q))) w := by
  simp [execOp, hx, hy, eqGuard, binOp, ib_xorB]
theorem c_andB (hx : a.eval x = B p) (hy : a.eval y = B q) : (execOp a.eval ⟨d, .binOp .and t x y u, ty, pos, aft, g⟩).run P w = .ok (.value (B (p &&& q))) w := by
  simp [execOp, hx, hy, eqGuard, binOp, ib_andB]
theorem c_orB (hx : a.eval x = B p) (hy : a.eval y = B q) : (execOp a.eval ⟨d, .binOp .or t x y u, ty, pos, aft, g⟩).run P w = .ok (.value (B (p ||| q))) w := by
  simp [execOp, hx, hy, eqGuard, binOp, ib_orB]
theorem c_notB (hx : a.eval x = B p) : (execOp a.eval ⟨d, .unOp .xor t x, ty, pos, aft, g⟩).run P w = .ok (.value (B (~~~p))) w := by
  have e : Op.unary .xor (B p) = pure (B (~~~p)) := by
    show (pure (.int .u8 (IntKind.u8.wrap ((BitVec.ofInt 8 (255 : Int) ^^^ BitVec.ofInt 8 (p.toNat : Int)).toNat : Nat))) : Sem Value) = _
    rw [ofInt8, show BitVec.ofInt 8 (255 : Int) = BitVec.allOnes 8 from rfl, BitVec.allOnes_xor]
    exact congrArg (fun i : Int => (pure (.int .u8 i) : Sem Value)) (bvB (~~~p))
  simp [execOp, hx, e]
theorem c_shrB {k : IntKind} {n : Nat} (hx : a.eval x = B p) (hy : a.eval y = .int k (n : Int)) (hn : n < 8) :
    (execOp a.eval ⟨d, .binOp .shr t x y u, ty, pos, aft, g⟩).run P w = .ok (.value (B (p >>> UInt8.ofNat n))) w := by
  have e : (p >>> UInt8.ofNat n).toNat = p.toNat / 2 ^ n := by
    rw [UInt8.toNat_shiftRight, Nat.shiftRight_eq_div_pow]
    simp [Nat.mod_eq_of_lt (a := n) (b := 256) (by omega), Nat.mod_eq_of_lt hn]
  have hm : min n 8 = n := by omega
  simp [execOp, hx, hy, eqGuard, binOp, Op.shift, IntKind.bits, hm, e]
theorem c_shlB {k : IntKind} {n : Nat} (hx : a.eval x = B p) (hy : a.eval y = .int k (n : Int)) (hn : n < 8) :
    (execOp a.eval ⟨d, .binOp .shl t x y u, ty, pos, aft, g⟩).run P w = .ok (.value (B (p <<< UInt8.ofNat n))) w := by
  have e : (p <<< UInt8.ofNat n).toNat = p.toNat * 2 ^ n % 256 := by
    rw [UInt8.toNat_shiftLeft, Nat.shiftLeft_eq]
    simp [Nat.mod_eq_of_lt (a := n) (b := 256) (by omega), Nat.mod_eq_of_lt hn]
  have hm : min n 8 = n := by omega
  simp [execOp, hx, hy, eqGuard, binOp, Op.shift, IntKind.bits, hm, e, wrapB]
theorem c_quoB (hx : a.eval x = B p) (hy : a.eval y = B q) (hq : q ≠ 0) : (execOp a.eval ⟨d, .binOp .quo t x y u, ty, pos, aft, g⟩).run P w = .ok (.value (B (p / q))) w := by
  have h0 : q.toNat ≠ 0 := fun e => hq (UInt8.toNat_inj.1 (by simpa using e))
  have h1 := p.toNat_lt
  have h2 : (0 : Int) ≤ (p.toNat : Int) / (q.toNat : Int) := Int.ediv_nonneg (by omega) (by omega)
  have h3 : (p.toNat : Int) / (q.toNat : Int) ≤ p.toNat := Int.ediv_le_self _ (by omega)
  simp [execOp, hx, hy, eqGuard, binOp, Op.intDiv, wrapB, h0, UInt8.toNat_div]
  omega
theorem c_remB (hx : a.eval x = B p) (hy : a.eval y = B q) (hq : q ≠ 0) : (execOp a.eval ⟨d, .binOp .rem t x y u, ty, pos, aft, g⟩).run P w = .ok (.value (B (p % q))) w := by
  have h0 : q.toNat ≠ 0 := fun e => hq (UInt8.toNat_inj.1 (by simpa using e))
  simp [execOp, hx, hy, eqGuard, binOp, Op.intDiv, h0, UInt8.toNat_mod]
  exact Int.tmod_eq_emod_of_nonneg (by omega)
theorem c_eqlB (hx : a.eval x = B p) (hy : a.eval y = B q) : (execOp a.eval ⟨d, .binOp .eql t x y u, ty, pos, aft, g⟩).run P w = .ok (.value (.bool (decide (p = q)))) w := by
  simp [execOp, hx, hy, eqGuard, binOp, Op.intCmp, ← UInt8.toNat_inj]
  rw [Bool.eq_iff_iff]; simp; omega
theorem c_neqB (hx : a.eval x = B p) (hy : a.eval y = B q) : (execOp a.eval ⟨d, .binOp .neq t x y u, ty, pos, aft, g⟩).run P w = .ok (.value (.bool (!decide (p = q)))) w := by
  simp [execOp, hx, hy, eqGuard, binOp, Op.intCmp, ← UInt8.toNat_inj]
  rw [Bool.eq_iff_iff]; simp; omega
theorem c_lssB (hx : a.eval x = B p) (hy : a.eval y = B q) : (execOp a.eval ⟨d, .binOp .lss t x y u, ty, pos, aft, g⟩).run P w = .ok (.value (.bool (decide (p.toNat < q.toNat)))) w := by
  simp [execOp, hx, hy, eqGuard, binOp, Op.intCmp]
theorem c_leqB (hx : a.eval x = B p) (hy : a.eval y = B q) : (execOp a.eval ⟨d, .binOp .leq t x y u, ty, pos, aft, g⟩).run P w = .ok (.value (.bool (decide (p.toNat ≤ q.toNat)))) w := by
  simp [execOp, hx, hy, eqGuard, binOp, Op.intCmp]
theorem c_gtrB (hx : a.eval x = B p) (hy : a.eval y = B q) : (execOp a.eval ⟨d, .binOp .gtr t x y u, ty, pos, aft, g⟩).run P w = .ok (.value (.bool (decide (q.toNat < p.toNat)))) w := by
  simp [execOp, hx, hy, eqGuard, binOp, Op.intCmp]
theorem c_andNotB (hx : a.eval x = B p) (hy : a.eval y = B q) : (execOp a.eval ⟨d, .binOp .andNot t x y u, ty, pos, aft, g⟩).run P w = .ok (.value (B (p &&& ~~~q))) w := by
  simp [execOp, hx, hy, eqGuard, binOp, ib_andNotB]
theorem c_geqB (hx : a.eval x = B p) (hy : a.eval y = B q) : (execOp a.eval ⟨d, .binOp .geq t x y u, ty, pos, aft, g⟩).run P w = .ok (.value (.bool (decide (q.toNat ≤ p.toNat)))) w := by
  simp [execOp, hx, hy, eqGuard, binOp, Op.intCmp]
end
/-! UInt64 -/
section
variable {p q : UInt64}
theorem c_addV (hx : a.eval x = V p) (hy : a.eval y = V q) : (execOp a.eval ⟨d, .binOp .add t x y u, ty, pos, aft, g⟩).run P w = .ok (.value (V (p + q))) w := by
  simp [execOp, hx, hy, eqGuard, binOp, Op.intArith, wrapV, UInt64.toNat_add]
theorem c_mulV (hx : a.eval x = V p) (hy : a.eval y = V q) : (execOp a.eval ⟨d, .binOp .mul t x y u, ty, pos, aft, g⟩).run P w = .ok (.value (V (p * q))) w := by
  simp [execOp, hx, hy, eqGuard, binOp, Op.intArith, wrapV, UInt64.toNat_mul]
theorem c_subV (hx : a.eval x = V p) (hy : a.eval y = V q) : (execOp a.eval ⟨d, .binOp .sub t x y u, ty, pos, aft, g⟩).run P w = .ok (.value (V (p - q))) w := by
  have h1 := p.toNat_lt; have h2 := q.toNat_lt
  simp [execOp, hx, hy, eqGuard, binOp, Op.intArith, wrapV, UInt64.toNat_sub]
  omega
theorem c_xorV (hx : a.eval x = V p) (hy : a.eval y = V q) : (execOp a.eval ⟨d, .binOp .xor t x y u, ty, pos, aft, g⟩).run P w = .ok (.value (V (p ^^^ q))) w := by
  simp [execOp, hx, hy, eqGuard, binOp, ib_xorV]
theorem c_andV (hx : a.eval x = V p) (hy : a.eval y = V q) : (execOp a.eval ⟨d, .binOp .and t x y u, ty, pos, aft, g⟩).run P w = .ok (.value (V (p &&& q))) w := by
  simp [execOp, hx, hy, eqGuard, binOp, ib_andV]
theorem c_orV (hx : a.eval x = V p) (hy : a.eval y = V q) : (execOp a.eval ⟨d, .binOp .or t x y u, ty, pos, aft, g⟩).run P w = .ok (.value (V (p ||| q))) w := by
  simp [execOp, hx, hy, eqGuard, binOp, ib_orV]
theorem c_notV (hx : a.eval x = V p) : (execOp a.eval ⟨d, .unOp .xor t x, ty, pos, aft, g⟩).run P w = .ok (.value (V (~~~p))) w := by
  have e : Op.unary .xor (V p) = pure (V (~~~p)) := by
    show (pure (.int .u64 (IntKind.u64.wrap ((BitVec.ofInt 64 (18446744073709551615 : Int) ^^^ BitVec.ofInt 64 (p.toNat : Int)).toNat : Nat))) : Sem Value) = _
    rw [ofInt64, show BitVec.ofInt 64 (18446744073709551615 : Int) = BitVec.allOnes 64 from rfl, BitVec.allOnes_xor]
    exact congrArg (fun i : Int => (pure (.int .u64 i) : Sem Value)) (bvV (~~~p))
  simp [execOp, hx, e]
theorem c_shrV {k : IntKind} {n : Nat} (hx : a.eval x = V p) (hy : a.eval y = .int k (n : Int)) (hn : n < 64) :
    (execOp a.eval ⟨d, .binOp .shr t x y u, ty, pos, aft, g⟩).run P w = .ok (.value (V (p >>> UInt64.ofNat n))) w := by
  have e : (p >>> UInt64.ofNat n).toNat = p.toNat / 2 ^ n := by
    rw [UInt64.toNat_shiftRight, Nat.shiftRight_eq_div_pow]
    simp [Nat.mod_eq_of_lt (a := n) (b := 18446744073709551616) (by omega), Nat.mod_eq_of_lt hn]
  have hm : min n 64 = n := by omega
  simp [execOp, hx, hy, eqGuard, binOp, Op.shift, IntKind.bits, hm, e]
theorem c_shlV {k : IntKind} {n : Nat} (hx : a.eval x = V p) (hy : a.eval y = .int k (n : Int)) (hn : n < 64) :
    (execOp a.eval ⟨d, .binOp .shl t x y u, ty, pos, aft, g⟩).run P w = .ok (.value (V (p <<< UInt64.ofNat n))) w := by
  have e : (p <<< UInt64.ofNat n).toNat = p.toNat * 2 ^ n % 18446744073709551616 := by
    rw [UInt64.toNat_shiftLeft, Nat.shiftLeft_eq]
    simp [Nat.mod_eq_of_lt (a := n) (b := 18446744073709551616) (by omega), Nat.mod_eq_of_lt hn]
  have hm : min n 64 = n := by omega
  simp [execOp, hx, hy, eqGuard, binOp, Op.shift, IntKind.bits, hm, e, wrapV]
theorem c_quoV (hx : a.eval x = V p) (hy : a.eval y = V q) (hq : q ≠ 0) : (execOp a.eval ⟨d, .binOp .quo t x y u, ty, pos, aft, g⟩).run P w = .ok (.value (V (p / q))) w := by
  have h0 : q.toNat ≠ 0 := fun e => hq (UInt64.toNat_inj.1 (by simpa using e))
  have h1 := p.toNat_lt
  have h2 : (0 : Int) ≤ (p.toNat : Int) / (q.toNat : Int) := Int.ediv_nonneg (by omega) (by omega)
  have h3 : (p.toNat : Int) / (q.toNat : Int) ≤ p.toNat := Int.ediv_le_self _ (by omega)
  simp [execOp, hx, hy, eqGuard, binOp, Op.intDiv, wrapV, h0, UInt64.toNat_div]
  omega
theorem c_remV (hx : a.eval x = V p) (hy : a.eval y = V q) (hq : q ≠ 0) : (execOp a.eval ⟨d, .binOp .rem t x y u, ty, pos, aft, g⟩).run P w = .ok (.value (V (p % q))) w := by
  have h0 : q.toNat ≠ 0 := fun e => hq (UInt64.toNat_inj.1 (by simpa using e))
  simp [execOp, hx, hy, eqGuard, binOp, Op.intDiv, h0, UInt64.toNat_mod]
  exact Int.tmod_eq_emod_of_nonneg (by omega)
theorem c_eqlV (hx : a.eval x = V p) (hy : a.eval y = V q) : (execOp a.eval ⟨d, .binOp .eql t x y u, ty, pos, aft, g⟩).run P w = .ok (.value (.bool (decide (p = q)))) w := by
  simp [execOp, hx, hy, eqGuard, binOp, Op.intCmp, ← UInt64.toNat_inj]
  rw [Bool.eq_iff_iff]; simp; omega
theorem c_neqV (hx : a.eval x = V p) (hy : a.eval y = V q) : (execOp a.eval ⟨d, .binOp .neq t x y u, ty, pos, aft, g⟩).run P w = .ok (.value (.bool (!decide (p = q)))) w := by
  simp [execOp, hx, hy, eqGuard, binOp, Op.intCmp, ← UInt64.toNat_inj]
  rw [Bool.eq_iff_iff]; simp; omega
theorem c_lssV (hx : a.eval x = V p) (hy : a.eval y = V q) : (execOp a.eval ⟨d, .binOp .lss t x y u, ty, pos, aft, g⟩).run P w = .ok (.value (.bool (decide (p.toNat < q.toNat)))) w := by
  simp [execOp, hx, hy, eqGuard, binOp, Op.intCmp]
theorem c_leqV (hx : a.eval x = V p) (hy : a.eval y = V q) : (execOp a.eval ⟨d, .binOp .leq t x y u, ty, pos, aft, g⟩).run P w = .ok (.value (.bool (decide (p.toNat ≤ q.toNat)))) w := by
  simp [execOp, hx, hy, eqGuard, binOp, Op.intCmp]
theorem c_gtrV (hx : a.eval x = V p) (hy : a.eval y = V q) : (execOp a.eval ⟨d, .binOp .gtr t x y u, ty, pos, aft, g⟩).run P w = .ok (.value (.bool (decide (q.toNat < p.toNat)))) w := by
  simp [execOp, hx, hy, eqGuard, binOp, Op.intCmp]
end
end
end Go.Fw
