/- Comparisons of arrays and of bools; guarded steps of a region. -/
import Derived.Test.YtmgnnclkjkbmdaaFw12
set_option linter.unusedSimpArgs false
set_option linter.unusedVariables false
namespace Go.Fw
open Go
section
variable {P : Program} {a : Act} {w : World} {d : Option Tmp} {ty : TypeId} {pos : String} {aft : Array Edge} {g : Option (Nat × Bool)} {x y z : Operand} {t u : TypeId}

theorem run_part {E : TypeId} {ed : TypeDesc} {bytes : Nat} {ze : List Value} {cs : List Value} {o : Nat} {v : Value} (hE : Ty P E ed 1 bytes ze) (hd : aggD ed = false) (hv : cs[o]? = some v) : (part E cs.toArray o).run P w = .ok v w := by
  have hagg : (isAgg E).run P w = .ok false w := by
    unfold isAgg
    rw [Sem.run_bind, run_underlying hE.und w]
    cases ed <;> simp_all [aggD]
  simp [part, hagg, hv]

/-- The loop over an array's elements. -/
theorem run_eq_loop (G : Nat → Option Bool × PUnit → Sem (ForInStep (Option Bool × PUnit))) (b : Nat → Bool) : ∀ (l : List Nat), (∀ i, i ∈ l → (G i (none, ())).run P w = .ok (if b i then ForInStep.yield (none, ()) else ForInStep.done (some false, ())) w) →
    (forIn (m := Sem) l (none, ()) G).run P w = .ok (if l.all b then (none, ()) else (some false, ())) w
  | [], _ => by simp
  | i :: t, hf => by
    rw [List.forIn_cons]
    simp only [Sem.run_bind, hf i (by simp), Result.andThen_ok]
    cases h : b i with
    | true =>
      have ih := run_eq_loop G b t fun j hj => hf j (by simp [hj])
      simpa [h] using ih
    | false => simp [h]

theorem eq_int {k : IntKind} {E : TypeId} {m n : Int} (hu : P.underlying E = some (.int k)) (dp : Nat) : (Op.equalIn (dp + 1) E (.int k m) (.int k n)).run P w = .ok (m == n) w := by
  simp [Op.equalIn, run_underlying hu]

theorem eq_arr {n bytes : Nat} {E T : TypeId} {ze : List Value} {k : IntKind} (hu : P.underlying T = some (.array n E)) (hE : Ty P E (.int k) 1 bytes ze) (xs ys : List Int) (hx : xs.length = n) (hy : ys.length = n) (dp : Nat) :
    (Op.equalIn (dp + 2) T (.agg (xs.map (Value.int k)).toArray) (.agg (ys.map (Value.int k)).toArray)).run P w = .ok (decide (xs = ys)) w := by
  have hb : ∀ i, i < n → (do Op.equalIn (dp + 1) E (← part E (xs.map (Value.int k)).toArray (i * 1)) (← part E (ys.map (Value.int k)).toArray (i * 1)) : Sem Bool).run P w = .ok (xs.getD i 0 == ys.getD i 0) w := by
    intro i hi
    have h1 : (xs.map (Value.int k))[i * 1]? = some (.int k (xs.getD i 0)) := by simp [hx, hi]
    have h2 : (ys.map (Value.int k))[i * 1]? = some (.int k (ys.getD i 0)) := by simp [hy, hi]
    rw [Sem.run_bind, run_part hE rfl h1, Result.andThen_ok, Sem.run_bind, run_part hE rfl h2, Result.andThen_ok, eq_int hE.und dp]
  unfold Op.equalIn
  simp only [Sem.run_bind, run_underlying hu, Result.andThen_ok, hE.size, Std.Legacy.Range.forIn_eq_forIn_range', Std.Legacy.Range.size, Nat.sub_zero, Nat.add_one_sub_one, Nat.div_one]
  have hl := run_eq_loop (P := P) (w := w) (fun i s => do
            let a ← part E (List.map (Value.int k) xs).toArray (i * 1)
            let b ← part E (List.map (Value.int k) ys).toArray (i * 1)
            let c ← Op.equalIn (dp + 1) E a b
            if (!c) = true then pure (ForInStep.done (some false, ())) else pure (ForInStep.yield (none, ()))) (fun i => xs.getD i 0 == ys.getD i 0) (List.range' 0 n) (fun i hi => by
    have hi' : i < n := by simpa using hi
    have h1 : (xs.map (Value.int k))[i * 1]? = some (.int k (xs.getD i 0)) := by simp [hx, hi']
    have h2 : (ys.map (Value.int k))[i * 1]? = some (.int k (ys.getD i 0)) := by simp [hy, hi']
    simp only [Sem.run_bind, run_part hE rfl h1, run_part hE rfl h2, Result.andThen_ok, eq_int hE.und dp]
    cases xs.getD i 0 == ys.getD i 0 <;> simp)
  rw [hl]
  have hall : (List.range' 0 n).all (fun i => xs.getD i 0 == ys.getD i 0) = decide (xs = ys) := by
    rw [Bool.eq_iff_iff, List.all_eq_true, decide_eq_true_iff]
    constructor
    · intro h
      apply List.ext_getElem (by omega)
      intro i h1 h2
      have := h i (by simp; omega)
      simpa [h1, h2] using this
    · rintro rfl i _
      simp
  rw [hall]
  by_cases e : xs = ys <;> simp [e]

theorem map_B (l : List UInt8) : l.map B = (l.map fun b => (b.toNat : Int)).map (Value.int .u8) := by simp [Function.comp_def]
theorem map_B_inj (xs ys : List UInt8) : (xs.map fun b => (b.toNat : Int)) = (ys.map fun b => (b.toNat : Int)) ↔ xs = ys := by
  constructor
  · intro h
    exact List.map_inj_right (f := fun b : UInt8 => (b.toNat : Int)) (fun a b hab => UInt8.toNat_inj.1 (Int.ofNat_inj.1 hab)) |>.1 h
  · rintro rfl; rfl

theorem eqlB {n bytes : Nat} {E T : TypeId} {ze : List Value} (hu : P.underlying T = some (.array n E)) (hE : Ty P E (.int .u8) 1 bytes ze) (xs ys : List UInt8) (hx : xs.length = n) (hy : ys.length = n) :
    (Op.equal T (.agg (xs.map B).toArray) (.agg (ys.map B).toArray)).run P w = .ok (decide (xs = ys)) w := by
  have := eq_arr (P := P) (w := w) hu hE (xs.map fun b => (b.toNat : Int)) (ys.map fun b => (b.toNat : Int)) (by simpa using hx) (by simpa using hy) 9998
  rw [← map_B, ← map_B] at this
  have e : decide ((xs.map fun b => (b.toNat : Int)) = (ys.map fun b => (b.toNat : Int))) = decide (xs = ys) := by
    rw [Bool.eq_iff_iff, decide_eq_true_iff, decide_eq_true_iff]
    exact map_B_inj xs ys
  rw [e] at this
  exact this

theorem c_eqlAB {n bytes : Nat} {E : TypeId} {ze : List Value} {xs ys : List UInt8} (hu : P.underlying t = some (.array n E)) (hE : Ty P E (.int .u8) 1 bytes ze) (hg : P.eqGuardType P.depth t = false)
    (hx : a.eval x = .agg (xs.map B).toArray) (hy : a.eval y = .agg (ys.map B).toArray) (lx : xs.length = n) (ly : ys.length = n) :
    (execOp a.eval ⟨d, .binOp .eql t x y u, ty, pos, aft, g⟩).run P w = .ok (.value (.bool (decide (xs = ys)))) w := by
  simp [execOp, hx, hy, eqGuard, binOp, hg, eqlB hu hE xs ys lx ly]
theorem c_neqAB {n bytes : Nat} {E : TypeId} {ze : List Value} {xs ys : List UInt8} (hu : P.underlying t = some (.array n E)) (hE : Ty P E (.int .u8) 1 bytes ze) (hg : P.eqGuardType P.depth t = false)
    (hx : a.eval x = .agg (xs.map B).toArray) (hy : a.eval y = .agg (ys.map B).toArray) (lx : xs.length = n) (ly : ys.length = n) :
    (execOp a.eval ⟨d, .binOp .neq t x y u, ty, pos, aft, g⟩).run P w = .ok (.value (.bool (!decide (xs = ys)))) w := by
  simp [execOp, hx, hy, eqGuard, binOp, hg, eqlB hu hE xs ys lx ly]

theorem eq_bool (hu : P.underlying t = some .bool) (b c : Bool) (n : Nat) : (Op.equalIn (n + 1) t (.bool b) (.bool c)).run P w = .ok (b == c) w := by simp [Op.equalIn, run_underlying hu]
theorem c_eqlbool {b c : Bool} (hu : P.underlying t = some .bool) (hx : a.eval x = .bool b) (hy : a.eval y = .bool c) :
    (execOp a.eval ⟨d, .binOp .eql t x y u, ty, pos, aft, g⟩).run P w = .ok (.value (.bool (b == c))) w := by
  have e : (Op.equal t (.bool b) (.bool c)).run P w = .ok (b == c) w := eq_bool hu b c 9999
  simp [execOp, hx, hy, eqGuard, binOp, e]
theorem c_neqbool {b c : Bool} (hu : P.underlying t = some .bool) (hx : a.eval x = .bool b) (hy : a.eval y = .bool c) :
    (execOp a.eval ⟨d, .binOp .neq t x y u, ty, pos, aft, g⟩).run P w = .ok (.value (.bool (!(b == c)))) w := by
  have e : (Op.equal t (.bool b) (.bool c)).run P w = .ok (b == c) w := eq_bool hu b c 9999
  simp [execOp, hx, hy, eqGuard, binOp, e]
end

section
variable {P : Program} {ops : Array Oper} {N B1 : Nat} {w1 : World} {K : List (Nat × Value) → Fes → Prop} {Fc : List (Nat × Value)} {Fe : Fes} {rest : List Oper}
variable {d : Tmp} {op : Op} {ty : TypeId} {pos : String} {aft : Array Edge}
/-- A guarded operation in a region that draws, whatever its guard. -/
theorem rg_g {v : Value} {j s : Nat} {b c : Bool} (hj : (ops[j]?).bind (·.dst) = some s) (hb : look Fc s = some (.bool c))
    (h : c = b → ∀ a w, RC N Fc Fe ⟨some d, op, ty, pos, aft, some (j, b)⟩ B1 w1 a w → (execOp a.eval ⟨some d, op, ty, pos, aft, some (j, b)⟩).run P w = .ok (.value v) w) (hE : lookE Fe d = none)
    (k : RG P ops N B1 w1 K ((d, if c = b then v else undef) :: Fc) Fe rest) : RG P ops N B1 w1 K Fc Fe (⟨some d, op, ty, pos, aft, some (j, b)⟩ :: rest) := by
  by_cases e : c = b
  · subst e
    exact rg_yes hj hb (h rfl) hE (by simpa using k)
  · exact rg_no hj hb (by cases c <;> cases b <;> simp_all) hE (by simpa [e] using k)
end
end Go.Fw
