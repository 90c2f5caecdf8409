/- Closed facts on the program's tables; comparisons of arrays; what else the walks want. -/
import Derived.Test.YtmgnnclkjkbmdaaFw9
set_option linter.unusedSimpArgs false
set_option linter.unusedVariables false
namespace Go.Fw
open Go

def dOf (P : Program) (T : TypeId) : TypeDesc := (P.underlying T).getD .invalid
theorem Ty.of {P : Program} {T : TypeId} {d : TypeDesc} {sz bytes : Nat} {v : Value} {z : List Value} (h1 : P.underlying T = some d) (h2 : (P.info? T).map (fun i => (i.zero, i.size, i.bytes)) = some (some v, sz, bytes))
    (h3 : v.cells = z.toArray) (h4 : z.length = sz) (h5 : z.all (·.oneCell') = true) : Ty P T d sz bytes z := by
  cases hi : P.info? T with
  | none => rw [hi] at h2; cases h2
  | some i =>
    rw [hi] at h2
    simp at h2
    exact ⟨h1, ⟨i, hi, h2.2.1, h2.2.2, v, h2.1, h3⟩, h4, h5⟩
theorem und_of {P : Program} {T : TypeId} (h : (P.underlying T).isSome = true) : P.underlying T = some (dOf P T) := by
  unfold dOf
  cases hu : P.underlying T with
  | none => rw [hu] at h; cases h
  | some d => rfl

def fldB (P : Program) (S : TypeId) (f off : Nat) : Bool :=
  match P.underlying S with
  | some (.struct fs) => match fs[f]? with
    | some fl => Nat.beq fl.offset off && (match P.info? fl.type with | some i => !Nat.beq i.size 0 | none => false)
    | none => false
  | _ => false
theorem Fld.of {P : Program} {S : TypeId} {f off : Nat} (h : fldB P S f off = true) : Fld P S f off := by
  unfold fldB at h
  split at h
  · rename_i fs hu
    split at h
    · rename_i fl hf
      simp only [Bool.and_eq_true] at h
      cases hi : P.info? fl.type with
      | none => rw [hi] at h; cases h.2
      | some i =>
        rw [hi] at h
        refine ⟨fs, fl, i, hu, hf, Nat.eq_of_beq_eq_true h.1, hi, fun e => ?_⟩
        have h2 := h.2
        dsimp only at h2
        rw [e] at h2
        cases h2
    · cases h
  · cases h

section
variable {N : Nat} {F F' : List (Nat × Value)} {L L' : List Ent} {M : Nat → Prop} {w0 w w' : World} {a : Act}
theorem St.add {n : Nat} {v : Value} (h : St N F L M w0 a w) (hv : a.tmps[n]? = some v) : St N ((n, v) :: F) L M w0 a w := by
  refine ⟨⟨h.know.size, h.know.defers, fun k u hk => ?_⟩, h.has, h.own, h.fr⟩
  simp only [look] at hk
  by_cases e : n = k
  · subst e
    simp at hk
    rw [← hk]
    exact hv
  · rw [Nat.beq_eq_false_of e] at hk
    exact h.know.at_ k u hk
theorem St.rd {v : Value} {n : Nat} {cs : List Value} (h : St N F L (fun _ => False) w0 a w) (hr : Rd w0 v n cs) : Rd w v n cs := hr.fr0 h.fr
end

/-! loops -/
theorem s_loop {P : Program} {Q : Exit → Act → World → Prop} {N : Nat} {F : List (Nat × Value)} {L : List Ent} {M : Nat → Prop} {w0 w : World} {a : Act} {c : Code} {X : Type}
    (hs : St N F L M w0 a w) (Fm : X → List (Nat × Value)) (Fb : List (Nat × Value)) (Lm : X → List Ent) (ok : Nat → X → Prop) (n : Nat) (x : X) (h0 : ok n x) (hF : Sub F (Fm x ++ Fb)) (hL : L = Lm x)
    (round : ∀ n x a w, ok n x → St N (Fm x ++ Fb) (Lm x) M w0 a w → c.wp P (Exit.then (fun a' w' => ∃ m, m < n ∧ ∃ x', ok m x' ∧ St N (Fm x' ++ Fb) (Lm x') M w0 a' w') Q) a w) : (Code.loop c).wp P Q a w := by
  refine wp_loop_ix (fun n a w => ∃ x, ok n x ∧ St N (Fm x ++ Fb) (Lm x) M w0 a w) n ⟨x, h0, (hs.sub hF).toL hL⟩ ?_
  rintro n a w ⟨x, hx, hs⟩
  exact round n x a w hx hs

section
variable {Q : Exit → Act → World → Prop} {K : Act → World → Prop} {a : Act} {w : World}
theorem then_n (h : K a w) : Exit.then K Q .normal a w := h
theorem then_e {id : Nat} (h : Q (.exit id) a w) : Exit.then K Q (.exit id) a w := h
theorem then_r (h : Q .ret a w) : Exit.then K Q .ret a w := h
theorem blk_n {id : Nat} (h : Q .normal a w) : Exit.inBlock id Q .normal a w := h
theorem blk_r {id : Nat} (h : Q .ret a w) : Exit.inBlock id Q .ret a w := h
theorem blk_hit {id : Nat} (h : Q .normal a w) : Exit.inBlock id Q (.exit id) a w := by simp only [Exit.inBlock, if_true]; exact h
theorem blk_miss {id id' : Nat} (hne : Nat.beq id' id = false) (h : Q (.exit id') a w) : Exit.inBlock id Q (.exit id') a w := by
  have : id' ≠ id := fun e => by subst e; simp at hne
  simp only [Exit.inBlock, if_neg this]; exact h
end

/-! more of int -/
section
variable {P : Program} {a : Act} {w : World} {d : Option Tmp} {ty : TypeId} {pos : String} {aft : Array Edge} {g : Option (Nat × Bool)} {x y z : Operand} {t u : TypeId}
theorem c_shlI {i : Int} {k : IntKind} {n : Nat} (hx : a.eval x = I i) (hy : a.eval y = .int k (n : Int)) (hn : n < 64) (h1 : -9223372036854775808 ≤ i * 2 ^ n) (h2 : i * 2 ^ n < 9223372036854775808) :
    (execOp a.eval ⟨d, .binOp .shl t x y u, ty, pos, aft, g⟩).run P w = .ok (.value (I (i * 2 ^ n))) w := by
  have hm : min n 64 = n := by omega
  simp [execOp, hx, hy, eqGuard, binOp, Op.shift, IntKind.bits, hm, wrap64_in h1 h2]
theorem c_shrI {i : Int} {k : IntKind} {n : Nat} (hx : a.eval x = I i) (hy : a.eval y = .int k (n : Int)) (hn : n < 64) :
    (execOp a.eval ⟨d, .binOp .shr t x y u, ty, pos, aft, g⟩).run P w = .ok (.value (I (i / 2 ^ n))) w := by
  have hm : min n 64 = n := by omega
  simp [execOp, hx, hy, eqGuard, binOp, Op.shift, IntKind.bits, hm]
theorem eqpn {E : TypeId} (hu : P.underlying t = some (.pointer E)) (p : Addr) (n : Nat) : (Op.equalIn (n + 1) t (.pointer (some p)) (.pointer none)).run P w = .ok false w := by simp [Op.equalIn, run_underlying hu]
theorem eqnn {E : TypeId} (hu : P.underlying t = some (.pointer E)) (n : Nat) : (Op.equalIn (n + 1) t (.pointer none) (.pointer none)).run P w = .ok true w := by simp [Op.equalIn, run_underlying hu]
theorem c_eqlNil {p : Addr} {E : TypeId} (hu : P.underlying t = some (.pointer E)) (hx : a.eval x = .pointer (some p)) (hy : a.eval y = .pointer none) :
    (execOp a.eval ⟨d, .binOp .eql t x y u, ty, pos, aft, g⟩).run P w = .ok (.value (.bool false)) w := by
  have e : (Op.equal t (.pointer (some p)) (.pointer none)).run P w = .ok false w := by
    exact eqpn hu p 9999
  simp [execOp, hx, hy, eqGuard, binOp, e]
theorem c_eqlNil0 {E : TypeId} (hu : P.underlying t = some (.pointer E)) (hx : a.eval x = .pointer none) (hy : a.eval y = .pointer none) :
    (execOp a.eval ⟨d, .binOp .eql t x y u, ty, pos, aft, g⟩).run P w = .ok (.value (.bool true)) w := by
  have e : (Op.equal t (.pointer none) (.pointer none)).run P w = .ok true w := by
    exact eqnn hu 9999
  simp [execOp, hx, hy, eqGuard, binOp, e]
theorem c_eqlT {s s' : ByteArray} (hx : a.eval x = .string s) (hy : a.eval y = .string s') :
    (execOp a.eval ⟨d, .binOp .eql t x y u, ty, pos, aft, g⟩).run P w = .ok (.value (.bool (s.toList == s'.toList))) w := by
  simp [execOp, hx, hy, eqGuard, binOp, Op.stringOp]
theorem c_neqT {s s' : ByteArray} (hx : a.eval x = .string s) (hy : a.eval y = .string s') :
    (execOp a.eval ⟨d, .binOp .neq t x y u, ty, pos, aft, g⟩).run P w = .ok (.value (.bool (!(s.toList == s'.toList)))) w := by
  simp [execOp, hx, hy, eqGuard, binOp, Op.stringOp]
end
end Go.Fw
