/- Guarded operations in regions that draw; numbers of sixteen bits. -/
import Derived.Test.YtmgnnclkjkbmdaaFw20
set_option linter.unusedSimpArgs false
set_option linter.unusedVariables false
namespace Go.Fw
open Go
section
variable {P : Program} {ops : Array Oper} {N B1 : Nat} {w1 : World} {K : List (Nat × Value) → Fes → Prop} {Fc : List (Nat × Value)} {Fe : Fes} {rest : List Oper}
variable {d : Tmp} {op : Op} {ty : TypeId} {pos : String} {aft : Array Edge}
/-- A guard that is met is no guard. -/
theorem rg_strip {j s : Nat} {b : Bool} (hj : (ops[j]?).bind (·.dst) = some s) (hb : look Fc s = some (.bool b)) (k : RG P ops N B1 w1 K Fc Fe (⟨some d, op, ty, pos, aft, none⟩ :: rest)) :
    RG P ops N B1 w1 K Fc Fe (⟨some d, op, ty, pos, aft, some (j, b)⟩ :: rest) := by
  obtain ⟨d', D, h1, h2, h3, h4⟩ := k
  refine ⟨d', D, h1, ?_, h3, h4⟩
  rcases h2 with ⟨_, h⟩ | ⟨h, _⟩
  · exact .inl ⟨by simp [wantedAs, hj, hb], fun a w hc => h a w ⟨hc.know, hc.fr, hc.ents⟩⟩
  · simp [wantedAs] at h
end
section
variable {P : Program} {a : Act} {w : World} {d : Option Tmp} {ty : TypeId} {pos : String} {aft : Array Edge} {g : Option (Nat × Bool)} {x y z : Operand} {t u : TypeId}
theorem c_cvWI {ds : TypeDesc} {n : Int} (hs : P.underlying t = some ds) (hd : P.underlying u = some (.int .i64)) (hx : a.eval x = .int .u16 n) (h0 : 0 ≤ n ∧ n < 65536) :
    (execOp a.eval ⟨d, .convert t u x, ty, pos, aft, g⟩).run P w = .ok (.value (I n)) w := by
  rw [c_conv hs hd hx]
  congr 3
  simp [IntKind.wrap, IntKind.min, IntKind.max, IntKind.signed, IntKind.bits]
  omega
end
end Go.Fw
