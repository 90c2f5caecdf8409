/- Own texts of this seat, laid together: Fw32, Fw33. -/
import Derived.Test.YtmgnnclkjkbmdaaGa
import Derived.Test.YtmgnnclkjkbmdaaGb
import Derived.Test.YtmgnnclkjkbmdaaGc
import Derived.Test.YtmgnnclkjkbmdaaGd
import Derived.Test.YtmgnnclkjkbmdaaGe
import Derived.Test.YtmgnnclkjkbmdaaGf
import Derived.Test.YtmgnnclkjkbmdaaGg
import Derived.Test.YtmgnnclkjkbmdaaGh
import Derived.Test.YtmgnnclkjkbmdaaGi
import Derived.Test.YtmgnnclkjkbmdaaGj
import Derived.Handed
import Derived.ChangeFn
import Derived.WideWitness
import Derived.KernelRfl
/- Guarded calls in a region that draws, whatever the guard; reading rows of many cells. -/
section
set_option linter.unusedSimpArgs false
set_option linter.unusedVariables false
namespace Go.Fw
open Go
section
variable {P : Program} {ops : Array Oper} {N B1 : Nat} {w1 : World} {K : List (Nat × Value) → Fes → Prop} {Fc : List (Nat × Value)} {Fe : Fes} {rest : List Oper}
variable {d : Tmp} {op : Op} {ty : TypeId} {pos : String} {aft : Array Edge}
theorem rg_gcall {f : FuncId} {args : Array Operand} {vs : List Value} {tys : Array TypeId} {v : Value} {j s : Nat} {b c : Bool} (hj : (ops[j]?).bind (·.dst) = some s) (hb : look Fc s = some (.bool c)) (hF : Fun P f)
    (hargs : c = b → ∀ a w, RC N Fc Fe ⟨some d, .call { callee := .value (.func f), args := args, argTypes := tys }, ty, pos, aft, some (j, b)⟩ B1 w1 a w → Evs a args.toList vs)
    (hc : c = b → ∀ w, Fr0 w1 w → Ctr P f vs w (fun _ => False) fun u _ => u = v) (hE : lookE Fe d = none)
    (k : RG P ops N B1 w1 K ((d, if c = b then v else undef) :: Fc) Fe rest) : RG P ops N B1 w1 K Fc Fe (⟨some d, .call { callee := .value (.func f), args := args, argTypes := tys }, ty, pos, aft, some (j, b)⟩ :: rest) := by
  by_cases e : c = b
  · rw [if_pos e] at k
    refine ⟨d, .c v, rfl, .inl ⟨by subst e; simp [wantedAs, hj, hb], fun a w h => ?_⟩, hE, k⟩
    rw [run_call hF (hargs e a w h)]
    exact Calls.mono (hc e w h.fr) fun e w' ⟨u, he, hf, hv⟩ => ⟨u, he, [], ⟨hv, rfl⟩, hf, .nil _ _⟩
  · rw [if_neg e] at k
    exact rg_no hj hb (by cases c <;> cases b <;> simp_all) hE k
end
/-- One of the rows of m bytes behind a slice. -/
theorem rowpiece {n m i : Nat} {xs : List UInt8} {cur : Array Value} (h : cur.toList.take (n * m) = xs.map B) (hx : xs.length = n * m) (hi : i < n) : (cur.toList.drop (0 + i * m)).take m = ((xs.drop (i * m)).take m).map B := by
  have hle : (i + 1) * m ≤ n * m := Nat.mul_le_mul_right _ (by omega)
  rw [Nat.succ_mul] at hle
  have h2 : ((cur.toList.take (n * m)).drop (i * m)).take m = ((xs.map B).drop (i * m)).take m := by rw [h]
  rw [List.drop_take, List.take_take, Nat.min_eq_left (by omega)] at h2
  rw [Nat.zero_add, h2, List.map_take, List.map_drop]
end Go.Fw
end

/- A witness with an array of arrays of zeros. -/
section
set_option linter.unusedSimpArgs false
set_option linter.unusedVariables false
namespace Go.Fw
open Go
theorem mapM_same {β : Type} {f : Nat → Option β} {x : β} : ∀ {l : List Nat}, (∀ i ∈ l, f i = some x) → l.mapM f = some (List.replicate l.length x)
  | [], _ => by simp
  | i :: l, h => by
    have ih := mapM_same (l := l) fun j hj => h j (by simp [hj])
    simp [List.mapM_cons, h i (by simp), ih, List.replicate_succ]
section
variable {H : Type} {enc : TypeId × Value → H} {P : Program} {w : World} {base : Nat} {sp : Nat → Bool} {held : Bool} {t e u : TypeId} {n m : Nat}
theorem okWideZZ {dd b0 : Nat} (ht : P.underlying t = some (.array n e)) (he : P.underlying e = some (.array m u)) (hu : P.underlying u = some (.int .u8)) (hd : P.depth = dd + 3) (hc : P.cellsOf t = n * m) (hp : 0 < n * m)
    (hw : Cell.okWide P w .any b0 u (.int .u8 0)) : Value.okWide P w .any b0 t (.agg (Array.mk (List.replicate (n * m) (Value.int .u8 0)))) := by
  unfold Value.okWide
  rw [ht]
  refine ⟨_, rfl, by simp [hc], List.replicate (n * m) u, ?_, ⟨1, by simp⟩, fun i v hv => ?_⟩
  · rw [hd]
    simp [Program.cellTypes, ht, he, hu]
  · have hlt : i < n * m := by have := (Array.getElem?_eq_some_iff.1 hv).1; simpa using this
    have hv2 : v = .int .u8 0 := by
      simp only [List.getElem?_toArray, List.getElem?_replicate, hlt, if_true] at hv
      exact (Option.some.inj hv).symm
    subst hv2
    refine ⟨u, ?_, hw⟩
    rw [List.length_replicate, List.getElem?_replicate, if_pos (Nat.mod_lt _ hp)]
theorem trodZ1 {fu : Nat} (hu : P.underlying u = some (.int .u8)) : DataW.trod enc P w base sp held (fu + 1) u [.int .u8 0] = some (.lit (.int .u8 0), []) := by
  have hw : (Lit.int .u8 0).wf = true := by decide
  simp [DataW.trod, hu, hw]
theorem trodZ2 {fu : Nat} (he : P.underlying e = some (.array m u)) (hu : P.underlying u = some (.int .u8)) (hce : P.cellsOf e = m) (hcu : P.cellsOf u = 1) :
    DataW.trod enc P w base sp held (fu + 2) e (List.replicate m (.int .u8 0)) = some (.agg (List.replicate m (.lit (.int .u8 0))), []) := by
  unfold DataW.trod
  simp only [he, hce, List.length_replicate, if_true, hcu]
  rw [mapM_same (x := (DataW.lit (.int .u8 0), [])) fun i hi => ?_]
  · simp
  · have hi' := List.mem_range.1 hi
    have e2 : ((List.replicate m (Value.int .u8 0)).drop (i * 1)).take 1 = [.int .u8 0] := by
      rw [List.drop_replicate, List.take_replicate, show min 1 (m - i * 1) = 1 from by omega]; rfl
    rw [e2]
    exact trodZ1 hu
theorem trodZZ {fu : Nat} (ht : P.underlying t = some (.array n e)) (he : P.underlying e = some (.array m u)) (hu : P.underlying u = some (.int .u8)) (hct : P.cellsOf t = n * m) (hce : P.cellsOf e = m) (hcu : P.cellsOf u = 1) :
    DataW.trod enc P w base sp held (fu + 3) t (List.replicate (n * m) (.int .u8 0)) = some (.agg (List.replicate n (.agg (List.replicate m (.lit (.int .u8 0))))), []) := by
  unfold DataW.trod
  simp only [ht, hct, List.length_replicate, if_true, hce]
  rw [mapM_same (x := (DataW.agg (List.replicate m (.lit (.int .u8 0))), [])) fun i hi => ?_]
  · simp
  · have hi' := List.mem_range.1 hi
    have hle : (i + 1) * m ≤ n * m := Nat.mul_le_mul_right _ (by omega)
    rw [Nat.succ_mul] at hle
    have e2 : ((List.replicate (n * m) (Value.int .u8 0)).drop (i * m)).take m = List.replicate m (.int .u8 0) := by
      rw [List.drop_replicate, List.take_replicate, show min m (n * m - i * m) = m from by omega]
    rw [e2]
    exact trodZ2 he hu hce hcu
end
/-- A witness, by what is known of it. -/
theorem witnessBy {H : Type} {enc : TypeId × Value → H} {C : Checked} {os : Os} {f : FuncId} {fn : Func} {s : ChangeSpec} {conds : List PathCond} {apart : Bool} (modest : Bool) (i : Input) (fuel : Nat)
    (hv : (World.plainHolding C.prog os i).variablesB C.prog = true)
    (hr : ((World.plainHolding C.prog os i).heap.toList.drop C.prog.globals.size).take ((begin C.prog (fun _ _ => 0) default).world.heap.size - C.prog.globals.size) =
      (begin C.prog (fun _ _ => 0) default).world.heap.toList.drop C.prog.globals.size)
    (hok : Input.okWide C.prog (World.plainHolding C.prog os i) .any (World.plainHolding C.prog os i).heap.size f ⟨#[], i.args, []⟩)
    (hpre : s.preB enc C.prog fn conds apart (World.plainHolding C.prog os i).memory i.args fuel = true)
    (hsz : s.sizedB enc C.prog fn apart (World.plainHolding C.prog os i).memory i.args fuel = true) (hh : (World.plainHolding C.prog os i).heap.size = (World.holding C.prog os i).heap.size) :
    ∃ (w : World) (tape : Tape) (i : Input), w.os = os ∧ (w.forCall tape i).Shaped C.prog ∧ i.vars = [] ∧ Input.okWide C.prog (w.forCall tape i) .any w.heap.size f i ∧
      s.pre6 enc C.prog fn conds apart (w.forCall tape i).memory i.args ∧ ({ modest := modest } : Assume).holds C.prog (lone (Frame.enter C.prog f i.args .normal) [] (w.forCall tape i)) :=
  ⟨World.holding C.prog os i, fun _ _ => 0, ⟨#[], i.args, []⟩, rfl, World.shaped_of_B hv hr, rfl, by rw [← hh]; exact hok, ⟨ChangeSpec.pre_of_preB hpre, sizedMet_of_sizedB hsz⟩, by
    simp only [Assume.holds]
    exact ⟨by simp, by simp, fun _ => Modest.zero, by simp, by simp⟩⟩
end Go.Fw
end
