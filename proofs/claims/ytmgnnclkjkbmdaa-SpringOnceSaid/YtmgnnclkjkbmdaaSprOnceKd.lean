/- Own texts of this seat, laid together for one claim (with what its proof uses alone). -/
import Derived.Test.YtmgnnclkjkbmdaaSprOnceKc
section
/- The law of new springs. -/
set_option linter.unusedSimpArgs false
set_option linter.unusedVariables false
set_option maxRecDepth 100000
namespace Go.Proofs.Ytmgnnclkjkbmdaa
open Go Go.Fw
open Sha
/-- A new spring, as a call tells it. -/
def sprE (sz : Nat) (W S H : Int) (seed : List UInt8) (d : Int) (ep : UInt32) : Value → List Ent → World → Prop := fun v L w =>
  L = [] ∧ ∃ p, SpIs p W S H seed d ep ∧ SpAt w p 0 (fun _ => none) none ∧ sz ≤ p.g ∧ sz ≤ p.cg ∧ v = .pointer (some ⟨p.g, 0, none⟩)
theorem sprE.st {sz : Nat} {W S H d : Int} {seed : List UInt8} {ep : UInt32} (v : Value) (L : List Ent) (w w' : World) (hf : Fr0 w w') (h : tupG [] [I 0] (sprE sz W S H seed d ep) v L w) : tupG [] [I 0] (sprE sz W S H seed d ep) v L w' := by
  obtain ⟨tv, h1, h2, p, h3, h4, h5⟩ := h
  exact ⟨tv, h1, h2, p, h3, h4.fr0 hf, h5⟩
theorem spring_NewE {W S H d : Int} {ep : UInt32} {seed : List UInt8} (hsd : seed.length = 32) (hyes : spFits W S H d ep = true) (w : World) (sz : Nat) (hsz : sz ≤ w.heap.size) : Ctr Try.prog 126 [.agg #[I W, I S, I H], .agg (seed.map B).toArray, I d, U ep] w (fun _ => False) (outE (tupG [] [I 0] (sprE sz W S H seed d ep)) w) :=
  (spring_New W S H d ep seed hsd w).mono fun v w' _ h => h.elim (fun h => by rw [hyes] at h; cases h.1) fun ⟨_, p, h1, h2, h3, h4, h5⟩ => ⟨[], ⟨_, h5, rfl, p, h1, h2, Nat.le_trans hsz h3, Nat.le_trans hsz h4, rfl⟩, .nil _ _⟩
end Go.Proofs.Ytmgnnclkjkbmdaa
end

section
/- What a spring issues. -/
set_option linter.unusedSimpArgs false
set_option linter.unusedVariables false
set_option maxRecDepth 100000
namespace Go.Proofs.Ytmgnnclkjkbmdaa
open Go Go.Fw
open Sha
section
variable {N : Nat} {F : List (Nat × Value)} {p : Spr} {A : List Ent} {xs ys : List Value} {T U : TypeId} {w0 w1 w2 : World} {a : Act} {M : Nat → Prop}
theorem _root_.Go.Fw.St.unrebase {L L0 : List Ent} (h : St N F L (Ent.grp L0).keys w1 a w2) (hf : Fr M w0 w1) (ho : ∀ e ∈ L0, ∀ k, e.keys k → w0.heap.size ≤ k ∨ M k) : St N F L M w0 a w2 :=
  ⟨h.know, h.has, fun e he k hk => (h.own e he k hk).elim (fun h1 => .inl (Nat.le_trans hf.size h1)) fun ⟨e', he', hk'⟩ => ho e' he' k hk', Fr.rebase hf ho h.fr⟩
end
end Go.Proofs.Ytmgnnclkjkbmdaa
end

section
/- Frames put together again; a block owned once more; openings of []int. -/
set_option linter.unusedSimpArgs false
set_option linter.unusedVariables false
namespace Go.Fw
section
open Go
variable {N : Nat} {F F0 : List (Nat × Value)} {L L0 : List Ent} {M : Nat → Prop} {w0 w1 w : World} {a a0 : Act}
end
section
open Go Go.ChangeShapes Go.WideShapes Go.ChangeAt Go.RowKit
variable {H : Type} {enc : TypeId × Value → H} {P : Program} {w : World} {base : Nat} {spare : Nat → Bool} {held : Bool} {fuel : Nat} {t e u : TypeId} {cs : List Value} {x : DataW H × List MemPlace} {v : Value} {d : DataW H} {ps : List MemPlace} {r : Reach} {b0 : Nat}
theorem opSI (ht : P.underlying t = some (.slice e)) (he : P.underlying e = some (.int .i64)) (hc : P.cellsOf e = 1) (hval : Value.okWide P w r b0 t v) (hd : DataW.Trod enc P w base spare held t v d ps) :
    ∃ l : List Int, Rd w v l.length (l.map I) := by
  obtain ⟨l, h, _⟩ := opSlG (α := Int) (f := I) (fun n _ => ⟨n, rfl⟩) ht he hc hval hd
  exact ⟨l, h⟩
end
end Go.Fw
end

section
/- The law of what lasts. -/
set_option linter.unusedSimpArgs false
set_option linter.unusedVariables false
set_option maxRecDepth 100000
namespace Go.Proofs.Ytmgnnclkjkbmdaa
open Go Go.Fw
open Sha
theorem ne_kind {w : World} {b b' : Nat} {cs cs' : Array Value} {T T' : TypeId} {fr fr' : Nat × Nat} (h : w.heap[b]? = some (.cells cs T fr)) (h' : w.heap[b']? = some (.cells cs' T' fr')) (hT : Nat.beq T T' = false) : b ≠ b' := fun e => by
  subst e
  rw [h] at h'
  cases h'
  simp at hT
end Go.Proofs.Ytmgnnclkjkbmdaa
end

section
/- Maps from numbers to rows of bytes, made by the function itself. -/
set_option linter.unusedSimpArgs false
set_option linter.unusedVariables false
namespace Go.Fw
open Go Go.Maps
open Classical in
/-- How a row of bytes reads. -/
noncomputable def R16 (v : Value) : Option (DataW Unit × List MemPlace) :=
  if h : ∃ l : List UInt8, v = .agg (l.map B).toArray then some (.lit (.string h.choose), []) else none
theorem mapB_inj {x y : List UInt8} (h : x.map B = y.map B) : x = y := by
  refine (map_B_inj x y).1 ?_
  have := congrArg (List.map fun v : Value => match v with | .int _ n => n | _ => 0) h
  simpa [List.map_map, Function.comp_def, B] using this
theorem R16_of (l : List UInt8) : R16 (.agg (l.map B).toArray) = some (.lit (.string l), []) := by
  have h : ∃ l' : List UInt8, Value.agg (l.map B).toArray = .agg (l'.map B).toArray := ⟨l, rfl⟩
  have h2 := h.choose_spec
  rw [R16, dif_pos h]
  have h3 : l.map B = h.choose.map B := by
    injection h2 with h2
    simpa using congrArg Array.toList h2
  rw [← mapB_inj h3]
theorem R16_inv {v : Value} {l : List UInt8} {ps : List MemPlace} (h : R16 v = some (.lit (.string l), ps)) : v = .agg (l.map B).toArray := by
  unfold R16 at h
  split at h
  · rename_i hx
    have h2 := hx.choose_spec
    simp only [Option.some.injEq, Prod.mk.injEq, DataW.lit.injEq, Lit.string.injEq] at h
    rw [h2, ← h.1]
  · cases h
/-- Block b: a map that reads as f, of c entries. -/
def MapL (P : Program) (k : TypeId) (b n : Nat) (f : Nat → Option (List UInt8)) (c : Nat) (w : World) : Prop :=
  ∃ D : DataW Unit, w.ownsMap P k R16 b n D ∧ Maps.size D = c ∧ ∀ q : Nat, Maps.has D (.int .i64 q) = (f q).isSome ∧ ∀ l, f q = some l → ∀ z, D.atKey (.int .i64 q) z = .lit (.string l)
section
variable {P : Program} {k t e : TypeId} {w w' : World} {b n c : Nat} {f : Nat → Option (List UInt8)}
theorem MapL.blk (h : MapL P k b n f c w) : ∃ es cl, w.heap[b]? = some (.map es cl) := by
  obtain ⟨D, ⟨es, cl, hb, _⟩, _⟩ := h
  exact ⟨es, cl, hb⟩
theorem MapL.loc (hb : w'.heap[b]? = w.heap[b]?) (h : MapL P k b n f c w) : MapL P k b n f c w' := by
  obtain ⟨D, ⟨es, cl, h1, h2, h3, h4⟩, h5⟩ := h
  exact ⟨D, ⟨es, cl, hb.trans h1, h2, h3, h4⟩, h5⟩
theorem MapL.made (w : World) : MapL P k w.heap.size 0 (fun _ => none) 0 (w.alloc (.map #[] 0)) :=
  ⟨_, w.ownsMap_made P k R16, rfl, fun q => ⟨rfl, fun l h => by cases h⟩⟩
theorem MapL.len (h : MapL P k b n f c w) (ht : P.underlying t = some (.map k e)) (ty : TypeId) : (Builtin.len_ #[t] ty #[.map (some b)]).run P w = .ok (I c) w := by
  obtain ⟨D, h1, h2, _⟩ := h
  rw [h1.len ht ty, h2]
theorem key_of (hk : P.underlying k = some (.int .i64)) {q : Nat} (hq : q < 9223372036854775808) : keyOf P k (I q) = some (.int .i64 q) := Maps.keyOf_int_mk hk (by
  have h1 : IntKind.i64.min = -9223372036854775808 := by decide
  have h2 : IntKind.i64.max = 9223372036854775807 := by decide
  simp [Lit.wf, h1, h2]
  omega)
theorem MapL.look (h : MapL P k b n f c w) (hk : P.underlying k = some (.int .i64)) (ht : P.underlying t = some (.map k e)) {z : List UInt8} (hz : (zeroValue e).run P w = .ok (.agg (z.map B).toArray) w) {q : Nat} (hq : q < 9223372036854775808) :
    (Instr.lookup t (.map (some b)) (I q) true).run P w = .ok (.tuple #[.agg (((f q).getD z).map B).toArray, .bool (f q).isSome]) w := by
  obtain ⟨D, h1, h2, h3⟩ := h
  obtain ⟨v, ps, h4, h5⟩ := h1.look_ok (int_keyed hk) ht hz (R16_of z) (key_of hk hq)
  obtain ⟨h6, h7⟩ := h3 q
  rw [h4, h6]
  cases hf : f q with
  | some l =>
    rw [h7 l hf] at h5
    rw [R16_inv h5]
    rfl
  | none =>
    rw [hf] at h6
    rw [atKey_of_not_has h6] at h5
    rw [R16_inv h5]
    rfl
theorem MapL.store (h : MapL P k b n f c w) (hk : P.underlying k = some (.int .i64)) (ht : P.underlying t = some (.map k e)) (hn : n < maxLen) {q : Nat} (hq : q < 9223372036854775808) (l : List UInt8) :
    ∃ w', (Instr.mapUpdate t (.map (some b)) (I q) (.agg (l.map B).toArray)).run P w = .ok () w' ∧ MapL P k b (n + 1) (fun x => if x = q then some l else f x) (if (f q).isSome then c else c + 1) w' ∧ w.mapTurned w' b := by
  obtain ⟨D, h1, h2, h3⟩ := h
  have K := int_keyed hk
  have hkey := key_of hk hq
  have hil := K.key hkey
  obtain ⟨w', h4, h5, h6⟩ := h1.store K ht hn hkey (R16_of l)
  refine ⟨w', h4, ⟨_, h5, ?_, fun x => ?_⟩, h6⟩
  · rw [size_put (h1.tidy K), (h3 q).1, h2]
  · by_cases e : x = q
    · subst e
      simp only [if_true]
      refine ⟨has_put_same h1.isMap hil _, fun l' hl z => ?_⟩
      cases hl
      exact atKey_put_same h1.isMap hil _ _
    · simp only [if_neg e]
      have hne : Lit.int .i64 (x : Int) ≠ .int .i64 (q : Int) := fun h => e (by injection h with _ h; omega)
      rw [has_put_other hne]
      exact ⟨(h3 x).1, fun l' hl z => by rw [atKey_put_other hne]; exact (h3 x).2 l' hl z⟩
theorem turned_fr (h : w.mapTurned w' b) : Fr (fun k => k = b) w w' := Fr.grown h.grown |>.mono fun k _ hk => by simpa using hk.symm
/-- A map, as a thing. -/
def Ent.mapL (P : Program) (k : TypeId) (b n : Nat) (f : Nat → Option (List UInt8)) (c : Nat) : Ent := .pr (fun k => k = b) (MapL P k b n f c) fun _ _ hb h => h.loc (hb b rfl)
end
end Go.Fw
end

section
/- Steps on maps. -/
set_option linter.unusedSimpArgs false
set_option linter.unusedVariables false
namespace Go.Fw
open Go
section
variable {P : Program} {ops : Array Oper} {Q : Exit → Act → World → Prop} {rest : List Oper} {N : Nat} {F F' : List (Nat × Value)} {L L' : List Ent} {M : Nat → Prop} {w0 w : World} {a : Act}
variable {d : Tmp} {ty : TypeId} {pos : String} {aft : Array Edge} {x y z : Operand} {t k e : TypeId} {b n c : Nat} {f : Nat → Option (List UInt8)}
theorem s_makeMap (hs : St N F L M w0 a w) (hd : Nat.blt d N = true) (kk : ∀ a w gb, St N ((d, .map (some gb)) :: F) (.mapL P k gb 0 (fun _ => none) 0 :: L) M w0 a w → wpList P ops Q rest a w) : wpList P ops Q (⟨some d, .makeMap t none, ty, pos, aft, none⟩ :: rest) a w := by
  have hr : (execOp a.eval ⟨some d, .makeMap t none, ty, pos, aft, none⟩).run P w = .ok (.value (.map (some w.heap.size))) (w.alloc (.map #[] 0)) := by
    simp [execOp, RowKit.run_makeMap]
  refine s_new hs hr hd (.alloc _ _) (L' := [.mapL P k w.heap.size 0 (fun _ => none) 0]) ⟨?_, List.pairwise_singleton _ _, ?_, ?_⟩ fun a hs => kk a _ _ hs
  · intro e he
    simp only [List.mem_singleton] at he
    subst he
    exact MapL.made w
  · intro e he q hq
    simp only [List.mem_singleton] at he
    subst he
    have hq : q = w.heap.size := hq
    subst hq
    simp
  · intro e he q hq
    simp only [List.mem_singleton] at he
    subst he
    have hq : q = w.heap.size := hq
    omega
theorem c_lookup {dd : Option Tmp} {g : Option (Nat × Bool)} {zs : List UInt8} {q : Nat} (hk : P.underlying k = some (.int .i64)) (ht : P.underlying t = some (.map k e)) (hz : (zeroValue e).run P w = .ok (.agg (zs.map B).toArray) w) (h : MapL P k b n f c w) (hx : a.eval x = .map (some b)) (hy : a.eval y = I q) (hq : q < 9223372036854775808) :
    (execOp a.eval ⟨dd, .lookup t x y true, ty, pos, aft, g⟩).run P w = .ok (.value (.tuple #[.agg (((f q).getD zs).map B).toArray, .bool (f q).isSome])) w := by
  simp [execOp, hx, hy, h.look hk ht hz hq]
theorem c_lenM {dd : Option Tmp} {g : Option (Nat × Bool)} (ht : P.underlying t = some (.map k e)) (h : MapL P k b n f c w) (hx : a.eval x = .map (some b)) :
    (execOp a.eval ⟨dd, .call { callee := .builtin .len, args := #[x], argTypes := #[t] }, ty, pos, aft, g⟩).run P w = .ok (.value (I c)) w := by
  simp [execOp, resolve, invoke, builtin, hx, h.len ht ty]
theorem s_mapUpdate {i q : Nat} {l : List UInt8} (hs : St N F L M w0 a w) (hk : P.underlying k = some (.int .i64)) (ht : P.underlying t = some (.map k e)) (hx : ev F x = some (.map (some b))) (hy : ev F y = some (I q)) (hv : ev F z = some (.agg (l.map B).toArray)) (hi : L[i]? = some (.mapL P k b n f c)) (hn : n < maxLen) (hq : q < 9223372036854775808)
    (kk : ∀ w, St N F (L.set i (.mapL P k b (n + 1) (fun x => if x = q then some l else f x) (if (f q).isSome then c else c + 1))) M w0 a w → wpList P ops Q rest a w) : wpList P ops Q (⟨none, .mapUpdate t x y z, ty, pos, aft, none⟩ :: rest) a w := by
  have hm : MapL P k b n f c w := hs.get hi
  obtain ⟨w', h1, h2, h3⟩ := hm.store hk ht hn hq l
  have hr : (execOp a.eval ⟨none, .mapUpdate t x y z, ty, pos, aft, none⟩).run P w = .ok .skip w' := by
    simp [execOp, hs.ev hx, hs.ev hy, hs.ev hv, h1]
  refine wpList_plain rfl fun K hK => upon_skip hr (hK _ _ (kk _ ?_))
  refine hs.mod hi (turned_fr h3) h2 fun j hj => ⟨.inl hj, ?_⟩
  obtain ⟨es, cl, h4⟩ := h2.blk
  have hj : j = b := hj
  subst hj
  exact heap_lt h4
end
end Go.Fw
end

section
/- The law of what is made once. -/
set_option linter.unusedSimpArgs false
set_option linter.unusedVariables false
set_option maxRecDepth 100000
namespace Go.Proofs.Ytmgnnclkjkbmdaa
open Go Go.Fw
open Sha
theorem SpAt.otherG {w w' : World} {p : Spr} {lk : Int} {K : Nat → Option Value} {t : Option Value} {M : Nat → Prop} (h : SpAt w p lk K t) (hf : Fr M w w') (hM : ∀ k, M k → ∀ cs T fr, w.heap[k]? = some (.cells cs T fr) → otherK T = true) : SpAt w' p lk K t := by
  have nb : ∀ {b : Nat} {cs : Array Value} {T : TypeId} {fr : Nat × Nat}, w.heap[b]? = some (.cells cs T fr) → otherK T = false → ¬ M b := fun hb hT hm => by
    rw [hM _ hm _ _ _ hb] at hT
    cases hT
  refine ⟨(hf.block _ (heap_lt h.hg) (nb h.hg rfl)).trans h.hg, (hf.block _ (heap_lt h.hc) (nb h.hc rfl)).trans h.hc, fun q hq v hv => (h.col q hq v hv).frk hf fun k hk => ?_, fun v hv => ⟨?_, (h.tree v hv).2⟩⟩
  · obtain ⟨b, cap, cur, rfl, h2, _⟩ := h.col q hq v hv
    simp only [Value.ownBlock, Option.some.injEq] at hk
    subst hk
    exact nb h2 rfl
  · obtain ⟨g, v', ps, h1, h2, h3, h4⟩ := (h.tree v hv).1
    exact ⟨g, v', ps, h1, h2, h3.same hf.size fun e he k hk => by
      obtain ⟨cs, T, fr, h5, h6⟩ := grove_kind h3 e he k hk
      exact hf.block k (h3.lt e he k hk) (nb h5 h6), h4⟩
theorem mapK {P : Program} {kk : TypeId} {b n c : Nat} {f : Nat → Option (List UInt8)} {w : World} (hm : MapL P kk b n f c w) : ∀ k, (Ent.grp [.mapL P kk b n f c]).keys k → ∀ cs T fr, w.heap[k]? = some (.cells cs T fr) → otherK T = true := by
  rintro k ⟨e, he, hk⟩ cs T fr hb
  simp only [List.mem_singleton] at he
  subst he
  have hk : k = b := hk
  subst hk
  obtain ⟨es, cl, h1⟩ := hm.blk
  rw [h1] at hb
  cases hb
theorem keepM {N : Nat} {F : List (Nat × Value)} {P : Program} {kk : TypeId} {b n c : Nat} {f : Nat → Option (List UInt8)} {p : Spr} {w0 w1 w2 : World} {a : Act} {lk : Int} {K : Nat → Option Value} {t : Option Value} (hs : St N F [.mapL P kk b n f c] (SpM p) w0 a w1) (hsp : SpAt w1 p lk K t) (hf : Fr (SpM p) w1 w2) :
    Has 0 w2 [.mapL P kk b n f c] ∧ ∀ e ∈ [Ent.mapL P kk b n f c], ∀ k, e.keys k → w0.heap.size ≤ k ∨ SpM p k := by
  have hm : MapL P kk b n f c w1 := hs.get (i := 0) rfl
  obtain ⟨es, cl, h1⟩ := hm.blk
  have hb : ¬ SpM p b := by
    rintro (e | e)
    · rw [e, hsp.hg] at h1; cases h1
    · rw [e, hsp.hc] at h1; cases h1
  refine ⟨hs.has.same hf.size fun e he k hk => hf.block k (hs.has.lt e he k hk) ?_, hs.own⟩
  simp only [List.mem_singleton] at he
  subst he
  have hk : k = b := hk
  subst hk
  exact hb
theorem cnt_mono {A B : Nat → Option Value} : ∀ m, (∀ q, q < m → (A q).isSome = true → (B q).isSome = true) → cnt A m ≤ cnt B m
  | 0, _ => Nat.le_refl _
  | m + 1, h => by
    have h1 := cnt_mono m fun q hq => h q (by omega)
    have h2 := h m (by omega)
    rw [cnt_succ, cnt_succ]
    cases hA : (A m).isSome with
    | false => simp only [Bool.false_eq_true, if_false]; omega
    | true => rw [h2 hA]; simp only [if_true]; omega
/-- The keys of a map, as what is made. -/
def fK (f : Nat → Option (List UInt8)) (q : Nat) : Option Value := (f q).map fun _ => .nilIface
theorem fK_some (f : Nat → Option (List UInt8)) (q : Nat) : (fK f q).isSome = (f q).isSome := by unfold fK; cases f q <;> rfl
theorem cnt_put (f : Nat → Option (List UInt8)) (q : Nat) (l : List UInt8) {m : Nat} (hq : q < m) : cnt (fK fun x => if x = q then some l else f x) m = if (f q).isSome then cnt (fK f) m else cnt (fK f) m + 1 := by
  have e : cnt (fK fun x => if x = q then some l else f x) m = cnt (updF (fK f) q (some .nilIface)) m := cnt_congr m fun x _ => by
    unfold updF
    rw [fK_some]
    split
    · rfl
    · rw [fK_some]
  rw [e]
  cases h : (f q).isSome with
  | false =>
    have h0 : fK f q = none := by
      have := fK_some f q
      rw [h] at this
      simpa using this
    rw [cnt_upd h0 m hq]
    rfl
  | true =>
    simp only [if_true]
    refine cnt_congr m fun x _ => ?_
    unfold updF
    split
    · rename_i hx
      subst hx
      rw [fK_some, h]
      rfl
    · rfl
theorem cnt_upd_le (K : Nat → Option Value) (q : Nat) (v : Value) {m : Nat} (hq : q < m) : cnt (updF K q (some v)) m ≤ cnt K m + 1 ∧ ((K q).isSome = true → cnt (updF K q (some v)) m = cnt K m) := by
  cases h : K q with
  | none => exact ⟨by rw [cnt_upd h m hq]; exact Nat.le_refl _, fun h => by cases h⟩
  | some u =>
    have e : cnt (updF K q (some v)) m = cnt K m := cnt_congr m fun x _ => by
      unfold updF
      split
      · rename_i hx; subst hx; rw [h]; rfl
      · rfl
    exact ⟨by omega, fun _ => e⟩
theorem _root_.Go.Fw.St.toM {N : Nat} {F : List (Nat × Value)} {L : List Ent} {M : Nat → Prop} {w0 w : World} {a : Act} (h : St N F L (fun _ => False) w0 a w) : St N F L M w0 a w := ⟨h.know, h.has, fun e he k hk => (h.own e he k hk).imp id False.elim, h.fr.mono fun _ _ => False.elim⟩
theorem notM {P : Program} {kk : TypeId} {b n c : Nat} {f : Nat → Option (List UInt8)} {w : World} (hm : MapL P kk b n f c w) {g : Nat} {cs : Array Value} {T : TypeId} {fr : Nat × Nat} (hb : w.heap[g]? = some (.cells cs T fr)) : ¬ (Ent.grp [.mapL P kk b n f c]).keys g := by
  rintro ⟨e, he, hk⟩
  simp only [List.mem_singleton] at he
  subst he
  have hk : g = b := hk
  subst hk
  obtain ⟨es, cl, h1⟩ := hm.blk
  rw [h1] at hb
  cases hb
theorem notS {w : World} {p : Spr} {lk : Int} {K : Nat → Option Value} {t : Option Value} {b : Nat} {cs : Array Value} {T : TypeId} {fr : Nat × Nat} (hsp : SpAt w p lk K t) (hb : w.heap[b]? = some (.cells cs T fr)) (h1 : Nat.beq 251 T = false := by rfl) (h2 : Nat.beq 266 T = false := by rfl) : ¬ SpM p b := by
  rintro (e | e)
  · exact ne_kind hsp.hg hb h1 e.symm
  · exact ne_kind hsp.hc hb h2 e.symm
set_option maxHeartbeats 4000000 in
theorem law_SpringOnce (W S H d : Int) (ep : UInt32) (seed : List UInt8) (hsd : seed.length = 32) (ids : List Int) (idv : Value) (w : World) (hqi : Rd w idv ids.length (ids.map I)) : Ctr Try.prog 31 [.agg #[I W, I S, I H], .agg (seed.map B).toArray, I d, U ep, idv] w (fun _ => False) (fun v _ => v = .bool true) := by
  have hnil := hqi.le
  obtain ⟨iad, icp, rfl, hicp, hicm⟩ := Rd.sl hqi
  refine fn_start (N := 124) Try.func31 rfl rfl rfl fun ac hk => ?_
  have hs := St.start hk w
  refine wp_seq ?_
  refine wp_reg ?_
  refine s_box hs rfl rfl rfl fun ac ww g5 hs => ?_
  refine s_box hs rfl rfl rfl fun ac ww g6 hs => ?_
  refine s_q hs (c_assign (hs.ev rfl)) rfl fun ac hs => ?_
  refine s_end ?_
  replace hs := hs.sub (F' := [(2, _), (3, _), (4, _), (5, _), (6, _), (10, _)]) ⟨rfl, rfl, rfl, rfl, rfl, rfl, trivial⟩
  refine then_n ?_
  refine wp_seq ?_
  refine wp_seq ?_
  refine wp_reg ?_
  refine s_q hs (c_loadW ty158 ag158 (hs.ev rfl) (hs.seg (i := 1) rfl) (by rfl)) rfl fun ac hs => ?_
  refine s_call hs fu134 (.cons (hs.ev rfl) .nil) (law08_Light W S H _) rfl fun ac ww v24 hf hp hs => ?_
  obtain rfl := hp
  replace hs := hs [] (.nil _ _)
  refine s_q hs (c_not (hs.ev rfl)) rfl fun ac hs => ?_
  refine s_q hs (c_move (hs.ev rfl)) rfl fun ac hs => ?_
  refine s_g hs rfl rfl (fun hg => c_loadW ty158 ag158 (hs.ev rfl) (hs.seg (i := 1) rfl) (by rfl)) rfl fun ac hs => ?_
  refine s_g hs rfl rfl (fun hg => c_move (hs.ev rfl)) rfl fun ac hs => ?_
  refine s_g hs rfl rfl (fun hg => c_move (hs.ev rfl)) rfl fun ac hs => ?_
  refine s_gcall hs rfl rfl fu128 (fun hg => (.cons (gev (hs.ev rfl) hg) (.cons (gev (hs.ev rfl) hg) (.cons (gev (hs.ev rfl) hg) .nil)))) (fun hg => ref08_Fits W S H d ep _) rfl fun ac ww hf hs => ?_
  refine s_g hs rfl rfl (fun hg => c_not (gev (hs.ev rfl) hg)) rfl fun ac hs => ?_
  refine s_q hs (c_or (hs.ev rfl) (hs.ev rfl)) rfl fun ac hs => ?_
  refine s_end ?_
  replace hs := hs.sub (F' := [(2, _), (3, _), (4, _), (5, _), (6, _), (10, _), (32, _)]) ⟨rfl, rfl, rfl, rfl, rfl, rfl, rfl, trivial⟩
  refine then_n ?_
  refine s_cond hs rfl (fun hc => ?_) (fun hc => ?_)
  · skip
    refine wp_seq ?_
    refine wp_reg ?_
    refine s_call hs fu131 .nil (law08_awake _) rfl fun ac ww v33 hf hp hs => ?_
    obtain rfl := hp
    replace hs := hs [] (.nil _ _)
    refine s_q hs (c_assign (hs.ev rfl)) rfl fun ac hs => ?_
    refine s_end ?_
    replace hs := hs.sub (F' := [(2, _), (3, _), (4, _), (5, _), (6, _), (10, _)]) ⟨rfl, rfl, rfl, rfl, rfl, rfl, trivial⟩
    refine then_n ?_
    refine wp_ret ?_
    refine then_r ?_
    refine s_ret hs rfl (.tmp (hs.tmp rfl) .nil) rfl ⟨_, rfl, hs.fr, ?_⟩
    rfl
  · skip
    have hc2 : spLight W S H = true ∧ spFits W S H d ep = true := by
      simp at hc
      exact hc
    obtain ⟨hlight, hfit⟩ := hc2
    have hH3 : H ≤ 3 := by
      simp only [spLight, Bool.and_eq_true, decide_eq_true_eq] at hlight
      omega
    refine wp_skip ?_
    refine then_n ?_
    refine wp_seq ?_
    refine wp_region_rgL pmix 10 (by kernel_rfl) rfl hs ?_
    simp only [List.take_succ_cons, List.take_zero]
    refine rg_q (fun ac ww h => c_loadW ty158 ag158 (h.ev rfl) (h.blk (hs.seg (i := 1) rfl)) (by rfl)) rfl ?_
    refine rg_call fu127 (fun ac ww h => (.cons (h.ev rfl) .nil)) (fun ww hf => law08_To W S H ww) rfl ?_
    refine rg_q (fun ac ww h => c_loadW ty40 rfl (h.ev rfl) (h.blk (hs.seg (i := 0) rfl)) (by rw [List.length_map, hsd])) rfl ?_
    refine rg_q (fun ac ww h => c_move (h.ev rfl)) rfl ?_
    refine rg_q (fun ac ww h => c_move (h.ev rfl)) rfl ?_
    refine rg_callE (tupG [] [I 0] (sprE w.heap.size W S H seed d ep)) sprE.st fu126 (fun ac ww h => ?_) rfl ?_
    · exact ⟨_, .cons (h.ev rfl) (.cons (h.ev rfl) (.cons (h.ev rfl) (.cons (h.ev rfl) (.nil)))), spring_NewE hsd hfit ww w.heap.size (Nat.le_trans hs.fr.size h.fr.size)⟩
    refine rg_moveG rfl rfl rfl ?_
    refine rg_extGe rfl rfl rfl rfl ?_
    refine rg_extGc rfl rfl rfl (fun _ => rfl) ?_
    refine rg_assignE (fun _ => True) rfl rfl (fun _ _ _ _ => trivial) rfl ?_
    refine rg_nil fun ac ww L' hf hfe hs hlk => ?_
    simp only [List.drop_succ_cons, List.drop_zero]
    obtain ⟨v11, L11, M11, h11, e11, ⟨v41, L41, M41, h41, e41, ⟨v34, L34, M34, h34, e34, ⟨v40, L40, M40, h40, e40, rfl, rfl⟩, rfl⟩, rfl⟩, rfl⟩ := hfe
    replace hs := hs.add h11
    replace hs := hs.add h41
    replace hs := hs.add h34
    replace hs := hs.add h40
    obtain ⟨tv40, rfl, e40⟩ := e40
    obtain ⟨-, rfl⟩ := e34
    obtain rfl := lk_move (j := 6) hlk (by decide) rfl (by kernel_rfl) h34 h40
    obtain ⟨-, rfl⟩ := e41
    obtain rfl := lk_ext (j := 7) hlk (by decide) rfl (by kernel_rfl) h41 h34 rfl
    obtain ⟨-, rfl⟩ := e11
    obtain rfl := lk_assign (j := 9) hlk (by decide) rfl (by kernel_rfl) h11 h41
    obtain ⟨rfl, p, hsi, hsp, hg1, hc1, rfl⟩ := e40
    have ho := hsi.ok
    refine s_q hs (c_assign (hs.ev rfl)) rfl fun ac hs => ?_
    refine s_end ?_
    have hb5 := hs.seg (i := 1) rfl
    have hfr0 := hs.fr
    have hsN := St.start hs.know ww
    obtain ⟨_, hW, hS, hH, hse, hde, hee⟩ := hsi
    subst hW
    subst hS
    subst hH
    subst hde
    subst hee
    obtain ⟨hR, hd0, hdW, hep⟩ := spFits_iff.1 hfit
    obtain ⟨hlv, hS1, hS16, hH0, hH6⟩ := spRight_iff.1 hR
    have hm8 : p.m ≤ 16 := by
      have h3 : p.H ≤ 3 := by omega
      have := Nat.pow_le_pow_right (show 0 < 2 by decide) h3
      unfold Spr.m
      omega
    have hm0 : 0 < p.m := by unfold Spr.m; exact Nat.two_pow_pos _
    have hn5 := notS hsp hb5
    have hni : ∀ x, x < w.heap.size → ¬ SpM p x := fun x h e => e.elim (fun e => by omega) fun e => by omega
    have hs := hsN
    replace hs := hs.sub (F' := [(4, _), (5, _), (10, _), (11, _)]) ⟨rfl, rfl, rfl, rfl, trivial⟩
    refine then_n ?_
    refine wp_seq ?_
    refine wp_seq ?_
    refine wp_reg ?_
    refine s_call hs fu131 .nil (law08_awake _) rfl fun ac ww v43 hf hp hs => ?_
    obtain rfl := hp
    replace hs := hs [] (.nil _ _)
    refine s_q hs (c_not (hs.ev rfl)) rfl fun ac hs => ?_
    refine s_q hs (c_move (hs.ev rfl)) rfl fun ac hs => ?_
    refine s_yes hs rfl rfl ?_
    refine s_q hs (c_move (hs.ev rfl)) rfl fun ac hs => ?_
    refine s_yes hs rfl rfl ?_
    refine s_q hs (c_ff (c_eqlNil un159 (hs.ev rfl) (hs.ev rfl)) (by rfl)) rfl fun ac hs => ?_
    refine s_q hs (c_pick (hs.ev rfl) (hs.ev rfl) (hs.ev rfl)) rfl fun ac hs => ?_
    refine s_end ?_
    replace hs := hs.sub (F' := [(4, _), (5, _), (10, _), (11, _), (48, _)]) ⟨rfl, rfl, rfl, rfl, rfl, trivial⟩
    refine then_n ?_
    refine wp_cond_false (hs.ev rfl) ?_
    refine wp_skip ?_
    refine then_n ?_
    refine wp_seq ?_
    refine wp_reg ?_
    refine s_q hs (c_loadW ty158 ag158 (hs.ev rfl) (hs.old hb5 id) (by rfl)) rfl fun ac hs => ?_
    refine s_call hs fu135 (.cons (hs.ev rfl) .nil) (ref08_Many p.W p.S p.H (by omega) _) rfl fun ac ww v50 hf hp hs => ?_
    obtain rfl := hp
    replace hs := hs [] (.nil _ _)
    refine s_q hs (c_assign (hs.ev rfl)) rfl fun ac hs => ?_
    refine s_end ?_
    replace hs := hs.sub (F' := [(4, _), (5, _), (10, _), (11, _), (13, _)]) ⟨rfl, rfl, rfl, rfl, rfl, trivial⟩
    refine then_n ?_
    refine wp_seq ?_
    refine wp_reg ?_
    refine s_makeMap (k := 3) hs rfl fun ac ww mb hs => ?_
    refine s_q hs (c_assign (hs.ev rfl)) rfl fun ac hs => ?_
    refine s_end ?_
    replace hs := hs.sub (F' := [(4, _), (5, _), (10, _), (11, _), (13, _), (14, _)]) ⟨rfl, rfl, rfl, rfl, rfl, rfl, trivial⟩
    refine then_n ?_
    refine wp_seq ?_
    refine wp_seq ?_
    refine wp_reg ?_
    refine s_q hs (c_move (hs.ev rfl)) rfl fun ac hs => ?_
    refine s_q hs (c_lenS un169 (hs.ev rfl)) rfl fun ac hs => ?_
    refine s_q hs (c_move (hs.ev rfl)) rfl fun ac hs => ?_
    refine s_end ?_
    replace hs := hs.sub (F' := [(5, _), (10, _), (11, _), (13, _), (14, _), (52, _), (53, _), (54, _)]) ⟨rfl, rfl, rfl, rfl, rfl, rfl, rfl, rfl, trivial⟩
    refine then_n ?_
    refine wp_block ?_
    have hsp1 := hsp.fr0 hs.fr
    replace hs := hs.toM (M := SpM p)
    refine s_loopW hs (X := Nat × (Nat → Option (List UInt8)) × Nat × (Nat → Option Value) × Option Value) (fun x => [(54, I x.1)]) [(5, _), (11, _), (13, _), (14, _), (52, _), (53, _)] (fun x => [.mapL Try.prog 3 mb x.2.2.1 x.2.1 (cnt (fK x.2.1) p.m)]) (fun j x wc => j = ids.length - x.1 ∧ x.1 ≤ ids.length ∧ x.2.2.1 ≤ x.1 ∧ SpAt wc p 0 x.2.2.2.1 x.2.2.2.2 ∧ ∀ q, q < p.m → ∀ l, x.2.1 q = some l → l = el p q p.S ∧ (x.2.2.2.1 q).isSome = true) (_) ((0, fun _ => none, 0, fun _ => none, none)) (⟨rfl, Nat.zero_le _, Nat.le_refl _, hsp1, fun _ _ _ h => by cases h⟩) ⟨rfl, rfl, rfl, rfl, rfl, rfl, rfl, trivial⟩ (by rw [show cnt (fK fun _ => none) p.m = 0 from cnt_none _]; rfl) ?_
    rintro n ⟨k, f, nn, K, t⟩ ac ww hok hs
    simp only [List.cons_append, List.nil_append] at hs
    obtain ⟨rfl, hk, hnk, hspc, hfl⟩ := hok
    simp only at hk hnk hspc hfl hs
    have hmc : MapL Try.prog 3 mb nn f (cnt (fK f) p.m) ww := hs.get (i := 0) rfl
    have hb5c := hs.old hb5 hn5
    have hfrL := hs.fr
    have hownL := hs.own
    replace hs := hs.rebase
    refine wp_seq ?_
    refine wp_reg ?_
    refine s_q hs (c_lssI (hs.ev rfl) (hs.ev rfl)) rfl fun ac hs => ?_
    refine s_end ?_
    refine then_n ?_
    refine wp_seq ?_
    refine s_cond hs rfl (fun hc => ?_) (fun hc => ?_)
    · try simp only [decide_eq_true_eq, decide_eq_false_iff_not, Bool.not_eq_true', Bool.not_eq_false', Bool.and_eq_true, Bool.or_eq_true, Bool.or_eq_false_iff] at hc
      have hkn : k < ids.length := by omega
      obtain ⟨ib, io, icap, iT, ifr, iall, hie, _, _, hib, hit⟩ := Rd.at_ hqi (by intro e; have := congrArg List.length e; simp at this; rw [this] at hkn; simp at hkn)
      injection hie with hie1 _ _
      rw [hie1] at hs
      have hibc := (hfrL.block ib (Nat.lt_of_lt_of_le (heap_lt hib) hfr0.size) (hni ib (heap_lt hib))).trans ((hfr0.block ib (heap_lt hib) (fun h => h)).trans hib)
      refine wp_skip ?_
      refine then_n ?_
      refine wp_seq ?_
      refine wp_block ?_
      refine wp_seq ?_
      refine wp_reg ?_
      refine s_q hs (c_move (hs.ev rfl)) rfl fun ac hs => ?_
      refine s_q hs (c_idxS (j := k) un169 ty3 (hs.ev rfl) (hs.ev rfl) (by omega) (by omega)) rfl fun ac hs => ?_
      refine s_q hs (c_loadS un3 rfl (hs.ev rfl) (hs.old hibc (notM hmc hibc)) (seg_get 0 hit hkn)) rfl fun ac hs => ?_
      refine s_q hs (c_assign (hs.ev rfl)) rfl fun ac hs => ?_
      refine s_q hs (c_assign (hs.ev rfl)) rfl fun ac hs => ?_
      refine s_end ?_
      refine then_n ?_
      refine wp_seq ?_
      refine wp_seq ?_
      refine wp_reg ?_
      refine s_q hs (c_move (hs.ev rfl)) rfl fun ac hs => ?_
      refine s_q hs (c_geqI (hs.ev rfl) (hs.ev rfl)) rfl fun ac hs => ?_
      refine s_end ?_
      refine then_n ?_
      refine s_cond hs rfl (fun hc => ?_) (fun hc => ?_)
      · try simp only [decide_eq_true_eq, decide_eq_false_iff_not, Bool.not_eq_true', Bool.not_eq_false', Bool.and_eq_true, Bool.or_eq_true, Bool.or_eq_false_iff] at hc
        refine wp_exit ?_
        refine then_e ?_
        refine blk_miss rfl ?_
        refine then_e ?_
        refine then_e ?_
        refine blk_hit ?_
        refine then_n ?_
        refine wp_seq ?_
        refine wp_reg ?_
        refine s_q hs (c_assign (hs.ev rfl)) rfl fun ac hs => ?_
        refine s_end ?_
        replace hs := hs.sub (F' := [(10, _)]) ⟨rfl, trivial⟩
        refine then_n ?_
        refine wp_ret ?_
        refine s_ret hs rfl (.tmp (hs.tmp rfl) .nil) rfl ⟨_, rfl, (hfr0.over (Fr.rebase hfrL hownL hs.fr) fun i hi => hi.elim (fun e => e ▸ hg1) fun e => e ▸ hc1), ?_⟩
        rfl
      · try simp only [decide_eq_true_eq, decide_eq_false_iff_not, Bool.not_eq_true', Bool.not_eq_false', Bool.and_eq_true, Bool.or_eq_true, Bool.or_eq_false_iff] at hc
        refine wp_skip ?_
        refine then_n ?_
        refine wp_seq ?_
        refine wp_seq ?_
        refine wp_reg ?_
        refine s_q hs (c_move (hs.ev rfl)) rfl fun ac hs => ?_
        refine s_q hs (c_remIt (hs.ev rfl) (hs.ev rfl) (by decide)) rfl fun ac hs => ?_
        refine s_q hs (c_eqlI (hs.ev rfl) (hs.ev rfl)) rfl fun ac hs => ?_
        refine s_end ?_
        refine then_n ?_
        refine s_cond hs rfl (fun hc => ?_) (fun hc => ?_)
        · try simp only [decide_eq_true_eq, decide_eq_false_iff_not, Bool.not_eq_true', Bool.not_eq_false', Bool.and_eq_true, Bool.or_eq_true, Bool.or_eq_false_iff] at hc
          refine wp_seq ?_
          refine wp_reg ?_
          refine s_q hs (c_move (hs.ev rfl)) rfl fun ac hs => ?_
          have hspR := hspc.otherG hs.fr (mapK hmc)
          replace hs := hs.unrebase hfrL hownL
          have hsB := hs
          refine s_callL hs fu136 (.cons (hs.ev rfl) .nil) (spring_Root p ho K t _ hspR) (fun k _ h => .inl h) rfl fun ac ww v65 hf hp hs => ?_
          obtain ⟨rfl, K2, pv2, hst2, _⟩ := hp
          obtain ⟨ha1, ha2⟩ := keepM hsB hspR hf
          replace hs := hs _ ha1 ha2
          have hmZ : MapL Try.prog 3 mb nn f (cnt (fK f) p.m) ww := hs.get (i := 0) rfl
          have hspZ := hst2.1
          have hflZ : ∀ q, q < p.m → ∀ l, f q = some l → l = el p q p.S ∧ (K2 q).isSome = true := fun q hq l h => ⟨(hfl q hq l h).1, hst2.2.1 q hq⟩
          have hnZ : nn ≤ k + 1 := by omega
          have hfrL := hs.fr
          have hownL := hs.own
          replace hs := hs.rebase
          refine s_end ?_
          replace hs := hs.sub (F' := [(5, _), (11, _), (13, _), (14, _), (15, _), (16, _), (52, _), (53, _), (54, _), (55, _), (56, _), (57, _), (58, _), (59, _), (60, _), (61, _), (62, _), (63, _), (64, _)]) ⟨rfl, rfl, rfl, rfl, rfl, rfl, rfl, rfl, rfl, rfl, rfl, rfl, rfl, rfl, rfl, rfl, rfl, rfl, rfl, trivial⟩
          refine then_n ?_
          refine wp_seq ?_
          refine wp_seq ?_
          refine wp_reg ?_
          refine s_q hs (c_move (hs.ev rfl)) rfl fun ac hs => ?_
          refine s_call hs fu132 (.cons (hs.ev rfl) .nil) (spring_Made p ho 0 K2 (some pv2) _ (hspZ.otherG hs.fr (mapK hmZ))) rfl fun ac ww v67 hf hp hs => ?_
          obtain rfl := hp
          replace hs := hs [] (.nil _ _)
          refine s_q hs (c_move (hs.ev rfl)) rfl fun ac hs => ?_
          refine s_q hs (c_ff (c_neqI (hs.ev rfl) (hs.ev rfl)) (by rw [cnt_all p.m hst2.2.1]; simp [Spr.m])) rfl fun ac hs => ?_
          refine s_end ?_
          refine then_n ?_
          refine wp_cond_false (hs.ev rfl) ?_
          refine wp_skip ?_
          refine then_n ?_
          refine wp_exit ?_
          refine then_e ?_
          refine blk_hit ?_
          refine then_n ?_
          refine wp_reg ?_
          refine s_q hs (c_addI (hs.ev rfl) (hs.ev rfl) (by omega) (by omega)) rfl fun ac hs => ?_
          refine s_q hs (c_move (hs.ev rfl)) rfl fun ac hs => ?_
          refine s_end ?_
          refine then_n ?_
          have hsp9 := hspZ.otherG hs.fr (mapK hmZ)
          replace hs := hs.unrebase hfrL hownL
          rw [← hie1] at hs
          exact ⟨ids.length - (k + 1), by (try simp only); omega, (k + 1, _, _, _, _), ⟨rfl, by (try simp only); omega, hnZ, hsp9, hflZ⟩, St.next hs ⟨rfl, rfl, rfl, rfl, rfl, rfl, rfl, trivial⟩ rfl⟩
        · try simp only [decide_eq_true_eq, decide_eq_false_iff_not, Bool.not_eq_true', Bool.not_eq_false', Bool.and_eq_true, Bool.or_eq_true, Bool.or_eq_false_iff] at hc
          obtain ⟨hz2, q, hqe, hql⟩ := modq (ids.getD k 0) (2 ^ p.H) hm0 hm8
          have hqm : q < p.m := hql
          refine wp_skip ?_
          refine then_n ?_
          refine wp_seq ?_
          refine wp_reg ?_
          refine s_q hs (c_move (hs.ev rfl)) rfl fun ac hs => ?_
          refine s_q hs (c_cvIV un3 un75 (hs.ev rfl)) rfl fun ac hs => ?_
          refine s_q hs (c_move (hs.ev rfl)) rfl fun ac hs => ?_
          refine s_q hs (c_cvIV un3 un75 (hs.ev rfl)) rfl fun ac hs => ?_
          refine s_q hs (c_remV (hs.ev rfl) (hs.ev rfl) hz2) rfl fun ac hs => ?_
          refine s_q hs (c_to (c_cvVI un75 un3 (hs.ev rfl) (by omega)) ((congrArg (fun z : Nat => I z) hqe))) rfl fun ac hs => ?_
          refine s_q hs (c_assign (hs.ev rfl)) rfl fun ac hs => ?_
          refine s_end ?_
          refine then_n ?_
          refine wp_seq ?_
          refine wp_reg ?_
          refine s_q hs (c_move (hs.ev rfl)) rfl fun ac hs => ?_
          refine s_call hs fu132 (.cons (hs.ev rfl) .nil) (spring_Made p ho 0 K t _ (hspc.otherG hs.fr (mapK hmc))) rfl fun ac ww v77 hf hp hs => ?_
          obtain rfl := hp
          replace hs := hs [] (.nil _ _)
          refine s_q hs (c_assign (hs.ev rfl)) rfl fun ac hs => ?_
          refine s_end ?_
          refine then_n ?_
          refine wp_seq ?_
          refine wp_reg ?_
          refine s_q hs (c_move (hs.ev rfl)) rfl fun ac hs => ?_
          refine s_q hs (c_move (hs.ev rfl)) rfl fun ac hs => ?_
          refine s_q hs (c_fld fl158_1 (hs.ev rfl)) rfl fun ac hs => ?_
          refine s_q hs (c_loadS un3 rfl (hs.ev rfl) (hs.old hb5c (notM hmc hb5c)) rfl) rfl fun ac hs => ?_
          have hspR := hspc.otherG hs.fr (mapK hmc)
          replace hs := hs.unrebase hfrL hownL
          have hsB := hs
          refine s_callL hs fu137 (.cons (hs.ev rfl) (.cons (hs.ev rfl) (.cons (hs.ev rfl) .nil))) (spring_Element p ho K t (q : Int) (p.S : Int) _ hspR) (fun k _ h => .inl h) rfl fun ac ww v83 hf hp hs => ?_
          have hel1 : elOk p (q : Int) (p.S : Int) = true := elOk_iff.2 (by omega)
          rw [elB, elR, if_pos hel1, if_pos hel1, Int.toNat_natCast, Int.toNat_natCast] at hp
          obtain ⟨rfl, K2, hspZ, hk2, _⟩ := hp
          rw [elK, if_pos hel1, Int.toNat_natCast] at hk2
          obtain ⟨cv, hcv, rfl⟩ := hk2
          obtain ⟨ha1, ha2⟩ := keepM hsB hspR hf
          replace hs := hs _ ha1 ha2
          have hmZ : MapL Try.prog 3 mb nn f (cnt (fK f) p.m) ww := hs.get (i := 0) rfl
          have hcu := cnt_upd_le K q cv hqm
          have hcK := cnt_le K p.m
          have hcK2 := cnt_le (updF K q (some cv)) p.m
          have hflZ : ∀ x, x < p.m → ∀ l, (if x = q then some (el p q p.S) else f x) = some l → l = el p x p.S ∧ (updF K q (some cv) x).isSome = true := fun x hx l h => by
            unfold updF
            by_cases e : x = q
            · subst e
              rw [if_pos rfl] at h
              cases h
              rw [if_pos rfl]
              exact ⟨rfl, rfl⟩
            · rw [if_neg e] at h
              rw [if_neg e]
              exact hfl x hx l h
          have hcl9 : cnt (fK fun x => if x = q then some (el p q p.S) else f x) p.m ≤ cnt (updF K q (some cv)) p.m := cnt_mono p.m fun x hx h => by
            rw [fK_some] at h
            obtain ⟨l, hl⟩ := Option.isSome_iff_exists.1 h
            exact (hflZ x hx l hl).2
          have hgl : ((f q).getD (List.replicate 16 (0 : UInt8))).length = 16 := by
            cases h : f q with
            | none => simp
            | some l => rw [(hfl q hqm l h).1]; exact el_length _ _ _
          have hnZ : nn + 1 ≤ k + 1 := by omega
          have hfrL := hs.fr
          have hownL := hs.own
          replace hs := hs.rebase
          refine s_q hs (c_move (hs.ev rfl)) rfl fun ac hs => ?_
          refine s_q hs (c_extract (hs.ev rfl) rfl) rfl fun ac hs => ?_
          refine s_q hs (c_extract (hs.ev rfl) rfl) rfl fun ac hs => ?_
          refine s_alloc hs ty54 rfl fun ac ww g19 hs => ?_
          refine s_storeW (i := 0) hs ty54 rfl rfl rfl (by rw [List.length_map, el_length]) (all_map_B _) rfl fun ww hs => ?_
          refine s_q hs (c_assign (hs.ev rfl)) rfl fun ac hs => ?_
          refine s_end ?_
          refine then_n ?_
          refine wp_seq ?_
          refine wp_seq ?_
          refine wp_reg ?_
          refine s_q hs (c_move (hs.ev rfl)) rfl fun ac hs => ?_
          refine s_q hs (c_neqI (hs.ev rfl) (hs.ev rfl)) rfl fun ac hs => ?_
          refine s_end ?_
          refine then_n ?_
          refine wp_cond_false (hs.ev rfl) ?_
          refine wp_skip ?_
          refine then_n ?_
          refine wp_seq ?_
          refine wp_seq ?_
          refine wp_reg ?_
          refine s_q hs (c_move (hs.ev rfl)) rfl fun ac hs => ?_
          refine s_q hs (c_move (hs.ev rfl)) rfl fun ac hs => ?_
          refine s_q hs (c_lookup (zs := (List.replicate 16 (0 : UInt8))) un3 Try.underlying171 (by kernel_rfl) (hs.get (i := 1) rfl) (hs.ev rfl) (hs.ev rfl) (by omega)) rfl fun ac hs => ?_
          refine s_q hs (c_move (hs.ev rfl)) rfl fun ac hs => ?_
          refine s_q hs (c_extract (hs.ev rfl) rfl) rfl fun ac hs => ?_
          refine s_q hs (c_extract (hs.ev rfl) rfl) rfl fun ac hs => ?_
          refine s_alloc hs ty54 rfl fun ac ww g21 hs => ?_
          refine s_storeW (i := 0) hs ty54 rfl rfl rfl (by rw [List.length_map, hgl]) (all_map_B _) rfl fun ww hs => ?_
          refine s_q hs (c_assign (hs.ev rfl)) rfl fun ac hs => ?_
          refine s_end ?_
          refine then_n ?_
          refine wp_seq ?_
          refine wp_reg ?_
          refine s_q hs (c_move (hs.ev rfl)) rfl fun ac hs => ?_
          refine s_end ?_
          refine then_n ?_
          refine s_cond hs rfl (fun hc => ?_) (fun hc => ?_)
          · skip
            obtain ⟨l, hl⟩ := Option.isSome_iff_exists.1 hc
            have hl2 := (hfl q hqm l hl).1
            have hKs := (hfl q hqm l hl).2
            refine wp_seq ?_
            refine wp_reg ?_
            refine s_q hs (c_loadW ty54 rfl (hs.ev rfl) (hs.seg (i := 1) rfl) (by rw [List.length_map, el_length])) rfl fun ac hs => ?_
            refine s_q hs (c_loadW ty54 rfl (hs.ev rfl) (hs.seg (i := 0) rfl) (by rw [List.length_map, hgl])) rfl fun ac hs => ?_
            refine s_q hs (c_ff (c_neqAB un54 ty5 eg54 (hs.ev rfl) (hs.ev rfl) (el_length _ _ _) hgl) (by rw [hl, hl2]; simp)) rfl fun ac hs => ?_
            refine s_q hs (c_move (hs.ev rfl)) rfl fun ac hs => ?_
            refine s_yes hs rfl rfl ?_
            refine s_q hs (c_move (hs.ev rfl)) rfl fun ac hs => ?_
            refine s_yes hs rfl rfl ?_
            refine s_call hs fu132 (.cons (hs.ev rfl) .nil) (spring_Made p ho 0 _ t _ (hspZ.otherG hs.fr (mapK hmZ))) rfl fun ac ww v100 hf hp hs => ?_
            obtain rfl := hp
            replace hs := hs [] (.nil _ _)
            refine s_yes hs rfl rfl ?_
            refine s_q hs (c_move (hs.ev rfl)) rfl fun ac hs => ?_
            refine s_yes hs rfl rfl ?_
            refine s_q hs (c_ff (c_neqI (hs.ev rfl) (hs.ev rfl)) (by rw [hcu.2 hKs]; simp)) rfl fun ac hs => ?_
            refine s_q hs (c_pick (hs.ev rfl) (hs.ev rfl) (hs.ev rfl)) rfl fun ac hs => ?_
            refine s_end ?_
            refine then_n ?_
            refine wp_cond_false (hs.ev rfl) ?_
            refine wp_skip ?_
            refine then_n ?_
            refine wp_seq ?_
            refine wp_seq ?_
            refine wp_reg ?_
            refine s_q hs (c_move (hs.ev rfl)) rfl fun ac hs => ?_
            refine s_call hs fu132 (.cons (hs.ev rfl) .nil) (spring_Made p ho 0 _ t _ (hspZ.otherG hs.fr (mapK hmZ))) rfl fun ac ww v105 hf hp hs => ?_
            obtain rfl := hp
            replace hs := hs [] (.nil _ _)
            refine s_q hs (c_move (hs.ev rfl)) rfl fun ac hs => ?_
            refine s_q hs (c_addI (hs.ev rfl) (hs.ev rfl) (by omega) (by omega)) rfl fun ac hs => ?_
            refine s_q hs (c_ff (c_gtrI (hs.ev rfl) (hs.ev rfl)) (by have := hcu.1; simp; omega)) rfl fun ac hs => ?_
            refine s_end ?_
            refine then_n ?_
            refine wp_cond_false (hs.ev rfl) ?_
            refine wp_skip ?_
            refine then_n ?_
            refine wp_seq ?_
            refine wp_reg ?_
            refine s_q hs (c_move (hs.ev rfl)) rfl fun ac hs => ?_
            refine s_q hs (c_move (hs.ev rfl)) rfl fun ac hs => ?_
            refine s_q hs (c_loadW ty54 rfl (hs.ev rfl) (hs.seg (i := 1) rfl) (by rw [List.length_map, el_length])) rfl fun ac hs => ?_
            refine s_mapUpdate (i := 2) hs un3 Try.underlying171 rfl rfl rfl rfl (by unfold maxLen; omega) (by omega) fun ww hs => ?_
            rw [← cnt_put f q _ hqm] at hs
            replace hs := hs.pick (L' := [_]) (.cons _ (.cons _ (.refl _)))
            refine s_end ?_
            refine then_n ?_
            refine wp_seq ?_
            refine wp_reg ?_
            refine s_q hs (c_move (hs.ev rfl)) rfl fun ac hs => ?_
            refine s_call hs fu132 (.cons (hs.ev rfl) .nil) (spring_Made p ho 0 _ t _ (hspZ.otherG hs.fr (mapK hmZ))) rfl fun ac ww v113 hf hp hs => ?_
            obtain rfl := hp
            replace hs := hs [] (.nil _ _)
            refine s_q hs (c_move (hs.ev rfl)) rfl fun ac hs => ?_
            refine s_q hs (c_lenM Try.underlying171 (hs.get (i := 0) rfl) (hs.ev rfl)) rfl fun ac hs => ?_
            refine s_q hs (c_ff (c_lssI (hs.ev rfl) (hs.ev rfl)) (by simp; omega)) rfl fun ac hs => ?_
            refine s_q hs (c_move (hs.ev rfl)) rfl fun ac hs => ?_
            refine s_yes hs rfl rfl ?_
            refine s_q hs (c_move (hs.ev rfl)) rfl fun ac hs => ?_
            refine s_yes hs rfl rfl ?_
            refine s_call hs fu132 (.cons (hs.ev rfl) .nil) (spring_Made p ho 0 _ t _ (hspZ.otherG hs.fr (mapK hmZ))) rfl fun ac ww v119 hf hp hs => ?_
            obtain rfl := hp
            replace hs := hs [] (.nil _ _)
            refine s_yes hs rfl rfl ?_
            refine s_q hs (c_move (hs.ev rfl)) rfl fun ac hs => ?_
            refine s_yes hs rfl rfl ?_
            refine s_q hs (c_ff (c_gtrI (hs.ev rfl) (hs.ev rfl)) (by rw [decide_eq_false_iff_not]; intro h9; exact absurd hcK2 (Nat.not_le.2 (Int.ofNat_lt.1 h9)))) rfl fun ac hs => ?_
            refine s_q hs (c_pick (hs.ev rfl) (hs.ev rfl) (hs.ev rfl)) rfl fun ac hs => ?_
            refine s_end ?_
            refine then_n ?_
            refine wp_cond_false (hs.ev rfl) ?_
            refine wp_skip ?_
            refine blk_n ?_
            refine then_n ?_
            refine wp_reg ?_
            refine s_q hs (c_addI (hs.ev rfl) (hs.ev rfl) (by omega) (by omega)) rfl fun ac hs => ?_
            refine s_q hs (c_move (hs.ev rfl)) rfl fun ac hs => ?_
            refine s_end ?_
            refine then_n ?_
            have hsp9 := hspZ.otherG hs.fr (mapK hmZ)
            replace hs := hs.unrebase hfrL hownL
            rw [← hie1] at hs
            exact ⟨ids.length - (k + 1), by (try simp only); omega, (k + 1, _, _, _, _), ⟨rfl, by (try simp only); omega, hnZ, hsp9, hflZ⟩, St.next hs ⟨rfl, rfl, rfl, rfl, rfl, rfl, rfl, trivial⟩ rfl⟩
          · skip
            refine wp_skip ?_
            refine then_n ?_
            refine wp_seq ?_
            refine wp_seq ?_
            refine wp_reg ?_
            refine s_q hs (c_move (hs.ev rfl)) rfl fun ac hs => ?_
            refine s_call hs fu132 (.cons (hs.ev rfl) .nil) (spring_Made p ho 0 _ t _ (hspZ.otherG hs.fr (mapK hmZ))) rfl fun ac ww v105 hf hp hs => ?_
            obtain rfl := hp
            replace hs := hs [] (.nil _ _)
            refine s_q hs (c_move (hs.ev rfl)) rfl fun ac hs => ?_
            refine s_q hs (c_addI (hs.ev rfl) (hs.ev rfl) (by omega) (by omega)) rfl fun ac hs => ?_
            refine s_q hs (c_ff (c_gtrI (hs.ev rfl) (hs.ev rfl)) (by have := hcu.1; simp; omega)) rfl fun ac hs => ?_
            refine s_end ?_
            refine then_n ?_
            refine wp_cond_false (hs.ev rfl) ?_
            refine wp_skip ?_
            refine then_n ?_
            refine wp_seq ?_
            refine wp_reg ?_
            refine s_q hs (c_move (hs.ev rfl)) rfl fun ac hs => ?_
            refine s_q hs (c_move (hs.ev rfl)) rfl fun ac hs => ?_
            refine s_q hs (c_loadW ty54 rfl (hs.ev rfl) (hs.seg (i := 1) rfl) (by rw [List.length_map, el_length])) rfl fun ac hs => ?_
            refine s_mapUpdate (i := 2) hs un3 Try.underlying171 rfl rfl rfl rfl (by unfold maxLen; omega) (by omega) fun ww hs => ?_
            rw [← cnt_put f q _ hqm] at hs
            replace hs := hs.pick (L' := [_]) (.cons _ (.cons _ (.refl _)))
            refine s_end ?_
            refine then_n ?_
            refine wp_seq ?_
            refine wp_reg ?_
            refine s_q hs (c_move (hs.ev rfl)) rfl fun ac hs => ?_
            refine s_call hs fu132 (.cons (hs.ev rfl) .nil) (spring_Made p ho 0 _ t _ (hspZ.otherG hs.fr (mapK hmZ))) rfl fun ac ww v113 hf hp hs => ?_
            obtain rfl := hp
            replace hs := hs [] (.nil _ _)
            refine s_q hs (c_move (hs.ev rfl)) rfl fun ac hs => ?_
            refine s_q hs (c_lenM Try.underlying171 (hs.get (i := 0) rfl) (hs.ev rfl)) rfl fun ac hs => ?_
            refine s_q hs (c_ff (c_lssI (hs.ev rfl) (hs.ev rfl)) (by simp; omega)) rfl fun ac hs => ?_
            refine s_q hs (c_move (hs.ev rfl)) rfl fun ac hs => ?_
            refine s_yes hs rfl rfl ?_
            refine s_q hs (c_move (hs.ev rfl)) rfl fun ac hs => ?_
            refine s_yes hs rfl rfl ?_
            refine s_call hs fu132 (.cons (hs.ev rfl) .nil) (spring_Made p ho 0 _ t _ (hspZ.otherG hs.fr (mapK hmZ))) rfl fun ac ww v119 hf hp hs => ?_
            obtain rfl := hp
            replace hs := hs [] (.nil _ _)
            refine s_yes hs rfl rfl ?_
            refine s_q hs (c_move (hs.ev rfl)) rfl fun ac hs => ?_
            refine s_yes hs rfl rfl ?_
            refine s_q hs (c_ff (c_gtrI (hs.ev rfl) (hs.ev rfl)) (by rw [decide_eq_false_iff_not]; intro h9; exact absurd hcK2 (Nat.not_le.2 (Int.ofNat_lt.1 h9)))) rfl fun ac hs => ?_
            refine s_q hs (c_pick (hs.ev rfl) (hs.ev rfl) (hs.ev rfl)) rfl fun ac hs => ?_
            refine s_end ?_
            refine then_n ?_
            refine wp_cond_false (hs.ev rfl) ?_
            refine wp_skip ?_
            refine blk_n ?_
            refine then_n ?_
            refine wp_reg ?_
            refine s_q hs (c_addI (hs.ev rfl) (hs.ev rfl) (by omega) (by omega)) rfl fun ac hs => ?_
            refine s_q hs (c_move (hs.ev rfl)) rfl fun ac hs => ?_
            refine s_end ?_
            refine then_n ?_
            have hsp9 := hspZ.otherG hs.fr (mapK hmZ)
            replace hs := hs.unrebase hfrL hownL
            rw [← hie1] at hs
            exact ⟨ids.length - (k + 1), by (try simp only); omega, (k + 1, _, _, _, _), ⟨rfl, by (try simp only); omega, hnZ, hsp9, hflZ⟩, St.next hs ⟨rfl, rfl, rfl, rfl, rfl, rfl, rfl, trivial⟩ rfl⟩
    · try simp only [decide_eq_true_eq, decide_eq_false_iff_not, Bool.not_eq_true', Bool.not_eq_false', Bool.and_eq_true, Bool.or_eq_true, Bool.or_eq_false_iff] at hc
      refine wp_exit ?_
      refine then_e ?_
      refine then_e ?_
      refine blk_hit ?_
      refine then_n ?_
      refine wp_seq ?_
      refine wp_reg ?_
      refine s_q hs (c_assign (hs.ev rfl)) rfl fun ac hs => ?_
      refine s_end ?_
      replace hs := hs.sub (F' := [(10, _)]) ⟨rfl, trivial⟩
      refine then_n ?_
      refine wp_ret ?_
      refine s_ret hs rfl (.tmp (hs.tmp rfl) .nil) rfl ⟨_, rfl, (hfr0.over (Fr.rebase hfrL hownL hs.fr) fun i hi => hi.elim (fun e => e ▸ hg1) fun e => e ▸ hc1), ?_⟩
      rfl
end Go.Proofs.Ytmgnnclkjkbmdaa
end
