/- The steps: one operation after the other, in the order of the text; calls; loops; the end. -/
import Derived.Test.YtmgnnclkjkbmdaaFw4
set_option linter.unusedSimpArgs false
set_option linter.unusedVariables false
namespace Go.Fw
open Go

/-- A contract: what is called returns; but for the blocks of M all that was there is as it was; and more. -/
def Ctr (P : Program) (f : FuncId) (vs : List Value) (w : World) (M : Nat → Prop) (Post : Value → World → Prop) : Prop :=
  Calls P f vs.toArray w fun e w' => ∃ v, e = .returned v ∧ Fr M w w' ∧ Post v w'

section
variable {P : Program} {ops : Array Oper} {Q : Exit → Act → World → Prop} {rest : List Oper} {N : Nat} {F F' : List (Nat × Value)} {L L' : List Ent} {M : Nat → Prop} {w0 w : World} {a : Act}
variable {d : Tmp} {op : Op} {ty : TypeId} {pos : String} {aft : Array Edge} {x y z : Operand} {t u : TypeId}

theorem St.ev {v : Value} (hs : St N F L M w0 a w) (hx : ev F x = some v) : a.eval x = v := hs.know.eval hx
theorem St.seg {i : Nat} {g : Nat} {cs : List Value} {T : TypeId} (hs : St N F L M w0 a w) (hi : L[i]? = some (.seg g cs T)) : w.heap[g]? = some (.cells cs.toArray T (0, 0)) := hs.get hi

theorem upon_value {o : Oper} {v : Value} {w' : World} {K : Act → World → Prop} (hr : (execOp a.eval o).run P w = .ok (.value v) w') (h : K (a.put o.dst v) w') : o.wp P a w K Q := by
  unfold Oper.wp; rw [hr]; exact h
theorem upon_skip {o : Oper} {w' : World} {K : Act → World → Prop} (hr : (execOp a.eval o).run P w = .ok .skip w') (h : K (a.put o.dst undef) w') : o.wp P a w K Q := by
  unfold Oper.wp; rw [hr]; exact h

theorem lt_of_blt {d N : Nat} (h : Nat.blt d N = true) : d < N := by simpa [Nat.blt_eq] using h

/-- An operation that leaves the world alone. -/
theorem s_q {v : Value} (hs : St N F L M w0 a w) (hr : (execOp a.eval ⟨some d, op, ty, pos, aft, none⟩).run P w = .ok (.value v) w) (hd : Nat.blt d N = true)
    (k : ∀ a, St N ((d, v) :: F) L M w0 a w → wpList P ops Q rest a w) : wpList P ops Q (⟨some d, op, ty, pos, aft, none⟩ :: rest) a w :=
  wpList_plain rfl fun K hK => upon_value hr (hK _ _ (k _ (hs.put (lt_of_blt hd) v)))

/-- A guarded operation whose guard holds. -/
theorem s_yes {j s : Nat} {b : Bool} {dd : Option Tmp} (hs : St N F L M w0 a w) (hj : (ops[j]?).bind (·.dst) = some s) (hb : look F s = some (.bool b))
    (k : wpList P ops Q (⟨dd, op, ty, pos, aft, none⟩ :: rest) a w) : wpList P ops Q (⟨dd, op, ty, pos, aft, some (j, b)⟩ :: rest) a w := by
  have hy : yielded ops a.tmps j = some b := by
    have := hs.know.at_ s _ hb
    simp [yielded, hj, this]
  unfold wpList at k ⊢
  have hw : Region.wanted ⟨dd, op, ty, pos, aft, some (j, b)⟩ (yielded ops a.tmps) = true := by simp [Region.wanted, hy]
  rw [if_pos hw]
  rw [if_pos (by simp [Region.wanted])] at k
  exact k
/-- A guarded operation whose guard does not hold. -/
theorem s_no {j s : Nat} {b c : Bool} (hs : St N F L M w0 a w) (hj : (ops[j]?).bind (·.dst) = some s) (hb : look F s = some (.bool c)) (hne : c = !b) (hd : Nat.blt d N = true)
    (k : ∀ a, St N ((d, undef) :: F) L M w0 a w → wpList P ops Q rest a w) : wpList P ops Q (⟨some d, op, ty, pos, aft, some (j, b)⟩ :: rest) a w := by
  have hy : yielded ops a.tmps j = some c := by
    have := hs.know.at_ s _ hb
    simp [yielded, hj, this]
  unfold wpList
  have hw : Region.wanted ⟨some d, op, ty, pos, aft, some (j, b)⟩ (yielded ops a.tmps) = false := by subst hne; cases b <;> simp [Region.wanted, hy]
  rw [if_neg (by rw [hw]; simp)]
  exact k _ (hs.put (lt_of_blt hd) undef)
/-- A guarded operation, whatever its guard: it leaves the world alone. -/
theorem s_g {j s : Nat} {b c : Bool} {v : Value} (hs : St N F L M w0 a w) (hj : (ops[j]?).bind (·.dst) = some s) (hb : look F s = some (.bool c))
    (hr : c = b → (execOp a.eval ⟨some d, op, ty, pos, aft, none⟩).run P w = .ok (.value v) w) (hd : Nat.blt d N = true)
    (k : ∀ a, St N ((d, if c = b then v else undef) :: F) L M w0 a w → wpList P ops Q rest a w) : wpList P ops Q (⟨some d, op, ty, pos, aft, some (j, b)⟩ :: rest) a w := by
  by_cases e : c = b
  · subst e
    refine s_yes hs hj hb (s_q hs (hr rfl) hd fun a hs => k a ?_)
    simpa using hs
  · refine s_no hs hj hb (by cases c <;> cases b <;> simp_all) hd fun a hs => k a ?_
    simpa [e] using hs

theorem gev {c b : Bool} {v u : Value} (hx : a.eval x = if c = b then v else u) (h : c = b) : a.eval x = v := by rw [hx, if_pos h]

theorem c_and {b c : Bool} {u0 : Value} {g : Option (Nat × Bool)} {d : Option Tmp} (hx : a.eval x = .bool b) (hy : a.eval y = if b = true then .bool c else u0) :
    (execOp a.eval ⟨d, .pick x y (.const (.bool false)), ty, pos, aft, g⟩).run P w = .ok (.value (.bool (b && c))) w := by
  rw [c_pick hx hy (v := .bool false) rfl]
  cases b <;> simp
theorem c_or {b c : Bool} {u0 : Value} {g : Option (Nat × Bool)} {d : Option Tmp} (hx : a.eval x = .bool b) (hy : a.eval y = if b = false then .bool c else u0) :
    (execOp a.eval ⟨d, .pick x (.const (.bool true)) y, ty, pos, aft, g⟩).run P w = .ok (.value (.bool (b || c))) w := by
  rw [c_pick hx (u := .bool true) rfl hy]
  cases b <;> simp

/-- An operation that makes new things. -/
theorem s_new {v : Value} {w' : World} (hs : St N F L M w0 a w) (hr : (execOp a.eval ⟨some d, op, ty, pos, aft, none⟩).run P w = .ok (.value v) w') (hd : Nat.blt d N = true) (hf : Fr0 w w') (hn : Has w.heap.size w' L')
    (k : ∀ a, St N ((d, v) :: F) (L' ++ L) M w0 a w' → wpList P ops Q rest a w') : wpList P ops Q (⟨some d, op, ty, pos, aft, none⟩ :: rest) a w :=
  wpList_plain rfl fun K hK => upon_value hr (hK _ _ (k _ ((hs.new hf hn).put (lt_of_blt hd) v)))

theorem has_alloc {z : List Value} : Has w.heap.size (w.alloc (.cells z.toArray t)) [.seg w.heap.size z t] :=
  ⟨by intro e he; simp at he; subst he; exact heap_alloc_new w _, List.pairwise_singleton _ _, by intro e he k hk; simp at he; subst he; cases hk; simp, by intro e he k hk; simp at he; subst he; cases hk; simp⟩

theorem s_alloc {td : TypeDesc} {sz bytes : Nat} {zs : List Value} (hs : St N F L M w0 a w) (hT : Ty P t td sz bytes zs) (hd : Nat.blt d N = true)
    (k : ∀ a w gb, St N ((d, .pointer (some ⟨gb, 0, none⟩)) :: F) (.seg gb zs t :: L) M w0 a w → wpList P ops Q rest a w) : wpList P ops Q (⟨some d, .alloc t, ty, pos, aft, none⟩ :: rest) a w :=
  s_new hs (c_alloc hT) hd (.alloc _ _) has_alloc fun a hs => k a _ _ hs
theorem s_box {v : Value} {zs : List Value} (hs : St N F L M w0 a w) (hx : ev F x = some v) (hz : v.cells = zs.toArray) (hd : Nat.blt d N = true)
    (k : ∀ a w gb, St N ((d, .pointer (some ⟨gb, 0, none⟩)) :: F) (.seg gb zs t :: L) M w0 a w → wpList P ops Q rest a w) : wpList P ops Q (⟨some d, .box t x, ty, pos, aft, none⟩ :: rest) a w :=
  s_new hs (hz ▸ c_box (hs.ev hx)) hd (.alloc _ _) has_alloc fun a hs => k a _ _ hs
theorem s_bslice {E : TypeId} {ed : TypeDesc} {s bytes n : Nat} {z zs : List Value} {ps : Array (Nat × Operand)} {vs : List Value} (hs : St N F L M w0 a w) (hu : P.underlying t = some (.slice E)) (hE : Ty P E ed s bytes z)
    (hps : Evp a 0 ps.toList vs) (hn : vs.length = n) (hv : ∀ v ∈ vs, v.cells.size = s) (hsmall : n * s ≤ 16777216) (hz : flatCells vs = zs) (hd : Nat.blt d N = true)
    (k : ∀ a w gb, St N ((d, .slice (some ⟨gb, 0, none⟩) n n) :: F) (.seg gb zs E :: L) M w0 a w → wpList P ops Q rest a w) : wpList P ops Q (⟨some d, .buildSlice t n ps, ty, pos, aft, none⟩ :: rest) a w :=
  s_new hs (hz ▸ c_bslice hu hE hps hn hv hsmall) hd (.alloc _ _) has_alloc fun a hs => k a _ _ hs

/-- A store into one of the things. -/
theorem s_store {i : Nat} {T' : TypeId} {td : TypeDesc} {sz bytes : Nat} {zz : List Value} {gb o : Nat} {cs cs' c : List Value} {v : Value} (hs : St N F L M w0 a w) (hT : Ty P t td sz bytes zz)
    (hx : ev F x = some (.pointer (some ⟨gb, o, none⟩))) (hy : ev F y = some v) (hi : L[i]? = some (.seg gb cs T')) (hv : v.cells.toList = c) (hl : c.length = sz) (h1 : c.all (·.oneCell') = true) (hfit : o + sz ≤ cs.length)
    (hcs : cs.take o ++ c ++ cs.drop (o + sz) = cs') (k : ∀ w, St N F (L.set i (.seg gb cs' T')) M w0 a w → wpList P ops Q rest a w) :
    wpList P ops Q (⟨none, .store t x y, ty, pos, aft, none⟩ :: rest) a w := by
  have hr := c_store (P := P) (w := w) (d := none) (ty := ty) (pos := pos) (aft := aft) (g := none) hT (hs.ev hx) (hs.ev hy) hv hl h1 (hs.seg hi) hfit
  rw [hcs] at hr
  refine wpList_plain rfl fun K hK => upon_skip hr (hK _ _ (k _ ?_))
  exact hs.mod hi (.setRow w gb _) (setRow_heap w gb _ _ _ _ (hs.seg hi)) (fun j hj => ⟨.inl hj, by
    have h2 : gb < w.heap.size := hs.has.lt _ (List.mem_of_getElem? hi) gb rfl
    cases hj
    simpa using h2⟩)

theorem run_call {f : FuncId} {args : Array Operand} {vs : List Value} {tys : Array TypeId} {d : Option Tmp} {g : Option (Nat × Bool)} (hF : Fun P f) (hargs : Evs a args.toList vs) :
    (execOp a.eval ⟨d, .call { callee := .value (.func f), args := args, argTypes := tys }, ty, pos, aft, g⟩).run P w = .ok (.enter f vs.toArray) w := by
  obtain ⟨fn, h1, h2, h3⟩ := hF
  have he : args.map a.eval = vs.toArray := by
    apply Array.ext'
    rw [Array.toList_map, hargs.map]
  have h2' : ¬ fn.name = "runtime.NumGoroutine" := by simpa using h2
  have h3' : ¬ fn.body = none := fun e => by simp [e] at h3
  simp [execOp, resolve, he, Act.eval, Deferred.ofValue, invoke, callFunc, h1, h2', h3']

/-- A call of a function that turns nothing that was there. -/
theorem s_call {f : FuncId} {args : Array Operand} {vs : List Value} {tys : Array TypeId} {Post : Value → World → Prop} (hs : St N F L M w0 a w) (hF : Fun P f) (hargs : Evs a args.toList vs)
    (hc : Ctr P f vs w (fun _ => False) Post) (hd : Nat.blt d N = true)
    (k : ∀ a w' v, Fr0 w w' → Post v w' → (∀ L', Has w.heap.size w' L' → St N ((d, v) :: F) (L' ++ L) M w0 a w') → wpList P ops Q rest a w') :
    wpList P ops Q (⟨some d, .call { callee := .value (.func f), args := args, argTypes := tys }, ty, pos, aft, none⟩ :: rest) a w := by
  refine wpList_plain rfl fun K hK => ?_
  unfold Oper.wp
  rw [run_call hF hargs]
  refine hc.mono fun e w' ⟨v, he, hf, hp⟩ => ?_
  subst he
  exact hK _ _ (k _ _ v hf hp fun L' hn => (hs.new hf hn).put (lt_of_blt hd) v)

/-- A call whose result is not kept, of a function that turns one thing. -/
theorem s_callM {f : FuncId} {args : Array Operand} {vs : List Value} {tys : Array TypeId} {Post : Value → World → Prop} {i : Nat} {e : Ent} (hs : St N F L M w0 a w) (hF : Fun P f) (hargs : Evs a args.toList vs)
    (hi : L[i]? = some e) (hc : Ctr P f vs w e.keys Post) (hd : Nat.blt d N = true)
    (k : ∀ a w' v, Fr e.keys w w' → Post v w' → (∀ e' : Ent, e'.holds w' → (∀ k, e'.keys k → (e.keys k ∨ w.heap.size ≤ k) ∧ k < w'.heap.size) → St N ((d, v) :: F) (L.set i e') M w0 a w') → wpList P ops Q rest a w') :
    wpList P ops Q (⟨some d, .call { callee := .value (.func f), args := args, argTypes := tys }, ty, pos, aft, none⟩ :: rest) a w := by
  refine wpList_plain rfl fun K hK => ?_
  unfold Oper.wp
  rw [run_call hF hargs]
  refine hc.mono fun e' w' ⟨v, he, hf, hp⟩ => ?_
  subst he
  exact hK _ _ (k _ _ v hf hp fun e' h1 h2 => (hs.mod hi hf h1 h2).put (lt_of_blt hd) v)

theorem s_end (h : Q .normal a w) : wpList P ops Q [] a w := h
theorem s_sub (F' : List (Nat × Value)) (hs : St N F L M w0 a w) (hF : Sub F F') {G : Prop} (k : St N F' L M w0 a w → G) : G := k (hs.sub hF)

/-! code -/
theorem wp_reg {id : Nat} {l : List Oper} (h : wpList P l.toArray Q l a w) : (Code.region id l.toArray false).wp P Q a w := wp_region_lit h

theorem wp_loop_ix {c : Code} (J : Nat → Act → World → Prop) (n : Nat) (h0 : J n a w)
    (round : ∀ n a w, J n a w → c.wp P (Exit.then (fun a' w' => ∃ m, m < n ∧ J m a' w') Q) a w) : (Code.loop c).wp P Q a w := by
  intro b k cs
  have key : ∀ n a w, J n a w → ∃ e a' w', Q e a' w' ∧ Arrives P (lone (b.at a (.code c :: .inLoop c :: k)) cs w) b k cs e a' w' := by
    intro n
    induction n using Nat.strongRecOn with
    | _ n ih =>
      intro a w hJ
      obtain ⟨e, a₁, w₁, hq, harr⟩ := round n a w hJ b (.inLoop c :: k) cs
      cases e with
      | normal =>
        obtain ⟨m, hm, hJ'⟩ := hq
        obtain ⟨e₂, a₂, w₂, hq₂, harr₂⟩ := ih m hm a₁ w₁ hJ'
        exact ⟨e₂, a₂, w₂, hq₂, .of_steps (Steps.trans harr (.one step_inLoop)) harr₂⟩
      | exit id => exact ⟨_, a₁, w₁, hq, .pass (x := .inLoop c) rfl (fun _ _ => .inl (by simp)) harr⟩
      | goto l => exact ⟨_, a₁, w₁, hq, .pass (x := .inLoop c) rfl (fun _ _ => .inl (by simp)) harr⟩
      | ret => exact ⟨_, a₁, w₁, hq, .pass (x := .inLoop c) rfl (fun _ _ => .inl (by simp)) harr⟩
      | panic ch => exact ⟨_, a₁, w₁, hq, .pass (x := .inLoop c) rfl (fun _ _ => .inl (by simp)) harr⟩
      | outgrown => exact ⟨_, a₁, w₁, hq, .pass (x := .inLoop c) rfl (fun _ _ => .inl (by simp)) harr⟩
  obtain ⟨e, a', w', hq, harr⟩ := key n _ _ h0
  exact ⟨e, a', w', hq, .of_steps (.one step_loop) harr⟩

theorem s_cond {b : Bool} {c1 c2 : Code} (hs : St N F L M w0 a w) (hx : ev F x = some (.bool b)) (h1 : b = true → c1.wp P Q a w) (h2 : b = false → c2.wp P Q a w) : (Code.cond x c1 c2).wp P Q a w :=
  wp_cond_split (hs.ev hx) h1 h2

/-! the end -/
inductive Res (P : Program) (tmps : Array Value) (w : World) : List ResultVar → List Value → Prop
  | nil : Res P tmps w [] []
  | tmp {k : Tmp} {v : Value} {rs : List ResultVar} {vs : List Value} (h : tmps[k]? = some v) (t : Res P tmps w rs vs) : Res P tmps w (.tmp k :: rs) (v :: vs)
  | cell {k : Tmp} {T : TypeId} {ad : Addr} {v : Value} {rs : List ResultVar} {vs : List Value} (h : tmps[k]? = some (.pointer (some ad))) (hl : (loadVar T ad).run P w = .ok v w) (t : Res P tmps w rs vs) :
      Res P tmps w (.cell k T :: rs) (v :: vs)

def resF (tmps : Array Value) : ResultVar → Sem Value
  | .tmp t => pure (tmps.getD t undef)
  | .cell a t => do loadVar t (← asAddr (tmps.getD a undef))

theorem run_mapM_res {tmps : Array Value} : ∀ {rs : List ResultVar} {vs : List Value}, Res P tmps w rs vs → (rs.mapM (resF tmps)).run P w = .ok vs w
  | _, _, .nil => by simp
  | _, _, .tmp h t => by
    have ih := run_mapM_res t
    simp [List.mapM_cons, resF, h, ih]
  | _, _, .cell (k := k) (ad := ad) h hl t => by
    have ih := run_mapM_res t
    have e : (asAddr (tmps.getD k undef)).run P w = .ok ad w := by simp [h, asAddr]
    simp only [List.mapM_cons, resF, Sem.run_bind, e, Result.andThen_ok, hl, ih, Sem.run_pure]

theorem run_results {fn : Func} {tmps : Array Value} {rs : List ResultVar} {vs : List Value} {v : Value} (hr : fn.results = rs.toArray) (h : Res P tmps w rs vs) (hv : (if h : vs.toArray.size = 1 then vs.toArray[0] else .tuple vs.toArray) = v) :
    (results fn tmps).run P w = .ok v w := by
  have := run_mapM_res h
  have e : results fn tmps = (do let vs ← rs.toArray.mapM (resF tmps); pure (if h : vs.size = 1 then vs[0] else .tuple vs)) := by
    unfold results
    rw [hr]
    rfl
  rw [e]
  subst hv
  simp only [List.mapM_toArray, Sem.run_bind]
  simp [this]

theorem s_ret {fn : Func} {R : Ending → World → Prop} {rs : List ResultVar} {vs : List Value} {v : Value} (hs : St N F L M w0 a w) (hr : fn.results = rs.toArray) (h : Res P a.tmps w rs vs)
    (hv : (if h : vs.toArray.size = 1 then vs.toArray[0] else .tuple vs.toArray) = v) (hR : R (.returned v) w) : bodyPost P fn R .ret a w :=
  ⟨hs.know.defers, v, run_results hr h hv, hR⟩
theorem s_ret_end {fn : Func} {R : Ending → World → Prop} {rs : List ResultVar} {vs : List Value} {v : Value} (hs : St N F L M w0 a w) (hr : fn.results = rs.toArray) (h : Res P a.tmps w rs vs)
    (hv : (if h : vs.toArray.size = 1 then vs.toArray[0] else .tuple vs.toArray) = v) (hR : R (.returned v) w) : bodyPost P fn R .normal a w :=
  ⟨hs.know.defers, v, run_results hr h hv, hR⟩

theorem St.tmp {n : Nat} {v : Value} (hs : St N F L M w0 a w) (h : look F n = some v) : a.tmps[n]? = some v := hs.know.at_ n v h

def argF : Nat → List Value → List (Nat × Value)
  | _, [] => []
  | k, v :: t => (k, v) :: argF (k + 1) t

theorem look_argF : ∀ (vs : List Value) (k n : Nat) (v : Value), look (argF k vs) n = some v → k ≤ n ∧ vs[n - k]? = some v
  | [], k, n, v, h => by simp [argF, look] at h
  | u :: t, k, n, v, h => by
    simp only [argF, look] at h
    by_cases e : k = n
    · subst e
      simp at h
      simp [h]
    · rw [Nat.beq_eq_false_of e] at h
      have := look_argF t (k + 1) n v h
      refine ⟨by omega, ?_⟩
      rw [show n - k = (n - (k + 1)) + 1 from by omega]
      simpa using this.2

/-- The beginning. -/
theorem fn_start {f : FuncId} {fn : Func} {c : Code} {vs : List Value} {M : Nat → Prop} {Post : Value → World → Prop} (hf : P.funcs[f]? = some fn) (hb : fn.body = some c) (hn : fn.ntmps = N) (hle : Nat.ble vs.length N = true)
    (h : ∀ a, Know N (argF 0 vs) a → c.wp P (bodyPost P fn fun e w' => ∃ v, e = .returned v ∧ Fr M w w' ∧ Post v w') a w) : Ctr P f vs w M Post := by
  refine calls_of_wp hf hb (h _ ?_)
  have hle' : vs.length ≤ N := by simpa using hle
  refine ⟨by simp [hn]; omega, rfl, fun n v hl => ?_⟩
  have h2 := look_argF vs 0 n v hl
  have hlt : n < vs.length := (List.getElem?_eq_some_iff.1 h2.2).1
  have h3 := h2.2
  simp at h3
  rw [Array.getElem?_append_left (by simpa using hlt)]
  simpa using h3

theorem Ctr.mono {f : FuncId} {vs : List Value} {M : Nat → Prop} {Post Post' : Value → World → Prop} (h : Ctr P f vs w M Post) (hp : ∀ v w', Fr M w w' → Post v w' → Post' v w') : Ctr P f vs w M Post' :=
  Calls.mono h fun _ _ ⟨v, he, hf, hh⟩ => ⟨v, he, hf, hp v _ hf hh⟩
end
end Go.Fw
