/- A region that draws its order: each operation is shown, in whatever order it comes up, to yield a known value, or a value with new things; behind them a tail in the order of the text. -/
import Derived.Test.YtmgnnclkjkbmdaaFw5
set_option linter.unusedSimpArgs false
set_option linter.unusedVariables false
namespace Go.Fw
open Go

/-- What an operation comes to: a known value; or a value with some new things. -/
inductive DV where
  | c (v : Value)
  | e (E : Value → List Ent → World → Prop) (st : ∀ v L w w', Fr0 w w' → E v L w → E v L w')

def DV.ok : DV → Value → List Ent → World → Prop
  | .c u, v, L, _ => v = u ∧ L = []
  | .e E _, v, L, w => E v L w

theorem DV.ok_stable {D : DV} {v : Value} {L : List Ent} {w w' : World} (hf : Fr0 w w') (h : D.ok v L w) : D.ok v L w' := by
  cases D with
  | c u => exact h
  | e E st => exact st v L w w' hf h

abbrev Fes := List (Nat × (Value → List Ent → World → Prop))

def lookE : Fes → Nat → Option (Value → List Ent → World → Prop)
  | [], _ => none
  | (k, v) :: t, n => bif Nat.beq k n then some v else lookE t n

def Yl (P : Program) (R : Value → World → Prop) : Result Next → Prop
  | .ok (.value v) w' => R v w'
  | .ok .skip w' => R undef w'
  | .ok (.enter f args) w' => Calls P f args w' fun e w'' => ∃ v, e = .returned v ∧ R v w''
  | _ => False

theorem wp_of_yl {P : Program} {R : Value → World → Prop} {o : Oper} {a : Act} {w : World} {K : Act → World → Prop} {Q : Exit → Act → World → Prop}
    (h : Yl P R ((execOp a.eval o).run P w)) (k : ∀ v w', R v w' → K (a.put o.dst v) w') : o.wp P a w K Q := by
  unfold Oper.wp
  generalize (execOp a.eval o).run P w = r at *
  cases r with
  | ok nx w' =>
    cases nx <;> simp only [Yl] at h <;> simp only [Oper.upon]
    case value v => exact k v w' h
    case skip => exact k undef w' h
    case enter f args => exact h.mono fun e w'' ⟨v, he, hr⟩ => by subst he; exact k v w'' hr
  | halt x w' => simp [Yl] at h

def tmpsOf (o : Oper) : List Nat := o.op.operands.toList.filterMap fun | .tmp t => some t | _ => none

/-- What may be used of an operation's surroundings. -/
structure RC (N : Nat) (Fc : List (Nat × Value)) (Fe : Fes) (o : Oper) (B1 : Nat) (w1 : World) (a : Act) (w : World) : Prop where
  know : Know N Fc a
  fr : Fr0 w1 w
  ents : ∀ n E, lookE Fe n = some E → (tmpsOf o).any (Nat.beq n) = true → ∃ v L', a.tmps[n]? = some v ∧ E v L' w ∧ Has B1 w L'

def Meets (D : DV) (w : World) (v : Value) (w' : World) : Prop := ∃ L', D.ok v L' w' ∧ Fr0 w w' ∧ Has w.heap.size w' L'

def wantedAs (ops : Array Oper) (Fc : List (Nat × Value)) (o : Oper) : Option Bool :=
  match o.guard with
  | none => some true
  | some (j, wt) => match ((ops[j]?).bind (·.dst)).bind (look Fc) with
    | some (.bool b) => some (b == wt)
    | _ => none

def Ob (P : Program) (ops : Array Oper) (N : Nat) (B1 : Nat) (w1 : World) (Fc : List (Nat × Value)) (Fe : Fes) (o : Oper) (D : DV) : Prop :=
  (wantedAs ops Fc o = some true ∧ ∀ a w, RC N Fc Fe o B1 w1 a w → Yl P (Meets D w) ((execOp a.eval o).run P w)) ∨ (wantedAs ops Fc o = some false ∧ D = .c undef)

def addC (Fc : List (Nat × Value)) (d : Nat) : DV → List (Nat × Value)
  | .c v => (d, v) :: Fc
  | .e _ _ => Fc
def addE (Fe : Fes) (d : Nat) : DV → Fes
  | .c _ => Fe
  | .e E _ => (d, E) :: Fe
def fresh (Fc : List (Nat × Value)) (Fe : Fes) (d : Nat) : DV → Prop
  | .c _ => lookE Fe d = none
  | .e _ _ => look Fc d = none

/-- The walk in the order of the text. -/
def RG (P : Program) (ops : Array Oper) (N B1 : Nat) (w1 : World) (K : List (Nat × Value) → Fes → Prop) : List (Nat × Value) → Fes → List Oper → Prop
  | Fc, Fe, [] => K Fc Fe
  | Fc, Fe, o :: rest => ∃ d D, o.dst = some d ∧ Ob P ops N B1 w1 Fc Fe o D ∧ fresh Fc Fe d D ∧ RG P ops N B1 w1 K (addC Fc d D) (addE Fe d D) rest

def looks (ops : Array Oper) (o : Oper) : List Nat := tmpsOf o ++ (match o.guard with | none => [] | some (j, _) => ((ops[j]?).bind (·.dst)).toList)

def waits (o : Oper) (j : Nat) : Bool := o.after.toList.any fun e => Region.binds .any e && Nat.beq e.on j

/-- It waits for j, or for one that does, and so on. -/
def anc (ops : Array Oper) : Nat → Oper → Nat → Bool
  | 0, o, j => waits o j
  | n + 1, o, j => waits o j || o.after.toList.any fun e => Region.binds .any e && (match ops[e.on]? with | none => false | some k => anc ops n k j)

def notSelect (o : Oper) : Bool := match o.op with | .select .. => false | _ => true

def dstAt (ops : Array Oper) (j : Nat) : Option Nat := (ops[j]?).bind (·.dst)

/-- The region's form: fit for the walk. -/
def rgB (ops : Array Oper) (n : Nat) : Bool :=
  Nat.ble n ops.size && (List.range ops.size).all fun i => match ops[i]? with
    | none => false
    | some o => notSelect o && (o.after.toList.all fun e => !Region.binds .any e || Nat.blt e.on i) &&
      (if i < n then
        (match o.dst with
          | none => false
          | some d => (List.range n).all fun j => Nat.beq j i || !(dstAt ops j == some d)) &&
        (looks ops o).all fun s => (List.range n).all fun j => Nat.beq j i || !(dstAt ops j == some s) || (if j < i then waits o j else match ops[j]? with | none => false | some oj => waits oj i)
      else (List.range i).all fun j => anc ops 24 o j)

theorem waits_spec {o : Oper} {j : Nat} (h : waits o j = true) : ∃ e ∈ o.after, Region.binds .any e = true ∧ e.on = j := by
  unfold waits at h
  obtain ⟨e, he, hb⟩ := List.any_eq_true.1 h
  simp only [Bool.and_eq_true] at hb
  exact ⟨e, by simpa using he, hb.1, Nat.eq_of_beq_eq_true hb.2⟩

theorem anc_spec {ops : Array Oper} : ∀ {n : Nat} {o : Oper} {j : Nat}, anc ops n o j = true → (∃ e ∈ o.after, Region.binds .any e = true ∧ e.on = j) ∨ ∃ m, m < n ∧ ∃ e ∈ o.after, Region.binds .any e = true ∧ ∃ k, ops[e.on]? = some k ∧ anc ops m k j = true
  | 0, o, j, h => .inl (waits_spec h)
  | n + 1, o, j, h => by
    unfold anc at h
    rw [Bool.or_eq_true] at h
    rcases h with h | h
    · exact .inl (waits_spec h)
    · obtain ⟨e, he, hb⟩ := List.any_eq_true.1 h
      simp only [Bool.and_eq_true] at hb
      refine .inr ⟨n, Nat.lt_succ_self n, e, by simpa using he, hb.1, ?_⟩
      cases hk : ops[e.on]? with
      | none => rw [hk] at hb; cases hb.2
      | some k => rw [hk] at hb; exact ⟨k, rfl, hb.2⟩

structure RgOk (ops : Array Oper) (n : Nat) : Prop where
  le : n ≤ ops.size
  sel : ∀ (i : Nat) (o : Oper), ops[i]? = some o → notSelect o = true
  back : ∀ (i : Nat) (o : Oper), ops[i]? = some o → ∀ e ∈ o.after, Region.binds .any e = true → e.on < i
  dst : ∀ (i : Nat) (o : Oper), ops[i]? = some o → i < n → ∃ d, o.dst = some d
  uniq : ∀ (i j d : Nat), i < n → j < n → dstAt ops i = some d → dstAt ops j = some d → i = j
  use : ∀ (i : Nat) (o : Oper) (s j : Nat), ops[i]? = some o → i < n → s ∈ looks ops o → j < n → j ≠ i → dstAt ops j = some s → (j < i ∧ waits o j = true) ∨ (i < j ∧ ∃ oj, ops[j]? = some oj ∧ waits oj i = true)
  tail : ∀ (i : Nat) (o : Oper), ops[i]? = some o → n ≤ i → ∀ j, j < i → anc ops 24 o j = true

theorem RgOk.anc_lt {ops : Array Oper} {n : Nat} (hok : RgOk ops n) : ∀ (m : Nat) (i : Nat) (o : Oper) (j : Nat), ops[i]? = some o → anc ops m o j = true → j < i := by
  intro m
  induction m using Nat.strongRecOn with
  | _ m ih =>
    intro i o j hi h
    rcases anc_spec h with ⟨e, he, hb, rfl⟩ | ⟨m', hm, e, he, hb, k, hk, ha⟩
    · exact hok.back i o hi e he hb
    · have h1 := hok.back i o hi e he hb
      have h2 := ih m' hm e.on k j hk ha
      omega
theorem anc_closed {ops : Array Oper} {S : Nat → Prop} (hc : ∀ (i : Nat) (o : Oper), ops[i]? = some o → S i → ∀ e ∈ o.after, Region.binds .any e = true → S e.on) : ∀ (m : Nat) (o : Oper) (j : Nat), (∀ e ∈ o.after, Region.binds .any e = true → S e.on) → anc ops m o j = true → S j := by
  intro m
  induction m using Nat.strongRecOn with
  | _ m ih =>
    intro o j hs h
    rcases anc_spec h with ⟨e, he, hb, rfl⟩ | ⟨m', hm, e, he, hb, k, hk, ha⟩
    · exact hs e he hb
    · exact ih m' hm k j (fun e2 he2 hb2 => hc e.on k hk (hs e he hb) e2 he2 hb2) ha

theorem rgB_spec {ops : Array Oper} {n : Nat} (h : rgB ops n = true) : RgOk ops n := by
  unfold rgB at h
  simp only [Bool.and_eq_true] at h
  obtain ⟨h0, h1⟩ := h
  have hle : n ≤ ops.size := by simpa using h0
  have get : ∀ i o, ops[i]? = some o → notSelect o = true ∧ (∀ e ∈ o.after, Region.binds .any e = true → e.on < i) ∧ (if i < n then
        (match o.dst with
          | none => false
          | some d => (List.range n).all fun j => Nat.beq j i || !(dstAt ops j == some d)) &&
        (looks ops o).all fun s => (List.range n).all fun j => Nat.beq j i || !(dstAt ops j == some s) || (if j < i then waits o j else match ops[j]? with | none => false | some oj => waits oj i)
      else (List.range i).all fun j => anc ops 24 o j) = true := by
    intro i o hi
    have hlt : i < ops.size := (Array.getElem?_eq_some_iff.1 hi).1
    have h2 := List.all_eq_true.1 h1 i (List.mem_range.2 hlt)
    simp only [hi, Bool.and_eq_true] at h2
    refine ⟨h2.1.1, fun e he hb => ?_, h2.2⟩
    have h3 := List.all_eq_true.1 h2.1.2 e (by simpa using he)
    simp only [hb, Bool.not_true, Bool.false_or] at h3
    simpa [Nat.blt_eq] using h3
  have head : ∀ i o, ops[i]? = some o → i < n → (match o.dst with
          | none => false
          | some d => (List.range n).all fun j => Nat.beq j i || !(dstAt ops j == some d)) = true ∧
        ((looks ops o).all fun s => (List.range n).all fun j => Nat.beq j i || !(dstAt ops j == some s) || (if j < i then waits o j else match ops[j]? with | none => false | some oj => waits oj i)) = true := by
    intro i o hi hin
    have h2 := (get i o hi).2.2
    rw [if_pos hin, Bool.and_eq_true] at h2
    exact h2
  refine ⟨hle, fun i o hi => (get i o hi).1, fun i o hi => (get i o hi).2.1, fun i o hi hin => ?_, fun i j d hi hj hdi hdj => ?_, fun i o s j hi hin hs hj hne hd => ?_, fun i o hi hin j hj => ?_⟩
  · have h2 := (head i o hi hin).1
    cases hd : o.dst with
    | none => rw [hd] at h2; cases h2
    | some d => exact ⟨d, rfl⟩
  · obtain ⟨o, ho⟩ : ∃ o, ops[i]? = some o := ⟨ops[i]'(by omega), by simp [show i < ops.size by omega]⟩
    have h2 := (head i o ho hi).1
    have hod : o.dst = some d := by simpa [dstAt, ho] using hdi
    rw [hod] at h2
    have h3 := List.all_eq_true.1 h2 j (List.mem_range.2 hj)
    simp only [hdj, beq_self_eq_true, Bool.not_true, Bool.or_false] at h3
    exact (Nat.eq_of_beq_eq_true h3).symm
  · have h2 := (head i o hi hin).2
    have h3 := List.all_eq_true.1 (List.all_eq_true.1 h2 s hs) j (List.mem_range.2 hj)
    rw [Nat.beq_eq_false_of hne, hd] at h3
    simp only [beq_self_eq_true, Bool.not_true, Bool.or_false, Bool.false_or] at h3
    by_cases hlt : j < i
    · rw [if_pos hlt] at h3
      exact .inl ⟨hlt, h3⟩
    · rw [if_neg hlt] at h3
      cases ho : ops[j]? with
      | none => rw [ho] at h3; cases h3
      | some oj => rw [ho] at h3; exact .inr ⟨by omega, oj, rfl, h3⟩
  · have h2 := (get i o hi).2.2
    rw [if_neg (by omega)] at h2
    exact List.all_eq_true.1 h2 j (List.mem_range.2 hj)

/-! the facts ahead of operation i -/
def factsC (ops : List Oper) (Ds : List DV) (Fc0 : List (Nat × Value)) : Nat → List (Nat × Value)
  | 0 => Fc0
  | i + 1 => match ops[i]?, Ds[i]? with
    | some o, some D => (match o.dst with | some d => addC (factsC ops Ds Fc0 i) d D | none => factsC ops Ds Fc0 i)
    | _, _ => factsC ops Ds Fc0 i
def factsE (ops : List Oper) (Ds : List DV) : Nat → Fes
  | 0 => []
  | i + 1 => match ops[i]?, Ds[i]? with
    | some o, some D => (match o.dst with | some d => addE (factsE ops Ds i) d D | none => factsE ops Ds i)
    | _, _ => factsE ops Ds i

/-- The walk's parts, one by one. -/
theorem RG.parts {P : Program} {opsA : Array Oper} {N B1 : Nat} {w1 : World} {K : List (Nat × Value) → Fes → Prop} (Fc0 : List (Nat × Value)) : ∀ (rest pre : List Oper) (Ds : List DV), pre.length = Ds.length →
    RG P opsA N B1 w1 K (factsC (pre ++ rest) Ds Fc0 pre.length) (factsE (pre ++ rest) Ds pre.length) rest →
    ∃ Ds' : List DV, (Ds ++ Ds').length = (pre ++ rest).length ∧ K (factsC (pre ++ rest) (Ds ++ Ds') Fc0 (pre ++ rest).length) (factsE (pre ++ rest) (Ds ++ Ds') (pre ++ rest).length) ∧
      ∀ i o, pre.length ≤ i → (pre ++ rest)[i]? = some o → ∃ d D, o.dst = some d ∧ (Ds ++ Ds')[i]? = some D ∧ Ob P opsA N B1 w1 (factsC (pre ++ rest) (Ds ++ Ds') Fc0 i) (factsE (pre ++ rest) (Ds ++ Ds') i) o D ∧
        fresh (factsC (pre ++ rest) (Ds ++ Ds') Fc0 i) (factsE (pre ++ rest) (Ds ++ Ds') i) d D
  | [], pre, Ds, hl, h => by
    refine ⟨[], by simp [hl], ?_, fun i o hi ho => ?_⟩
    · simpa [RG] using h
    · simp at ho
      have := (List.getElem?_eq_some_iff.1 ho).1
      omega
  | o :: rest, pre, Ds, hl, h => by
    obtain ⟨d, D, hd, hob, hfr, hk⟩ := h
    have ext : ∀ (X Y : List DV) (i : Nat), i ≤ X.length → factsC (pre ++ o :: rest) (X ++ Y) Fc0 i = factsC (pre ++ o :: rest) X Fc0 i ∧ factsE (pre ++ o :: rest) (X ++ Y) i = factsE (pre ++ o :: rest) X i := by
      intro X Y i
      induction i with
      | zero => intro _; exact ⟨rfl, rfl⟩
      | succ i ih =>
        intro hi
        have h1 := ih (by omega)
        have h2 : (X ++ Y)[i]? = X[i]? := List.getElem?_append_left (by omega)
        simp only [factsC, factsE, h2, h1.1, h1.2]
        exact ⟨trivial, trivial⟩
    have hget : (pre ++ o :: rest)[pre.length]? = some o := by simp
    have e1 := ext Ds [D] pre.length (by omega)
    have hDget : (Ds ++ [D])[pre.length]? = some D := by rw [hl]; simp
    have hc : factsC (pre ++ o :: rest) (Ds ++ [D]) Fc0 (pre.length + 1) = addC (factsC (pre ++ o :: rest) Ds Fc0 pre.length) d D := by
      simp only [factsC, hget, hDget, hd, e1.1]
    have he : factsE (pre ++ o :: rest) (Ds ++ [D]) (pre.length + 1) = addE (factsE (pre ++ o :: rest) Ds pre.length) d D := by
      simp only [factsE, hget, hDget, hd, e1.2]
    have heq : pre ++ o :: rest = (pre ++ [o]) ++ rest := by simp
    have hk' : RG P opsA N B1 w1 K (factsC ((pre ++ [o]) ++ rest) (Ds ++ [D]) Fc0 (pre ++ [o]).length) (factsE ((pre ++ [o]) ++ rest) (Ds ++ [D]) (pre ++ [o]).length) rest := by
      rw [← heq, show (pre ++ [o]).length = pre.length + 1 by simp, hc, he]
      exact hk
    obtain ⟨Ds', hl', hK', hall⟩ := RG.parts Fc0 rest (pre ++ [o]) (Ds ++ [D]) (by simp [hl]) hk'
    rw [← heq] at hl' hK' hall
    rw [List.append_assoc] at hl' hK' hall
    refine ⟨[D] ++ Ds', hl', hK', fun i o' hi ho' => ?_⟩
    by_cases hip : i = pre.length
    · subst hip
      rw [hget] at ho'
      obtain rfl := Option.some.inj ho'
      have e2 := ext Ds ([D] ++ Ds') pre.length (by omega)
      refine ⟨d, D, hd, ?_, ?_, ?_⟩
      · rw [List.getElem?_append_right (by omega)]
        simp [hl]
      · rw [e2.1, e2.2]; exact hob
      · rw [e2.1, e2.2]; exact hfr
    · exact hall i o' (by simp; omega) ho'

end Go.Fw
