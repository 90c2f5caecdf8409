/- The region's law; and the laws by which its walk goes. -/
import Derived.Test.YtmgnnclkjkbmdaaFw7
set_option linter.unusedSimpArgs false
set_option linter.unusedVariables false
namespace Go.Fw
open Go

def FeOk : Fes → Act → World → List Ent → Prop
  | [], _, _, L => L = []
  | (n, E) :: t, a, w, L => ∃ v L1 L2, a.tmps[n]? = some v ∧ E v L1 w ∧ FeOk t a w L2 ∧ L = L1 ++ L2

def dstB (l : List Oper) (N : Nat) : Bool := l.all fun o => match o.dst with | none => true | some d => Nat.blt d N

section
variable {P : Program} {l : List Oper} {n N B1 : Nat} {w1 : World} {Fc0 : List (Nat × Value)} {Ds : List DV} {Q : Exit → Act → World → Prop}

theorem exists_ready (hok : RgOk l.toArray n) {listed : Array Bool} (hsz : listed.size = l.length) : ∀ j, j < l.length → listed.getD j false = false → ∃ i, i ∈ Region.ready .any l.toArray listed := by
  intro j
  induction j using Nat.strongRecOn with
  | _ j ih =>
    intro hj hl
    by_cases h : ∀ e ∈ (l[j]).after, Region.binds .any e = true → listed.getD e.on false = true
    · exact ⟨j, mem_ready.2 ⟨by rw [getD_both_iff (by omega)]; exact hl, l[j], by simp [hj], h⟩⟩
    · have : ∃ e, e ∈ (l[j]).after ∧ Region.binds .any e = true ∧ listed.getD e.on false = false := by
        apply Classical.byContradiction
        intro hn
        apply h
        intro e he hb
        cases hx : listed.getD e.on false with
        | true => rfl
        | false => exact absurd ⟨e, he, hb, hx⟩ hn
      obtain ⟨e, he, hb, hx⟩ := this
      have hlt := hok.back j l[j] (by simp [hj]) e he hb
      exact ih e.on hlt (by omega) hx

theorem wpAny_head (hok : RgOk l.toArray n) (hl : Ds.length = n)
    (hparts : ∀ i o, i < n → l[i]? = some o → ∃ d D, o.dst = some d ∧ Ds[i]? = some D ∧ Ob P l.toArray N B1 w1 (factsC (l.take n) Ds Fc0 i) (factsE (l.take n) Ds i) o D ∧ fresh (factsC (l.take n) Ds Fc0 i) (factsE (l.take n) Ds i) d D)
    (hN : ∀ i o d, i < n → l[i]? = some o → o.dst = some d → d < N) (hB : B1 ≤ w1.heap.size)
    (fin : ∀ vals ents listed a w, Inv l n N B1 w1 Fc0 Ds vals ents listed a w → (∀ j, j < n → listed.getD j false = true) → wpList P l.toArray Q (l.drop n) a w) :
    ∀ (m : Nat) (U : List Nat) (vals : Nat → Value) (ents : Nat → List Ent) (listed : Array Bool) (a : Act) (w : World), U.length = m → U.Nodup → (∀ j, j ∈ U ↔ j < l.length ∧ listed.getD j false = false) →
      Inv l n N B1 w1 Fc0 Ds vals ents listed a w → wpAny P .any l.toArray Q m listed a w := by
  intro m
  induction m with
  | zero =>
    intro U vals ents listed a w hU hnd hmem inv
    have hU0 : U = [] := List.eq_nil_of_length_eq_zero hU
    subst hU0
    have hall : ∀ j, j < l.length → listed.getD j false = true := fun j hj => by
      cases hx : listed.getD j false with
      | true => rfl
      | false => have := (hmem j).2 ⟨hj, hx⟩; simp at this
    have hn : n = l.length := by
      have h1 := hok.le
      simp at h1
      by_cases e : n < l.length
      · have := inv.tail n (Nat.le_refl _); rw [hall n e] at this; cases this
      · omega
    have h := fin vals ents listed a w inv (fun j hj => hall j (by omega))
    refine wpAny_tail hok 0 l.length listed a w (by omega) (by omega) inv.size (fun j hj => ?_) (by rw [← hn]; exact h)
    rw [getD_both_iff (by rw [inv.size]; exact hj), hall j hj]
    simp [hj]
  | succ m ih =>
    intro U vals ents listed a w hU hnd hmem inv
    by_cases hall : ∀ j, j < n → listed.getD j false = true
    · have h := fin vals ents listed a w inv hall
      have hle := hok.le
      simp at hle
      have hcount : m + 1 = l.length - n := by
        rw [← hU]
        have : U.Perm ((List.range (l.length - n)).map (· + n)) := by
          refine (List.perm_ext_iff_of_nodup hnd ?_).2 fun j => ?_
          · exact List.Pairwise.map (R := (· ≠ ·)) (S := (· ≠ ·)) (· + n) (fun x y h => by simp; exact h) List.nodup_range
          · rw [hmem]
            simp only [List.mem_map, List.mem_range]
            constructor
            · rintro ⟨h1, h2⟩
              refine ⟨j - n, ?_, ?_⟩
              · by_cases e : j < n
                · rw [hall j e] at h2; cases h2
                · omega
              · by_cases e : j < n
                · rw [hall j e] at h2; cases h2
                · omega
            · rintro ⟨x, h1, rfl⟩
              exact ⟨by omega, inv.tail _ (by omega)⟩
        rw [this.length_eq]; simp
      refine wpAny_tail hok (m + 1) n listed a w (by omega) (Nat.le_refl _) inv.size (fun j hj => ?_) h
      rw [getD_both_iff (by rw [inv.size]; exact hj)]
      by_cases e : j < n
      · rw [hall j e]; simp [e]
      · rw [inv.tail j (by omega)]; simp [e]
    · obtain ⟨j0, hj0, hl0⟩ : ∃ j, j < n ∧ listed.getD j false = false := by
        apply Classical.byContradiction
        intro hn
        apply hall
        intro j hj
        cases hx : listed.getD j false with
        | true => rfl
        | false => exact absurd ⟨j, hj, hx⟩ hn
      have hle := hok.le
      simp at hle
      refine ⟨fun h0 => ?_, fun i hi => ?_⟩
      · obtain ⟨i, hi⟩ := exists_ready hok inv.size j0 (by omega) hl0
        rw [h0] at hi; cases hi
      · have hin : i < n := by
          apply Classical.byContradiction
          intro hge
          obtain ⟨_, o, ho, hall2⟩ := mem_ready.1 hi
          have key := anc_closed (ops := l.toArray) (S := fun j => listed.getD j false = true) (fun i' o' hi' hs' e he hb => inv.closed i' o' (by simpa using hi') hs' e he hb) 24 o j0 (fun e he hb => hall2 e he hb) (hok.tail i o ho (by omega) j0 (by omega))
          rw [hl0] at key
          cases key
        have hil : i < l.length := by omega
        have hiU : i ∈ U := (hmem i).2 ⟨hil, by
          have h1 := (mem_ready.1 hi).1
          rw [getD_both_iff (by rw [inv.size]; exact hil)] at h1
          exact h1⟩
        refine inv.step hok hl hparts hN hB hin hi fun v L' a' w' inv' => ?_
        refine ih (U.erase i) _ _ _ _ _ ?_ (hnd.erase i) (fun j => ?_) inv'
        · rw [List.length_erase_of_mem hiU, hU]; simp
        · rw [hnd.mem_erase_iff, hmem]
          by_cases e : j = i
          · subst e
            simp [show j < listed.size by rw [inv.size]; exact hil]
          · rw [getD_set_ne false (Ne.symm e)]
            simp [e]

/-- **A region that draws its order.** -/
theorem wp_region_rg {id : Nat} {F : List (Nat × Value)} {L : List Ent} {M : Nat → Prop} {w0 w : World} {a : Act} (hm : P.follows .mixedOrders = true) (n : Nat) (hB : rgB l.toArray n = true) (hd : dstB (l.take n) N = true) (hs : St N F L M w0 a w)
    (h : RG P l.toArray N w.heap.size w (fun Fc Fe => ∀ a' w' L', Fr0 w w' → FeOk Fe a' w' L' → St N Fc (L' ++ L) M w0 a' w' → wpList P l.toArray Q (l.drop n) a' w') F [] (l.take n)) :
    (Code.region id l.toArray true).wp P Q a w := by
  have hok := rgB_spec hB
  have hle := hok.le
  simp at hle
  have htl : (l.take n).length = n := by simp [hle]
  obtain ⟨Ds, hlen, hK, hparts⟩ := RG.parts F (l.take n) [] [] rfl h
  simp only [List.nil_append, htl] at hlen hK hparts
  have hget : ∀ i o, i < n → l[i]? = some o → (l.take n)[i]? = some o := fun i o hi ho => by rw [List.getElem?_take_of_lt hi]; exact ho
  have hparts' : ∀ i o, i < n → l[i]? = some o → ∃ d D, o.dst = some d ∧ Ds[i]? = some D ∧ Ob P l.toArray N w.heap.size w (factsC (l.take n) Ds F i) (factsE (l.take n) Ds i) o D ∧ fresh (factsC (l.take n) Ds F i) (factsE (l.take n) Ds i) d D :=
    fun i o hi ho => hparts i o (by simp) (hget i o hi ho)
  have hN : ∀ i o d, i < n → l[i]? = some o → o.dst = some d → d < N := fun i o d hi ho hod => by
    have := List.all_eq_true.1 hd o (List.mem_of_getElem? (hget i o hi ho))
    rw [hod] at this
    exact lt_of_blt this
  refine wp_region_any hm ?_
  have hdr : Fr0 w { w with drawn := w.drawn + 1 } := Fr.drew w
  have hU : ((List.range l.length).length = l.toArray.size) := by simp
  refine wpAny_head (w1 := w) (B1 := w.heap.size) (Ds := Ds) (Fc0 := F) hok (by omega) hparts' hN (Nat.le_refl _) ?_ _ (List.range l.length) (fun _ => undef) (fun _ => []) _ _ _ hU List.nodup_range ?_ ?_
  · intro vals ents listed a' w' inv hall
    have hds : ∃ ds : Nat → Nat, ∀ j o, (l.take n)[j]? = some o → o.dst = some (ds j) := by
      refine ⟨fun j => (dstAt l.toArray j).getD 0, fun j o hj => ?_⟩
      have hjn : j < n := by have := (List.getElem?_eq_some_iff.1 hj).1; omega
      rw [List.getElem?_take_of_lt hjn] at hj
      obtain ⟨d', hd'⟩ := hok.dst j o (by simpa using hj) hjn
      simp [dstAt, hj, hd']
    obtain ⟨ds, hds⟩ := hds
    have hdsA : ∀ j, j < n → dstAt l.toArray j = some (ds j) := fun j hj => by
      have hjl : j < l.length := by omega
      have := hds j l[j] (by rw [List.getElem?_take_of_lt hj]; simp [hjl])
      simp [dstAt, hjl, this]
    have hfr' : ∀ j o D, (l.take n)[j]? = some o → Ds[j]? = some D → fresh (factsC (l.take n) Ds F j) (factsE (l.take n) Ds j) (ds j) D := by
      intro j o' D' hj hDj
      have hjn : j < n := by have := (List.getElem?_eq_some_iff.1 hj).1; omega
      have hj' := hj
      rw [List.getElem?_take_of_lt hjn] at hj'
      obtain ⟨d2, D2, h1, h2, _, h4⟩ := hparts' j o' hjn hj'
      rw [hDj] at h2
      obtain rfl := Option.some.inj h2
      have := hds j o' hj
      rw [h1] at this
      obtain rfl := Option.some.inj this
      exact h4
    have hknow : Know N (factsC (l.take n) Ds F n) a' := by
      refine ⟨inv.know.1, inv.know.2, fun s v hv => ?_⟩
      rcases factsC_src (Fc0 := F) hds (by omega) hfr' n (by omega) s v hv with ⟨j, hj, h1, h2⟩ | ⟨h1, h2⟩
      · obtain ⟨h4, h5⟩ := inv.done j s _ hj (hall j hj) (by rw [hdsA j hj, h1]) h2
        rw [h4, h5.1]
      · exact inv.base s v h1 fun j hj _ hdj => by
          rw [hdsA j hj] at hdj
          exact h2 j hj (Option.some.inj hdj)
    have hfe : ∀ i, i ≤ n → ∃ L'', FeOk (factsE (l.take n) Ds i) a' w' L'' ∧ L''.Perm ((List.range i).flatMap ents) := by
      intro i
      induction i with
      | zero => intro _; exact ⟨[], rfl, by simp⟩
      | succ i ih =>
        intro hi
        obtain ⟨L'', h1, h2⟩ := ih (by omega)
        have hil : i < (l.take n).length := by omega
        have ho : (l.take n)[i]? = some (l.take n)[i] := List.getElem?_eq_getElem hil
        have hD : Ds[i]? = some (Ds[i]'(by omega)) := List.getElem?_eq_getElem (by omega)
        have hdi := hds i _ ho
        obtain ⟨h4, h5⟩ := inv.done i (ds i) _ (by omega) (hall i (by omega)) (hdsA i (by omega)) hD
        simp only [factsE, ho, hD, hdi, List.range_succ, List.flatMap_append]
        generalize Ds[i]'(by omega) = D at *
        cases D with
        | c u => exact ⟨L'', h1, by simp [h5.2]; exact h2⟩
        | e E st =>
          refine ⟨ents i ++ L'', ⟨vals i, ents i, L'', h4, h5, h1, rfl⟩, ?_⟩
          simp only [List.flatMap_cons, List.flatMap_nil, List.append_nil]
          exact (List.Perm.append_left _ h2).trans List.perm_append_comm
    obtain ⟨L'', hf1, hf2⟩ := hfe n (Nat.le_refl _)
    have hhas : Has w.heap.size w' L'' := by
      have : (List.range n).flatMap (fun j => if listed.getD j false = true then ents j else []) = (List.range n).flatMap ents := flatMap_same _ _ _ fun j hj => by rw [if_pos (hall j (List.mem_range.1 hj))]
      have hh := inv.has
      rw [this] at hh
      exact hh.perm hf2
    have hst : St N (factsC (l.take n) Ds F n) (L'' ++ L) M w0 a' w' := ⟨hknow, (hs.has.new inv.fr (Nat.zero_le _) hhas), fun e he k hk => by
      rcases List.mem_append.1 he with he | he
      · exact .inl (Nat.le_trans hs.fr.size (hhas.ge e he k hk))
      · exact hs.own e he k hk, hs.fr.trans0 inv.fr⟩
    exact hK a' w' L'' inv.fr hf1 hst
  · intro j
    simp
    intro hj
    simp [Array.getElem?_replicate, hj]
  · refine ⟨by simp, ⟨hs.know.size, hs.know.defers⟩, fun j d D hj hl' => ?_, fun s v hv _ => hs.know.at_ s v hv, ?_, hdr, fun t _ => ?_, fun j o _ hl' => ?_⟩
    · simp [Array.getElem?_replicate] at hl'
      split at hl' <;> simp at hl'
    · have : ∀ r : List Nat, r.flatMap (fun j => if (Array.replicate l.toArray.size false).getD j false = true then ([] : List Ent) else []) = [] := fun r => by induction r with | nil => rfl | cons x t ih => simp
      rw [this]
      exact .nil _ _
    · simp [Array.getElem?_replicate]
      split <;> simp
    · simp [Array.getElem?_replicate] at hl'
      split at hl' <;> simp at hl'
end
end Go.Fw
