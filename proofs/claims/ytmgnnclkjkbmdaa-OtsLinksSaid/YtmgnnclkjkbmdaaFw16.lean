/- The closed facts of a row, in parts: a long list of roots in a program's first words is more than the kernel holds at one stroke. -/
import Derived.JoinedOf
import Derived.KernelRfl
set_option linter.unusedSimpArgs false
set_option linter.unusedVariables false
namespace Go.Fw
open Go

theorem wordsSigns_ne (l : List Char) : wordsSigns l ≠ [] := by
  unfold wordsSigns
  split
  · simp
  · simp
  · split <;> simp

theorem wordsSigns_app : ∀ (l r : List Char), wordsSigns (l ++ Char.ofNat 32 :: r) = wordsSigns l ++ wordsSigns r
  | [], r => rfl
  | c :: l, r => by
    have ih := wordsSigns_app l r
    by_cases e : c = Char.ofNat 32
    · subst e
      show [] :: wordsSigns (l ++ Char.ofNat 32 :: r) = ([] :: wordsSigns l) ++ wordsSigns r
      rw [ih]; rfl
    · have h1 : ∀ t : List Char, wordsSigns (c :: t) = match wordsSigns t with
          | w :: ws => (c :: w) :: ws
          | [] => [[c]] := fun t => by
        rw [wordsSigns.eq_3]
        · rfl
        · exact fun h => e h
      rw [List.cons_append, h1, h1, ih]
      cases h2 : wordsSigns l with
      | nil => exact absurd h2 (wordsSigns_ne l)
      | cons w ws => rfl

/-- The program's first words, where a list of roots follows. -/
theorem words_cut {P : Program} {X Y : List Nat} {a b : List Char} (hio : P.initOrder = String.ofList (X.map Char.ofNat ++ Char.ofNat 32 :: Y.map Char.ofNat))
    (hx : wordsSigns (X.map Char.ofNat) = [a, b, "cut".toList, "at".toList]) (hm : ((a == "harness".toList || a == "ownmain".toList) && isSumSigns b) = true) :
    behindMainWord (wordsSigns P.initOrder.toList) = "cut".toList :: ("at".toList :: wordsSigns (Y.map Char.ofNat)) := by
  rw [hio, String.toList_ofList, wordsSigns_app, hx]
  show behindMainWord (a :: b :: ("cut".toList :: ("at".toList :: wordsSigns (Y.map Char.ofNat)))) = _
  rw [behindMainWord, if_pos hm]

theorem strip_cut (W : List (List Char)) : stripLifts liftWords ("cut".toList :: W) = ([], "cut".toList :: W) := rfl

theorem headLifts_cut {P : Program} {W : List (List Char)} (h : behindMainWord (wordsSigns P.initOrder.toList) = "cut".toList :: W) : P.headLifts = [] := by
  unfold Program.headLifts
  rw [h, strip_cut]
  rfl
theorem mayEnter_cut {P : Program} {W : List (List Char)} (h : behindMainWord (wordsSigns P.initOrder.toList) = "cut".toList :: W) (hl : P.laysLater = false) (hr : P.bearsReflect = false) (hd : P.doorFits [] = true) : P.mayEnter = true := by
  unfold Program.mayEnter
  rw [h]
  simp only [strip_cut, hl, hr, hd]
  rfl
theorem liftsFinal_cut {P : Program} {W : List (List Char)} (h : behindMainWord (wordsSigns P.initOrder.toList) = "cut".toList :: W) : P.liftsFinal = false := by
  unfold Program.liftsFinal
  rw [h, headLifts_cut h]
  rfl
theorem make_cut {P : Program} {W : List (List Char)} (h : behindMainWord (wordsSigns P.initOrder.toList) = "cut".toList :: W) : P.make = some .cut := by
  unfold Program.make
  rw [h]
  rfl

/-- What hangs on the program alone. -/
structure Whole (P : Program) : Prop where
  laid : laidOutB P = true
  maps : mapsRowed P = true
  stops : (P.stops == []) = true
  knobs : (P.stopKnobs == []) = true
  keys : P.plainKeys = true
  heard : P.stopsHeard = true
  enter : P.mayEnter = true
  final : P.liftsFinal = false
  make : P.make = some .cut

/-- What hangs on the row. -/
def rowB (P : Program) (f : FuncId) (fn : Func) (s : ChangeSpec) (c : OpenClaim) : Bool :=
  c.wf (OpenSpec.ofChange s) && fn.params.all (P.readableRec ·) && namedTie P c.named s.vars &&
  (c.stops == []) && (c.knobs == []) && (c.named == P.varsNamed f) &&
  (c.maps == (fn.params.toList ++ s.plain.varTypes P).any (P.mapsRec ·)) && (c.ifaces == (fn.params.toList ++ s.plain.varTypes P).any (P.ifacesRec ·)) && (c.mapsOut == P.mapsAmong fn.resultTypes.toList) &&
  (c.loops == (fn.params.toList ++ s.plain.varTypes P).any (P.loopsFrom ·)) && (c.wideKeys == (fn.params.toList ++ s.plain.varTypes P ++ fn.resultTypes.toList).any (P.wideKeysFrom ·)) &&
  s.vars.all (P.varReadable ·) && fn.resultTypes.all (fun t => P.readableRec t && decide (t < P.types.size)) && (c.ifacesOut == fn.resultTypes.toList.any (P.ifacesRec ·)) && (c.loopsOut == fn.resultTypes.toList.any (P.loopsFrom ·)) && (c.plainKeys == true) && c.shortTexts.isNone && (c.lifted == false) && (some Make.cut == some c.make) &&
  (c.kinds == (if c.domain.isEmpty then [] else fn.params.toList.map fun t => match P.underlying t with | some (.int k) => some k | _ => none)) && (c.pinned == c.pinnedBy) &&
  (c.veiled == (fn.params.toList ++ s.plain.varTypes P ++ fn.resultTypes.toList).any (P.veiledRec ·)) && c.veiledFits P fn.params.toList (fn.params.toList ++ s.plain.varTypes P ++ fn.resultTypes.toList)

theorem joined_of {P : Program} {f : FuncId} {fn : Func} {s : ChangeSpec} {c : OpenClaim} (w : Whole P) (h1 : (c.inPlace == P.inPlace f) = true) (h2 : (c.unfollowed == P.unfollowed f) = true) (h3 : (c.recurses == P.recurses f) = true) (h : rowB P f fn s c = true) :
    joinedFacts P f fn s c = true := by
  unfold rowB at h
  unfold joinedFacts
  simp only [w.laid, w.maps, w.stops, w.knobs, w.keys, w.heard, w.enter, w.final, w.make, h1, h2, h3, Bool.and_true, Bool.true_and, Bool.and_assoc] at h ⊢
  exact h
end Go.Fw
