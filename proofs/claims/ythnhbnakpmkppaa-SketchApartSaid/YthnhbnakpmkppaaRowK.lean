/- The closed facts of the seat's program that every row asks, each proved by itself. -/
import Derived.Test.YthnhbnakpmkppaaRows
import Derived.ProofKit
namespace Go.Proofs.Ythnhbnakpmkppaa.RowK
/-- Words with a blank between. -/
def joinW : List (List Char) → List Char
  | [] => []
  | [w] => w
  | w :: ws => w ++ Char.ofNat 32 :: joinW ws
theorem words_word : ∀ (w rest : List Char), (w.all fun c => !(c == Char.ofNat 32)) = true → wordsSigns (w ++ Char.ofNat 32 :: rest) = w :: wordsSigns rest
  | [], rest, _ => by simp [wordsSigns]
  | c :: w, rest, h => by
    simp only [List.all_cons, Bool.and_eq_true, Bool.not_eq_true', beq_eq_false_iff_ne, ne_eq] at h
    have ih := words_word w rest (by simpa using h.2)
    rw [List.cons_append, wordsSigns, ih]
    exact fun hc => h.1 hc
theorem words_last : ∀ (w : List Char), (w.all fun c => !(c == Char.ofNat 32)) = true → wordsSigns w = [w]
  | [], _ => rfl
  | c :: w, h => by
    simp only [List.all_cons, Bool.and_eq_true, Bool.not_eq_true', beq_eq_false_iff_ne, ne_eq] at h
    have ih := words_last w (by simpa using h.2)
    rw [wordsSigns, ih]
    exact fun hc => h.1 hc
theorem words_join : ∀ (ws : List (List Char)), ws ≠ [] → (ws.all fun w => w.all fun c => !(c == Char.ofNat 32)) = true → wordsSigns (joinW ws) = ws
  | [], h, _ => absurd rfl h
  | [w], _, h => by simp only [joinW]; exact words_last w (by simpa using h)
  | w :: v :: ws, _, h => by
    simp only [List.all_cons, Bool.and_eq_true] at h
    simp only [joinW]
    rw [words_word w _ h.1, words_join (v :: ws) (by simp) (by simp only [List.all_cons, Bool.and_eq_true]; exact h.2)]
/-- The words of the dump's head, as numbers. -/
def wsN : List (List Nat) := [[104, 97, 114, 110, 101, 115, 115], [52, 52, 57, 99, 57, 57, 57, 56, 48, 57, 56, 48, 57, 55, 52, 53, 52, 48, 57, 53, 54, 52, 52, 99, 53, 100, 54, 51, 51, 51, 48, 51, 55, 101, 52, 57, 51, 57, 50, 102, 102, 97, 52, 99, 102, 55, 51, 101, 53, 53, 98, 102, 53, 49, 98, 54, 101, 98, 101, 97, 50, 99, 51, 99], [99, 117, 116], [97, 116], [107, 101, 100, 103, 101, 47, 107, 101, 100, 103, 101, 108, 97, 119, 49, 49, 46, 83, 107, 101, 116, 99, 104, 80, 108, 97, 121, 115], [107, 101, 100, 103, 101, 47, 107, 101, 100, 103, 101, 108, 97, 119, 49, 49, 46, 83, 107, 101, 116, 99, 104, 78, 111, 110, 101], [107, 101, 100, 103, 101, 47, 107, 101, 100, 103, 101, 108, 97, 119, 49, 49, 46, 83, 107, 101, 116, 99, 104, 76, 101, 97, 115, 116], [107, 101, 100, 103, 101, 47, 107, 101, 100, 103, 101, 108, 97, 119, 49, 49, 46, 83, 107, 101, 116, 99, 104, 70, 117, 108, 108], [107, 101, 100, 103, 101, 47, 107, 101, 100, 103, 101, 108, 97, 119, 49, 49, 46, 83, 107, 101, 116, 99, 104, 65, 112, 97, 114, 116], [107, 101, 100, 103, 101, 47, 107, 101, 100, 103, 101, 108, 97, 119, 49, 56, 46, 80, 114, 101, 102, 101, 116, 99, 104, 73, 115], [107, 101, 100, 103, 101, 47, 107, 101, 100, 103, 101, 108, 97, 119, 49, 56, 46, 80, 114, 101, 102, 101, 116, 99, 104, 66, 101, 115, 105, 100, 101], [107, 101, 100, 103, 101, 47, 107, 101, 100, 103, 101, 108, 97, 119, 49, 51, 46, 84, 97, 98, 108, 101, 86, 105, 99, 116, 105, 109], [107, 101, 100, 103, 101, 47, 107, 101, 100, 103, 101, 108, 97, 119, 49, 51, 46, 84, 97, 98, 108, 101, 78, 111, 110, 101]]
def ws : List (List Char) := wsN.map fun w => w.map Char.ofNat
theorem order_is : Try.prog.initOrder = String.ofList (joinW ws) := by kernel_rfl
theorem chars_is : Try.prog.initOrder.toList = joinW ws := by rw [order_is]; exact String.toList_ofList
theorem words_is : wordsSigns Try.prog.initOrder.toList = ws := by rw [chars_is]; exact words_join ws (by decide +kernel) (by decide +kernel)
theorem behind_is : behindMainWord ws = ws.drop 2 := by decide +kernel
theorem strip_is : stripLifts liftWords (ws.drop 2) = ([], ws.drop 2) := by decide +kernel
theorem cut_is : ws.drop 2 = "cut".toList :: ws.drop 3 := by decide +kernel
theorem lays : Try.prog.laysLater = false := by kernel_rfl
theorem refl_ : Try.prog.bearsReflect = false := by kernel_rfl
theorem door : Try.prog.doorFits [] = true := by kernel_rfl
theorem enter_of {P : Program} {c : List Char} {rest : List (List Char)} (hw : behindMainWord (wordsSigns P.initOrder.toList) = c :: rest) (hs : stripLifts liftWords (c :: rest) = ([], c :: rest)) (hc : (some c == some "cut".toList) = true) (h1 : P.laysLater = false) (h2 : P.bearsReflect = false) (h3 : P.doorFits [] = true) : P.mayEnter = true := by
  unfold Program.mayEnter
  rw [hw]
  simp only [hs, h1, h2, h3, List.head?_cons, hc]
  simp
theorem head_of {P : Program} {c : List Char} {rest : List (List Char)} (hw : behindMainWord (wordsSigns P.initOrder.toList) = c :: rest) (hs : stripLifts liftWords (c :: rest) = ([], c :: rest)) (hc : (some c == some "cut".toList) = true) : P.headLifts = [] := by
  unfold Program.headLifts
  rw [hw, hs]
  simp only [List.head?_cons, hc]
  simp
theorem final_of {P : Program} {c : List Char} {rest : List (List Char)} (hw : behindMainWord (wordsSigns P.initOrder.toList) = c :: rest) (hs : stripLifts liftWords (c :: rest) = ([], c :: rest)) (hc : (some c == some "cut".toList) = true) (hd : (some c == some "carried".toList) = false) : P.liftsFinal = false := by
  unfold Program.liftsFinal
  rw [head_of hw hs hc, hw]
  simp only [List.head?_cons, hd]
  simp
theorem make_of {P : Program} {c : List Char} {rest : List (List Char)} (hw : behindMainWord (wordsSigns P.initOrder.toList) = c :: rest) (h1 : (c == "gc".toList || c == "spec".toList) = false) (h2 : (c == "cut".toList) = true) : P.make = some .cut := by
  unfold Program.make
  rw [hw]
  simp only [h1, h2]
  simp
theorem words2 : behindMainWord (wordsSigns Try.prog.initOrder.toList) = "cut".toList :: ws.drop 3 := by rw [words_is, behind_is]; exact cut_is
theorem strip2 : stripLifts liftWords ("cut".toList :: ws.drop 3) = ([], "cut".toList :: ws.drop 3) := by rw [← cut_is]; exact strip_is
theorem enter : Try.prog.mayEnter = true := enter_of words2 strip2 (by decide +kernel) lays refl_ door
theorem final : Try.prog.liftsFinal = false := final_of words2 strip2 (by decide +kernel) (by decide +kernel)
theorem make : Try.prog.make = some .cut := make_of words2 (by decide +kernel) (by decide +kernel)
theorem laid : laidOutB Try.prog = true := by kernel_rfl
theorem mapsR : mapsRowed Try.prog = true := by kernel_rfl
theorem stops : (Try.prog.stops == []) = true := by kernel_rfl
theorem stopKnobs : (Try.prog.stopKnobs == []) = true := by kernel_rfl
theorem heard : Try.prog.stopsHeard = true := by kernel_rfl
theorem plain : Try.prog.plainKeys = true := by kernel_rfl
theorem own : ownKnob Try.prog.godebug = none := by kernel_rfl
theorem both {a b : Bool} (h : a = true) (k : b = true) : (a && b) = true := by rw [h, k]; rfl
theorem eq_of_true {a : Bool} (h : a = true) : (true == a) = true := by rw [h]; rfl
theorem eq_of_false {a : Bool} (h : a = false) : (false == a) = true := by rw [h]; rfl
end Go.Proofs.Ythnhbnakpmkppaa.RowK
