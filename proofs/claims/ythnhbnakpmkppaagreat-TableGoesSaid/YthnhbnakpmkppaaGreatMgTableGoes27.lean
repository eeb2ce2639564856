import Derived.Test.YthnhbnakpmkppaaGreatRows
import Derived.ProofKit
import Derived.Test.YthnhbnakpmkppaaGreatMgTableGoes26
section
namespace Go.Proofs.YthnhbnakpmkppaaGreat.RowK
def joinW : List (List Char) → List Char
  | [] => []
  | [w] => w
  | w :: ws => w ++ Char.ofNat 32 :: joinW ws
theorem words_word : ∀ (w rest : List Char), (w.all fun c => !(c == Char.ofNat 32)) = true → wordsSigns (w ++ Char.ofNat 32 :: rest) = w :: wordsSigns rest
  | [], rest, _ => by simp [wordsSigns]
  | c :: w, rest, h => by
    simp only [List.all_cons, Bool.and_eq_true, Bool.not_eq_true', beq_eq_false_iff_ne, ne_eq] at h
    have ih := words_word w rest (by simpa using h.2)
    rw [List.cons_append, wordsSigns, ih]
    exact fun hc => h.1 hc
theorem words_last : ∀ (w : List Char), (w.all fun c => !(c == Char.ofNat 32)) = true → wordsSigns w = [w]
  | [], _ => rfl
  | c :: w, h => by
    simp only [List.all_cons, Bool.and_eq_true, Bool.not_eq_true', beq_eq_false_iff_ne, ne_eq] at h
    have ih := words_last w (by simpa using h.2)
    rw [wordsSigns, ih]
    exact fun hc => h.1 hc
theorem words_join : ∀ (ws : List (List Char)), ws ≠ [] → (ws.all fun w => w.all fun c => !(c == Char.ofNat 32)) = true → wordsSigns (joinW ws) = ws
  | [], h, _ => absurd rfl h
  | [w], _, h => by simp only [joinW]; exact words_last w (by simpa using h)
  | w :: v :: ws, _, h => by
    simp only [List.all_cons, Bool.and_eq_true] at h
    simp only [joinW]
    rw [words_word w _ h.1, words_join (v :: ws) (by simp) (by simp only [List.all_cons, Bool.and_eq_true]; exact h.2)]
def wsN : List (List Nat) := [[104, 97, 114, 110, 101, 115, 115], [56, 101, 49, 48, 57, 52, 99, 102, 48, 99, 101, 49, 53, 102, 51, 102, 55, 100, 100, 56, 101, 97, 57, 101, 50, 57, 53, 49, 54, 99, 101, 51, 99, 57, 48, 50, 51, 53, 56, 97, 54, 102, 54, 55, 100, 52, 100, 52, 102, 100, 55, 52, 99, 102, 100, 57, 98, 54, 51, 52, 51, 97, 51, 56], [99, 117, 116], [97, 116], [107, 101, 100, 103, 101, 47, 107, 101, 100, 103, 101, 108, 97, 119, 49, 51, 46, 84, 97, 98, 108, 101, 80, 108, 97, 121, 115], [107, 101, 100, 103, 101, 47, 107, 101, 100, 103, 101, 108, 97, 119, 49, 51, 46, 84, 97, 98, 108, 101, 70, 105, 110, 100, 115], [107, 101, 100, 103, 101, 47, 107, 101, 100, 103, 101, 108, 97, 119, 49, 51, 46, 84, 97, 98, 108, 101, 71, 111, 101, 115], [107, 101, 100, 103, 101, 47, 107, 101, 100, 103, 101, 108, 97, 119, 49, 51, 46, 84, 97, 98, 108, 101, 70, 108, 117, 115, 104], [107, 101, 100, 103, 101, 47, 107, 101, 100, 103, 101, 108, 97, 119, 49, 51, 46, 84, 97, 98, 108, 101, 65, 112, 97, 114, 116], [107, 101, 100, 103, 101, 47, 107, 101, 100, 103, 101, 108, 97, 119, 49, 55, 46, 72, 105, 101, 114, 65, 110, 115, 119, 101, 114, 115], [107, 101, 100, 103, 101, 47, 107, 101, 100, 103, 101, 108, 97, 119, 49, 55, 46, 72, 105, 101, 114, 70, 105, 108, 108, 115], [107, 101, 100, 103, 101, 47, 107, 101, 100, 103, 101, 108, 97, 119, 49, 55, 46, 72, 105, 101, 114, 65, 103, 97, 105, 110], [107, 101, 100, 103, 101, 47, 107, 101, 100, 103, 101, 108, 97, 119, 49, 55, 46, 72, 105, 101, 114, 78, 111, 110, 101], [107, 101, 100, 103, 101, 47, 107, 101, 100, 103, 101, 108, 97, 119, 49, 55, 46, 72, 105, 101, 114, 67, 111, 117, 110, 116, 115], [107, 101, 100, 103, 101, 47, 107, 101, 100, 103, 101, 108, 97, 119, 49, 55, 46, 72, 105, 101, 114, 80, 108, 97, 121, 115], [107, 101, 100, 103, 101, 47, 107, 101, 100, 103, 101, 108, 97, 119, 49, 55, 46, 72, 105, 101, 114, 69, 114, 114, 111, 114, 115], [107, 101, 100, 103, 101, 47, 107, 101, 100, 103, 101, 108, 97, 119, 49, 55, 46, 72, 105, 101, 114, 71, 111, 110, 101], [107, 101, 100, 103, 101, 47, 107, 101, 100, 103, 101, 108, 97, 119, 49, 55, 46, 72, 105, 101, 114, 71, 111, 111, 100], [107, 101, 100, 103, 101, 47, 107, 101, 100, 103, 101, 108, 97, 119, 49, 56, 46, 80, 114, 101, 102, 101, 116, 99, 104, 70, 114, 101, 101], [107, 101, 100, 103, 101, 47, 107, 101, 100, 103, 101, 108, 97, 119, 49, 56, 46, 80, 114, 101, 102, 101, 116, 99, 104, 80, 108, 97, 121, 115], [107, 101, 100, 103, 101, 47, 107, 101, 100, 103, 101, 108, 97, 119, 49, 56, 46, 80, 114, 101, 102, 101, 116, 99, 104, 83, 97, 109, 101]]
def ws : List (List Char) := wsN.map fun w => w.map Char.ofNat
theorem order_is : Tryz.prog.initOrder = String.ofList (joinW ws) := by kernel_rfl
theorem chars_is : Tryz.prog.initOrder.toList = joinW ws := by rw [order_is]; exact String.toList_ofList
theorem words_is : wordsSigns Tryz.prog.initOrder.toList = ws := by rw [chars_is]; exact words_join ws (by decide +kernel) (by decide +kernel)
theorem behind_is : behindMainWord ws = ws.drop 2 := by decide +kernel
theorem strip_is : stripLifts liftWords (ws.drop 2) = ([], ws.drop 2) := by decide +kernel
theorem cut_is : ws.drop 2 = "cut".toList :: ws.drop 3 := by decide +kernel
theorem lays : Tryz.prog.laysLater = false := by kernel_rfl
theorem refl_ : Tryz.prog.bearsReflect = false := by kernel_rfl
theorem door : Tryz.prog.doorFits [] = true := by kernel_rfl
theorem enter_of {P : Program} {c : List Char} {rest : List (List Char)} (hw : behindMainWord (wordsSigns P.initOrder.toList) = c :: rest) (hs : stripLifts liftWords (c :: rest) = ([], c :: rest)) (hc : (some c == some "cut".toList) = true) (h1 : P.laysLater = false) (h2 : P.bearsReflect = false) (h3 : P.doorFits [] = true) : P.mayEnter = true := by
  unfold Program.mayEnter
  rw [hw]
  simp only [hs, h1, h2, h3, List.head?_cons, hc]
  simp
theorem head_of {P : Program} {c : List Char} {rest : List (List Char)} (hw : behindMainWord (wordsSigns P.initOrder.toList) = c :: rest) (hs : stripLifts liftWords (c :: rest) = ([], c :: rest)) (hc : (some c == some "cut".toList) = true) : P.headLifts = [] := by
  unfold Program.headLifts
  rw [hw, hs]
  simp only [List.head?_cons, hc]
  simp
theorem final_of {P : Program} {c : List Char} {rest : List (List Char)} (hw : behindMainWord (wordsSigns P.initOrder.toList) = c :: rest) (hs : stripLifts liftWords (c :: rest) = ([], c :: rest)) (hc : (some c == some "cut".toList) = true) (hd : (some c == some "carried".toList) = false) : P.liftsFinal = false := by
  unfold Program.liftsFinal
  rw [head_of hw hs hc, hw]
  simp only [List.head?_cons, hd]
  simp
theorem make_of {P : Program} {c : List Char} {rest : List (List Char)} (hw : behindMainWord (wordsSigns P.initOrder.toList) = c :: rest) (h1 : (c == "gc".toList || c == "spec".toList) = false) (h2 : (c == "cut".toList) = true) : P.make = some .cut := by
  unfold Program.make
  rw [hw]
  simp only [h1, h2]
  simp
theorem words2 : behindMainWord (wordsSigns Tryz.prog.initOrder.toList) = "cut".toList :: ws.drop 3 := by rw [words_is, behind_is]; exact cut_is
theorem strip2 : stripLifts liftWords ("cut".toList :: ws.drop 3) = ([], "cut".toList :: ws.drop 3) := by rw [← cut_is]; exact strip_is
theorem enter : Tryz.prog.mayEnter = true := enter_of words2 strip2 (by decide +kernel) lays refl_ door
theorem final : Tryz.prog.liftsFinal = false := final_of words2 strip2 (by decide +kernel) (by decide +kernel)
theorem make : Tryz.prog.make = some .cut := make_of words2 (by decide +kernel) (by decide +kernel)
theorem laid : laidOutB Tryz.prog = true := by kernel_rfl
theorem mapsR : mapsRowed Tryz.prog = true := by kernel_rfl
theorem stops : (Tryz.prog.stops == []) = true := by kernel_rfl
theorem stopKnobs : (Tryz.prog.stopKnobs == []) = true := by kernel_rfl
theorem heard : Tryz.prog.stopsHeard = true := by kernel_rfl
theorem plain : Tryz.prog.plainKeys = true := by kernel_rfl
theorem own : ownKnob Tryz.prog.godebug = none := by kernel_rfl
theorem both {a b : Bool} (h : a = true) (k : b = true) : (a && b) = true := by rw [h, k]; rfl
theorem eq_of_true {a : Bool} (h : a = true) : (true == a) = true := by rw [h]; rfl
theorem eq_of_false {a : Bool} (h : a = false) : (false == a) = true := by rw [h]; rfl
end Go.Proofs.YthnhbnakpmkppaaGreat.RowK
end
