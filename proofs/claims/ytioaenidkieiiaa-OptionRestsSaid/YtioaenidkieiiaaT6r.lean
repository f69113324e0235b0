/- OptionRests: the plain law: two sides and the words on their way. -/
import Derived.Test.YtioaenidkieiiaaL6b
namespace Go.Proofs.Ytioaenidkieiiaa
set_option linter.unusedVariables false
set_option linter.unusedSimpArgs false
open Go.RowKit

/-- what is between two sides of one option: the owner's state, the other one's, the owner's words on their way, the other one's -/
abbrev Cf := Int × Int × List Bool × List Bool
def tabC : List (Cf × Nat) := [((0, 0, [], []), 0), ((0, 2, [false], []), 0), ((0, 3, [], [true]), 1), ((0, 3, [false], []), 0), ((0, 4, [false], []), 2), ((0, 5, [], [true]), 3), ((0, 5, [false], []), 0), ((1, 1, [], []), 0), ((1, 2, [], [false]), 1), ((1, 3, [true], []), 0), ((1, 4, [], [false]), 3), ((1, 5, [true], []), 2), ((2, 0, [], [false]), 0), ((2, 1, [false], []), 1), ((2, 2, [false], [false]), 0), ((2, 3, [], [false, true]), 1), ((2, 3, [true, false], []), 1), ((2, 4, [false], [false]), 2), ((2, 5, [], [false, true]), 3), ((2, 5, [true, false], []), 1), ((3, 0, [], [false]), 0), ((3, 0, [true], []), 1), ((3, 1, [], [true]), 0), ((3, 2, [], [true, false]), 1), ((3, 2, [false, true], []), 1), ((3, 3, [], [false, true]), 1), ((3, 3, [false, true], []), 1), ((3, 3, [true], [true]), 0), ((3, 4, [], [true, false]), 3), ((3, 4, [false, true], []), 1), ((3, 5, [], [false, true]), 3), ((3, 5, [false, true], []), 1), ((3, 5, [true], [true]), 2), ((4, 0, [], [false]), 2), ((4, 1, [false], []), 3), ((4, 2, [false], [false]), 2), ((4, 3, [], [false, true]), 1), ((4, 3, [true, false], []), 3), ((4, 4, [false], [false]), 2), ((4, 5, [], [false, true]), 3), ((4, 5, [true, false], []), 3), ((5, 0, [], [false]), 0), ((5, 0, [true], []), 3), ((5, 1, [], [true]), 2), ((5, 2, [], [true, false]), 1), ((5, 2, [false, true], []), 3), ((5, 3, [], [false, true]), 1), ((5, 3, [false, true], []), 3), ((5, 3, [true], [true]), 2), ((5, 4, [], [true, false]), 3), ((5, 4, [false, true], []), 3), ((5, 5, [], [false, true]), 3), ((5, 5, [false, true], []), 3), ((5, 5, [true], [true]), 2)]
/-- how many words are still to come without a wish -/
def potC (c : Cf) : Option Nat := (tabC.find? fun p => p.1 == c).map (·.2)

/-- what a word comes to: the state, what is said -/
def onC (s : Int) (may : Bool) : Int × List Bool := if s == 0 then (if may then (1, [true]) else (0, [false])) else if s == 2 then (0, []) else if s == 5 then (2, [false]) else (1, [])
def offC (s : Int) : Int × List Bool := if s == 1 then (0, [false]) else if s == 4 then (3, [true]) else (0, [])
def gotC (s : Int) (may w : Bool) : Int × List Bool := if w then onC s may else offC s
def wishC (s : Int) (w : Bool) : Int × List Bool :=
  if w then (if s == 0 then (3, [true]) else if s == 2 then (4, []) else if s == 5 then (3, []) else (s, [])) else (if s == 1 then (2, [false]) else if s == 3 then (5, []) else if s == 4 then (2, []) else (s, []))
/-- the four ways on -/
def stepA (c : Cf) (w : Bool) : Cf × Nat := ((( wishC c.1 w).1, c.2.1, c.2.2.1 ++ (wishC c.1 w).2, c.2.2.2), (wishC c.1 w).2.length)
def stepB (c : Cf) (w : Bool) : Cf × Nat := ((c.1, (wishC c.2.1 w).1, c.2.2.1, c.2.2.2 ++ (wishC c.2.1 w).2), (wishC c.2.1 w).2.length)
def comeA (c : Cf) (may : Bool) : Cf × Nat := match c.2.2.2 with
  | [] => (c, 0)
  | w :: r => (((gotC c.1 may w).1, c.2.1, c.2.2.1 ++ (gotC c.1 may w).2, r), (gotC c.1 may w).2.length)
def comeB (c : Cf) (may : Bool) : Cf × Nat := match c.2.2.1 with
  | [] => (c, 0)
  | w :: r => ((c.1, (gotC c.2.1 may w).1, r, c.2.2.2 ++ (gotC c.2.1 may w).2), (gotC c.2.1 may w).2.length)
def okW (p : Cf × Nat) (q : Cf × Nat) : Bool := match potC q.1 with
  | some v => decide (v + q.2 ≤ p.2 + 2)
  | none => false
def okD (p : Cf × Nat) (q : Cf × Nat) : Bool := match potC q.1 with
  | some v => decide (v + q.2 ≤ p.2)
  | none => false
theorem tab_ok : tabC.all (fun p => potC p.1 == some p.2 && okW p (stepA p.1 true) && okW p (stepA p.1 false) && okW p (stepB p.1 true) && okW p (stepB p.1 false) && okD p (comeA p.1 true) && okD p (comeA p.1 false) && okD p (comeB p.1 true) && okD p (comeB p.1 false) &&
    (!(p.1.2.2.1.isEmpty && p.1.2.2.2.isEmpty) || (p.1.1 == p.1.2.1 && (p.1.1 == 0 || p.1.1 == 1)))) = true := by decide +kernel
theorem pot_mem {c : Cf} {v : Nat} (h : potC c = some v) : (c, v) ∈ tabC := by
  unfold potC at h
  cases hf : tabC.find? (fun p => p.1 == c) with
  | none => rw [hf] at h; cases h
  | some p =>
    rw [hf] at h
    have h1 := List.find?_some hf
    have h2 := List.mem_of_find?_eq_some hf
    simp only [beq_iff_eq] at h1
    simp only [Option.map_some, Option.some.injEq] at h
    rw [← h1, ← h]
    exact h2
theorem okW_get {p q : Cf × Nat} (h : okW p q = true) : ∃ v, potC q.1 = some v ∧ v + q.2 ≤ p.2 + 2 := by
  unfold okW at h
  cases hp : potC q.1 with
  | none => rw [hp] at h; cases h
  | some v => rw [hp] at h; exact ⟨v, rfl, of_decide_eq_true h⟩
theorem okD_get {p q : Cf × Nat} (h : okD p q = true) : ∃ v, potC q.1 = some v ∧ v + q.2 ≤ p.2 := by
  unfold okD at h
  cases hp : potC q.1 with
  | none => rw [hp] at h; cases h
  | some v => rw [hp] at h; exact ⟨v, rfl, of_decide_eq_true h⟩
theorem pot_A {c : Cf} {v : Nat} (h : potC c = some v) (w : Bool) : ∃ v', potC (stepA c w).1 = some v' ∧ v' + (stepA c w).2 ≤ v + 2 := by
  have := List.all_eq_true.1 tab_ok _ (pot_mem h)
  simp only [Bool.and_eq_true] at this
  cases w
  · exact okW_get this.1.1.1.1.1.1.1.2
  · exact okW_get this.1.1.1.1.1.1.1.1.2
theorem pot_B {c : Cf} {v : Nat} (h : potC c = some v) (w : Bool) : ∃ v', potC (stepB c w).1 = some v' ∧ v' + (stepB c w).2 ≤ v + 2 := by
  have := List.all_eq_true.1 tab_ok _ (pot_mem h)
  simp only [Bool.and_eq_true] at this
  cases w
  · exact okW_get this.1.1.1.1.1.2
  · exact okW_get this.1.1.1.1.1.1.2
theorem pot_cA {c : Cf} {v : Nat} (h : potC c = some v) (m : Bool) : ∃ v', potC (comeA c m).1 = some v' ∧ v' + (comeA c m).2 ≤ v := by
  have := List.all_eq_true.1 tab_ok _ (pot_mem h)
  simp only [Bool.and_eq_true] at this
  cases m
  · exact okD_get this.1.1.1.2
  · exact okD_get this.1.1.1.1.2
theorem pot_cB {c : Cf} {v : Nat} (h : potC c = some v) (m : Bool) : ∃ v', potC (comeB c m).1 = some v' ∧ v' + (comeB c m).2 ≤ v := by
  have := List.all_eq_true.1 tab_ok _ (pot_mem h)
  simp only [Bool.and_eq_true] at this
  cases m
  · exact okD_get this.1.2
  · exact okD_get this.1.1.2
theorem pot_rest {a b : Int} {v : Nat} (h : potC (a, b, [], []) = some v) : a = b ∧ (a = 0 ∨ a = 1) := by
  have := List.all_eq_true.1 tab_ok _ (pot_mem h)
  simp only [Bool.and_eq_true] at this
  have h2 := this.2
  simp at h2
  exact h2
end Go.Proofs.Ytioaenidkieiiaa
