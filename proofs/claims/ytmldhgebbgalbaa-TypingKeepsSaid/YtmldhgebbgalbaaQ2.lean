/- Chapter 19's statements: made. -/
import Derived.Test.YtmldhgebbgalbaaQ1
import Derived.Test.YtmldhgebbgalbaaA
namespace Go.Proofs.Ytmldhgebbgalbaa
set_option linter.unusedVariables false
set_option linter.unusedSimpArgs false
open Go.RowKit

theorem flat_set0 (cs : List Cel) (k : Nat) (hk : k < cs.length) (x : Cel) :
    ((((((cs.flatMap Cel.enc).toArray.setIfInBounds (k * 5) (.int .u8 x.b)).setIfInBounds (k * 5 + 1) (.bool x.ge)).setIfInBounds (k * 5 + 2) (.bool x.st)).setIfInBounds (k * 5 + 3) (.int .u8 x.li)).setIfInBounds (k * 5 + 4) (.int .u8 x.co))
      = ((cs.set k x).flatMap Cel.enc).toArray := by
  have := flat_set [] cs k hk x
  simpa only [List.append_nil] using this
/-- cells laid over cells, the first k of them -/
def overC (l cs : List Cel) : Nat → List Cel
  | 0 => l
  | k + 1 => (overC l cs k).set k (cs.getD k Cel.zero)
theorem overC_len (l cs : List Cel) : ∀ k, (overC l cs k).length = l.length
  | 0 => rfl
  | k + 1 => by rw [overC, List.length_set, overC_len l cs k]
/-- what made hands back -/
def MadeP (w : World) (e : Ending) (w' : World) : Prop :=
  (∃ a b v c, e = .returned (.tuple #[.pointer none, .agg #[.int .i64 a, .int .i64 b, v, .int .i64 c], .bool false]) ∧ (∃ A n d, v = .slice A n d) ∧ Ext w w') ∨
  (∃ g b x p, e = .returned (.tuple #[.pointer (some ⟨g, 0, none⟩), .agg #[.int .i64 p.rows, .int .i64 p.cols, .slice (some ⟨x, 0, none⟩) p.cells.length p.cells.length, .int .i64 p.cur], .bool true]) ∧
    PlAt w' g b p ∧ Blk w' x 46 (cellRow p.cells) ∧ Ext w w' ∧ w.heap.size ≤ g ∧ w.heap.size ≤ b ∧ w.heap.size ≤ x ∧ x ≠ g ∧ x ≠ b ∧ p.cells.length ≤ 60)

theorem set_over {r c : Int} {l cs : List Cel} {k m : Nat} {z : Cel} (hz : cs.getD k Cel.zero = z) (hl : (overC l cs k).length = m) (hk : k < m) : Pl.set ⟨r, c, overC l cs k, 0⟩ (k : Int) z = ⟨r, c, overC l cs (k + 1), 0⟩ := by
  unfold Pl.set
  rw [if_pos (by simp [Pl.has, Pl.n]; omega), overC, hz]
  rfl
theorem row_cell {w : World} {x : Nat} {t : TypeId} {l : List Cel} {k : Nat} (h : Blk w x t (cellRow l)) (hk : k < l.length) (j : Nat) (u : Value) (hj : (l[k]).enc[j]? = some u) : w.cell? ⟨x, k * 5 + j, none⟩ = some u := by
  have hr : Rd w 5 (some ⟨x, 0, none⟩) l.length (l.flatMap Cel.enc) := Rd.blk h (flat_length Cel.enc 5 Cel.len _)
  obtain ⟨b, o, e, hc⟩ := hr.elem Cel.enc Cel.len hk (List.getElem?_eq_getElem hk)
  cases e
  have := hc j u hj
  rwa [Nat.zero_add] at this
end Go.Proofs.Ytmldhgebbgalbaa
