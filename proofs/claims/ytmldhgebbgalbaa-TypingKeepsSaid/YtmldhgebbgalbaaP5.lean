/- The range over a plane's fields (All), where the plane stays as it is; Home. -/
import Derived.Test.YtmldhgebbgalbaaP4
import Derived.RangeFuncNested
import Derived.RangeFuncBound
import Derived.RangeFuncCalls
import Derived.RangeFuncLeaves
import Derived.Shelf.Abstract
import Derived.Shelf.RegionOpen
import Derived.TacticsInMore
import Derived.LoopNIn
import Derived.LoopIn
namespace Go.Proofs.Ytmldhgebbgalbaa
set_option linter.unusedVariables false
set_option linter.unusedSimpArgs false
open Go.RowKit Go.Shelf
attribute [local go_sem] Oper.semAt_some

/-- a field: its start, its length, its attribute -/
structure FV where
  s : Int
  l : Int
  a : Int
  deriving DecidableEq
def FV.v (x : FV) : Value := .agg #[.int .i64 x.s, .int .i64 x.l, .int .u8 x.a]
def FV.cells (x : FV) : Array Value := #[.int .i64 x.s, .int .i64 x.l, .int .u8 x.a]
def Pl.fld (p : Pl) (i : Int) : FV := ⟨i, p.lenAt i, p.attrAt i⟩
/-- the fields whose attributes stand among the first k places -/
def Pl.flds (p : Pl) (k : Nat) : List FV := ((List.range k).filter fun i : Nat => p.st (i : Int)).map fun i : Nat => p.fld (i : Int)
theorem flds_succ (p : Pl) (k : Nat) : p.flds (k + 1) = if p.st (k : Int) then p.flds k ++ [p.fld (k : Int)] else p.flds k := by
  unfold Pl.flds
  rw [List.range_succ, List.filter_append, List.map_append]
  cases h : p.st (k : Int) <;> simp [h]
theorem flds_len (p : Pl) : ∀ k, (p.flds k).length ≤ k
  | 0 => by simp [Pl.flds]
  | k + 1 => by
    rw [flds_succ]
    have := flds_len p k
    split <;> simp <;> omega
theorem flds_prefix (p : Pl) (k : Nat) : ∀ m, p.flds k <+: p.flds (k + m)
  | 0 => List.prefix_refl _
  | m + 1 => by
    refine (flds_prefix p k m).trans ?_
    rw [← Nat.add_assoc, flds_succ]
    split
    · exact List.prefix_append _ _
    · exact List.prefix_refl _
theorem PlAt.belowN {n₀ : Nat} {w w' : World} {g c : Nat} {p : Pl} (h : PlAt w g c p) (hb : Below n₀ w w') (hg : g < n₀) (hc : c < n₀) : PlAt w' g c p := let ⟨a, t, h⟩ := h; ⟨a, t, h.obj.below hb hg, h.row.below hb hc, h.ok⟩

end Go.Proofs.Ytmldhgebbgalbaa
