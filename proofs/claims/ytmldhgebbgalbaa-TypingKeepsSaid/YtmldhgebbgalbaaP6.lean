/- Home: the first place at which something may be typed. -/
import Derived.Test.YtmldhgebbgalbaaP5
import Derived.Stop.RegionWithIn
namespace Go.Proofs.Ytmldhgebbgalbaa
set_option linter.unusedVariables false
set_option linter.unusedSimpArgs false
open Go.RowKit Go.Shelf
attribute [local go_sem] Oper.semAt_some

theorem blk_own {β : Type} (B : Nat) (t : TypeId) (f : β → Array Value) : Own (fun s W => Blk W B t (f s)) := fun s X Y row hs hg hrow => by
  refine (hg.block B hs.lt (fun e' => ?_)).trans hs
  obtain ⟨o, ho, hc⟩ := hrow B e'.symm
  rw [show X.heap[B]? = _ from hs] at ho; cases ho; cases hc
theorem KeepsOthers.of_ext' {W W' : World} (h : Ext W W') : KeepsOthers W W' := ⟨h.size, fun k o ho _ => (h.block k (Array.getElem?_eq_some_iff.1 ho).1).trans ho⟩
theorem KeepsFrom.of_ext {W W' : World} (h : Ext W W') (B : Nat) : KeepsFrom B W W' := (KeepsOthers.of_ext' h).from B
/-- may something be typed into a field? -/
def openF (x : FV) : Bool := decide (0 < x.l) && !bitB x.a 32
def Pl.homeM (p : Pl) : Int := match (p.flds p.cells.length).find? openF with | some x => (x.s + 1) % p.n | none => 0

end Go.Proofs.Ytmldhgebbgalbaa
