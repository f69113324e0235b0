/- A field's cells let go: wipe.Inside. -/
import Derived.Test.YtmldhgebbgalbaaV1
namespace Go.Proofs.Ytmldhgebbgalbaa
set_option linter.unusedVariables false
set_option linter.unusedSimpArgs false
open Go.RowKit Go.Shelf
attribute [local go_sem] Oper.semAt_some
/-- cells let go -/
def Pl.gone (p : Pl) (l : List Int) : Pl := l.foldl (fun q i => q.set i Cel.zero) p
theorem gone_snoc (p : Pl) (l : List Int) (i : Int) : p.gone (l ++ [i]) = (p.gone l).set i Cel.zero := by unfold Pl.gone; rw [List.foldl_append]; rfl
theorem set_dims (p : Pl) (i : Int) (x : Cel) : (p.set i x).rows = p.rows ∧ (p.set i x).cols = p.cols ∧ (p.set i x).cells.length = p.cells.length := by
  unfold Pl.set
  split <;> simp
theorem plat_own {β : Type} (g c : Nat) (f : β → Pl) : Own (fun s W => PlAt W g c (f s)) := fun s X Y row hs hg hrow => by
  have ne : ∀ {x : Nat} {t : TypeId} {cs : Array Value}, Blk X x t cs → some x ≠ row := fun hx e => by
    obtain ⟨o, ho, hc⟩ := hrow _ e.symm
    rw [show X.heap[_]? = _ from hx] at ho; cases ho; cases hc
  obtain ⟨k, t, hk⟩ := hs
  exact ⟨k, t, hk.obj.grown hg (ne hk.obj), hk.row.grown hg (ne hk.row), hk.ok⟩
theorem chg_ownFrom {β : Type} (l : List Nat) (w : World) (B : Nat) (hB : w.heap.size ≤ B) : OwnFrom B (fun (_ : β) W => Chg l w W) := fun s X Y row hs hg hr =>
  ⟨hg.os.trans hs.os, hg.tape.trans hs.tape, hg.output.trans hs.output, Nat.le_trans hs.size hg.size, fun i hi hn => (hg.block i (Nat.lt_of_lt_of_le hi hs.size) (fun e => by have := (hr i e.symm).1; omega)).trans (hs.block i hi hn)⟩
theorem Chg.drop {l m : List Nat} {w w1 w2 : World} (h : Chg l w1 w2) (k : Ext w w1) (hl : ∀ i, i ∈ l → i ∈ m ∨ w.heap.size ≤ i) : Chg m w w2 :=
  ⟨h.os.trans k.os, h.tape.trans k.tape, h.output.trans k.output, Nat.le_trans k.size h.size, fun i hi hn => (h.block i (Nat.lt_of_lt_of_le hi k.size) (fun hx => by
    rcases hl i hx with h1 | h1
    · exact hn h1
    · omega)).trans (k.block i hi)⟩
theorem Chg.put {l : List Nat} {w w1 : World} (h : Chg l w w1) (D : Nat) (o : Obj) (hD : w.heap.size ≤ D) : Chg l w (w1.putObj D o) := by
  have hg := grownBy_putObj' w1 D o
  exact ⟨hg.os.trans h.os, hg.tape.trans h.tape, hg.output.trans h.output, Nat.le_trans h.size hg.size, fun i hi hn => (hg.block i (Nat.lt_of_lt_of_le hi h.size) (fun e => by injection e with e; omega)).trans (h.block i hi hn)⟩
theorem KeepsFrom.of_chg {B : Nat} {l : List Nat} {X Y : World} (h : Chg l X Y) (hl : ∀ i, i ∈ l → i < B) : KeepsFrom B X Y :=
  ⟨h.size, fun k o hB hk _ => (h.block k (Array.getElem?_eq_some_iff.1 hk).1 (fun hx => by have := hl k hx; omega)).trans hk⟩
theorem KpP.of_to' {g c a b : Nat} {l : List Nat} {X Y : World} {p q : Pl} (h : PlAt X g c p) (hq : PlAt Y g c q) (hc : Chg l X Y) (hs : q.rows = p.rows ∧ q.cols = p.cols ∧ q.cells.length = p.cells.length) (ha : a ∉ l) (hb : b ∉ l) : KpP g c a b X Y := by
  refine ⟨hc.size, fun i hi hl => hc.block i hl (by rcases hi with rfl | rfl <;> assumption), fun r hr => ?_⟩
  have hpr : r.rows = p.rows ∧ r.cols = p.cols ∧ r.cells.length = p.cells.length := by
    obtain ⟨k1, t1, h1⟩ := h
    obtain ⟨k2, t2, h2⟩ := hr
    have e := (Blk.same h1.obj h2.obj).2
    simp only [Array.mk.injEq, List.cons.injEq, Value.int.injEq, Value.slice.injEq, true_and, and_true] at e
    obtain ⟨e1, e2, e3, e4⟩ := e
    exact ⟨e1.symm, e2.symm, e3.1.symm⟩
  exact ⟨q, hq, hs.1.trans hpr.1.symm, hs.2.1.trans hpr.2.1.symm, hs.2.2.trans hpr.2.2.symm⟩
end Go.Proofs.Ytmldhgebbgalbaa
