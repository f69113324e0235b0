/- Rules by which the walks' own simplifier knows what older blocks hold behind a call, a new block, a store, a draw. -/
import Derived.Test.YtmldhgebbgalbaaB
import Derived.LoopTactic
import Derived.Deep.QuietTactic
import Derived.BigQuiet
namespace Go.Proofs.Ytmldhgebbgalbaa
set_option linter.unusedVariables false
set_option linter.unusedSimpArgs false
open Go.RowKit

/-- block b is there -/
def In (b : Nat) (w : World) : Prop := b < w.heap.size
/-- w' is w and more: no block of w has turned -/
def Ext (w w' : World) : Prop := Below w.heap.size w w'
/-- .. but for block b -/
def Mut (b : Nat) (w w' : World) : Prop := w.grownBy w' (some b)

section
variable {w w' W w1 : World} {b b1 i n : Nat} {o : Obj} {p : Addr} {u : Value} {A : Option Addr} {sz : Nat} {cs : List Value}

theorem In.lt (h : In b w) : b < w.heap.size := h
theorem In_old (h : In b w) : In b (w.alloc o) := by unfold In at *; simp; omega
theorem In_new (h : b = w.heap.size) : In b (w.alloc o) := by unfold In; simp; omega
theorem In_set (h : In b w) : In b (w.setCell p u) := by unfold In at *; simpa using h
theorem In_drew (h : In b w) : In b w.drew := h
theorem In_drewN (h : In b w) : In b (w.drewN n) := h
theorem In_ne (h : In b w) : (b = w.heap.size) = False := by unfold In at h; simp; omega
theorem In_ne' (h : In b w) : (w.heap.size = b) = False := by unfold In at h; simp; omega
theorem In_ne_add (h : In b w) : (b = w.heap.size + n) = False := by unfold In at h; simp; omega
theorem In_ne_add' (h : In b w) : (w.heap.size + n = b) = False := by unfold In at h; simp; omega
theorem cell_In (h : In b w) : (w.alloc o).cell? ⟨b, i, none⟩ = w.cell? ⟨b, i, none⟩ := World.cell?_alloc_lt w o ⟨b, i, none⟩ h
theorem frozen_In (h : In b w) : (w.alloc o).frozen? ⟨b, i, none⟩ = w.frozen? ⟨b, i, none⟩ := World.frozen?_of_block (w := w) (Below.heap_alloc w o b h)

theorem Ext_refl (w : World) : Ext w w := Below.refl _ _
theorem Ext_alloc (h : Ext w W) : Ext w (W.alloc o) := Below.alloc h h.size o
theorem Ext_drew (h : Ext w W) : Ext w W.drew := Below.drew h
theorem Ext_drewN (h : Ext w W) : Ext w (W.drewN n) := ⟨h.os, h.tape, h.output, h.size, h.block⟩
theorem Ext_set (h : Ext w W) (hp : w.heap.size ≤ p.block) : Ext w (W.setCell p u) := Below.setCell h hp u
theorem In_lt (h : In b w) : (b < w.heap.size) = True := by simp; exact h
theorem Ext_le (h : Ext w w1) : (w.heap.size ≤ w1.heap.size) = True := by simp; exact h.size
theorem Sl_alloc {α : Type} {enc : α → List Value} {B : Nat} {v : Value} {l : List α} (k : Sl enc sz B W v l) : Sl enc sz B (W.alloc o) v l := k.below ((Below.refl _ _).alloc (Nat.le_refl _) o)
theorem Sl_drewN {α : Type} {enc : α → List Value} {B : Nat} {v : Value} {l : List α} (k : Sl enc sz B W v l) : Sl enc sz B (W.drewN n) v l := k
theorem Sl_drew {α : Type} {enc : α → List Value} {B : Nat} {v : Value} {l : List α} (k : Sl enc sz B W v l) : Sl enc sz B W.drew v l := k
theorem Sl_set {α : Type} {enc : α → List Value} {B : Nat} {v : Value} {l : List α} (k : Sl enc sz B W v l) (hp : b < B) : Sl enc sz B (W.setCell ⟨b, i, none⟩ u) v l := k.grown (grown_set W b i u) (fun g e => by cases e; exact hp)
theorem Bts_alloc {B : Nat} {v : Value} {l : List Int} (k : Bts B W v l) : Bts B (W.alloc o) v l := k.below ((Below.refl _ _).alloc (Nat.le_refl _) o)
theorem Bts_drewN {B : Nat} {v : Value} {l : List Int} (k : Bts B W v l) : Bts B (W.drewN n) v l := k
theorem Bts_drew {B : Nat} {v : Value} {l : List Int} (k : Bts B W v l) : Bts B W.drew v l := k
theorem Bts_set {B : Nat} {v : Value} {l : List Int} (k : Bts B W v l) (hp : b < B) : Bts B (W.setCell ⟨b, i, none⟩ u) v l := k.grown (grown_set W b i u) (fun g e => by cases e; exact hp)
theorem Rd_set (k : Rd W sz A n cs) (hp : Off b A) : Rd (W.setCell ⟨b, i, none⟩ u) sz A n cs := k.far hp u
theorem Ext_trans (h : Ext W w1) (k : Ext w W) : Ext w w1 := Below.trans k (Below.mono h k.size)
theorem In_ext (h : Ext W w1) (k : In b W) : In b w1 := Nat.lt_of_lt_of_le k h.size
theorem cell_ext (h : Ext W w1) (k : In b W) : w1.cell? ⟨b, i, none⟩ = W.cell? ⟨b, i, none⟩ := Below.cell h (p := ⟨b, i, none⟩) k
theorem frozen_ext (h : Ext W w1) (k : In b W) : w1.frozen? ⟨b, i, none⟩ = W.frozen? ⟨b, i, none⟩ := Below.frozen h (p := ⟨b, i, none⟩) k
theorem Rd_ext (h : Ext W w1) (k : Rd W sz A n cs) : Rd w1 sz A n cs := k.below h
theorem Rd_alloc (k : Rd W sz A n cs) : Rd (W.alloc o) sz A n cs := k.alloc o
theorem Rd_drew (k : Rd W sz A n cs) : Rd W.drew sz A n cs := k
theorem Rd_drewN {m : Nat} (k : Rd W sz A n cs) : Rd (W.drewN m) sz A n cs := k

/-- all that the walk wants to know behind a call that turns no older block -/
theorem Ext.rules (h : Ext W w1) : (∀ w0, Ext w0 W → Ext w0 w1) ∧ (∀ b, In b W → In b w1) ∧ (∀ b i, In b W → w1.cell? ⟨b, i, none⟩ = W.cell? ⟨b, i, none⟩) ∧ (∀ b i, In b W → w1.frozen? ⟨b, i, none⟩ = W.frozen? ⟨b, i, none⟩) ∧
    (∀ sz A n cs, Rd W sz A n cs → Rd w1 sz A n cs) ∧ (∀ (α : Type) (enc : α → List Value) sz B v l, Sl enc sz B W v l → Sl enc sz B w1 v l) ∧ (∀ B v l, Bts B W v l → Bts B w1 v l) :=
  ⟨fun _ => Ext_trans h, fun _ => In_ext h, fun _ _ => cell_ext h, fun _ _ => frozen_ext h, fun _ _ _ _ => Rd_ext h, fun _ _ _ _ _ _ k => Sl.below k h, fun _ _ _ k => Bts.below k h⟩

theorem Mut_trans (h : Mut b1 W w1) (k : Ext w W) (hb : w.heap.size ≤ b1) : Ext w w1 := Below.trans k (Below.of_grown h k.size (fun g e => by cases e; exact hb))
theorem Mut.rules (h : Mut b1 W w1) : (∀ w0, Ext w0 W → w0.heap.size ≤ b1 → Ext w0 w1) ∧ (∀ b, In b W → In b w1) ∧ (∀ b i, In b W → b ≠ b1 → w1.cell? ⟨b, i, none⟩ = W.cell? ⟨b, i, none⟩) ∧
    (∀ b i, In b W → b ≠ b1 → w1.frozen? ⟨b, i, none⟩ = W.frozen? ⟨b, i, none⟩) ∧ (∀ sz A n cs, Rd W sz A n cs → Off b1 A → Rd w1 sz A n cs) ∧
    (∀ (α : Type) (enc : α → List Value) sz B v l, Sl enc sz B W v l → b1 < B → Sl enc sz B w1 v l) ∧ (∀ B v l, Bts B W v l → b1 < B → Bts B w1 v l) :=
  ⟨fun _ k hb => Mut_trans h k hb, fun _ k => Nat.lt_of_lt_of_le k h.size,
   fun _ _ k hne => World.cell?_of_block (w := W) (h.block _ k (fun e => hne (by injection e))),
   fun _ _ k hne => World.frozen?_of_block (w := W) (h.block _ k (fun e => hne (by injection e))), fun _ _ _ _ k ho => k.grown h (fun g e => by cases e; exact ho),
   fun _ _ _ _ _ _ k hlt => Sl.grown k h (fun g e => by cases e; exact hlt), fun _ _ _ k hlt => Bts.grown k h (fun g e => by cases e; exact hlt)⟩
theorem Ext.mut (h : Ext w w') (b : Nat) : Mut b w w' := grown_below h _
theorem Mut_set (b i : Nat) (u : Value) : Mut b w (w.setCell ⟨b, i, none⟩ u) := grown_set w b i u
theorem Mut.trans (h : Mut b w W) (k : Mut b W w1) : Mut b w w1 := World.grownBy.trans h k
end
theorem size_drewN (w : World) (n : Nat) : (w.drewN n).heap.size = w.heap.size := rfl
theorem upon_id {P : Program} {o : Oper} {a : Act} {K : Act → World → Prop} {Q : Exit → Act → World → Prop} {r : Result Next} (h : o.upon P a K Q r) : o.upon P a K Q r := h
theorem uponIn_id {F : Fence} {n : Nat} {P : Program} {o : Oper} {a : Act} {K : Act → World → Prop} {Q : Exit → Act → World → Prop} {r : Result Next} (h : o.uponIn F n P a K Q r) : o.uponIn F n P a K Q r := h

theorem i64_wf {n : Int} (h : (Lit.int .i64 n).wf = true) : -9223372036854775808 ≤ n ∧ n ≤ 9223372036854775807 := by
  have h' : (decide (IntKind.i64.min ≤ n) && decide (n ≤ IntKind.i64.max)) = true := h
  rw [Bool.and_eq_true, decide_eq_true_eq, decide_eq_true_eq] at h'
  exact h'
theorem u8_wf {n : Int} (h : (Lit.int .u8 n).wf = true) : 0 ≤ n ∧ n < 256 := by
  have h' : (decide (IntKind.u8.min ≤ n) && decide (n ≤ IntKind.u8.max)) = true := h
  rw [Bool.and_eq_true, decide_eq_true_eq, decide_eq_true_eq] at h'
  have h1 : (0 : Int) ≤ n := h'.1
  have h2 : n ≤ 255 := h'.2
  omega

/-- a call that hands back a value and turns no older block -/
def Ret (v : Value) (w : World) (e : Ending) (w' : World) : Prop := e = .returned v ∧ Ext w w'
/-- .. a slice of new memory -/
def RetB (l : List Int) (w : World) (e : Ending) (w' : World) : Prop := ∃ v, e = .returned v ∧ Bts w.heap.size w' v l ∧ Ext w w'
end Go.Proofs.Ytmldhgebbgalbaa
