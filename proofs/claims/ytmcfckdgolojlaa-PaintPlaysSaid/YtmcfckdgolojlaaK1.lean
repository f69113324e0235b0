import Derived.Test.YtmcfckdgolojlaaProg
import Derived.WalkKit
import Derived.WalkSpells
import Derived.WalkLawsBesides
import Derived.KernelRfl
import Derived.Lib.Hide
import Derived.Below
import Derived.OneCell
import Derived.Laws.OwnMore
import Derived.Laws.AppendOwn
import Derived.Deep.Draws
import Derived.Deep.AppendLies
import Derived.OwnWalk
import Derived.OwnWalkIn
import Derived.LoopTactic
import Derived.Deep.QuietTactic
import Derived.BigQuiet
import Derived.IntWalk
import Derived.RegionTactic
import Derived.ChangeAlike
import Derived.BigRegion
import Derived.StillTailTactics
import Derived.Laws.MakeOwn
import Derived.RangeFuncNested
import Derived.RangeFuncBound
import Derived.RangeFuncCalls
import Derived.RangeFuncLeaves
import Derived.Shelf.Abstract
import Derived.Shelf.RegionOpen
import Derived.TacticsInMore
import Derived.LoopNIn
import Derived.LoopIn
import Derived.Stop.RegionWithIn
import Derived.Deep.RegionWith
import Derived.Deep.RegionHeld3
import Derived.Laws.BitsLemmas
import Derived.Deep.Slices
import Derived.Deep.Fields
import Derived.ChangeSame
import Derived.ProofKit
import Derived.OpenShut
import Derived.Maps.AppendAt
import Derived.Lib.LazyBuf
import Derived.Deep.DeepCutAuto
import Derived.Sort.QuietTacIn
/- Words for memory that all proofs here use: rows of cells that are read, blocks that are known whole, what a call leaves as it was. -/
namespace Go.Proofs.Ytmcfckdgolojlaa
set_option linter.unusedVariables false
set_option linter.unusedSimpArgs false
open Go.RowKit

/-! ### blocks -/
/-- block b is known whole -/
def Blk (w : World) (b : Nat) (t : TypeId) (cs : Array Value) : Prop := w.heap[b]? = some (.cells cs t (0, 0))
section
variable {w w' : World} {b : Nat} {t : TypeId} {cs : Array Value}
theorem Blk.lt (h : Blk w b t cs) : b < w.heap.size := lt_of_block h
theorem Blk.cell (h : Blk w b t cs) (i : Nat) : w.cell? ⟨b, i, none⟩ = cs[i]? := by unfold Blk at h; simp [World.cell?, h]
theorem Blk.free (h : Blk w b t cs) (i : Nat) : w.frozen? ⟨b, i, none⟩ = false := by unfold Blk at h; simp [World.frozen?, h]
theorem Blk.new (w : World) (t : TypeId) (cs : Array Value) : Blk (w.alloc (.cells cs t)) w.heap.size t cs := heap_alloc_new w _
theorem Blk.alloc (h : Blk w b t cs) (o : Obj) : Blk (w.alloc o) b t cs := (Below.heap_alloc w o b h.lt).trans h
theorem Blk.drew (h : Blk w b t cs) : Blk w.drew b t cs := h
theorem Blk.drewN (h : Blk w b t cs) (n : Nat) : Blk (w.drewN n) b t cs := h
theorem Blk.store (h : Blk w b t cs) (i : Nat) (u : Value) : Blk (w.setCell ⟨b, i, none⟩ u) b t (cs.setIfInBounds i u) := by
  unfold Blk at h ⊢
  simp [World.setCell, Array.getElem?_modify, h]
theorem Blk.far (h : Blk w b t cs) {p : Addr} (hp : b ≠ p.block) (u : Value) : Blk (w.setCell p u) b t cs := (Below.heap_setCell w p u b hp).trans h
theorem Blk.below {B : Nat} (h : Blk w b t cs) (hb : Below B w w') (hB : b < B) : Blk w' b t cs := (hb.block b hB).trans h
theorem Blk.below' (h : Blk w b t cs) (hb : Below w.heap.size w w') : Blk w' b t cs := (hb.block b h.lt).trans h
theorem Blk.grown {row : Option Nat} (h : Blk w b t cs) (hb : w.grownBy w' row) (hr : some b ≠ row) : Blk w' b t cs := (hb.block b h.lt hr).trans h
theorem Blk.same {cs' : Array Value} {t' : TypeId} (h : Blk w b t cs) (h' : Blk w b t' cs') : t = t' ∧ cs = cs' := by
  unfold Blk at h h'
  rw [h] at h'
  injection h' with h'
  injection h' with h1 h2
  exact ⟨h2, h1⟩
end

/-! ### rows of cells that are read -/
/-- the slice at A, of n elements of sz cells, has the cells cs -/
def Rd (w : World) (sz : Nat) (A : Option Addr) (n : Nat) (cs : List Value) : Prop :=
  cs.length = n * sz ∧ (0 < n → ∃ b o, A = some ⟨b, o, none⟩ ∧ ∀ j u, cs[j]? = some u → w.cell? ⟨b, o + j, none⟩ = some u)
/-- it lies at or beyond B -/
def Fresh (B : Nat) (A : Option Addr) : Prop := ∀ ad, A = some ad → B ≤ ad.block
/-- it doesn't lie in block b -/
def Off (b : Nat) (A : Option Addr) : Prop := ∀ ad, A = some ad → ad.block ≠ b

section
variable {w w' : World} {sz n : Nat} {A : Option Addr} {cs : List Value}
theorem Rd.nil (w : World) (sz : Nat) (A : Option Addr) : Rd w sz A 0 [] := ⟨by simp, fun h => absurd h (by omega)⟩
theorem Rd.keep (h : Rd w sz A n cs) (hk : ∀ b o v, A = some ⟨b, o, none⟩ → b < w.heap.size → w.cell? ⟨b, v, none⟩ ≠ none → w'.heap[b]? = w.heap[b]?) : Rd w' sz A n cs := by
  refine ⟨h.1, fun hn => ?_⟩
  obtain ⟨b, o, e, hc⟩ := h.2 hn
  refine ⟨b, o, e, fun j u hu => ?_⟩
  have h1 := hc j u hu
  have hb := World.block_lt_of_cell? w _ h1
  rw [World.cell?_of_block (w := w) (hk b o (o + j) e hb (by rw [h1]; simp))]
  exact h1
theorem Rd.below (h : Rd w sz A n cs) (hb : Below w.heap.size w w') : Rd w' sz A n cs := h.keep fun b _ _ _ hlt _ => hb.block b hlt
theorem Rd.grown {row : Option Nat} (h : Rd w sz A n cs) (hg : w.grownBy w' row) (hr : ∀ g, row = some g → Off g A) : Rd w' sz A n cs :=
  h.keep fun b _ _ e hlt _ => hg.block b hlt (fun he => hr b he.symm _ e rfl)
theorem Rd.alloc (h : Rd w sz A n cs) (o : Obj) : Rd (w.alloc o) sz A n cs := h.below ((Below.refl _ _).alloc (Nat.le_refl _) o)
theorem Rd.drew (h : Rd w sz A n cs) : Rd w.drew sz A n cs := h
theorem Rd.drewN (h : Rd w sz A n cs) (k : Nat) : Rd (w.drewN k) sz A n cs := h
theorem Rd.far (h : Rd w sz A n cs) {p : Addr} (hp : Off p.block A) (u : Value) : Rd (w.setCell p u) sz A n cs :=
  h.keep fun b _ _ e _ _ => Below.heap_setCell w p u b (fun he => hp _ e he)
/-- where an element's cells lie -/
theorem Rd.at_ (h : Rd w sz A n cs) {i : Nat} (hi : i < n) : ∃ b o, A = some ⟨b, o, none⟩ ∧ ∀ j u, j < sz → cs[i * sz + j]? = some u → w.cell? ⟨b, o + i * sz + j, none⟩ = some u := by
  obtain ⟨b, o, e, hc⟩ := h.2 (by omega)
  exact ⟨b, o, e, fun j u _ hu => by rw [Nat.add_assoc]; exact hc _ u hu⟩
theorem Rd.at1 (h : Rd w 1 A n cs) {i : Nat} (hi : i < n) : ∃ b o u, A = some ⟨b, o, none⟩ ∧ cs[i]? = some u ∧ w.cell? ⟨b, o + i, none⟩ = some u := by
  obtain ⟨b, o, e, hc⟩ := h.2 (by omega)
  have hl : i < cs.length := by have := h.1; omega
  exact ⟨b, o, cs[i], e, List.getElem?_eq_getElem hl, hc i _ (List.getElem?_eq_getElem hl)⟩
theorem Rd.blk {b : Nat} {t : TypeId} {l : List Value} (h : Blk w b t l.toArray) (hl : l.length = n * sz) : Rd w sz (some ⟨b, 0, none⟩) n l :=
  ⟨hl, fun _ => ⟨b, 0, rfl, fun j u hu => by rw [h.cell]; simpa using hu⟩⟩
theorem Rd.own {base : Nat} {e : TypeId} {c : Nat} (h : w.ownsRow base e sz (.slice A n c) n cs) : Rd w sz A n cs := by
  refine ⟨h.1, fun hn => ?_⟩
  rcases h.2 with ⟨_, h0⟩ | ⟨g, cap, cur, hv, _, hh, _, _, _, ht⟩
  · omega
  · have hA : A = some ⟨g, 0, none⟩ := by injection hv
    refine ⟨g, 0, hA, fun j u hu => ?_⟩
    rw [Blk.cell (t := e) (cs := cur) hh, Nat.zero_add]
    rw [← ht, List.getElem?_take] at hu
    split at hu
    · simpa using hu
    · cases hu
end

/-! ### rows of elements of sz cells -/
theorem flat_get {α : Type} (enc : α → List Value) (sz : Nat) (he : ∀ x, (enc x).length = sz) : ∀ (xs : List α) (i j : Nat), j < sz → ((xs.flatMap enc)[i * sz + j]?) = (xs[i]?).bind fun x => (enc x)[j]?
  | [], i, j, _ => by simp
  | x :: xs, 0, j, hj => by
    rw [List.flatMap_cons, Nat.zero_mul, Nat.zero_add, List.getElem?_append_left (by rw [he]; exact hj)]
    simp
  | x :: xs, i + 1, j, hj => by
    rw [List.flatMap_cons, List.getElem?_append_right (by rw [he, Nat.add_mul]; omega), he, show (i + 1) * sz + j - sz = i * sz + j from by rw [Nat.add_mul]; omega, flat_get enc sz he xs i j hj]
    simp
theorem flat_length {α : Type} (enc : α → List Value) (sz : Nat) (he : ∀ x, (enc x).length = sz) (xs : List α) : (xs.flatMap enc).length = xs.length * sz := by
  induction xs with
  | nil => simp
  | cons x xs ih => rw [List.flatMap_cons, List.length_append, ih, he, List.length_cons, Nat.add_mul]; omega
/-- where the cells of element i lie -/
theorem Rd.elem {α : Type} {w : World} {sz : Nat} {A : Option Addr} {n : Nat} (enc : α → List Value) (he : ∀ x, (enc x).length = sz) {xs : List α} (h : Rd w sz A n (xs.flatMap enc)) {i : Nat} (hi : i < n) {x : α} (hx : xs[i]? = some x) :
    ∃ b o, A = some ⟨b, o, none⟩ ∧ ∀ j u, (enc x)[j]? = some u → w.cell? ⟨b, o + i * sz + j, none⟩ = some u := by
  obtain ⟨b, o, e, hc⟩ := h.at_ hi
  refine ⟨b, o, e, fun j u hu => ?_⟩
  have hj : j < sz := by rw [← he x]; exact (List.getElem?_eq_some_iff.1 hu).1
  exact hc j u hj (by rw [flat_get enc sz he xs i j hj, hx]; exact hu)

/-! ### bytes -/
def u8s (l : List Int) : List Value := l.map (Value.int .u8)
theorem u8s_get (l : List Int) (j : Nat) : (u8s l)[j]? = (l[j]?).map (Value.int .u8) := by simp [u8s]

/-- v is a slice of bytes that reads as l, of the call's own from block B on -/
def Bts (B : Nat) (w : World) (v : Value) (l : List Int) : Prop := ∃ A c, v = .slice A l.length c ∧ l.length ≤ c ∧ Rd w 1 A l.length (u8s l) ∧ Fresh B A

theorem Fresh.none_ (B : Nat) : Fresh B none := fun _ h => by cases h
theorem Fresh.some_ {B b o : Nat} (h : B ≤ b) : Fresh B (some ⟨b, o, none⟩) := fun _ e => by cases e; exact h
theorem Fresh.mono {B B' : Nat} {A : Option Addr} (h : Fresh B A) (hB : B' ≤ B) : Fresh B' A := fun ad e => Nat.le_trans hB (h ad e)
theorem Fresh.off {B b : Nat} {A : Option Addr} (h : Fresh B A) (hb : b < B) : Off b A := fun ad e => by have := h ad e; omega
theorem Bts.nil (B : Nat) (w : World) : Bts B w (.slice none 0 0) [] := ⟨none, 0, rfl, Nat.le_refl _, Rd.nil _ _ _, Fresh.none_ _⟩
theorem Bts.new (w : World) (l : List Int) : Bts w.heap.size (w.alloc (.cells (u8s l).toArray 5)) (.slice (some ⟨w.heap.size, 0, none⟩) l.length l.length) l :=
  ⟨_, _, rfl, Nat.le_refl _, Rd.blk (Blk.new w 5 _) (by simp [u8s]), Fresh.some_ (Nat.le_refl _)⟩
theorem Bts.mono {B B' : Nat} {w : World} {v : Value} {l : List Int} (h : Bts B w v l) (hB : B' ≤ B) : Bts B' w v l := by
  obtain ⟨A, c, h1, h2, h3, h4⟩ := h
  exact ⟨A, c, h1, h2, h3, h4.mono hB⟩
theorem Bts.grown {B : Nat} {w w' : World} {v : Value} {l : List Int} {row : Option Nat} (h : Bts B w v l) (hg : w.grownBy w' row) (hr : ∀ g, row = some g → g < B) : Bts B w' v l := by
  obtain ⟨A, c, h1, h2, h3, h4⟩ := h
  exact ⟨A, c, h1, h2, h3.grown hg (fun g e => h4.off (hr g e)), h4⟩
theorem Bts.below {B : Nat} {w w' : World} {v : Value} {l : List Int} (h : Bts B w v l) (hb : Below w.heap.size w w') : Bts B w' v l := by
  obtain ⟨A, c, h1, h2, h3, h4⟩ := h
  exact ⟨A, c, h1, h2, h3.below hb, h4⟩

/-! ### what a call leaves -/
theorem grown_below {w w' : World} (h : Below w.heap.size w w') (row : Option Nat) : w.grownBy w' row := ⟨h.os, h.tape, h.output, h.size, fun i hi _ => h.block i hi⟩
theorem Below.of_grown {B : Nat} {w w' : World} {row : Option Nat} (h : w.grownBy w' row) (hB : B ≤ w.heap.size) (hr : ∀ g, row = some g → B ≤ g) : Below B w w' :=
  (Below.refl B w).grown h hB hr
/-! ### rows of one's own that grow -/
theorem own_base {w : World} {base : Nat} {e : TypeId} {size n : Nat} {v : Value} {xs : List Value} (h : w.ownsRow base e size v n xs) : ∀ g, v.ownBlock = some g → base ≤ g ∧ g < w.heap.size := fun g hg => h.lt g hg
section
variable {P : Program} {ops : Array Oper} {rest : List Oper} {o : Oper} {a : Act} {Q : Exit → Act → World → Prop}
end
/-- a slice value of one's own, from block B on, with its elements -/
abbrev OwnL {α : Type} (enc : α → List Value) (sz e : Nat) (B : Nat) (w : World) (v : Value) (l : List α) : Prop := w.ownsRow B e sz v l.length (l.flatMap enc)
theorem OwnL.snoc {α : Type} {enc : α → List Value} {sz e B : Nat} {w : World} {v : Value} {l : List α} {a : α} (h : w.ownsRow B e sz v (l.length + 1) (l.flatMap enc ++ enc a)) : OwnL enc sz e B w v (l ++ [a]) := by
  show w.ownsRow B e sz v (l ++ [a]).length ((l ++ [a]).flatMap enc)
  rw [List.length_append, List.flatMap_append]
  simpa using h
theorem OwnL.nil {α : Type} {enc : α → List Value} {sz e B g : Nat} {w : World} (hb : B ≤ g) (h : Blk w g e #[]) : OwnL enc sz e B w (.slice (some ⟨g, 0, none⟩) 0 0) [] :=
  ⟨by simp, .inr ⟨g, 0, #[], rfl, hb, h, Nat.le_refl _, Nat.zero_le _, by simp, by simp⟩⟩
/-- v is a slice of elements of sz cells that reads as l, and lies from block B on -/
def Sl {α : Type} (enc : α → List Value) (sz B : Nat) (w : World) (v : Value) (l : List α) : Prop := ∃ A c, v = .slice A l.length c ∧ l.length ≤ c ∧ Rd w sz A l.length (l.flatMap enc) ∧ Fresh B A
section
variable {α : Type} {enc : α → List Value} {sz B : Nat} {w w' : World} {v : Value} {l : List α}
theorem Sl.nil : Sl enc sz B w (.slice none 0 0) ([] : List α) := ⟨none, 0, rfl, Nat.le_refl _, Rd.nil _ _ _, Fresh.none_ _⟩
theorem Sl.mono {B' : Nat} (h : Sl enc sz B w v l) (hB : B' ≤ B) : Sl enc sz B' w v l := by
  obtain ⟨A, c, h1, h2, h3, h4⟩ := h
  exact ⟨A, c, h1, h2, h3, h4.mono hB⟩
theorem Sl.grown {row : Option Nat} (h : Sl enc sz B w v l) (hg : w.grownBy w' row) (hr : ∀ g, row = some g → g < B) : Sl enc sz B w' v l := by
  obtain ⟨A, c, h1, h2, h3, h4⟩ := h
  exact ⟨A, c, h1, h2, h3.grown hg (fun g e => h4.off (hr g e)), h4⟩
theorem Sl.below (h : Sl enc sz B w v l) (hb : Below w.heap.size w w') : Sl enc sz B w' v l := by
  obtain ⟨A, c, h1, h2, h3, h4⟩ := h
  exact ⟨A, c, h1, h2, h3.below hb, h4⟩
end
end Go.Proofs.Ytmcfckdgolojlaa
/- Rules by which the walks' own simplifier knows what older blocks hold behind a call, a new block, a store, a draw. -/
namespace Go.Proofs.Ytmcfckdgolojlaa
set_option linter.unusedVariables false
set_option linter.unusedSimpArgs false
open Go.RowKit

/-- block b is there -/
def In (b : Nat) (w : World) : Prop := b < w.heap.size
/-- w' is w and more: no block of w has turned -/
def Ext (w w' : World) : Prop := Below w.heap.size w w'
/-- .. but for block b -/
def Mut (b : Nat) (w w' : World) : Prop := w.grownBy w' (some b)

section
variable {w w' W w1 : World} {b b1 i n : Nat} {o : Obj} {p : Addr} {u : Value} {A : Option Addr} {sz : Nat} {cs : List Value}

theorem In.lt (h : In b w) : b < w.heap.size := h
theorem In_old (h : In b w) : In b (w.alloc o) := by unfold In at *; simp; omega
theorem cell_In (h : In b w) : (w.alloc o).cell? ⟨b, i, none⟩ = w.cell? ⟨b, i, none⟩ := World.cell?_alloc_lt w o ⟨b, i, none⟩ h
theorem frozen_In (h : In b w) : (w.alloc o).frozen? ⟨b, i, none⟩ = w.frozen? ⟨b, i, none⟩ := World.frozen?_of_block (w := w) (Below.heap_alloc w o b h)

theorem Ext_refl (w : World) : Ext w w := Below.refl _ _
theorem Ext_alloc (h : Ext w W) : Ext w (W.alloc o) := Below.alloc h h.size o
theorem Ext_drew (h : Ext w W) : Ext w W.drew := Below.drew h
theorem Ext_drewN (h : Ext w W) : Ext w (W.drewN n) := ⟨h.os, h.tape, h.output, h.size, h.block⟩
theorem Ext_set (h : Ext w W) (hp : w.heap.size ≤ p.block) : Ext w (W.setCell p u) := Below.setCell h hp u
theorem Ext_trans (h : Ext W w1) (k : Ext w W) : Ext w w1 := Below.trans k (Below.mono h k.size)
theorem In_ext (h : Ext W w1) (k : In b W) : In b w1 := Nat.lt_of_lt_of_le k h.size
theorem cell_ext (h : Ext W w1) (k : In b W) : w1.cell? ⟨b, i, none⟩ = W.cell? ⟨b, i, none⟩ := Below.cell h (p := ⟨b, i, none⟩) k
theorem frozen_ext (h : Ext W w1) (k : In b W) : w1.frozen? ⟨b, i, none⟩ = W.frozen? ⟨b, i, none⟩ := Below.frozen h (p := ⟨b, i, none⟩) k
theorem Rd_ext (h : Ext W w1) (k : Rd W sz A n cs) : Rd w1 sz A n cs := k.below h
theorem Mut.trans (h : Mut b w W) (k : Mut b W w1) : Mut b w w1 := World.grownBy.trans h k
end
theorem size_drewN (w : World) (n : Nat) : (w.drewN n).heap.size = w.heap.size := rfl
theorem u8_wf {n : Int} (h : (Lit.int .u8 n).wf = true) : 0 ≤ n ∧ n < 256 := by
  have h' : (decide (IntKind.u8.min ≤ n) && decide (n ≤ IntKind.u8.max)) = true := h
  rw [Bool.and_eq_true, decide_eq_true_eq, decide_eq_true_eq] at h'
  have h1 : (0 : Int) ≤ n := h'.1
  have h2 : n ≤ 255 := h'.2
  omega

/-- a call that hands back a value and turns no older block -/
def Ret (v : Value) (w : World) (e : Ending) (w' : World) : Prop := e = .returned v ∧ Ext w w'
end Go.Proofs.Ytmcfckdgolojlaa
/- Planes: what they are in memory, and the small functions of the packages addr, attr and plane that only ask. -/
namespace Go.Proofs.Ytmcfckdgolojlaa
set_option linter.unusedVariables false
set_option linter.unusedSimpArgs false
open Go.RowKit

/-- a cell, as it lies in memory -/
structure Cel where
  b : Int
  ge : Bool
  st : Bool
  li : Int
  co : Int
  deriving DecidableEq
def Cel.enc (x : Cel) : List Value := [.int .u8 x.b, .bool x.ge, .bool x.st, .int .u8 x.li, .int .u8 x.co]
def Cel.agg (x : Cel) : Value := .agg #[.int .u8 x.b, .bool x.ge, .bool x.st, .int .u8 x.li, .int .u8 x.co]
def Cel.zero : Cel := ⟨0, false, false, 0, 0⟩
theorem Cel.len (x : Cel) : x.enc.length = 5 := rfl
/-- a plane -/
structure Pl where
  rows : Int
  cols : Int
  cells : List Cel
  cur : Int
  deriving DecidableEq
def Pl.n (p : Pl) : Int := (p.cells.length : Int)
/-- a size that a screen may have, of n cells -/
structure SzOk (r c : Int) (n : Int) : Prop where
  r0 : 1 ≤ r
  r1 : r ≤ 43
  c0 : 1 ≤ c
  c1 : c ≤ 132
  n0 : 1 ≤ n
  n1 : n ≤ 4096
  mul : r * c = n
structure Pl.Ok (p : Pl) : Prop where
  sz : SzOk p.rows p.cols p.n
  k0 : 0 ≤ p.cur
  k1 : p.cur < p.n
  by_ : ∀ x ∈ p.cells, 0 ≤ x.b ∧ x.b < 256
/-- the plane p: its struct is block g, its cells are block c (the slice's capacity kap, behind its end tl) -/
structure PlAtK (kap : Nat) (tl : List Value) (w : World) (g c : Nat) (p : Pl) : Prop where
  obj : Blk w g 86 #[.int .i64 p.rows, .int .i64 p.cols, .slice (some ⟨c, 0, none⟩) p.cells.length kap, .int .i64 p.cur]
  row : Blk w c 38 (p.cells.flatMap Cel.enc ++ tl).toArray
  ok : p.Ok
def PlAt (w : World) (g c : Nat) (p : Pl) : Prop := ∃ kap tl, PlAtK kap tl w g c p
theorem PlAt.ok {w : World} {g c : Nat} {p : Pl} (h : PlAt w g c p) : p.Ok := let ⟨_, _, h⟩ := h; h.ok
theorem PlAt.glt {w : World} {g c : Nat} {p : Pl} (h : PlAt w g c p) : g < w.heap.size := let ⟨_, _, h⟩ := h; h.obj.lt
theorem PlAt.clt {w : World} {g c : Nat} {p : Pl} (h : PlAt w g c p) : c < w.heap.size := let ⟨_, _, h⟩ := h; h.row.lt
theorem PlAt.ext {w w' : World} {g c : Nat} {p : Pl} (h : PlAt w g c p) (hx : Ext w w') : PlAt w' g c p := let ⟨k, t, h⟩ := h; ⟨k, t, Blk.below' h.obj hx, Blk.below' h.row hx, h.ok⟩
/-- a row's head, read -/
theorem Rd.blk_head {w : World} {n sz b : Nat} {t : TypeId} {l tl : List Value} (h : Blk w b t (l ++ tl).toArray) (hl : l.length = n * sz) : Rd w sz (some ⟨b, 0, none⟩) n l :=
  ⟨hl, fun _ => ⟨b, 0, rfl, fun j u hu => by
    rw [h.cell, Nat.zero_add]
    have hj : j < l.length := (List.getElem?_eq_some_iff.1 hu).1
    simp only [List.getElem?_toArray]
    rw [List.getElem?_append_left hj]
    exact hu⟩⟩
theorem PlAt.ne {w : World} {g c : Nat} {p : Pl} (h : PlAt w g c p) : g ≠ c := by
  rintro rfl
  obtain ⟨_, _, h⟩ := h
  have := (Blk.same h.obj h.row).1
  exact absurd this (by decide)
theorem PlAt.cell {w : World} {g c : Nat} {p : Pl} (h : PlAt w g c p) {i : Nat} (hi : i < p.cells.length) (j : Nat) (u : Value) (hj : (p.cells[i]).enc[j]? = some u) : w.cell? ⟨c, 0 + i * 5 + j, none⟩ = some u := by
  obtain ⟨_, _, h⟩ := h
  have hr : Rd w 5 (some ⟨c, 0, none⟩) p.cells.length (p.cells.flatMap Cel.enc) := Rd.blk_head h.row (flat_length Cel.enc 5 Cel.len _)
  obtain ⟨b, o, e, hc⟩ := hr.elem Cel.enc Cel.len hi (List.getElem?_eq_getElem hi)
  cases e
  exact hc j u hj
/-- the cell of a place; of no place the zero cell -/
def Pl.at (p : Pl) (i : Int) : Cel := if 0 ≤ i ∧ i < p.n then p.cells.getD i.toNat Cel.zero else Cel.zero

/-! ### addr -/
def cellsM (r c : Int) : Int := if r < 1 ∨ 43 < r ∨ c < 1 ∨ 132 < c ∨ 4096 < r * c then 0 else r * c
theorem mul_bound {r c : Int} (a : 1 ≤ r) (b : r ≤ 43) (d : 1 ≤ c) (e : c ≤ 132) : 1 ≤ r * c ∧ r * c ≤ 5676 := by
  constructor
  · have := Int.mul_le_mul a d (by omega) (by omega); simpa using this
  · have := Int.mul_le_mul b e (by omega) (by omega); simpa using this

set_option maxHeartbeats 1000000 in
theorem Cells_any (r c : Int) (w : World) : Calls Try.prog 80 #[.agg #[.int .i64 r, .int .i64 c]] w (Ret (.int .i64 (cellsM r c)) w) := by
  unfold cellsM
  by_cases h : 1 ≤ r ∧ r ≤ 43 ∧ 1 ≤ c ∧ c ≤ 132
  · obtain ⟨a, b, d, e⟩ := h
    have hm := mul_bound a b d e
    obtain ⟨m0, m1⟩ := hm
    by_cases h4 : 4096 < r * c
    · rw [if_pos (by omega)]
      go_enter Try.func80, Try.ntmps80
      go_wp2
      go_ret
      exact ⟨rfl, (by repeat' (first | exact Ext_refl _ | apply Ext_alloc))⟩
    · rw [if_neg (by omega)]
      go_enter Try.func80, Try.ntmps80
      go_wp2
      go_ret
      exact ⟨rfl, (by repeat' (first | exact Ext_refl _ | apply Ext_alloc))⟩
  · rw [if_pos (by omega)]
    by_cases h1 : r < 1
    · go_enter Try.func80, Try.ntmps80
      go_wp2
      go_ret
      exact ⟨rfl, (by repeat' (first | exact Ext_refl _ | apply Ext_alloc))⟩
    by_cases h2 : 43 < r
    · go_enter Try.func80, Try.ntmps80
      go_wp2
      go_ret
      exact ⟨rfl, (by repeat' (first | exact Ext_refl _ | apply Ext_alloc))⟩
    by_cases h3 : c < 1
    · go_enter Try.func80, Try.ntmps80
      go_wp2
      go_ret
      exact ⟨rfl, (by repeat' (first | exact Ext_refl _ | apply Ext_alloc))⟩
    by_cases h5 : 132 < c
    · go_enter Try.func80, Try.ntmps80
      go_wp2
      go_ret
      exact ⟨rfl, (by repeat' (first | exact Ext_refl _ | apply Ext_alloc))⟩
    · omega
theorem cellsM_ok {r c n : Int} (h : SzOk r c n) : cellsM r c = n := by
  unfold cellsM
  have := h.mul; have := h.n1; have := h.r0; have := h.r1; have := h.c0; have := h.c1
  rw [if_neg (by omega), h.mul]

/-- the remainder, as Go reckons it twice, and ours -/
theorem tmod_bd (a n : Int) (hn : 1 ≤ n) : -n < Int.tmod a n ∧ Int.tmod a n < n := by
  constructor
  · have := Int.lt_tmod_of_pos a (b := n) (by omega); omega
  · exact Int.tmod_lt_of_pos a (by omega)
theorem tmod_tmod (a b n : Int) (hn : 1 ≤ n) : (Int.tmod (Int.tmod a n + Int.tmod b n) n + n) % n = (a + b) % n := by
  have h1 : ∀ x : Int, (Int.tmod x n) % n = x % n := by
    intro x
    rw [Int.tmod_eq_emod]
    split
    · simp
    · rename_i h
      rw [Int.sub_emod, Int.emod_emod]
      have : ((n.natAbs : Int)) % n = 0 := by
        rw [Int.natAbs_of_nonneg (by omega)]; simp
      rw [this]; simp
  rw [Int.add_emod_right, h1, Int.add_emod, h1, h1, ← Int.add_emod]

set_option maxHeartbeats 1000000 in
theorem Move_any (r c at_ by_ n : Int) (h : SzOk r c n) (w : World) :
    Calls Try.prog 83 #[.agg #[.int .i64 r, .int .i64 c], .int .i64 at_, .int .i64 by_] w (Ret (.int .i64 ((at_ + by_) % n)) w) := by
  have e := tmod_tmod at_ by_ n h.n0
  obtain ⟨a0, a1⟩ := tmod_bd at_ n h.n0
  obtain ⟨b0, b1⟩ := tmod_bd by_ n h.n0
  obtain ⟨d0, d1⟩ := tmod_bd (Int.tmod at_ n + Int.tmod by_ n) n h.n0
  have n0 := h.n0
  have n1 := h.n1
  have hc := cellsM_ok h
  have HC := Lib.hid hc
  have HE := Lib.hid e
  clear hc e h
  have hn0 : (n == 0) = false := by rw [beq_eq_false_iff_ne]; omega
  have HX := Lib.hid (Ext_refl w)
  go_enter Try.func83, Try.ntmps83
  go_wp2_with (go_at_call 80; refine (Cells_any _ _ _).mono ?_; rintro e wn ⟨rfl, hb⟩; rw [HC.out]; have HXn := Lib.hid (Ext_trans hb (by repeat' (first | (with_reducible first | exact HX.out | apply Ext_alloc | apply Ext_drewN | apply Ext_drew | (refine Ext_set ?_ ?_) | exact Ext_refl _) | (simp only [World.size_alloc, World.size_setCell, World.size_drew, size_drewN]; omega) | (simp; done) | (simp; omega)))); clear hb HX; have HX := HXn; clear HXn)
  go_quiet (fail)
  all_goals (go_wp2; go_ret)
  exact ⟨by show Ending.returned (Value.int .i64 _) = _; rw [HE.out], (by repeat' (first | (with_reducible first | exact HX.out | apply Ext_alloc | apply Ext_drewN | apply Ext_drew | (refine Ext_set ?_ ?_) | exact Ext_refl _) | (simp only [World.size_alloc, World.size_setCell, World.size_drew, size_drewN]; omega) | (simp; done) | (simp; omega)))⟩

/-! ### attr: bits of a byte -/
def bitB (b : Int) (m : Int) : Bool := Go.bits .and .u8 b m != 0
theorem Protected_any (b : Int) (w : World) : Calls Try.prog 60 #[.int .u8 b] w (Ret (.bool (bitB b 32)) w) := by
  go_enter Try.func60, Try.ntmps60
  go_wp2
  go_ret
  exact ⟨rfl, Ext_refl _⟩
/-! ### plane: what only asks -/
section
variable {g c : Nat} {p : Pl}
theorem Len_any (g c : Nat) (p : Pl) (w : World) (h : PlAt w g c p) : Calls Try.prog 18 #[.pointer (some ⟨g, 0, none⟩)] w (Ret (.int .i64 p.n) w) := by
  obtain ⟨kap, tl, h⟩ := h
  have c2 := h.obj.cell 2
  have hn := h.ok.sz.n1
  unfold Pl.n at hn
  clear h
  go_enter Try.func18, Try.ntmps18
  go_wp2
  go_ret
  exact ⟨rfl, Ext_refl _⟩
theorem Size_any (g c : Nat) (p : Pl) (w : World) (h : PlAt w g c p) : Calls Try.prog 62 #[.pointer (some ⟨g, 0, none⟩)] w (Ret (.agg #[.int .i64 p.rows, .int .i64 p.cols]) w) := by
  obtain ⟨kap, tl, h⟩ := h
  have c0 := h.obj.cell 0
  have c1 := h.obj.cell 1
  have c2 := h.obj.lt
  clear h
  go_enter Try.func62, Try.ntmps62
  go_wp2
  refine bodyPost_ret (v := .agg #[.int .i64 p.rows, .int .i64 p.cols]) (by simp [results, Try.results62, go_sem]) rfl ?_
  exact ⟨rfl, Ext_alloc (Ext_refl _)⟩
theorem Cursor_any (g c : Nat) (p : Pl) (w : World) (h : PlAt w g c p) : Calls Try.prog 19 #[.pointer (some ⟨g, 0, none⟩)] w (Ret (.int .i64 p.cur) w) := by
  obtain ⟨kap, tl, h⟩ := h
  have c0 := h.obj.cell 3
  clear h
  go_enter Try.func19, Try.ntmps19
  go_wp2
  go_ret
  exact ⟨rfl, Ext_refl _⟩
def Pl.has (p : Pl) (i : Int) : Bool := decide (0 ≤ i ∧ i < p.n)
theorem has_any (g c : Nat) (p : Pl) (i : Int) (w : World) (h : PlAt w g c p) : Calls Try.prog 59 #[.pointer (some ⟨g, 0, none⟩), .int .i64 i] w (Ret (.bool (p.has i)) w) := by
  obtain ⟨kap, tl, h⟩ := h
  have c2 := h.obj.cell 2
  have hn := h.ok.sz.n1
  unfold Pl.n at hn
  clear h
  by_cases h0 : 0 ≤ i
  · go_enter Try.func59, Try.ntmps59
    go_wp2
    go_ret
    exact ⟨by simp [Pl.has, Pl.n, h0], Ext_refl _⟩
  · go_enter Try.func59, Try.ntmps59
    go_wp2
    go_ret
    exact ⟨by rw [show p.has i = false from by unfold Pl.has; rw [decide_eq_false]; omega]; rfl, Ext_refl _⟩
theorem PlAt.at_ {w : World} {g c : Nat} {p : Pl} (h : PlAt w g c p) {i : Nat} (hi : i < p.cells.length) : ∃ x, p.at (i : Int) = x ∧ w.cell? ⟨c, i * 5, none⟩ = some (.int .u8 x.b) ∧ w.cell? ⟨c, i * 5 + 1, none⟩ = some (.bool x.ge) ∧ w.cell? ⟨c, i * 5 + 2, none⟩ = some (.bool x.st) ∧
    w.cell? ⟨c, i * 5 + 3, none⟩ = some (.int .u8 x.li) ∧ w.cell? ⟨c, i * 5 + 4, none⟩ = some (.int .u8 x.co) := by
  have hc := h.cell hi
  simp only [Nat.zero_add] at hc
  refine ⟨p.cells[i], ?_, hc 0 _ rfl, hc 1 _ rfl, hc 2 _ rfl, hc 3 _ rfl, hc 4 _ rfl⟩
  unfold Pl.at Pl.n
  rw [if_pos ⟨by omega, by omega⟩]
  simp [hi]
set_option maxHeartbeats 2000000 in
theorem At_yes (g c : Nat) (p : Pl) (k : Nat) (hk : k < p.cells.length) (w : World) (h : PlAt w g c p) : Calls Try.prog 21 #[.pointer (some ⟨g, 0, none⟩), .int .i64 k] w (Ret (p.at k).agg w) := by
  have HP := Lib.hid h
  have HX := Lib.hid (Ext_refl w)
  have hn := h.ok.sz.n1
  unfold Pl.n at hn
  have HH := Lib.hid (show p.has k = true by simp [Pl.has, Pl.n, hk])
  obtain ⟨x, hx, k0, k1, k2, k3, k4⟩ := h.at_ hk
  rw [hx]
  obtain ⟨kap, tl, h⟩ := h
  have c2 := h.obj.cell 2
  simp at c2
  have hg : In g w := h.obj.lt
  have hcc : In c w := h.row.lt
  clear h hx
  go_enter Try.func21, Try.ntmps21
  go_wp2_with fail
  refine (has_any g c p _ _ (HP.out.ext (Ext_alloc (Ext_refl _)))).mono ?_
  rintro e wn ⟨rfl, hb⟩
  rw [HH.out]
  have d2 := (cell_ext hb (In_old hg)).trans ((cell_In hg).trans c2)
  have e0 := (cell_ext hb (In_old hcc)).trans ((cell_In hcc).trans k0)
  have e1 := (cell_ext hb (In_old hcc)).trans ((cell_In hcc).trans k1)
  have e2 := (cell_ext hb (In_old hcc)).trans ((cell_In hcc).trans k2)
  have e3 := (cell_ext hb (In_old hcc)).trans ((cell_In hcc).trans k3)
  have e4 := (cell_ext hb (In_old hcc)).trans ((cell_In hcc).trans k4)
  clear k0 k1 k2 k3 k4 c2 hg hcc
  have hz0 : w.heap.size < wn.heap.size := (by have := hb.size; (try simp only [World.size_alloc, World.size_setCell, World.size_drew, size_drewN] at this); omega); have hc0_0 : wn.cell? ⟨w.heap.size, 0, none⟩ = some (.int .u8 0) := (cell_ext hb (by unfold In; first | omega | (simp; done) | (simp; omega))).trans (by go_simp); have hf0_0 : wn.frozen? ⟨w.heap.size, 0, none⟩ = false := (frozen_ext hb (by unfold In; first | omega | (simp; done) | (simp; omega))).trans (by go_simp); have hc0_1 : wn.cell? ⟨w.heap.size, 1, none⟩ = some (.bool false) := (cell_ext hb (by unfold In; first | omega | (simp; done) | (simp; omega))).trans (by go_simp); have hf0_1 : wn.frozen? ⟨w.heap.size, 1, none⟩ = false := (frozen_ext hb (by unfold In; first | omega | (simp; done) | (simp; omega))).trans (by go_simp); have hc0_2 : wn.cell? ⟨w.heap.size, 2, none⟩ = some (.bool false) := (cell_ext hb (by unfold In; first | omega | (simp; done) | (simp; omega))).trans (by go_simp); have hf0_2 : wn.frozen? ⟨w.heap.size, 2, none⟩ = false := (frozen_ext hb (by unfold In; first | omega | (simp; done) | (simp; omega))).trans (by go_simp); have hc0_3 : wn.cell? ⟨w.heap.size, 3, none⟩ = some (.int .u8 0) := (cell_ext hb (by unfold In; first | omega | (simp; done) | (simp; omega))).trans (by go_simp); have hf0_3 : wn.frozen? ⟨w.heap.size, 3, none⟩ = false := (frozen_ext hb (by unfold In; first | omega | (simp; done) | (simp; omega))).trans (by go_simp); have hc0_4 : wn.cell? ⟨w.heap.size, 4, none⟩ = some (.int .u8 0) := (cell_ext hb (by unfold In; first | omega | (simp; done) | (simp; omega))).trans (by go_simp); have hf0_4 : wn.frozen? ⟨w.heap.size, 4, none⟩ = false := (frozen_ext hb (by unfold In; first | omega | (simp; done) | (simp; omega))).trans (by go_simp); have HXn := Lib.hid (Ext_trans hb (by repeat' (first | (with_reducible first | exact HX.out | apply Ext_alloc | apply Ext_drewN | apply Ext_drew | (refine Ext_set ?_ ?_) | exact Ext_refl _) | (simp only [World.size_alloc, World.size_setCell, World.size_drew, size_drewN]; omega) | (simp; done) | (simp; omega))))
  clear hb HX
  have HX := HXn
  clear HXn
  go_wp2
  clear d2 e0 e1 e2 e3 e4
  refine bodyPost_ret (v := .agg #[.int .u8 x.b, .bool x.ge, .bool x.st, .int .u8 x.li, .int .u8 x.co]) (by simp [results, Try.results21, go_sem, hc0_0, hc0_1, hc0_2, hc0_3, hc0_4]) rfl ?_
  exact ⟨rfl, (by repeat' (first | (with_reducible first | exact HX.out | apply Ext_alloc | apply Ext_drewN | apply Ext_drew | (refine Ext_set ?_ ?_) | exact Ext_refl _) | (simp only [World.size_alloc, World.size_setCell, World.size_drew, size_drewN]; omega) | (simp; done) | (simp; omega)))⟩
set_option maxHeartbeats 2000000 in
theorem At_no (g c : Nat) (p : Pl) (i : Int) (hi : ¬ (0 ≤ i ∧ i < p.n)) (w : World) (h : PlAt w g c p) : Calls Try.prog 21 #[.pointer (some ⟨g, 0, none⟩), .int .i64 i] w (Ret Cel.zero.agg w) := by
  have HP := Lib.hid h
  have HX := Lib.hid (Ext_refl w)
  have HH := Lib.hid (show p.has i = false by simpa [Pl.has] using hi)
  clear h hi
  go_enter Try.func21, Try.ntmps21
  go_wp2_with (go_at_call 59; refine (has_any g c p _ _ (HP.out.ext (Ext_alloc (Ext_refl _)))).mono ?_; rintro e wn ⟨rfl, hb⟩; rw [HH.out]; have hz0 : w.heap.size < wn.heap.size := (by have := hb.size; (try simp only [World.size_alloc, World.size_setCell, World.size_drew, size_drewN] at this); omega); have hc0_0 : wn.cell? ⟨w.heap.size, 0, none⟩ = some (.int .u8 0) := (cell_ext hb (by unfold In; first | omega | (simp; done) | (simp; omega))).trans (by go_simp); have hf0_0 : wn.frozen? ⟨w.heap.size, 0, none⟩ = false := (frozen_ext hb (by unfold In; first | omega | (simp; done) | (simp; omega))).trans (by go_simp); have hc0_1 : wn.cell? ⟨w.heap.size, 1, none⟩ = some (.bool false) := (cell_ext hb (by unfold In; first | omega | (simp; done) | (simp; omega))).trans (by go_simp); have hf0_1 : wn.frozen? ⟨w.heap.size, 1, none⟩ = false := (frozen_ext hb (by unfold In; first | omega | (simp; done) | (simp; omega))).trans (by go_simp); have hc0_2 : wn.cell? ⟨w.heap.size, 2, none⟩ = some (.bool false) := (cell_ext hb (by unfold In; first | omega | (simp; done) | (simp; omega))).trans (by go_simp); have hf0_2 : wn.frozen? ⟨w.heap.size, 2, none⟩ = false := (frozen_ext hb (by unfold In; first | omega | (simp; done) | (simp; omega))).trans (by go_simp); have hc0_3 : wn.cell? ⟨w.heap.size, 3, none⟩ = some (.int .u8 0) := (cell_ext hb (by unfold In; first | omega | (simp; done) | (simp; omega))).trans (by go_simp); have hf0_3 : wn.frozen? ⟨w.heap.size, 3, none⟩ = false := (frozen_ext hb (by unfold In; first | omega | (simp; done) | (simp; omega))).trans (by go_simp); have hc0_4 : wn.cell? ⟨w.heap.size, 4, none⟩ = some (.int .u8 0) := (cell_ext hb (by unfold In; first | omega | (simp; done) | (simp; omega))).trans (by go_simp); have hf0_4 : wn.frozen? ⟨w.heap.size, 4, none⟩ = false := (frozen_ext hb (by unfold In; first | omega | (simp; done) | (simp; omega))).trans (by go_simp); have HXn := Lib.hid (Ext_trans hb (by repeat' (first | (with_reducible first | exact HX.out | apply Ext_alloc | apply Ext_drewN | apply Ext_drew | (refine Ext_set ?_ ?_) | exact Ext_refl _) | (simp only [World.size_alloc, World.size_setCell, World.size_drew, size_drewN]; omega) | (simp; done) | (simp; omega)))); clear hb HX; have HX := HXn; clear HXn)
  refine bodyPost_ret (v := Cel.zero.agg) (by simp [results, Try.results21, go_sem, Cel.agg, Cel.zero, *]) rfl ?_
  exact ⟨rfl, (by repeat' (first | (with_reducible first | exact HX.out | apply Ext_alloc | apply Ext_drewN | apply Ext_drew | (refine Ext_set ?_ ?_) | exact Ext_refl _) | (simp only [World.size_alloc, World.size_setCell, World.size_drew, size_drewN]; omega) | (simp; done) | (simp; omega)))⟩
theorem At_any (g c : Nat) (p : Pl) (i : Int) (w : World) (h : PlAt w g c p) : Calls Try.prog 21 #[.pointer (some ⟨g, 0, none⟩), .int .i64 i] w (Ret (.agg #[.int .u8 (p.at i).b, .bool (p.at i).ge, .bool (p.at i).st, .int .u8 (p.at i).li, .int .u8 (p.at i).co]) w) := by
  show Calls _ _ _ _ (Ret (p.at i).agg w)
  by_cases hi : 0 ≤ i ∧ i < p.n
  · obtain ⟨k, rfl⟩ := Int.eq_ofNat_of_zero_le hi.1
    exact At_yes g c p k (by have := hi.2; unfold Pl.n at this; omega) w h
  · rw [show p.at i = Cel.zero by unfold Pl.at; rw [if_neg hi]]
    exact At_no g c p i hi w h
end
theorem field_b (b : Int) (ge st : Bool) (li co : Int) (W : World) : (Instr.field 38 (.agg #[.int .u8 b, .bool ge, .bool st, .int .u8 li, .int .u8 co]) 0).run Try.prog W = .ok (.int .u8 b) W := by kernel_rfl
theorem field_st (b : Int) (ge st : Bool) (li co : Int) (W : World) : (Instr.field 38 (.agg #[.int .u8 b, .bool ge, .bool st, .int .u8 li, .int .u8 co]) 2).run Try.prog W = .ok (.bool st) W := by kernel_rfl
end Go.Proofs.Ytmcfckdgolojlaa
/- Fields of a plane: the package field's functions that only ask (look, Before, After, at, Of, Open, Formatted). -/
namespace Go.Proofs.Ytmcfckdgolojlaa
set_option linter.unusedVariables false
set_option linter.unusedSimpArgs false
open Go.RowKit

/-- the i-th place, from at_ on, step by step -/
def plc (n at_ step : Int) (i : Nat) : Int := (at_ + (i : Int) * step) % n
theorem plc_bd {n : Int} (hn : 1 ≤ n) (at_ step : Int) (i : Nat) : 0 ≤ plc n at_ step i ∧ plc n at_ step i < n := ⟨Int.emod_nonneg _ (by omega), Int.emod_lt_of_pos _ (by omega)⟩
/-- does an attribute stand at a place? -/
def Pl.st (p : Pl) (i : Int) : Bool := (p.at i).st
/-- the first of the places that f takes, among the first m -/
def scan (f : Int → Bool) (n at_ step : Int) : Nat → Option Int
  | 0 => none
  | m + 1 => (scan f n at_ step m).or (if f (plc n at_ step m) then some (plc n at_ step m) else none)
def Pl.lookM (p : Pl) (at_ step : Int) : Int := if 0 ≤ at_ ∧ at_ < p.n then (scan p.st p.n at_ step p.cells.length).getD (-1) else -1
theorem scan_none_succ {f : Int → Bool} {n a s : Int} {m : Nat} (h : scan f n a s m = none) : scan f n a s (m + 1) = if f (plc n a s m) then some (plc n a s m) else none := by rw [scan, h]; rfl
theorem scan_mono {f : Int → Bool} {n a s : Int} {x : Int} : ∀ {m k : Nat}, m ≤ k → scan f n a s m = some x → scan f n a s k = some x := by
  intro m k hk h
  induction k with
  | zero =>
    have : m = 0 := by omega
    subst this; exact h
  | succ k ih =>
    by_cases e : m = k + 1
    · rw [← e]; exact h
    · rw [scan, ih (by omega)]; rfl

set_option maxRecDepth 100000 in
set_option maxHeartbeats 2000000 in
theorem look_any (g c : Nat) (p : Pl) (at_ step : Int) (hs : step = 1 ∨ step = -1) (w : World) (h : PlAt w g c p) :
    Calls Try.prog 64 #[.pointer (some ⟨g, 0, none⟩), .int .i64 at_, .int .i64 step] w (Ret (.int .i64 (p.lookM at_ step)) w) := by
  have HP := Lib.hid h
  have HX := Lib.hid (Ext_refl w)
  have n0 := h.ok.sz.n0
  have n1 := h.ok.sz.n1
  have HZ := Lib.hid h.ok.sz
  have hpn : p.n = (p.cells.length : Int) := rfl
  have HN := Lib.hid hpn
  clear h hpn
  by_cases hi : 0 ≤ at_
  · by_cases hj : at_ < p.n
    · have HL := Lib.hid (show p.lookM at_ step = (scan p.st p.n at_ step p.cells.length).getD (-1) by unfold Pl.lookM; rw [if_pos ⟨hi, hj⟩])
      rw [HL.out]
      go_enter Try.func64, Try.ntmps64
      go_wp2_with (go_at_call 18; refine (Len_any g c p _ (HP.out.ext (by repeat' (first | (with_reducible first | exact HX.out | apply Ext_alloc | apply Ext_drewN | apply Ext_drew | (refine Ext_set ?_ ?_) | exact Ext_refl _) | (simp only [World.size_alloc, World.size_setCell, World.size_drew, size_drewN]; omega) | (simp; done) | (simp; omega))))).mono ?_; rintro e wn ⟨rfl, hb⟩; have HXn := Lib.hid (Ext_trans hb (by repeat' (first | (with_reducible first | exact HX.out | apply Ext_alloc | apply Ext_drewN | apply Ext_drew | (refine Ext_set ?_ ?_) | exact Ext_refl _) | (simp only [World.size_alloc, World.size_setCell, World.size_drew, size_drewN]; omega) | (simp; done) | (simp; omega)))); clear hb HX; have HX := HXn; clear HXn)
      go_loopw [7, 8, 19] (fun _ _ v wr => ∃ k : Nat, (k : Int) ≤ p.n ∧ v = .int .i64 k ∧ Hid (scan p.st p.n at_ step k = none) ∧ Hid (Ext w wr)) (fun _ _ v _ => p.cells.length - (intOf v).toNat)
      case atStart => exact ⟨0, by omega, rfl, rfl, HX.out⟩
      case round =>
        obtain ⟨k, hk, rfl, HS, HX⟩ := hrel
        by_cases hlt : (k : Int) < p.n
        · have HB := Lib.hid (plc_bd n0 at_ step k)
          cases hst : p.st (plc p.n at_ step k)
          all_goals
            have HW := Lib.hid (show (at_ + wrap64 ((k : Int) * step)) % p.n = plc p.n at_ step k by
              have : wrap64 ((k : Int) * step) = (k : Int) * step := by rcases hs with rfl | rfl <;> unfold wrap64 <;> omega
              rw [this]; rfl)
            have HT := Lib.hid hst
            have HC := Lib.hid (scan_none_succ HS.out)
            clear hst
            go_wp2_with fail
            refine (Size_any g c p _ (HP.out.ext HX.out)).mono ?_
            rintro e wn ⟨rfl, hb⟩
            have HXn := Lib.hid (Ext_trans hb (by repeat' (first | (with_reducible first | exact HX.out | apply Ext_alloc | apply Ext_drewN | apply Ext_drew | (refine Ext_set ?_ ?_) | exact Ext_refl _) | (simp only [World.size_alloc, World.size_setCell, World.size_drew, size_drewN]; omega) | (simp; done) | (simp; omega)))); clear hb HX; have HX := HXn; clear HXn
            go_wp2_with fail
            refine (Move_any _ _ _ _ p.n HZ.out _).mono ?_
            rintro e wn ⟨rfl, hb⟩
            rw [HW.out]
            have HXn := Lib.hid (Ext_trans hb (by repeat' (first | (with_reducible first | exact HX.out | apply Ext_alloc | apply Ext_drewN | apply Ext_drew | (refine Ext_set ?_ ?_) | exact Ext_refl _) | (simp only [World.size_alloc, World.size_setCell, World.size_drew, size_drewN]; omega) | (simp; done) | (simp; omega)))); clear hb HX; have HX := HXn; clear HXn
            go_wp2_with fail
            refine (At_any g c p _ _ (HP.out.ext HX.out)).mono ?_
            rintro e wn ⟨rfl, hb⟩
            rw [show (p.at (plc p.n at_ step k)).st = _ from HT.out]
            have HXn := Lib.hid (Ext_trans hb (by repeat' (first | (with_reducible first | exact HX.out | apply Ext_alloc | apply Ext_drewN | apply Ext_drew | (refine Ext_set ?_ ?_) | exact Ext_refl _) | (simp only [World.size_alloc, World.size_setCell, World.size_drew, size_drewN]; omega) | (simp; done) | (simp; omega)))); clear hb HX; have HX := HXn; clear HXn
            have hF := field_st
            go_wp2
          · go_roundw
            case rel => exact ⟨k + 1, by omega, by go_num, by rw [HC.out, HT.out]; rfl, HX.out⟩
            case measure => simp [intOf]; have := HN.out; omega
          · go_ret
            exact ⟨by rw [scan_mono (k := p.cells.length) (m := k + 1) (by have := HN.out; omega) (by rw [HC.out, HT.out]; rfl)]; rfl, HX.out⟩
        · have : k = p.cells.length := by have := HN.out; omega
          subst this
          go_wp2
          go_ret
          exact ⟨by rw [HS.out]; rfl, HX.out⟩
    · have HL := Lib.hid (show p.lookM at_ step = -1 by unfold Pl.lookM; rw [if_neg (fun h => hj h.2)])
      rw [HL.out]
      go_enter Try.func64, Try.ntmps64
      go_wp2_with (go_at_call 18; refine (Len_any g c p _ (HP.out.ext (by repeat' (first | (with_reducible first | exact HX.out | apply Ext_alloc | apply Ext_drewN | apply Ext_drew | (refine Ext_set ?_ ?_) | exact Ext_refl _) | (simp only [World.size_alloc, World.size_setCell, World.size_drew, size_drewN]; omega) | (simp; done) | (simp; omega))))).mono ?_; rintro e wn ⟨rfl, hb⟩; have HXn := Lib.hid (Ext_trans hb (by repeat' (first | (with_reducible first | exact HX.out | apply Ext_alloc | apply Ext_drewN | apply Ext_drew | (refine Ext_set ?_ ?_) | exact Ext_refl _) | (simp only [World.size_alloc, World.size_setCell, World.size_drew, size_drewN]; omega) | (simp; done) | (simp; omega)))); clear hb HX; have HX := HXn; clear HXn)
      go_ret
      exact ⟨rfl, HX.out⟩
  · have HL := Lib.hid (show p.lookM at_ step = -1 by unfold Pl.lookM; rw [if_neg (fun h => hi h.1)])
    rw [HL.out]
    go_enter Try.func64, Try.ntmps64
    go_wp2_with (go_at_call 18; refine (Len_any g c p _ (HP.out.ext (by repeat' (first | (with_reducible first | exact HX.out | apply Ext_alloc | apply Ext_drewN | apply Ext_drew | (refine Ext_set ?_ ?_) | exact Ext_refl _) | (simp only [World.size_alloc, World.size_setCell, World.size_drew, size_drewN]; omega) | (simp; done) | (simp; omega))))).mono ?_; rintro e wn ⟨rfl, hb⟩; have HXn := Lib.hid (Ext_trans hb (by repeat' (first | (with_reducible first | exact HX.out | apply Ext_alloc | apply Ext_drewN | apply Ext_drew | (refine Ext_set ?_ ?_) | exact Ext_refl _) | (simp only [World.size_alloc, World.size_setCell, World.size_drew, size_drewN]; omega) | (simp; done) | (simp; omega)))); clear hb HX; have HX := HXn; clear HXn)
    go_ret
    exact ⟨rfl, HX.out⟩
theorem lookM_bd (p : Pl) (h : p.Ok) (a s : Int) : -1 ≤ p.lookM a s ∧ p.lookM a s < p.n := by
  unfold Pl.lookM
  split
  · have : ∀ m, -1 ≤ (scan p.st p.n a s m).getD (-1) ∧ (scan p.st p.n a s m).getD (-1) < p.n := by
      intro m
      induction m with
      | zero => have := h.sz.n0; exact ⟨Int.le_refl _, show (-1 : Int) < p.n by omega⟩
      | succ m ih =>
        unfold scan
        cases e : scan p.st p.n a s m with
        | some x => rw [e] at ih; exact ih
        | none =>
          have := plc_bd h.sz.n0 a s m
          have := h.sz.n0
          dsimp only [Option.none_or]
          split
          · exact ⟨show (-1 : Int) ≤ plc p.n a s m by omega, show plc p.n a s m < p.n by omega⟩
          · exact ⟨Int.le_refl _, show (-1 : Int) < p.n by omega⟩
    exact this _
  · have := h.sz.n0; omega

theorem Before_any (g c : Nat) (p : Pl) (i : Int) (w : World) (h : PlAt w g c p) : Calls Try.prog 71 #[.pointer (some ⟨g, 0, none⟩), .int .i64 i] w (Ret (.int .i64 (p.lookM i (-1))) w) := by
  have HP := Lib.hid h
  clear h
  go_enter Try.func71, Try.ntmps71
  go_wp2_with fail
  refine (look_any g c p _ _ (.inr rfl) _ HP.out).mono ?_
  rintro e wn ⟨rfl, hb⟩
  have HX := Lib.hid hb
  clear hb
  go_wp2
  go_ret
  exact ⟨rfl, HX.out⟩
/-- the next attribute's place -/
def Pl.after (p : Pl) (i : Int) : Int := if 0 ≤ i ∧ i < p.n then p.lookM ((i + 1) % p.n) 1 else -1
theorem After_any (g c : Nat) (p : Pl) (i : Int) (w : World) (h : PlAt w g c p) : Calls Try.prog 87 #[.pointer (some ⟨g, 0, none⟩), .int .i64 i] w (Ret (.int .i64 (p.after i)) w) := by
  have HP := Lib.hid h
  have HZ := Lib.hid h.ok.sz
  have HX := Lib.hid (Ext_refl w)
  have n0 := h.ok.sz.n0
  have n1 := h.ok.sz.n1
  clear h
  by_cases hi : 0 ≤ i
  · by_cases hj : i < p.n
    · have HL := Lib.hid (show p.after i = p.lookM ((i + 1) % p.n) 1 by unfold Pl.after; rw [if_pos ⟨hi, hj⟩])
      rw [HL.out]
      go_enter Try.func87, Try.ntmps87
      go_wp2_with (first | (go_at_call 18; refine (Len_any g c p _ (HP.out.ext (by repeat' (first | (with_reducible first | exact HX.out | apply Ext_alloc | apply Ext_drewN | apply Ext_drew | (refine Ext_set ?_ ?_) | exact Ext_refl _) | (simp only [World.size_alloc, World.size_setCell, World.size_drew, size_drewN]; omega) | (simp; done) | (simp; omega))))).mono ?_; rintro e wn ⟨rfl, hb⟩; have HXn := Lib.hid (Ext_trans hb (by repeat' (first | (with_reducible first | exact HX.out | apply Ext_alloc | apply Ext_drewN | apply Ext_drew | (refine Ext_set ?_ ?_) | exact Ext_refl _) | (simp only [World.size_alloc, World.size_setCell, World.size_drew, size_drewN]; omega) | (simp; done) | (simp; omega)))); clear hb HX; have HX := HXn; clear HXn) | (go_at_call 62; refine (Size_any g c p _ (HP.out.ext (by repeat' (first | (with_reducible first | exact HX.out | apply Ext_alloc | apply Ext_drewN | apply Ext_drew | (refine Ext_set ?_ ?_) | exact Ext_refl _) | (simp only [World.size_alloc, World.size_setCell, World.size_drew, size_drewN]; omega) | (simp; done) | (simp; omega))))).mono ?_; rintro e wn ⟨rfl, hb⟩; have HXn := Lib.hid (Ext_trans hb (by repeat' (first | (with_reducible first | exact HX.out | apply Ext_alloc | apply Ext_drewN | apply Ext_drew | (refine Ext_set ?_ ?_) | exact Ext_refl _) | (simp only [World.size_alloc, World.size_setCell, World.size_drew, size_drewN]; omega) | (simp; done) | (simp; omega)))); clear hb HX; have HX := HXn; clear HXn) | (go_at_call 83; refine (Move_any _ _ _ _ p.n HZ.out _).mono ?_; rintro e wn ⟨rfl, hb⟩; have HXn := Lib.hid (Ext_trans hb (by repeat' (first | (with_reducible first | exact HX.out | apply Ext_alloc | apply Ext_drewN | apply Ext_drew | (refine Ext_set ?_ ?_) | exact Ext_refl _) | (simp only [World.size_alloc, World.size_setCell, World.size_drew, size_drewN]; omega) | (simp; done) | (simp; omega)))); clear hb HX; have HX := HXn; clear HXn) | (go_at_call 64; refine (look_any g c p _ _ (.inl rfl) _ (HP.out.ext (by repeat' (first | (with_reducible first | exact HX.out | apply Ext_alloc | apply Ext_drewN | apply Ext_drew | (refine Ext_set ?_ ?_) | exact Ext_refl _) | (simp only [World.size_alloc, World.size_setCell, World.size_drew, size_drewN]; omega) | (simp; done) | (simp; omega))))).mono ?_; rintro e wn ⟨rfl, hb⟩; have HXn := Lib.hid (Ext_trans hb (by repeat' (first | (with_reducible first | exact HX.out | apply Ext_alloc | apply Ext_drewN | apply Ext_drew | (refine Ext_set ?_ ?_) | exact Ext_refl _) | (simp only [World.size_alloc, World.size_setCell, World.size_drew, size_drewN]; omega) | (simp; done) | (simp; omega)))); clear hb HX; have HX := HXn; clear HXn))
      go_ret
      exact ⟨rfl, (by repeat' (first | (with_reducible first | exact HX.out | apply Ext_alloc | apply Ext_drewN | apply Ext_drew | (refine Ext_set ?_ ?_) | exact Ext_refl _) | (simp only [World.size_alloc, World.size_setCell, World.size_drew, size_drewN]; omega) | (simp; done) | (simp; omega)))⟩
    · have HL := Lib.hid (show p.after i = -1 by unfold Pl.after; rw [if_neg (fun h => hj h.2)])
      rw [HL.out]
      go_enter Try.func87, Try.ntmps87
      go_wp2_with (go_at_call 18; refine (Len_any g c p _ (HP.out.ext (by repeat' (first | (with_reducible first | exact HX.out | apply Ext_alloc | apply Ext_drewN | apply Ext_drew | (refine Ext_set ?_ ?_) | exact Ext_refl _) | (simp only [World.size_alloc, World.size_setCell, World.size_drew, size_drewN]; omega) | (simp; done) | (simp; omega))))).mono ?_; rintro e wn ⟨rfl, hb⟩; have HXn := Lib.hid (Ext_trans hb (by repeat' (first | (with_reducible first | exact HX.out | apply Ext_alloc | apply Ext_drewN | apply Ext_drew | (refine Ext_set ?_ ?_) | exact Ext_refl _) | (simp only [World.size_alloc, World.size_setCell, World.size_drew, size_drewN]; omega) | (simp; done) | (simp; omega)))); clear hb HX; have HX := HXn; clear HXn)
      go_ret
      exact ⟨rfl, (by repeat' (first | (with_reducible first | exact HX.out | apply Ext_alloc | apply Ext_drewN | apply Ext_drew | (refine Ext_set ?_ ?_) | exact Ext_refl _) | (simp only [World.size_alloc, World.size_setCell, World.size_drew, size_drewN]; omega) | (simp; done) | (simp; omega)))⟩
  · have HL := Lib.hid (show p.after i = -1 by unfold Pl.after; rw [if_neg (fun h => hi h.1)])
    rw [HL.out]
    go_enter Try.func87, Try.ntmps87
    go_wp2_with (go_at_call 18; refine (Len_any g c p _ (HP.out.ext (by repeat' (first | (with_reducible first | exact HX.out | apply Ext_alloc | apply Ext_drewN | apply Ext_drew | (refine Ext_set ?_ ?_) | exact Ext_refl _) | (simp only [World.size_alloc, World.size_setCell, World.size_drew, size_drewN]; omega) | (simp; done) | (simp; omega))))).mono ?_; rintro e wn ⟨rfl, hb⟩; have HXn := Lib.hid (Ext_trans hb (by repeat' (first | (with_reducible first | exact HX.out | apply Ext_alloc | apply Ext_drewN | apply Ext_drew | (refine Ext_set ?_ ?_) | exact Ext_refl _) | (simp only [World.size_alloc, World.size_setCell, World.size_drew, size_drewN]; omega) | (simp; done) | (simp; omega)))); clear hb HX; have HX := HXn; clear HXn)
    go_ret
    exact ⟨rfl, (by repeat' (first | (with_reducible first | exact HX.out | apply Ext_alloc | apply Ext_drewN | apply Ext_drew | (refine Ext_set ?_ ?_) | exact Ext_refl _) | (simp only [World.size_alloc, World.size_setCell, World.size_drew, size_drewN]; omega) | (simp; done) | (simp; omega)))⟩
end Go.Proofs.Ytmcfckdgolojlaa
/- Fields of a plane: at, Of, Open. -/
namespace Go.Proofs.Ytmcfckdgolojlaa
set_option linter.unusedVariables false
set_option linter.unusedSimpArgs false
open Go.RowKit

/-- how many cells belong to the attribute at i -/
def Pl.lenAt (p : Pl) (i : Int) : Int := if p.after i - i - 1 < 0 then p.after i - i - 1 + p.n else p.after i - i - 1
def Pl.attrAt (p : Pl) (i : Int) : Int := Go.bits .and .u8 (p.at i).b 63
theorem after_bd (p : Pl) (h : p.Ok) (i : Int) : -1 ≤ p.after i ∧ p.after i < p.n := by
  unfold Pl.after
  split
  · exact lookM_bd p h _ _
  · have := h.sz.n0; omega
set_option maxRecDepth 100000 in
set_option maxHeartbeats 2000000 in
theorem at_any (g c : Nat) (p : Pl) (i : Int) (h0 : 0 ≤ i) (h1 : i < p.n) (w : World) (h : PlAt w g c p) :
    Calls Try.prog 72 #[.pointer (some ⟨g, 0, none⟩), .int .i64 i] w (Ret (.agg #[.int .i64 i, .int .i64 (p.lenAt i), .int .u8 (p.attrAt i)]) w) := by
  have HP := Lib.hid h
  have HX := Lib.hid (Ext_refl w)
  have n0 := h.ok.sz.n0
  have n1 := h.ok.sz.n1
  obtain ⟨a0, a1⟩ := after_bd p h.ok i
  clear h
  have hF := field_b
  by_cases hneg : p.after i - i - 1 < 0
  · have HL := Lib.hid (show p.lenAt i = p.after i - i - 1 + p.n by unfold Pl.lenAt; rw [if_pos hneg])
    rw [HL.out]
    go_enter Try.func72, Try.ntmps72
    go_wp2_with (first | (go_at_call 87; refine (After_any g c p _ _ (HP.out.ext (by repeat' (first | (with_reducible first | exact HX.out | apply Ext_alloc | apply Ext_drewN | apply Ext_drew | (refine Ext_set ?_ ?_) | exact Ext_refl _) | (simp only [World.size_alloc, World.size_setCell, World.size_drew, size_drewN]; omega) | (simp; done) | (simp; omega))))).mono ?_; rintro e wn ⟨rfl, hb⟩; have hz0 : w.heap.size < wn.heap.size := (by have := hb.size; (try simp only [World.size_alloc, World.size_setCell, World.size_drew, size_drewN] at this); omega); have hc0_0 : wn.cell? ⟨w.heap.size, 0, none⟩ = some (.int .i64 0) := (cell_ext hb (by unfold In; first | omega | (simp; done) | (simp; omega))).trans (by go_simp); have hf0_0 : wn.frozen? ⟨w.heap.size, 0, none⟩ = false := (frozen_ext hb (by unfold In; first | omega | (simp; done) | (simp; omega))).trans (by go_simp); have hc0_1 : wn.cell? ⟨w.heap.size, 1, none⟩ = some (.int .i64 0) := (cell_ext hb (by unfold In; first | omega | (simp; done) | (simp; omega))).trans (by go_simp); have hf0_1 : wn.frozen? ⟨w.heap.size, 1, none⟩ = false := (frozen_ext hb (by unfold In; first | omega | (simp; done) | (simp; omega))).trans (by go_simp); have hc0_2 : wn.cell? ⟨w.heap.size, 2, none⟩ = some (.int .u8 0) := (cell_ext hb (by unfold In; first | omega | (simp; done) | (simp; omega))).trans (by go_simp); have hf0_2 : wn.frozen? ⟨w.heap.size, 2, none⟩ = false := (frozen_ext hb (by unfold In; first | omega | (simp; done) | (simp; omega))).trans (by go_simp); have HXn := Lib.hid (Ext_trans hb (by repeat' (first | (with_reducible first | exact HX.out | apply Ext_alloc | apply Ext_drewN | apply Ext_drew | (refine Ext_set ?_ ?_) | exact Ext_refl _) | (simp only [World.size_alloc, World.size_setCell, World.size_drew, size_drewN]; omega) | (simp; done) | (simp; omega)))); clear hb HX; have HX := HXn; clear HXn) | (go_at_call 18; refine (Len_any g c p _ (HP.out.ext (by repeat' (first | (with_reducible first | exact HX.out | apply Ext_alloc | apply Ext_drewN | apply Ext_drew | (refine Ext_set ?_ ?_) | exact Ext_refl _) | (simp only [World.size_alloc, World.size_setCell, World.size_drew, size_drewN]; omega) | (simp; done) | (simp; omega))))).mono ?_; rintro e wn ⟨rfl, hb⟩; have hz0 : w.heap.size < wn.heap.size := (by have := hb.size; (try simp only [World.size_alloc, World.size_setCell, World.size_drew, size_drewN] at this); omega); have hc0_0 : wn.cell? ⟨w.heap.size, 0, none⟩ = some (.int .i64 0) := (cell_ext hb (by unfold In; first | omega | (simp; done) | (simp; omega))).trans (by go_simp); have hf0_0 : wn.frozen? ⟨w.heap.size, 0, none⟩ = false := (frozen_ext hb (by unfold In; first | omega | (simp; done) | (simp; omega))).trans (by go_simp); have hc0_1 : wn.cell? ⟨w.heap.size, 1, none⟩ = some (.int .i64 0) := (cell_ext hb (by unfold In; first | omega | (simp; done) | (simp; omega))).trans (by go_simp); have hf0_1 : wn.frozen? ⟨w.heap.size, 1, none⟩ = false := (frozen_ext hb (by unfold In; first | omega | (simp; done) | (simp; omega))).trans (by go_simp); have hc0_2 : wn.cell? ⟨w.heap.size, 2, none⟩ = some (.int .u8 0) := (cell_ext hb (by unfold In; first | omega | (simp; done) | (simp; omega))).trans (by go_simp); have hf0_2 : wn.frozen? ⟨w.heap.size, 2, none⟩ = false := (frozen_ext hb (by unfold In; first | omega | (simp; done) | (simp; omega))).trans (by go_simp); have HXn := Lib.hid (Ext_trans hb (by repeat' (first | (with_reducible first | exact HX.out | apply Ext_alloc | apply Ext_drewN | apply Ext_drew | (refine Ext_set ?_ ?_) | exact Ext_refl _) | (simp only [World.size_alloc, World.size_setCell, World.size_drew, size_drewN]; omega) | (simp; done) | (simp; omega)))); clear hb HX; have HX := HXn; clear HXn) | (go_at_call 21; refine (At_any g c p _ _ (HP.out.ext (by repeat' (first | (with_reducible first | exact HX.out | apply Ext_alloc | apply Ext_drewN | apply Ext_drew | (refine Ext_set ?_ ?_) | exact Ext_refl _) | (simp only [World.size_alloc, World.size_setCell, World.size_drew, size_drewN]; omega) | (simp; done) | (simp; omega))))).mono ?_; rintro e wn ⟨rfl, hb⟩; have hz0 : w.heap.size < wn.heap.size := (by have := hb.size; (try simp only [World.size_alloc, World.size_setCell, World.size_drew, size_drewN] at this); omega); have hc0_0 : wn.cell? ⟨w.heap.size, 0, none⟩ = some (.int .i64 0) := (cell_ext hb (by unfold In; first | omega | (simp; done) | (simp; omega))).trans (by go_simp); have hf0_0 : wn.frozen? ⟨w.heap.size, 0, none⟩ = false := (frozen_ext hb (by unfold In; first | omega | (simp; done) | (simp; omega))).trans (by go_simp); have hc0_1 : wn.cell? ⟨w.heap.size, 1, none⟩ = some (.int .i64 0) := (cell_ext hb (by unfold In; first | omega | (simp; done) | (simp; omega))).trans (by go_simp); have hf0_1 : wn.frozen? ⟨w.heap.size, 1, none⟩ = false := (frozen_ext hb (by unfold In; first | omega | (simp; done) | (simp; omega))).trans (by go_simp); have hc0_2 : wn.cell? ⟨w.heap.size, 2, none⟩ = some (.int .u8 0) := (cell_ext hb (by unfold In; first | omega | (simp; done) | (simp; omega))).trans (by go_simp); have hf0_2 : wn.frozen? ⟨w.heap.size, 2, none⟩ = false := (frozen_ext hb (by unfold In; first | omega | (simp; done) | (simp; omega))).trans (by go_simp); have HXn := Lib.hid (Ext_trans hb (by repeat' (first | (with_reducible first | exact HX.out | apply Ext_alloc | apply Ext_drewN | apply Ext_drew | (refine Ext_set ?_ ?_) | exact Ext_refl _) | (simp only [World.size_alloc, World.size_setCell, World.size_drew, size_drewN]; omega) | (simp; done) | (simp; omega)))); clear hb HX; have HX := HXn; clear HXn))
    refine bodyPost_ret (v := .agg #[.int .i64 i, .int .i64 (p.after i - i - 1 + p.n), .int .u8 (p.attrAt i)]) (by simp [results, Try.results72, go_sem, Pl.attrAt, hc0_0, hc0_1, hc0_2]) rfl ?_
    exact ⟨rfl, (by repeat' (first | (with_reducible first | exact HX.out | apply Ext_alloc | apply Ext_drewN | apply Ext_drew | (refine Ext_set ?_ ?_) | exact Ext_refl _) | (simp only [World.size_alloc, World.size_setCell, World.size_drew, size_drewN]; omega) | (simp; done) | (simp; omega)))⟩
  · have HL := Lib.hid (show p.lenAt i = p.after i - i - 1 by unfold Pl.lenAt; rw [if_neg hneg])
    rw [HL.out]
    go_enter Try.func72, Try.ntmps72
    go_wp2_with (first | (go_at_call 87; refine (After_any g c p _ _ (HP.out.ext (by repeat' (first | (with_reducible first | exact HX.out | apply Ext_alloc | apply Ext_drewN | apply Ext_drew | (refine Ext_set ?_ ?_) | exact Ext_refl _) | (simp only [World.size_alloc, World.size_setCell, World.size_drew, size_drewN]; omega) | (simp; done) | (simp; omega))))).mono ?_; rintro e wn ⟨rfl, hb⟩; have hz0 : w.heap.size < wn.heap.size := (by have := hb.size; (try simp only [World.size_alloc, World.size_setCell, World.size_drew, size_drewN] at this); omega); have hc0_0 : wn.cell? ⟨w.heap.size, 0, none⟩ = some (.int .i64 0) := (cell_ext hb (by unfold In; first | omega | (simp; done) | (simp; omega))).trans (by go_simp); have hf0_0 : wn.frozen? ⟨w.heap.size, 0, none⟩ = false := (frozen_ext hb (by unfold In; first | omega | (simp; done) | (simp; omega))).trans (by go_simp); have hc0_1 : wn.cell? ⟨w.heap.size, 1, none⟩ = some (.int .i64 0) := (cell_ext hb (by unfold In; first | omega | (simp; done) | (simp; omega))).trans (by go_simp); have hf0_1 : wn.frozen? ⟨w.heap.size, 1, none⟩ = false := (frozen_ext hb (by unfold In; first | omega | (simp; done) | (simp; omega))).trans (by go_simp); have hc0_2 : wn.cell? ⟨w.heap.size, 2, none⟩ = some (.int .u8 0) := (cell_ext hb (by unfold In; first | omega | (simp; done) | (simp; omega))).trans (by go_simp); have hf0_2 : wn.frozen? ⟨w.heap.size, 2, none⟩ = false := (frozen_ext hb (by unfold In; first | omega | (simp; done) | (simp; omega))).trans (by go_simp); have HXn := Lib.hid (Ext_trans hb (by repeat' (first | (with_reducible first | exact HX.out | apply Ext_alloc | apply Ext_drewN | apply Ext_drew | (refine Ext_set ?_ ?_) | exact Ext_refl _) | (simp only [World.size_alloc, World.size_setCell, World.size_drew, size_drewN]; omega) | (simp; done) | (simp; omega)))); clear hb HX; have HX := HXn; clear HXn) | (go_at_call 21; refine (At_any g c p _ _ (HP.out.ext (by repeat' (first | (with_reducible first | exact HX.out | apply Ext_alloc | apply Ext_drewN | apply Ext_drew | (refine Ext_set ?_ ?_) | exact Ext_refl _) | (simp only [World.size_alloc, World.size_setCell, World.size_drew, size_drewN]; omega) | (simp; done) | (simp; omega))))).mono ?_; rintro e wn ⟨rfl, hb⟩; have hz0 : w.heap.size < wn.heap.size := (by have := hb.size; (try simp only [World.size_alloc, World.size_setCell, World.size_drew, size_drewN] at this); omega); have hc0_0 : wn.cell? ⟨w.heap.size, 0, none⟩ = some (.int .i64 0) := (cell_ext hb (by unfold In; first | omega | (simp; done) | (simp; omega))).trans (by go_simp); have hf0_0 : wn.frozen? ⟨w.heap.size, 0, none⟩ = false := (frozen_ext hb (by unfold In; first | omega | (simp; done) | (simp; omega))).trans (by go_simp); have hc0_1 : wn.cell? ⟨w.heap.size, 1, none⟩ = some (.int .i64 0) := (cell_ext hb (by unfold In; first | omega | (simp; done) | (simp; omega))).trans (by go_simp); have hf0_1 : wn.frozen? ⟨w.heap.size, 1, none⟩ = false := (frozen_ext hb (by unfold In; first | omega | (simp; done) | (simp; omega))).trans (by go_simp); have hc0_2 : wn.cell? ⟨w.heap.size, 2, none⟩ = some (.int .u8 0) := (cell_ext hb (by unfold In; first | omega | (simp; done) | (simp; omega))).trans (by go_simp); have hf0_2 : wn.frozen? ⟨w.heap.size, 2, none⟩ = false := (frozen_ext hb (by unfold In; first | omega | (simp; done) | (simp; omega))).trans (by go_simp); have HXn := Lib.hid (Ext_trans hb (by repeat' (first | (with_reducible first | exact HX.out | apply Ext_alloc | apply Ext_drewN | apply Ext_drew | (refine Ext_set ?_ ?_) | exact Ext_refl _) | (simp only [World.size_alloc, World.size_setCell, World.size_drew, size_drewN]; omega) | (simp; done) | (simp; omega)))); clear hb HX; have HX := HXn; clear HXn))
    refine bodyPost_ret (v := .agg #[.int .i64 i, .int .i64 (p.after i - i - 1), .int .u8 (p.attrAt i)]) (by simp [results, Try.results72, go_sem, Pl.attrAt, hc0_0, hc0_1, hc0_2]) rfl ?_
    exact ⟨rfl, (by repeat' (first | (with_reducible first | exact HX.out | apply Ext_alloc | apply Ext_drewN | apply Ext_drew | (refine Ext_set ?_ ?_) | exact Ext_refl _) | (simp only [World.size_alloc, World.size_setCell, World.size_drew, size_drewN]; omega) | (simp; done) | (simp; omega)))⟩

/-- the place of the attribute that a place belongs to; -1: none -/
def Pl.before (p : Pl) (i : Int) : Int := p.lookM i (-1)
/-- a place's field, as it is handed back -/
def Pl.ofV (p : Pl) (i : Int) : Value :=
  if p.before i < 0 then .tuple #[.agg #[.int .i64 0, .int .i64 0, .int .u8 0], .bool false]
  else .tuple #[.agg #[.int .i64 (p.before i), .int .i64 (p.lenAt (p.before i)), .int .u8 (p.attrAt (p.before i))], .bool true]
set_option maxRecDepth 100000 in
set_option maxHeartbeats 2000000 in
theorem Of_any (g c : Nat) (p : Pl) (i : Int) (w : World) (h : PlAt w g c p) : Calls Try.prog 38 #[.pointer (some ⟨g, 0, none⟩), .int .i64 i] w (Ret (p.ofV i) w) := by
  have HP := Lib.hid h
  have HX := Lib.hid (Ext_refl w)
  obtain ⟨a0, a1⟩ := lookM_bd p h.ok i (-1)
  clear h
  by_cases hneg : p.before i < 0
  · have HL := Lib.hid (show p.ofV i = .tuple #[.agg #[.int .i64 0, .int .i64 0, .int .u8 0], .bool false] by unfold Pl.ofV; rw [if_pos hneg])
    rw [HL.out]
    unfold Pl.before at hneg
    go_enter Try.func38, Try.ntmps38
    go_wp2_with (go_at_call 71; refine (Before_any g c p _ _ (HP.out.ext (by repeat' (first | (with_reducible first | exact HX.out | apply Ext_alloc | apply Ext_drewN | apply Ext_drew | (refine Ext_set ?_ ?_) | exact Ext_refl _) | (simp only [World.size_alloc, World.size_setCell, World.size_drew, size_drewN]; omega) | (simp; done) | (simp; omega))))).mono ?_; rintro e wn ⟨rfl, hb⟩; have hz0 : w.heap.size < wn.heap.size := (by have := hb.size; (try simp only [World.size_alloc, World.size_setCell, World.size_drew, size_drewN] at this); omega); have hc0_0 : wn.cell? ⟨w.heap.size, 0, none⟩ = some (.int .i64 0) := (cell_ext hb (by unfold In; first | omega | (simp; done) | (simp; omega))).trans (by go_simp); have hf0_0 : wn.frozen? ⟨w.heap.size, 0, none⟩ = false := (frozen_ext hb (by unfold In; first | omega | (simp; done) | (simp; omega))).trans (by go_simp); have hc0_1 : wn.cell? ⟨w.heap.size, 1, none⟩ = some (.int .i64 0) := (cell_ext hb (by unfold In; first | omega | (simp; done) | (simp; omega))).trans (by go_simp); have hf0_1 : wn.frozen? ⟨w.heap.size, 1, none⟩ = false := (frozen_ext hb (by unfold In; first | omega | (simp; done) | (simp; omega))).trans (by go_simp); have hc0_2 : wn.cell? ⟨w.heap.size, 2, none⟩ = some (.int .u8 0) := (cell_ext hb (by unfold In; first | omega | (simp; done) | (simp; omega))).trans (by go_simp); have hf0_2 : wn.frozen? ⟨w.heap.size, 2, none⟩ = false := (frozen_ext hb (by unfold In; first | omega | (simp; done) | (simp; omega))).trans (by go_simp); have HXn := Lib.hid (Ext_trans hb (by repeat' (first | (with_reducible first | exact HX.out | apply Ext_alloc | apply Ext_drewN | apply Ext_drew | (refine Ext_set ?_ ?_) | exact Ext_refl _) | (simp only [World.size_alloc, World.size_setCell, World.size_drew, size_drewN]; omega) | (simp; done) | (simp; omega)))); clear hb HX; have HX := HXn; clear HXn)
    refine bodyPost_ret (v := .tuple #[.agg #[.int .i64 0, .int .i64 0, .int .u8 0], .bool false]) (by simp [results, Try.results38, go_sem, hc0_0, hc0_1, hc0_2]) rfl ?_
    exact ⟨rfl, (by repeat' (first | (with_reducible first | exact HX.out | apply Ext_alloc | apply Ext_drewN | apply Ext_drew | (refine Ext_set ?_ ?_) | exact Ext_refl _) | (simp only [World.size_alloc, World.size_setCell, World.size_drew, size_drewN]; omega) | (simp; done) | (simp; omega)))⟩
  · have HL := Lib.hid (show p.ofV i = .tuple #[.agg #[.int .i64 (p.before i), .int .i64 (p.lenAt (p.before i)), .int .u8 (p.attrAt (p.before i))], .bool true] by unfold Pl.ofV; rw [if_neg hneg])
    rw [HL.out]
    unfold Pl.before at *
    have hpos : 0 ≤ p.lookM i (-1) := by omega
    go_enter Try.func38, Try.ntmps38
    go_wp2_with (first | (go_at_call 71; refine (Before_any g c p _ _ (HP.out.ext (by repeat' (first | (with_reducible first | exact HX.out | apply Ext_alloc | apply Ext_drewN | apply Ext_drew | (refine Ext_set ?_ ?_) | exact Ext_refl _) | (simp only [World.size_alloc, World.size_setCell, World.size_drew, size_drewN]; omega) | (simp; done) | (simp; omega))))).mono ?_; rintro e wn ⟨rfl, hb⟩; have hz0 : w.heap.size < wn.heap.size := (by have := hb.size; (try simp only [World.size_alloc, World.size_setCell, World.size_drew, size_drewN] at this); omega); have hc0_0 : wn.cell? ⟨w.heap.size, 0, none⟩ = some (.int .i64 0) := (cell_ext hb (by unfold In; first | omega | (simp; done) | (simp; omega))).trans (by go_simp); have hf0_0 : wn.frozen? ⟨w.heap.size, 0, none⟩ = false := (frozen_ext hb (by unfold In; first | omega | (simp; done) | (simp; omega))).trans (by go_simp); have hc0_1 : wn.cell? ⟨w.heap.size, 1, none⟩ = some (.int .i64 0) := (cell_ext hb (by unfold In; first | omega | (simp; done) | (simp; omega))).trans (by go_simp); have hf0_1 : wn.frozen? ⟨w.heap.size, 1, none⟩ = false := (frozen_ext hb (by unfold In; first | omega | (simp; done) | (simp; omega))).trans (by go_simp); have hc0_2 : wn.cell? ⟨w.heap.size, 2, none⟩ = some (.int .u8 0) := (cell_ext hb (by unfold In; first | omega | (simp; done) | (simp; omega))).trans (by go_simp); have hf0_2 : wn.frozen? ⟨w.heap.size, 2, none⟩ = false := (frozen_ext hb (by unfold In; first | omega | (simp; done) | (simp; omega))).trans (by go_simp); have HXn := Lib.hid (Ext_trans hb (by repeat' (first | (with_reducible first | exact HX.out | apply Ext_alloc | apply Ext_drewN | apply Ext_drew | (refine Ext_set ?_ ?_) | exact Ext_refl _) | (simp only [World.size_alloc, World.size_setCell, World.size_drew, size_drewN]; omega) | (simp; done) | (simp; omega)))); clear hb HX; have HX := HXn; clear HXn) | (go_at_call 72; refine (at_any g c p _ hpos a1 _ (HP.out.ext (by repeat' (first | (with_reducible first | exact HX.out | apply Ext_alloc | apply Ext_drewN | apply Ext_drew | (refine Ext_set ?_ ?_) | exact Ext_refl _) | (simp only [World.size_alloc, World.size_setCell, World.size_drew, size_drewN]; omega) | (simp; done) | (simp; omega))))).mono ?_; rintro e wn ⟨rfl, hb⟩; have hz0 : w.heap.size < wn.heap.size := (by have := hb.size; (try simp only [World.size_alloc, World.size_setCell, World.size_drew, size_drewN] at this); omega); have hc0_0 : wn.cell? ⟨w.heap.size, 0, none⟩ = some (.int .i64 0) := (cell_ext hb (by unfold In; first | omega | (simp; done) | (simp; omega))).trans (by go_simp); have hf0_0 : wn.frozen? ⟨w.heap.size, 0, none⟩ = false := (frozen_ext hb (by unfold In; first | omega | (simp; done) | (simp; omega))).trans (by go_simp); have hc0_1 : wn.cell? ⟨w.heap.size, 1, none⟩ = some (.int .i64 0) := (cell_ext hb (by unfold In; first | omega | (simp; done) | (simp; omega))).trans (by go_simp); have hf0_1 : wn.frozen? ⟨w.heap.size, 1, none⟩ = false := (frozen_ext hb (by unfold In; first | omega | (simp; done) | (simp; omega))).trans (by go_simp); have hc0_2 : wn.cell? ⟨w.heap.size, 2, none⟩ = some (.int .u8 0) := (cell_ext hb (by unfold In; first | omega | (simp; done) | (simp; omega))).trans (by go_simp); have hf0_2 : wn.frozen? ⟨w.heap.size, 2, none⟩ = false := (frozen_ext hb (by unfold In; first | omega | (simp; done) | (simp; omega))).trans (by go_simp); have HXn := Lib.hid (Ext_trans hb (by repeat' (first | (with_reducible first | exact HX.out | apply Ext_alloc | apply Ext_drewN | apply Ext_drew | (refine Ext_set ?_ ?_) | exact Ext_refl _) | (simp only [World.size_alloc, World.size_setCell, World.size_drew, size_drewN]; omega) | (simp; done) | (simp; omega)))); clear hb HX; have HX := HXn; clear HXn))
    refine bodyPost_ret (v := .tuple #[.agg #[.int .i64 (p.lookM i (-1)), .int .i64 (p.lenAt (p.lookM i (-1))), .int .u8 (p.attrAt (p.lookM i (-1)))], .bool true]) (by simp [results, Try.results38, go_sem, hc0_0, hc0_1, hc0_2]) rfl ?_
    exact ⟨rfl, (by repeat' (first | (with_reducible first | exact HX.out | apply Ext_alloc | apply Ext_drewN | apply Ext_drew | (refine Ext_set ?_ ?_) | exact Ext_refl _) | (simp only [World.size_alloc, World.size_setCell, World.size_drew, size_drewN]; omega) | (simp; done) | (simp; omega)))⟩

/-- may something be typed at a place? -/
def Pl.open_ (p : Pl) (i : Int) : Bool := if p.before i < 0 then p.has i else p.before i != i && !bitB (p.attrAt (p.before i)) 32
set_option maxRecDepth 100000 in
set_option maxHeartbeats 2000000 in
theorem Open_any (g c : Nat) (p : Pl) (i : Int) (w : World) (h : PlAt w g c p) : Calls Try.prog 22 #[.pointer (some ⟨g, 0, none⟩), .int .i64 i] w (Ret (.bool (p.open_ i)) w) := by
  have HP := Lib.hid h
  have HX := Lib.hid (Ext_refl w)
  have hn : p.n = (p.cells.length : Int) := rfl
  clear h
  by_cases hneg : p.before i < 0
  · have HL := Lib.hid (show p.open_ i = p.has i by unfold Pl.open_; rw [if_pos hneg])
    have HO := Lib.hid (show p.ofV i = .tuple #[.agg #[.int .i64 0, .int .i64 0, .int .u8 0], .bool false] by unfold Pl.ofV; rw [if_pos hneg])
    rw [HL.out]
    have HN := Lib.hid hn
    clear hneg hn
    by_cases h0 : 0 ≤ i
    · go_enter Try.func22, Try.ntmps22
      go_wp2_with (first | (go_at_call 38; refine (Of_any g c p _ _ (HP.out.ext (by repeat' (first | (with_reducible first | exact HX.out | apply Ext_alloc | apply Ext_drewN | apply Ext_drew | (refine Ext_set ?_ ?_) | exact Ext_refl _) | (simp only [World.size_alloc, World.size_setCell, World.size_drew, size_drewN]; omega) | (simp; done) | (simp; omega))))).mono ?_; rintro e wn ⟨rfl, hb⟩; rw [HO.out]; have HXn := Lib.hid (Ext_trans hb (by repeat' (first | (with_reducible first | exact HX.out | apply Ext_alloc | apply Ext_drewN | apply Ext_drew | (refine Ext_set ?_ ?_) | exact Ext_refl _) | (simp only [World.size_alloc, World.size_setCell, World.size_drew, size_drewN]; omega) | (simp; done) | (simp; omega)))); clear hb HX; have HX := HXn; clear HXn) | (go_at_call 18; refine (Len_any g c p _ (HP.out.ext (by repeat' (first | (with_reducible first | exact HX.out | apply Ext_alloc | apply Ext_drewN | apply Ext_drew | (refine Ext_set ?_ ?_) | exact Ext_refl _) | (simp only [World.size_alloc, World.size_setCell, World.size_drew, size_drewN]; omega) | (simp; done) | (simp; omega))))).mono ?_; rintro e wn ⟨rfl, hb⟩; have HXn := Lib.hid (Ext_trans hb (by repeat' (first | (with_reducible first | exact HX.out | apply Ext_alloc | apply Ext_drewN | apply Ext_drew | (refine Ext_set ?_ ?_) | exact Ext_refl _) | (simp only [World.size_alloc, World.size_setCell, World.size_drew, size_drewN]; omega) | (simp; done) | (simp; omega)))); clear hb HX; have HX := HXn; clear HXn))
      go_ret
      exact ⟨by simp [Pl.has, h0], (by repeat' (first | (with_reducible first | exact HX.out | apply Ext_alloc | apply Ext_drewN | apply Ext_drew | (refine Ext_set ?_ ?_) | exact Ext_refl _) | (simp only [World.size_alloc, World.size_setCell, World.size_drew, size_drewN]; omega) | (simp; done) | (simp; omega)))⟩
    · go_enter Try.func22, Try.ntmps22
      go_wp2_with (go_at_call 38; refine (Of_any g c p _ _ (HP.out.ext (by repeat' (first | (with_reducible first | exact HX.out | apply Ext_alloc | apply Ext_drewN | apply Ext_drew | (refine Ext_set ?_ ?_) | exact Ext_refl _) | (simp only [World.size_alloc, World.size_setCell, World.size_drew, size_drewN]; omega) | (simp; done) | (simp; omega))))).mono ?_; rintro e wn ⟨rfl, hb⟩; rw [HO.out]; have HXn := Lib.hid (Ext_trans hb (by repeat' (first | (with_reducible first | exact HX.out | apply Ext_alloc | apply Ext_drewN | apply Ext_drew | (refine Ext_set ?_ ?_) | exact Ext_refl _) | (simp only [World.size_alloc, World.size_setCell, World.size_drew, size_drewN]; omega) | (simp; done) | (simp; omega)))); clear hb HX; have HX := HXn; clear HXn)
      go_ret
      exact ⟨by rw [show p.has i = false from by unfold Pl.has; rw [decide_eq_false]; omega]; rfl, (by repeat' (first | (with_reducible first | exact HX.out | apply Ext_alloc | apply Ext_drewN | apply Ext_drew | (refine Ext_set ?_ ?_) | exact Ext_refl _) | (simp only [World.size_alloc, World.size_setCell, World.size_drew, size_drewN]; omega) | (simp; done) | (simp; omega)))⟩
  · have HL := Lib.hid (show p.open_ i = (p.before i != i && !bitB (p.attrAt (p.before i)) 32) by unfold Pl.open_; rw [if_neg hneg])
    have HO := Lib.hid (show p.ofV i = .tuple #[.agg #[.int .i64 (p.before i), .int .i64 (p.lenAt (p.before i)), .int .u8 (p.attrAt (p.before i))], .bool true] by unfold Pl.ofV; rw [if_neg hneg])
    rw [HL.out]
    clear hneg hn
    generalize p.before i = q at *
    generalize p.lenAt q = ln at *
    generalize p.attrAt q = at_ at *
    by_cases hq : q = i
    · subst hq
      go_enter Try.func22, Try.ntmps22
      go_wp2_with (go_at_call 38; refine (Of_any g c p _ _ (HP.out.ext (by repeat' (first | (with_reducible first | exact HX.out | apply Ext_alloc | apply Ext_drewN | apply Ext_drew | (refine Ext_set ?_ ?_) | exact Ext_refl _) | (simp only [World.size_alloc, World.size_setCell, World.size_drew, size_drewN]; omega) | (simp; done) | (simp; omega))))).mono ?_; rintro e wn ⟨rfl, hb⟩; rw [HO.out]; have HXn := Lib.hid (Ext_trans hb (by repeat' (first | (with_reducible first | exact HX.out | apply Ext_alloc | apply Ext_drewN | apply Ext_drew | (refine Ext_set ?_ ?_) | exact Ext_refl _) | (simp only [World.size_alloc, World.size_setCell, World.size_drew, size_drewN]; omega) | (simp; done) | (simp; omega)))); clear hb HX; have HX := HXn; clear HXn)
      go_ret
      exact ⟨by simp, (by repeat' (first | (with_reducible first | exact HX.out | apply Ext_alloc | apply Ext_drewN | apply Ext_drew | (refine Ext_set ?_ ?_) | exact Ext_refl _) | (simp only [World.size_alloc, World.size_setCell, World.size_drew, size_drewN]; omega) | (simp; done) | (simp; omega)))⟩
    · have hq1 : (q != i) = true := by rw [bne_iff_ne]; exact hq
      have HQ := Lib.hid hq
      clear hq
      go_enter Try.func22, Try.ntmps22
      go_wp2_with (first | (go_at_call 38; refine (Of_any g c p _ _ (HP.out.ext (by repeat' (first | (with_reducible first | exact HX.out | apply Ext_alloc | apply Ext_drewN | apply Ext_drew | (refine Ext_set ?_ ?_) | exact Ext_refl _) | (simp only [World.size_alloc, World.size_setCell, World.size_drew, size_drewN]; omega) | (simp; done) | (simp; omega))))).mono ?_; rintro e wn ⟨rfl, hb⟩; rw [HO.out]; have HXn := Lib.hid (Ext_trans hb (by repeat' (first | (with_reducible first | exact HX.out | apply Ext_alloc | apply Ext_drewN | apply Ext_drew | (refine Ext_set ?_ ?_) | exact Ext_refl _) | (simp only [World.size_alloc, World.size_setCell, World.size_drew, size_drewN]; omega) | (simp; done) | (simp; omega)))); clear hb HX; have HX := HXn; clear HXn) | (go_at_call 60; refine (Protected_any _ _).mono ?_; rintro e wn ⟨rfl, hb⟩; have HXn := Lib.hid (Ext_trans hb (by repeat' (first | (with_reducible first | exact HX.out | apply Ext_alloc | apply Ext_drewN | apply Ext_drew | (refine Ext_set ?_ ?_) | exact Ext_refl _) | (simp only [World.size_alloc, World.size_setCell, World.size_drew, size_drewN]; omega) | (simp; done) | (simp; omega)))); clear hb HX; have HX := HXn; clear HXn))
      go_ret
      exact ⟨by simp [hq1], (by repeat' (first | (with_reducible first | exact HX.out | apply Ext_alloc | apply Ext_drewN | apply Ext_drew | (refine Ext_set ?_ ?_) | exact Ext_refl _) | (simp only [World.size_alloc, World.size_setCell, World.size_drew, size_drewN]; omega) | (simp; done) | (simp; omega)))⟩
end Go.Proofs.Ytmcfckdgolojlaa
/- Planes that turn: Point, Set, New. -/
namespace Go.Proofs.Ytmcfckdgolojlaa
set_option linter.unusedVariables false
set_option linter.unusedSimpArgs false
open Go.RowKit

/-- no old block has turned but these -/
structure Chg (l : List Nat) (w w' : World) : Prop where
  os : w'.os = w.os
  tape : w'.tape = w.tape
  output : w'.output = w.output
  size : w.heap.size ≤ w'.heap.size
  block : ∀ i, i < w.heap.size → i ∉ l → w'.heap[i]? = w.heap[i]?
theorem Chg.refl (l : List Nat) (w : World) : Chg l w w := ⟨rfl, rfl, rfl, Nat.le_refl _, fun _ _ _ => rfl⟩
theorem Chg.trans {l : List Nat} {w w1 w2 : World} (h : Chg l w w1) (k : Chg l w1 w2) : Chg l w w2 :=
  ⟨k.os.trans h.os, k.tape.trans h.tape, k.output.trans h.output, Nat.le_trans h.size k.size, fun i hi hn => (k.block i (Nat.lt_of_lt_of_le hi h.size) hn).trans (h.block i hi hn)⟩
theorem Chg.mono {l m : List Nat} {w w1 : World} (h : Chg l w w1) (hm : ∀ i, i ∈ l → i ∈ m) : Chg m w w1 := ⟨h.os, h.tape, h.output, h.size, fun i hi hn => h.block i hi (fun hx => hn (hm i hx))⟩
theorem Chg.of_ext {w w1 : World} (h : Ext w w1) (l : List Nat) : Chg l w w1 := ⟨h.os, h.tape, h.output, h.size, fun i hi _ => h.block i hi⟩
theorem Chg.ext {l : List Nat} {w w1 w2 : World} (h : Chg l w1 w2) (k : Ext w w1) (hl : ∀ i, i ∈ l → w.heap.size ≤ i) : Ext w w2 :=
  ⟨h.os.trans k.os, h.tape.trans k.tape, h.output.trans k.output, Nat.le_trans k.size h.size, fun i hi => (h.block i (Nat.lt_of_lt_of_le hi k.size) (fun hx => by have := hl i hx; omega)).trans (k.block i hi)⟩
theorem Chg.set {l : List Nat} {w w1 : World} (h : Chg l w w1) (b i : Nat) (u : Value) (hb : b ∈ l ∨ w.heap.size ≤ b) : Chg l w (w1.setCell ⟨b, i, none⟩ u) :=
  ⟨h.os, h.tape, h.output, by simpa [World.setCell] using h.size, fun k hk hn => (Below.heap_setCell _ _ _ _ (fun e => by
    simp only at e
    rcases hb with hb | hb
    · exact hn (e ▸ hb)
    · omega)).trans (h.block k hk hn)⟩
theorem Chg.alloc {l : List Nat} {w w1 : World} (h : Chg l w w1) (o : Obj) : Chg l w (w1.alloc o) := h.trans (Chg.of_ext (Ext_alloc (Ext_refl _)) l)
theorem Chg.drewN {l : List Nat} {w w1 : World} (h : Chg l w w1) (n : Nat) : Chg l w (w1.drewN n) := ⟨h.os, h.tape, h.output, h.size, h.block⟩
theorem Chg.drew {l : List Nat} {w w1 : World} (h : Chg l w w1) : Chg l w w1.drew := ⟨h.os, h.tape, h.output, h.size, h.block⟩
theorem Chg.step {l : List Nat} {w w1 w2 : World} (h : Chg l w w1) (k : Ext w1 w2) : Chg l w w2 := h.trans (Chg.of_ext k l)
theorem Blk.chg {l : List Nat} {w w1 : World} {b : Nat} {t : TypeId} {cs : Array Value} (h : Blk w b t cs) (k : Chg l w w1) (hb : b ∉ l) : Blk w1 b t cs := (k.block b h.lt hb).trans h
theorem PlAt.chg {l : List Nat} {w w1 : World} {g c : Nat} {p : Pl} (h : PlAt w g c p) (k : Chg l w w1) (hg : g ∉ l) (hc : c ∉ l) : PlAt w1 g c p := let ⟨a, t, h⟩ := h; ⟨a, t, h.obj.chg k hg, h.row.chg k hc, h.ok⟩
theorem Rd.chg {l : List Nat} {w w1 : World} {sz n : Nat} {A : Option Addr} {cs : List Value} (h : Rd w sz A n cs) (k : Chg l w w1) (hb : ∀ b, b ∈ l → Off b A) : Rd w1 sz A n cs :=
  h.keep fun b _ _ e hlt _ => k.block b hlt (fun hx => hb b hx _ e rfl)

theorem PlAt.drew {w : World} {g c : Nat} {p : Pl} (h : PlAt w g c p) : PlAt w.drew g c p := let ⟨a, t, h⟩ := h; ⟨a, t, h.obj, h.row, h.ok⟩
theorem PlAt.drewN {w : World} {g c : Nat} {p : Pl} (h : PlAt w g c p) (n : Nat) : PlAt (w.drewN n) g c p := let ⟨a, t, h⟩ := h; ⟨a, t, h.obj, h.row, h.ok⟩
/-- the plane behind a call that turns it -/
def PlTo (v : Value) (g c : Nat) (p' : Pl) (w : World) (e : Ending) (w' : World) : Prop := e = .returned v ∧ PlAt w' g c p' ∧ Chg [g, c] w w'
def Pl.point (p : Pl) (i : Int) : Pl := if p.has i then { p with cur := i } else p
def Pl.set (p : Pl) (i : Int) (x : Cel) : Pl := if p.has i then { p with cells := p.cells.set i.toNat x } else p
theorem PlAt.store_cur {w : World} {g c : Nat} {p : Pl} (h : PlAt w g c p) {i : Int} (h0 : 0 ≤ i) (h1 : i < p.n) : PlAt (w.setCell ⟨g, 3, none⟩ (.int .i64 i)) g c { p with cur := i } := by
  have hne := h.ne
  obtain ⟨kap, tl, h⟩ := h
  refine ⟨kap, tl, ?_, h.row.far (p := ⟨g, 3, none⟩) (fun e => hne e.symm) _, ⟨h.ok.sz, h0, h1, h.ok.by_⟩⟩
  have := h.obj.store 3 (.int .i64 i)
  exact this
theorem flat_set (tl : List Value) (cs : List Cel) (k : Nat) (hk : k < cs.length) (x : Cel) :
    ((((((cs.flatMap Cel.enc ++ tl).toArray.setIfInBounds (k * 5) (.int .u8 x.b)).setIfInBounds (k * 5 + 1) (.bool x.ge)).setIfInBounds (k * 5 + 2) (.bool x.st)).setIfInBounds (k * 5 + 3) (.int .u8 x.li)).setIfInBounds (k * 5 + 4) (.int .u8 x.co))
      = ((cs.set k x).flatMap Cel.enc ++ tl).toArray := by
  have hL := flat_length Cel.enc 5 Cel.len cs
  have hL' := flat_length Cel.enc 5 Cel.len (cs.set k x)
  rw [List.length_set] at hL'
  apply Array.ext_getElem?
  intro i
  obtain ⟨q, r, hr5, rfl⟩ : ∃ q r, r < 5 ∧ i = q * 5 + r := ⟨i / 5, i % 5, by omega, by omega⟩
  have hr := flat_get Cel.enc 5 Cel.len (cs.set k x) q r hr5
  have hl := flat_get Cel.enc 5 Cel.len cs q r hr5
  simp only [Array.getElem?_setIfInBounds, List.size_toArray, Array.size_setIfInBounds, List.getElem?_toArray, List.length_append]
  rw [hL]
  by_cases hq : q < cs.length
  rotate_left 1
  · rw [List.getElem?_append_right (by omega), List.getElem?_append_right (by omega), hL, hL', if_neg (by omega), if_neg (by omega), if_neg (by omega), if_neg (by omega), if_neg (by omega)]
  rw [List.getElem?_append_left (by omega), List.getElem?_append_left (by omega), hr, hl, List.getElem?_set]
  by_cases e : k = q
  · subst e
    rw [if_pos rfl, if_pos hk]
    have hc : r = 0 ∨ r = 1 ∨ r = 2 ∨ r = 3 ∨ r = 4 := by omega
    rcases hc with rfl | rfl | rfl | rfl | rfl <;> (repeat' (first | rw [if_pos (by omega)] | rw [if_neg (by omega)])) <;> rfl
  · rw [if_neg e, if_neg (by omega), if_neg (by omega), if_neg (by omega), if_neg (by omega), if_neg (by omega)]
theorem PlAt.store_cell {w : World} {g c : Nat} {p : Pl} (h : PlAt w g c p) {k : Nat} (hk : k < p.cells.length) (x : Cel) (hx : 0 ≤ x.b ∧ x.b < 256) :
    PlAt (((((w.setCell ⟨c, k * 5, none⟩ (.int .u8 x.b)).setCell ⟨c, k * 5 + 1, none⟩ (.bool x.ge)).setCell ⟨c, k * 5 + 2, none⟩ (.bool x.st)).setCell ⟨c, k * 5 + 3, none⟩ (.int .u8 x.li)).setCell ⟨c, k * 5 + 4, none⟩ (.int .u8 x.co)) g c { p with cells := p.cells.set k x } := by
  have hne := h.ne
  obtain ⟨kap, tl, h⟩ := h
  refine ⟨kap, tl, ?_, ?_, ⟨?_, h.ok.k0, ?_, ?_⟩⟩
  · have := ((((h.obj.far (p := ⟨c, k * 5, none⟩) hne (.int .u8 x.b)).far (p := ⟨c, k * 5 + 1, none⟩) hne (.bool x.ge)).far (p := ⟨c, k * 5 + 2, none⟩) hne (.bool x.st)).far (p := ⟨c, k * 5 + 3, none⟩) hne (.int .u8 x.li)).far (p := ⟨c, k * 5 + 4, none⟩) hne (.int .u8 x.co)
    simp only [List.length_set]
    exact this
  · have := ((((h.row.store (k * 5) (.int .u8 x.b)).store (k * 5 + 1) (.bool x.ge)).store (k * 5 + 2) (.bool x.st)).store (k * 5 + 3) (.int .u8 x.li)).store (k * 5 + 4) (.int .u8 x.co)
    rw [flat_set tl p.cells k hk x] at this
    exact this
  · have := h.ok.sz
    unfold Pl.n at *
    rw [List.length_set]
    exact this
  · have := h.ok.k1
    unfold Pl.n at *
    rw [List.length_set]
    exact this
  · intro y hy
    rcases List.mem_or_eq_of_mem_set hy with hy | rfl
    · exact h.ok.by_ y hy
    · exact hx

theorem Point_any (g c : Nat) (p : Pl) (i : Int) (w : World) (h : PlAt w g c p) : Calls Try.prog 25 #[.pointer (some ⟨g, 0, none⟩), .int .i64 i] w (PlTo (.bool (p.has i)) g c (p.point i) w) := by
  have HP := Lib.hid h
  have HX := Lib.hid (Ext_refl w)
  rcases Bool.eq_false_or_eq_true (p.has i) with hi | hi
  · have HH := Lib.hid hi
    have HV := Lib.hid (show p.point i = { p with cur := i } by unfold Pl.point; rw [if_pos hi])
    rw [HV.out, hi]
    obtain ⟨kap, tl, h⟩ := h
    have c3 := h.obj.cell 3
    have f3 := h.obj.free 3
    have hg : In g w := h.obj.lt
    clear h hi
    go_enter Try.func25, Try.ntmps25
    go_wp2_with (go_at_call 59; refine (has_any g c p _ _ (HP.out.ext (by repeat' (first | (with_reducible first | exact HX.out | apply Ext_alloc | apply Ext_drewN | apply Ext_drew | (refine Ext_set ?_ ?_) | exact Ext_refl _) | (simp only [World.size_alloc, World.size_setCell, World.size_drew, size_drewN]; omega) | (simp; done) | (simp; omega))))).mono ?_; rintro e wn ⟨rfl, hb⟩; rw [HH.out]; have d3 := (cell_ext hb hg).trans c3; have e3 := (frozen_ext hb hg).trans f3; have HXn := Lib.hid (Ext_trans hb (by repeat' (first | (with_reducible first | exact HX.out | apply Ext_alloc | apply Ext_drewN | apply Ext_drew | (refine Ext_set ?_ ?_) | exact Ext_refl _) | (simp only [World.size_alloc, World.size_setCell, World.size_drew, size_drewN]; omega) | (simp; done) | (simp; omega)))); clear hb HX; have HX := HXn; clear HXn)
    go_ret
    have hh := HH.out
    simp only [Pl.has, decide_eq_true_eq] at hh
    exact ⟨rfl, (HP.out.ext HX.out).store_cur hh.1 hh.2, (Chg.of_ext HX.out _).set _ _ _ (.inl (by simp))⟩
  · have HH := Lib.hid hi
    have HV := Lib.hid (show p.point i = p by unfold Pl.point; rw [if_neg (by simp [hi])])
    rw [HV.out, hi]
    clear h hi
    go_enter Try.func25, Try.ntmps25
    go_wp2_with (go_at_call 59; refine (has_any g c p _ _ (HP.out.ext (by repeat' (first | (with_reducible first | exact HX.out | apply Ext_alloc | apply Ext_drewN | apply Ext_drew | (refine Ext_set ?_ ?_) | exact Ext_refl _) | (simp only [World.size_alloc, World.size_setCell, World.size_drew, size_drewN]; omega) | (simp; done) | (simp; omega))))).mono ?_; rintro e wn ⟨rfl, hb⟩; rw [HH.out]; have HXn := Lib.hid (Ext_trans hb (by repeat' (first | (with_reducible first | exact HX.out | apply Ext_alloc | apply Ext_drewN | apply Ext_drew | (refine Ext_set ?_ ?_) | exact Ext_refl _) | (simp only [World.size_alloc, World.size_setCell, World.size_drew, size_drewN]; omega) | (simp; done) | (simp; omega)))); clear hb HX; have HX := HXn; clear HXn)
    go_ret
    exact ⟨rfl, HP.out.ext HX.out, Chg.of_ext HX.out _⟩

set_option maxRecDepth 100000 in
set_option maxHeartbeats 4000000 in
theorem Set_any (g c : Nat) (p : Pl) (i : Int) (x : Cel) (hx : 0 ≤ x.b ∧ x.b < 256) (w : World) (h : PlAt w g c p) :
    Calls Try.prog 50 #[.pointer (some ⟨g, 0, none⟩), .int .i64 i, .agg #[.int .u8 x.b, .bool x.ge, .bool x.st, .int .u8 x.li, .int .u8 x.co]] w (PlTo (.bool (p.has i)) g c (p.set i x) w) := by
  have HP := Lib.hid h
  have HX := Lib.hid (Ext_refl w)
  have n1 := h.ok.sz.n1
  unfold Pl.n at n1
  rcases Bool.eq_false_or_eq_true (p.has i) with hi | hi
  · have HH := Lib.hid hi
    have HV := Lib.hid (show p.set i x = { p with cells := p.cells.set i.toNat x } by unfold Pl.set; rw [if_pos hi])
    rw [HV.out, hi]
    have hi2 : 0 ≤ i ∧ i < p.n := by simpa [Pl.has] using hi
    clear hi
    unfold Pl.n at hi2
    obtain ⟨h0, h1⟩ := hi2
    obtain ⟨k, rfl⟩ := Int.eq_ofNat_of_zero_le h0
    have hk : k < p.cells.length := by omega
    have HKK := Lib.hid hk
    have HXB := Lib.hid hx
    obtain ⟨y, hy, k0, k1, k2, k3, k4⟩ := h.at_ hk
    obtain ⟨kap, tl, h⟩ := h
    have hf := h.row.free
    have c2 := h.obj.cell 2
    simp at c2
    have hg : In g w := h.obj.lt
    have hcc : In c w := h.row.lt
    clear h hy HV hx
    go_enter Try.func50, Try.ntmps50
    go_wp2_with (go_at_call 59; refine (has_any g c p _ _ (HP.out.ext (by repeat' (first | (with_reducible first | exact HX.out | apply Ext_alloc | apply Ext_drewN | apply Ext_drew | (refine Ext_set ?_ ?_) | exact Ext_refl _) | (simp only [World.size_alloc, World.size_setCell, World.size_drew, size_drewN]; omega) | (simp; done) | (simp; omega))))).mono ?_; rintro e wn ⟨rfl, hb⟩; rw [HH.out]; have d2 := (cell_ext hb (In_old hg)).trans ((cell_In hg).trans c2); have e0 := (cell_ext hb (In_old hcc)).trans ((cell_In hcc).trans k0); have e1 := (cell_ext hb (In_old hcc)).trans ((cell_In hcc).trans k1); have e2 := (cell_ext hb (In_old hcc)).trans ((cell_In hcc).trans k2); have e3 := (cell_ext hb (In_old hcc)).trans ((cell_In hcc).trans k3); have e4 := (cell_ext hb (In_old hcc)).trans ((cell_In hcc).trans k4); have f0 := (frozen_ext (i := k * 5) hb (In_old hcc)).trans ((frozen_In hcc).trans (hf _)); have f1 := (frozen_ext (i := k * 5 + 1) hb (In_old hcc)).trans ((frozen_In hcc).trans (hf _)); have f2 := (frozen_ext (i := k * 5 + 2) hb (In_old hcc)).trans ((frozen_In hcc).trans (hf _)); have f3 := (frozen_ext (i := k * 5 + 3) hb (In_old hcc)).trans ((frozen_In hcc).trans (hf _)); have f4 := (frozen_ext (i := k * 5 + 4) hb (In_old hcc)).trans ((frozen_In hcc).trans (hf _)); have hz0 : w.heap.size < wn.heap.size := (by have := hb.size; (try simp only [World.size_alloc, World.size_setCell, World.size_drew, size_drewN] at this); omega); have hc0_0 : wn.cell? ⟨w.heap.size, 0, none⟩ = some (.int .u8 x.b) := (cell_ext hb (by unfold In; first | omega | (simp; done) | (simp; omega))).trans (by go_simp); have hf0_0 : wn.frozen? ⟨w.heap.size, 0, none⟩ = false := (frozen_ext hb (by unfold In; first | omega | (simp; done) | (simp; omega))).trans (by go_simp); have hc0_1 : wn.cell? ⟨w.heap.size, 1, none⟩ = some (.bool x.ge) := (cell_ext hb (by unfold In; first | omega | (simp; done) | (simp; omega))).trans (by go_simp); have hf0_1 : wn.frozen? ⟨w.heap.size, 1, none⟩ = false := (frozen_ext hb (by unfold In; first | omega | (simp; done) | (simp; omega))).trans (by go_simp); have hc0_2 : wn.cell? ⟨w.heap.size, 2, none⟩ = some (.bool x.st) := (cell_ext hb (by unfold In; first | omega | (simp; done) | (simp; omega))).trans (by go_simp); have hf0_2 : wn.frozen? ⟨w.heap.size, 2, none⟩ = false := (frozen_ext hb (by unfold In; first | omega | (simp; done) | (simp; omega))).trans (by go_simp); have hc0_3 : wn.cell? ⟨w.heap.size, 3, none⟩ = some (.int .u8 x.li) := (cell_ext hb (by unfold In; first | omega | (simp; done) | (simp; omega))).trans (by go_simp); have hf0_3 : wn.frozen? ⟨w.heap.size, 3, none⟩ = false := (frozen_ext hb (by unfold In; first | omega | (simp; done) | (simp; omega))).trans (by go_simp); have hc0_4 : wn.cell? ⟨w.heap.size, 4, none⟩ = some (.int .u8 x.co) := (cell_ext hb (by unfold In; first | omega | (simp; done) | (simp; omega))).trans (by go_simp); have hf0_4 : wn.frozen? ⟨w.heap.size, 4, none⟩ = false := (frozen_ext hb (by unfold In; first | omega | (simp; done) | (simp; omega))).trans (by go_simp); have HXn := Lib.hid (Ext_trans hb (by repeat' (first | (with_reducible first | exact HX.out | apply Ext_alloc | apply Ext_drewN | apply Ext_drew | (refine Ext_set ?_ ?_) | exact Ext_refl _) | (simp only [World.size_alloc, World.size_setCell, World.size_drew, size_drewN]; omega) | (simp; done) | (simp; omega)))); clear hb HX; have HX := HXn; clear HXn)
    clear k0 k1 k2 k3 k4 c2 hg hcc hf
    go_region
    all_goals go_wp2
    go_ret
    exact ⟨rfl, ((HP.out.ext HX.out).store_cell HKK.out x HXB.out).drew, ((((((Chg.of_ext HX.out _).set _ _ _ (.inl (by simp))).set _ _ _ (.inl (by simp))).set _ _ _ (.inl (by simp))).set _ _ _ (.inl (by simp))).set _ _ _ (.inl (by simp))).drew⟩
  · have HH := Lib.hid hi
    have HV := Lib.hid (show p.set i x = p by unfold Pl.set; rw [if_neg (by simp [hi])])
    rw [HV.out, hi]
    clear h hi
    go_enter Try.func50, Try.ntmps50
    go_wp2_with (go_at_call 59; refine (has_any g c p _ _ (HP.out.ext (by repeat' (first | (with_reducible first | exact HX.out | apply Ext_alloc | apply Ext_drewN | apply Ext_drew | (refine Ext_set ?_ ?_) | exact Ext_refl _) | (simp only [World.size_alloc, World.size_setCell, World.size_drew, size_drewN]; omega) | (simp; done) | (simp; omega))))).mono ?_; rintro e wn ⟨rfl, hb⟩; rw [HH.out]; have HXn := Lib.hid (Ext_trans hb (by repeat' (first | (with_reducible first | exact HX.out | apply Ext_alloc | apply Ext_drewN | apply Ext_drew | (refine Ext_set ?_ ?_) | exact Ext_refl _) | (simp only [World.size_alloc, World.size_setCell, World.size_drew, size_drewN]; omega) | (simp; done) | (simp; omega)))); clear hb HX; have HX := HXn; clear HXn)
    go_ret
    exact ⟨rfl, HP.out.ext (by repeat' (first | (with_reducible first | exact HX.out | apply Ext_alloc | apply Ext_drewN | apply Ext_drew | (refine Ext_set ?_ ?_) | exact Ext_refl _) | (simp only [World.size_alloc, World.size_setCell, World.size_drew, size_drewN]; omega) | (simp; done) | (simp; omega))), Chg.of_ext (by repeat' (first | (with_reducible first | exact HX.out | apply Ext_alloc | apply Ext_drewN | apply Ext_drew | (refine Ext_set ?_ ?_) | exact Ext_refl _) | (simp only [World.size_alloc, World.size_setCell, World.size_drew, size_drewN]; omega) | (simp; done) | (simp; omega))) _⟩

/-! ### New -/
def cellRow (l : List Cel) : Array Value := (l.flatMap Cel.enc).toArray
theorem made_zero (m : Nat) : madeCells #[.int .u8 0, .bool false, .bool false, .int .u8 0, .int .u8 0] (m * 5) = cellRow (List.replicate m Cel.zero) := by
  apply Array.ext_getElem?
  intro i
  unfold madeCells cellRow
  obtain ⟨q, r, hr5, rfl⟩ : ∃ q r, r < 5 ∧ i = q * 5 + r := ⟨i / 5, i % 5, by omega, by omega⟩
  have e1 : ((List.replicate m Cel.zero).flatMap Cel.enc).toArray[q * 5 + r]? = ((List.replicate m Cel.zero)[q]?).bind fun x => (Cel.enc x)[r]? := by
    rw [List.getElem?_toArray, flat_get Cel.enc 5 Cel.len _ q r hr5]
  rw [e1, List.getElem?_replicate, Array.getElem?_map, Array.getElem?_range]
  by_cases h : q < m
  · rw [if_pos h, if_pos (by omega)]
    have hc : r = 0 ∨ r = 1 ∨ r = 2 ∨ r = 3 ∨ r = 4 := by omega
    rcases hc with rfl | rfl | rfl | rfl | rfl <;> simp [Cel.enc, Cel.zero]
  · rw [if_neg h, if_neg (by omega)]
    rfl
theorem infoCell : (Try.prog.info? 38).map (fun i => (i.zero, i.size, i.bytes)) = some (some (.agg #[.int .u8 0, .bool false, .bool false, .int .u8 0, .int .u8 0]), 5, 5) := by kernel_rfl
theorem make_cells (m : Nat) (hm : m ≤ 4096) (W : World) : (Instr.makeSlice 24 (.int .i64 (m : Int)) (.int .i64 (m : Int))).run Try.prog W = .ok (.slice (some ⟨W.heap.size, 0, none⟩) m m) (W.alloc (.cells (cellRow (List.replicate m Cel.zero)) 38)) := by
  obtain ⟨i0, hi, hz0, hz1, hz2⟩ := info_parts infoCell
  have h := run_makeSlice W 24 38 i0 _ Try.underlying24 hi hz0 .i64 .i64 (m : Int) (m : Int) (by omega) (Int.le_refl _) (by rw [hz1]; simp; omega) (by rw [hz2]; omega) (by omega)
  rw [h, hz1]
  simp only [Int.toNat_natCast, Value.cells]
  rw [made_zero]
def NewP (r c : Int) (n : Nat) (w : World) (e : Ending) (w' : World) : Prop :=
  ∃ g b, e = .returned (.tuple #[.pointer (some ⟨g, 0, none⟩), .int .i64 0]) ∧ PlAt w' g b ⟨r, c, List.replicate n Cel.zero, 0⟩ ∧ Ext w w' ∧ w.heap.size ≤ g ∧ w.heap.size ≤ b
theorem cellsM_cases (r c : Int) : cellsM r c = 0 ∨ SzOk r c (cellsM r c) := by
  unfold cellsM
  split
  · exact .inl rfl
  · rename_i h
    have := mul_bound (r := r) (c := c) (by omega) (by omega) (by omega) (by omega)
    exact .inr ⟨by omega, by omega, by omega, by omega, this.1, by omega, rfl⟩
theorem PlAt.new {w : World} {g b : Nat} {r c : Int} {m : Nat} (h : SzOk r c m) (h1 : Blk w g 86 #[.int .i64 r, .int .i64 c, .slice (some ⟨b, 0, none⟩) m m, .int .i64 0]) (h2 : Blk w b 38 (cellRow (List.replicate m Cel.zero))) : PlAt w g b ⟨r, c, List.replicate m Cel.zero, 0⟩ := by
  refine ⟨m, [], ?_, by rw [List.append_nil]; exact h2, ⟨?_, Int.le_refl _, ?_, ?_⟩⟩
  · simp only [List.length_replicate]; exact h1
  · show SzOk r c (((List.replicate m Cel.zero).length : Nat) : Int); rw [List.length_replicate]; exact h
  · show 0 < (((List.replicate m Cel.zero).length : Nat) : Int); rw [List.length_replicate]; have := h.n0; omega
  · intro x hx
    rw [List.eq_of_mem_replicate hx]
    simp [Cel.zero]
set_option maxRecDepth 100000 in
set_option maxHeartbeats 4000000 in
theorem New_yes (r c : Int) (m : Nat) (h : SzOk r c m) (w : World) : Calls Try.prog 49 #[.agg #[.int .i64 r, .int .i64 c]] w (NewP r c m w) := by
  have HZ := Lib.hid h
  have HC := Lib.hid (cellsM_ok h)
  have HX := Lib.hid (Ext_refl w)
  have n0 := h.n0
  have n1 := h.n1
  have hmk := make_cells m (by omega)
  have hm0 : ((m : Int) == 0) = false := by rw [beq_eq_false_iff_ne]; omega
  clear h
  go_enter Try.func49, Try.ntmps49
  go_wp2_with (go_at_call 80; refine (Cells_any _ _ _).mono ?_; rintro e wn ⟨rfl, hb⟩; rw [HC.out]; have hz0 : w.heap.size < wn.heap.size := (by have := hb.size; (try simp only [World.size_alloc, World.size_setCell, World.size_drew, size_drewN] at this); omega); have hc0_0 : wn.cell? ⟨w.heap.size, 0, none⟩ = some (.int .i64 r) := (cell_ext hb (by unfold In; first | omega | (simp; done) | (simp; omega))).trans (by go_simp); have hf0_0 : wn.frozen? ⟨w.heap.size, 0, none⟩ = false := (frozen_ext hb (by unfold In; first | omega | (simp; done) | (simp; omega))).trans (by go_simp); have hc0_1 : wn.cell? ⟨w.heap.size, 1, none⟩ = some (.int .i64 c) := (cell_ext hb (by unfold In; first | omega | (simp; done) | (simp; omega))).trans (by go_simp); have hf0_1 : wn.frozen? ⟨w.heap.size, 1, none⟩ = false := (frozen_ext hb (by unfold In; first | omega | (simp; done) | (simp; omega))).trans (by go_simp); have HXn := Lib.hid (Ext_trans hb (by repeat' (first | (with_reducible first | exact HX.out | apply Ext_alloc | apply Ext_drewN | apply Ext_drew | (refine Ext_set ?_ ?_) | exact Ext_refl _) | (simp only [World.size_alloc, World.size_setCell, World.size_drew, size_drewN]; omega) | (simp; done) | (simp; omega)))); clear hb HX; have HX := HXn; clear HXn)
  go_region
  all_goals go_wp2
  go_ret2
  have q1 := (Blk.new wn 38 (cellRow (List.replicate m Cel.zero))).alloc (.cells #[.int .i64 r, .int .i64 c, .slice (some ⟨wn.heap.size, 0, none⟩) m m, .int .i64 0] 86)
  have q2 := Blk.new (wn.alloc (.cells (cellRow (List.replicate m Cel.zero)) 38)) 86 #[.int .i64 r, .int .i64 c, .slice (some ⟨wn.heap.size, 0, none⟩) m m, .int .i64 0]
  rw [World.size_alloc] at q2
  refine ⟨_, _, rfl, (PlAt.new HZ.out q2 q1).drew, ?_, ?_, ?_⟩
  · exact (by repeat' (first | (with_reducible first | exact HX.out | apply Ext_alloc | apply Ext_drewN | apply Ext_drew | (refine Ext_set ?_ ?_) | exact Ext_refl _) | (simp only [World.size_alloc, World.size_setCell, World.size_drew, size_drewN]; omega) | (simp; done) | (simp; omega)))
  · have := HX.out.size; omega
  · exact HX.out.size
end Go.Proofs.Ytmcfckdgolojlaa
/- The range over a plane's fields (All), where the plane stays as it is; Home. -/
namespace Go.Proofs.Ytmcfckdgolojlaa
set_option linter.unusedVariables false
set_option linter.unusedSimpArgs false
open Go.RowKit Go.Shelf
attribute [local go_sem] Oper.semAt_some

/-- a field: its start, its length, its attribute -/
structure FV where
  s : Int
  l : Int
  a : Int
  deriving DecidableEq
def FV.v (x : FV) : Value := .agg #[.int .i64 x.s, .int .i64 x.l, .int .u8 x.a]
def FV.cells (x : FV) : Array Value := #[.int .i64 x.s, .int .i64 x.l, .int .u8 x.a]
end Go.Proofs.Ytmcfckdgolojlaa
/- Home: the first place at which something may be typed. -/
namespace Go.Proofs.Ytmcfckdgolojlaa
set_option linter.unusedVariables false
set_option linter.unusedSimpArgs false
open Go.RowKit Go.Shelf
attribute [local go_sem] Oper.semAt_some

theorem blk_own {β : Type} (B : Nat) (t : TypeId) (f : β → Array Value) : Own (fun s W => Blk W B t (f s)) := fun s X Y row hs hg hrow => by
  refine (hg.block B hs.lt (fun e' => ?_)).trans hs
  obtain ⟨o, ho, hc⟩ := hrow B e'.symm
  rw [show X.heap[B]? = _ from hs] at ho; cases ho; cases hc
theorem KeepsOthers.of_ext' {W W' : World} (h : Ext W W') : KeepsOthers W W' := ⟨h.size, fun k o ho _ => (h.block k (Array.getElem?_eq_some_iff.1 ho).1).trans ho⟩
theorem KeepsFrom.of_ext {W W' : World} (h : Ext W W') (B : Nat) : KeepsFrom B W W' := (KeepsOthers.of_ext' h).from B
end Go.Proofs.Ytmcfckdgolojlaa
/- The package caret: where the cursor goes. -/
namespace Go.Proofs.Ytmcfckdgolojlaa
set_option linter.unusedVariables false
set_option linter.unusedSimpArgs false
open Go.RowKit

section
variable (p : Pl) (q i s : Int)
end

end Go.Proofs.Ytmcfckdgolojlaa
/- The package caret: Move, Newline, On. -/
namespace Go.Proofs.Ytmcfckdgolojlaa
set_option linter.unusedVariables false
set_option linter.unusedSimpArgs false
open Go.RowKit

end Go.Proofs.Ytmcfckdgolojlaa
/- The package caret: Newline. Same and Clone of planes. -/
namespace Go.Proofs.Ytmcfckdgolojlaa
set_option linter.unusedVariables false
set_option linter.unusedSimpArgs false
open Go.RowKit

end Go.Proofs.Ytmcfckdgolojlaa
/- The document's planes: New, and the sizes. -/
namespace Go.Proofs.Ytmcfckdgolojlaa
set_option linter.unusedVariables false
set_option linter.unusedSimpArgs false
open Go.RowKit

set_option maxHeartbeats 1000000 in
theorem RCells_any (r c : Int) (w : World) : Calls Try.prog 81 #[.agg #[.int .i64 r, .int .i64 c]] w (Ret (.int .i64 (cellsM r c)) w) := by
  unfold cellsM
  by_cases h : 1 ≤ r ∧ r ≤ 43 ∧ 1 ≤ c ∧ c ≤ 132
  · obtain ⟨a, b, d, e⟩ := h
    obtain ⟨m0, m1⟩ := mul_bound a b d e
    by_cases h4 : 4096 < r * c
    · rw [if_pos (by omega)]
      go_enter Try.func81, Try.ntmps81
      go_wp2
      go_ret
      exact ⟨rfl, (by repeat' (first | exact Ext_refl _ | apply Ext_alloc))⟩
    · rw [if_neg (by omega)]
      go_enter Try.func81, Try.ntmps81
      go_wp2
      go_ret
      exact ⟨rfl, (by repeat' (first | exact Ext_refl _ | apply Ext_alloc))⟩
  · rw [if_pos (by omega)]
    by_cases h1 : r < 1
    · go_enter Try.func81, Try.ntmps81
      go_wp2
      go_ret
      exact ⟨rfl, (by repeat' (first | exact Ext_refl _ | apply Ext_alloc))⟩
    by_cases h2 : 43 < r
    · go_enter Try.func81, Try.ntmps81
      go_wp2
      go_ret
      exact ⟨rfl, (by repeat' (first | exact Ext_refl _ | apply Ext_alloc))⟩
    by_cases h3 : c < 1
    · go_enter Try.func81, Try.ntmps81
      go_wp2
      go_ret
      exact ⟨rfl, (by repeat' (first | exact Ext_refl _ | apply Ext_alloc))⟩
    by_cases h5 : 132 < c
    · go_enter Try.func81, Try.ntmps81
      go_wp2
      go_ret
      exact ⟨rfl, (by repeat' (first | exact Ext_refl _ | apply Ext_alloc))⟩
    · omega

def RNewP (r c : Int) (m : Nat) (w : World) (e : Ending) (w' : World) : Prop :=
  ∃ b, e = .returned (.tuple #[.agg #[.int .i64 r, .int .i64 c, .slice (some ⟨b, 0, none⟩) m m, .int .i64 0], .int .i64 0]) ∧ Blk w' b 38 (cellRow (List.replicate m Cel.zero)) ∧ Ext w w' ∧ w.heap.size ≤ b
set_option maxRecDepth 100000 in
set_option maxHeartbeats 4000000 in
theorem RNew_yes (r c : Int) (m : Nat) (h : SzOk r c m) (w : World) : Calls Try.prog 51 #[.agg #[.int .i64 r, .int .i64 c]] w (RNewP r c m w) := by
  have HC := Lib.hid (cellsM_ok h)
  have HX := Lib.hid (Ext_refl w)
  have n0 := h.n0
  have n1 := h.n1
  have hmk := make_cells m (by omega)
  have hm0 : ((m : Int) == 0) = false := by rw [beq_eq_false_iff_ne]; omega
  clear h
  go_enter Try.func51, Try.ntmps51
  go_wp2_with (go_at_call 81; refine (RCells_any _ _ _).mono ?_; rintro e wn ⟨rfl, hb⟩; rw [HC.out]; have hz0 : w.heap.size < wn.heap.size := (by have := hb.size; (try simp only [World.size_alloc, World.size_setCell, World.size_drew, size_drewN] at this); omega); have hz1 : w.heap.size + 1 < wn.heap.size := (by have := hb.size; (try simp only [World.size_alloc, World.size_setCell, World.size_drew, size_drewN] at this); omega); have hc0_0 : wn.cell? ⟨w.heap.size, 0, none⟩ = some (.int .i64 r) := (cell_ext hb (by unfold In; first | omega | (simp; done) | (simp; omega))).trans (by go_simp); have hf0_0 : wn.frozen? ⟨w.heap.size, 0, none⟩ = false := (frozen_ext hb (by unfold In; first | omega | (simp; done) | (simp; omega))).trans (by go_simp); have hc0_1 : wn.cell? ⟨w.heap.size, 1, none⟩ = some (.int .i64 c) := (cell_ext hb (by unfold In; first | omega | (simp; done) | (simp; omega))).trans (by go_simp); have hf0_1 : wn.frozen? ⟨w.heap.size, 1, none⟩ = false := (frozen_ext hb (by unfold In; first | omega | (simp; done) | (simp; omega))).trans (by go_simp); have hc1_0 : wn.cell? ⟨w.heap.size + 1, 0, none⟩ = some (.int .i64 0) := (cell_ext hb (by unfold In; first | omega | (simp; done) | (simp; omega))).trans (by go_simp); have hf1_0 : wn.frozen? ⟨w.heap.size + 1, 0, none⟩ = false := (frozen_ext hb (by unfold In; first | omega | (simp; done) | (simp; omega))).trans (by go_simp); have hc1_1 : wn.cell? ⟨w.heap.size + 1, 1, none⟩ = some (.int .i64 0) := (cell_ext hb (by unfold In; first | omega | (simp; done) | (simp; omega))).trans (by go_simp); have hf1_1 : wn.frozen? ⟨w.heap.size + 1, 1, none⟩ = false := (frozen_ext hb (by unfold In; first | omega | (simp; done) | (simp; omega))).trans (by go_simp); have hc1_2 : wn.cell? ⟨w.heap.size + 1, 2, none⟩ = some (.slice none 0 0) := (cell_ext hb (by unfold In; first | omega | (simp; done) | (simp; omega))).trans (by go_simp); have hf1_2 : wn.frozen? ⟨w.heap.size + 1, 2, none⟩ = false := (frozen_ext hb (by unfold In; first | omega | (simp; done) | (simp; omega))).trans (by go_simp); have hc1_3 : wn.cell? ⟨w.heap.size + 1, 3, none⟩ = some (.int .i64 0) := (cell_ext hb (by unfold In; first | omega | (simp; done) | (simp; omega))).trans (by go_simp); have hf1_3 : wn.frozen? ⟨w.heap.size + 1, 3, none⟩ = false := (frozen_ext hb (by unfold In; first | omega | (simp; done) | (simp; omega))).trans (by go_simp); have HXn := Lib.hid (Ext_trans hb (by repeat' (first | (with_reducible first | exact HX.out | apply Ext_alloc | apply Ext_drewN | apply Ext_drew | (refine Ext_set ?_ ?_) | exact Ext_refl _) | (simp only [World.size_alloc, World.size_setCell, World.size_drew, size_drewN]; omega) | (simp; done) | (simp; omega)))); clear hb HX; have HX := HXn; clear HXn)
  go_region
  all_goals go_wp2
  have q := Blk.new ((((wn.setCell ⟨w.heap.size + 1, 0, none⟩ (.int .i64 r)).setCell ⟨w.heap.size + 1, 1, none⟩ (.int .i64 c)).setCell ⟨w.heap.size + 1, 2, none⟩ (.slice (some ⟨wn.heap.size, 0, none⟩) m m)).setCell ⟨w.heap.size + 1, 3, none⟩ (.int .i64 0)) 38 (cellRow (List.replicate m Cel.zero))
  rw [World.size_setCell, World.size_setCell, World.size_setCell, World.size_setCell] at q
  refine bodyPost_ret (v := .tuple #[.agg #[.int .i64 r, .int .i64 c, .slice (some ⟨wn.heap.size, 0, none⟩) m m, .int .i64 0], .int .i64 0]) (by simp [results, Try.results51, go_sem, hc1_0, hc1_1, hc1_2, hc1_3, hz0, hz1]) rfl ?_
  exact ⟨_, rfl, q.drew, (by repeat' (first | (with_reducible first | exact HX.out | apply Ext_alloc | apply Ext_drewN | apply Ext_drew | (refine Ext_set ?_ ?_) | exact Ext_refl _) | (simp only [World.size_alloc, World.size_setCell, World.size_drew, size_drewN]; omega) | (simp; done) | (simp; omega))), HX.out.size⟩
theorem RNew_no (r c : Int) (h : cellsM r c = 0) (w : World) : Calls Try.prog 51 #[.agg #[.int .i64 r, .int .i64 c]] w (Ret (.tuple #[.agg #[.int .i64 0, .int .i64 0, .slice none 0 0, .int .i64 0], .int .i64 1]) w) := by
  have HC := Lib.hid h
  have HX := Lib.hid (Ext_refl w)
  clear h
  go_enter Try.func51, Try.ntmps51
  go_wp2_with (go_at_call 81; refine (RCells_any _ _ _).mono ?_; rintro e wn ⟨rfl, hb⟩; rw [HC.out]; have hz0 : w.heap.size < wn.heap.size := (by have := hb.size; (try simp only [World.size_alloc, World.size_setCell, World.size_drew, size_drewN] at this); omega); have hz1 : w.heap.size + 1 < wn.heap.size := (by have := hb.size; (try simp only [World.size_alloc, World.size_setCell, World.size_drew, size_drewN] at this); omega); have hc0_0 : wn.cell? ⟨w.heap.size, 0, none⟩ = some (.int .i64 r) := (cell_ext hb (by unfold In; first | omega | (simp; done) | (simp; omega))).trans (by go_simp); have hf0_0 : wn.frozen? ⟨w.heap.size, 0, none⟩ = false := (frozen_ext hb (by unfold In; first | omega | (simp; done) | (simp; omega))).trans (by go_simp); have hc0_1 : wn.cell? ⟨w.heap.size, 1, none⟩ = some (.int .i64 c) := (cell_ext hb (by unfold In; first | omega | (simp; done) | (simp; omega))).trans (by go_simp); have hf0_1 : wn.frozen? ⟨w.heap.size, 1, none⟩ = false := (frozen_ext hb (by unfold In; first | omega | (simp; done) | (simp; omega))).trans (by go_simp); have hc1_0 : wn.cell? ⟨w.heap.size + 1, 0, none⟩ = some (.int .i64 0) := (cell_ext hb (by unfold In; first | omega | (simp; done) | (simp; omega))).trans (by go_simp); have hf1_0 : wn.frozen? ⟨w.heap.size + 1, 0, none⟩ = false := (frozen_ext hb (by unfold In; first | omega | (simp; done) | (simp; omega))).trans (by go_simp); have hc1_1 : wn.cell? ⟨w.heap.size + 1, 1, none⟩ = some (.int .i64 0) := (cell_ext hb (by unfold In; first | omega | (simp; done) | (simp; omega))).trans (by go_simp); have hf1_1 : wn.frozen? ⟨w.heap.size + 1, 1, none⟩ = false := (frozen_ext hb (by unfold In; first | omega | (simp; done) | (simp; omega))).trans (by go_simp); have hc1_2 : wn.cell? ⟨w.heap.size + 1, 2, none⟩ = some (.slice none 0 0) := (cell_ext hb (by unfold In; first | omega | (simp; done) | (simp; omega))).trans (by go_simp); have hf1_2 : wn.frozen? ⟨w.heap.size + 1, 2, none⟩ = false := (frozen_ext hb (by unfold In; first | omega | (simp; done) | (simp; omega))).trans (by go_simp); have hc1_3 : wn.cell? ⟨w.heap.size + 1, 3, none⟩ = some (.int .i64 0) := (cell_ext hb (by unfold In; first | omega | (simp; done) | (simp; omega))).trans (by go_simp); have hf1_3 : wn.frozen? ⟨w.heap.size + 1, 3, none⟩ = false := (frozen_ext hb (by unfold In; first | omega | (simp; done) | (simp; omega))).trans (by go_simp); have HXn := Lib.hid (Ext_trans hb (by repeat' (first | (with_reducible first | exact HX.out | apply Ext_alloc | apply Ext_drewN | apply Ext_drew | (refine Ext_set ?_ ?_) | exact Ext_refl _) | (simp only [World.size_alloc, World.size_setCell, World.size_drew, size_drewN]; omega) | (simp; done) | (simp; omega)))); clear hb HX; have HX := HXn; clear HXn)
  refine bodyPost_ret (v := .tuple #[.agg #[.int .i64 0, .int .i64 0, .slice none 0 0, .int .i64 0], .int .i64 1]) (by simp [results, Try.results51, go_sem, hc1_0, hc1_1, hc1_2, hc1_3, hz0, hz1]) rfl ?_
  exact ⟨rfl, (by repeat' (first | (with_reducible first | exact HX.out | apply Ext_alloc | apply Ext_drewN | apply Ext_drew | (refine Ext_set ?_ ?_) | exact Ext_refl _) | (simp only [World.size_alloc, World.size_setCell, World.size_drew, size_drewN]; omega) | (simp; done) | (simp; omega)))⟩
end Go.Proofs.Ytmcfckdgolojlaa
/- Arguments that are slices: what a trodden slice reads as. -/
namespace Go.Proofs.Ytmcfckdgolojlaa
set_option linter.unusedVariables false
set_option linter.unusedSimpArgs false
open Go.RowKit Go.ChangeShapes Go.WideShapes Go.Deep

theorem flatten_get {k : Nat} : ∀ (rows : List (List Value)) (h : ∀ r ∈ rows, r.length = k) (i j : Nat), j < k → (rows.flatten[i * k + j]?) = (rows[i]?).bind fun r => r[j]?
  | [], _, i, j, _ => by simp
  | r :: rows, h, 0, j, hj => by
    have hr := h r List.mem_cons_self
    rw [List.flatten_cons, Nat.zero_mul, Nat.zero_add, List.getElem?_append_left (by omega)]
    simp
  | r :: rows, h, i + 1, j, hj => by
    have hr := h r List.mem_cons_self
    rw [List.flatten_cons, List.getElem?_append_right (by rw [Nat.add_mul]; omega), hr, show (i + 1) * k + j - k = i * k + j from by rw [Nat.add_mul]; omega, flatten_get rows (fun r hr => h r (List.mem_cons_of_mem _ hr)) i j hj]
    simp
theorem flatten_length {k : Nat} : ∀ (rows : List (List Value)) (_ : ∀ r ∈ rows, r.length = k), rows.flatten.length = rows.length * k
  | [], _ => by simp
  | r :: rows, h => by
    rw [List.flatten_cons, List.length_append, flatten_length rows (fun r hr => h r (List.mem_cons_of_mem _ hr)), h r List.mem_cons_self, List.length_cons, Nat.add_mul]
    omega

section
variable {H : Type} {enc : TypeId × Value → H} {P : Program} {W : World} {base : Nat} {sp : Nat → Bool} {held : Bool}
theorem plain_of_cell {a : Addr} {v : Value} (h : W.cell? a = some v) : a = ⟨a.block, a.off, none⟩ := by
  obtain ⟨b, o, s⟩ := a
  cases s with
  | none => rfl
  | some s =>
    unfold World.cell? at h
    split at h <;> simp at h
theorem add_off (b o n : Nat) : (⟨b, o, none⟩ : Addr).add n = ⟨b, o + n, none⟩ := by unfold Addr.add; split <;> simp_all

/-- a slice of whatever elements: its rows -/
theorem arg_rows {t e : TypeId} {k : Nat} {A : Option Addr} {n c : Nat} {d : DataW H} {ps : List MemPlace} (ht : P.underlying t = some (.slice e)) (hk : P.cellsOf e = k) (hk0 : 0 < k)
    (h : DataW.Trod enc P W base sp held t (.slice A n c) d ps) :
    ∃ rows : List (List Value), rows.length = n ∧ n ≤ c ∧ n ≤ maxLen ∧ Rd W k A n rows.flatten ∧ ∀ r ∈ rows, r.length = k ∧ ∃ m y, DataW.trod enc P W base sp held m e r = some y := by
  obtain ⟨fuel, hf⟩ := h
  rcases open_slice ht hf with ⟨hcs, _⟩ | ⟨a, len, cap, m, q, D, Pl, hcs, hb, hl, hm, hmm, _, hi⟩
  · simp [Value.cells] at hcs
    obtain ⟨rfl, rfl, rfl⟩ := hcs
    exact ⟨[], rfl, Nat.le_refl _, Nat.zero_le _, Rd.nil _ _ _, fun r hr => by cases hr⟩
  · simp [Value.cells] at hcs
    obtain ⟨rfl, rfl, rfl⟩ := hcs
    have hnm : n ≤ m := by rw [hmm]; split <;> omega
    rw [hk] at hi
    have hex : ∀ i, i < n → ∃ cs', W.cells? base (a.add (i * k)) k = some cs' ∧ ∃ m y, DataW.trod enc P W base sp held m e cs' = some y := fun i h => by
      obtain ⟨cs', h1, h2⟩ := hi i (by omega)
      exact ⟨cs', h1, _, _, h2⟩
    have hall : ∀ r ∈ (List.range n).map (fun i => (W.cells? base (a.add (i * k)) k).getD []), r.length = k ∧ ∃ m y, DataW.trod enc P W base sp held m e r = some y := by
      intro r hr
      obtain ⟨i, hi', rfl⟩ := List.mem_map.1 hr
      obtain ⟨cs', h1, h2⟩ := hex i (List.mem_range.1 hi')
      rw [h1]
      exact ⟨(World.cells?_some h1).2.1, h2⟩
    refine ⟨_, by simp, hl, Nat.le_trans hl hm, ⟨?_, fun hn => ?_⟩, hall⟩
    · rw [flatten_length _ (fun r hr => (hall r hr).1)]; simp
    · obtain ⟨cs0, h1, _⟩ := hex 0 hn
      obtain ⟨_, hl0, hc0⟩ := World.cells?_some h1
      have h00 : cs0[0]? = some (cs0[0]'(by omega)) := List.getElem?_eq_getElem (by omega)
      have hcell := hc0 0 (by omega)
      rw [Nat.zero_mul, h00] at hcell
      have ha : W.cell? a = some (cs0[0]'(by omega)) := by
        have e : (a.add 0).add 0 = a := rfl
        rwa [e] at hcell
      have hp := plain_of_cell ha
      refine ⟨a.block, a.off, by rw [← hp], fun j u hu => ?_⟩
      have hjl := (List.getElem?_eq_some_iff.1 hu).1
      rw [flatten_length _ (fun r hr => (hall r hr).1)] at hjl
      simp only [List.length_map, List.length_range] at hjl
      have hj1 : j % k < k := Nat.mod_lt _ hk0
      have hj2 : j / k < n := Nat.div_lt_of_lt_mul (by rw [Nat.mul_comm]; exact hjl)
      have hjj : j / k * k + j % k = j := by rw [Nat.mul_comm]; exact Nat.div_add_mod j k
      rw [← hjj, flatten_get _ (fun r hr => (hall r hr).1) _ _ hj1] at hu
      rw [List.getElem?_map, List.getElem?_range hj2] at hu
      obtain ⟨cs', h1, _⟩ := hex (j / k) hj2
      simp only [Option.map_some, Option.bind_some, h1, Option.getD_some] at hu
      obtain ⟨_, hl', hc'⟩ := World.cells?_some h1
      have hcell' := hc' (j % k) hj1
      rw [hu, hp, add_off, add_off] at hcell'
      rw [← hjj, ← Nat.add_assoc]
      exact hcell'

/-- a field of an element -/
theorem row_field {e : TypeId} {fs : Array Field} {r : List Value} {m : Nat} {y : DataW H × List MemPlace} (he : P.underlying e = some (.struct fs)) (hone : oneCellFields P fs = true) (h : DataW.trod enc P W base sp held m e r = some y)
    (j : Nat) (f : Field) (hj : fs[j]? = some f) (v : Value) (hv : r[j]? = some v) : ∃ q z, DataW.trod enc P W base sp held q f.type [v] = some z := by
  obtain ⟨ys, n', hn', hy, hlen, hyl, hf⟩ := DataW.trod_struct he h
  obtain ⟨ho, hk⟩ := hone_of hone j f hj
  have h1 := hf j f hj
  rw [ho, hk] at h1
  obtain ⟨hlt, rfl⟩ := List.getElem?_eq_some_iff.1 hv
  have hone' : (r.drop j).take 1 = [r[j]] := by
    rw [List.drop_eq_getElem_cons hlt]
    rfl
  rw [hone'] at h1
  have hjf : j < ys.length := by rw [hyl]; exact (Array.getElem?_eq_some_iff.1 hj).1
  exact ⟨_, _, h1.trans (List.getElem?_eq_getElem hjf)⟩
theorem field_int {t : TypeId} {k : IntKind} {v : Value} {q : Nat} {z : DataW H × List MemPlace} (ht : P.underlying t = some (.int k)) (h : DataW.trod enc P W base sp held q t [v] = some z) : ∃ n, v = .int k n ∧ (Lit.int k n).wf = true := by
  obtain ⟨n, hn, _, hw⟩ := DataW.trod_int ht h
  exact ⟨n, by simpa using hn, hw⟩
theorem field_bool {t : TypeId} {v : Value} {q : Nat} {z : DataW H × List MemPlace} (ht : P.underlying t = some .bool) (h : DataW.trod enc P W base sp held q t [v] = some z) : ∃ b, v = .bool b := by
  obtain ⟨b, hb, _⟩ := DataW.trod_bool ht h
  exact ⟨b, by simpa using hb⟩
end

theorem rows_of {α : Type} {enc : α → List Value} {p : α → Prop} : ∀ (rows : List (List Value)), (∀ r ∈ rows, ∃ x, r = enc x ∧ p x) → ∃ xs : List α, rows = xs.map enc ∧ ∀ x ∈ xs, p x
  | [], _ => ⟨[], rfl, fun x hx => by cases hx⟩
  | r :: rows, h => by
    obtain ⟨x, h1, h2⟩ := h r List.mem_cons_self
    obtain ⟨xs, h3, h4⟩ := rows_of rows (fun r hr => h r (List.mem_cons_of_mem _ hr))
    exact ⟨x :: xs, by rw [h1, h3]; rfl, fun y hy => by
      rcases List.mem_cons.1 hy with rfl | hy
      · exact h2
      · exact h4 y hy⟩

theorem u8s_rows : ∀ l : List Int, (l.map fun z : Int => [Value.int .u8 z]).flatten = u8s l
  | [] => rfl
  | a :: l => by simp only [List.map_cons, List.flatten_cons, u8s_rows l]; rfl

/-- a slice of bytes that comes in -/
theorem arg_bytes {H : Type} {enc : TypeId × Value → H} {P : Program} {W : World} {base : Nat} {sp : Nat → Bool} {held : Bool} {t e : TypeId} {A : Option Addr} {n c : Nat} {d : DataW H} {ps : List MemPlace}
    (ht : P.underlying t = some (.slice e)) (he : P.underlying e = some (.int .u8)) (hk : P.cellsOf e = 1) (h : DataW.Trod enc P W base sp held t (.slice A n c) d ps) :
    ∃ l : List Int, l.length = n ∧ n ≤ c ∧ n ≤ maxLen ∧ Rd W 1 A n (u8s l) ∧ ∀ x ∈ l, 0 ≤ x ∧ x < 256 := by
  obtain ⟨rows, h1, h2, h3, h4, h5⟩ := arg_rows ht hk (by omega) h
  obtain ⟨l, hl, hp⟩ := rows_of (enc := fun z : Int => [Value.int .u8 z]) (p := fun z => 0 ≤ z ∧ z < 256) rows (fun r hr => by
    obtain ⟨hlen, m, y, hy⟩ := h5 r hr
    obtain ⟨z, hz, _, hw⟩ := DataW.trod_int he hy
    exact ⟨z, hz, u8_wf hw⟩)
  subst hl
  refine ⟨l, by simpa using h1, h2, h3, ?_, hp⟩
  rwa [u8s_rows] at h4

/-- a slice of structs of one-cell fields that comes in: enc writes an element's cells -/
theorem arg_structs {α : Type} (en : α → List Value) (p : α → Prop) {H : Type} {enc : TypeId × Value → H} {P : Program} {W : World} {base : Nat} {sp : Nat → Bool} {held : Bool} {t e : TypeId} {k : Nat} {A : Option Addr} {n c : Nat} {d : DataW H} {ps : List MemPlace}
    (ht : P.underlying t = some (.slice e)) (hk : P.cellsOf e = k) (hk0 : 0 < k) (h : DataW.Trod enc P W base sp held t (.slice A n c) d ps)
    (hel : ∀ (r : List Value) m y, r.length = k → DataW.trod enc P W base sp held m e r = some y → ∃ x, r = en x ∧ p x) :
    ∃ l : List α, l.length = n ∧ n ≤ c ∧ n ≤ maxLen ∧ Rd W k A n (l.flatMap en) ∧ ∀ x ∈ l, p x := by
  obtain ⟨rows, h1, h2, h3, h4, h5⟩ := arg_rows ht hk hk0 h
  obtain ⟨l, hl, hp⟩ := rows_of (enc := en) (p := p) rows (fun r hr => by
    obtain ⟨hlen, m, y, hy⟩ := h5 r hr
    exact hel r m y hlen hy)
  subst hl
  exact ⟨l, by simpa using h1, h2, h3, by rw [List.flatMap_def]; exact h4, hp⟩
/-- what the row of a law hands the walk for a slice -/
def Handed (P : Program) (H : Type) (w : World) (t : TypeId) (v : Value) : Prop := ∃ (enc : TypeId × Value → H) (d : DataW H) (ps : List MemPlace), DataW.Trod enc P w 0 (fun _ => true) true t v d ps
end Go.Proofs.Ytmcfckdgolojlaa
/- Chapter 19's statements: made. -/
namespace Go.Proofs.Ytmcfckdgolojlaa
set_option linter.unusedVariables false
set_option linter.unusedSimpArgs false
open Go.RowKit

theorem flat_set0 (cs : List Cel) (k : Nat) (hk : k < cs.length) (x : Cel) :
    ((((((cs.flatMap Cel.enc).toArray.setIfInBounds (k * 5) (.int .u8 x.b)).setIfInBounds (k * 5 + 1) (.bool x.ge)).setIfInBounds (k * 5 + 2) (.bool x.st)).setIfInBounds (k * 5 + 3) (.int .u8 x.li)).setIfInBounds (k * 5 + 4) (.int .u8 x.co))
      = ((cs.set k x).flatMap Cel.enc).toArray := by
  have := flat_set [] cs k hk x
  simpa only [List.append_nil] using this
/-- cells laid over cells, the first k of them -/
def overC (l cs : List Cel) : Nat → List Cel
  | 0 => l
  | k + 1 => (overC l cs k).set k (cs.getD k Cel.zero)
theorem overC_len (l cs : List Cel) : ∀ k, (overC l cs k).length = l.length
  | 0 => rfl
  | k + 1 => by rw [overC, List.length_set, overC_len l cs k]
/-- what made hands back -/
def MadeP (w : World) (e : Ending) (w' : World) : Prop :=
  (∃ a b v c, e = .returned (.tuple #[.pointer none, .agg #[.int .i64 a, .int .i64 b, v, .int .i64 c], .bool false]) ∧ (∃ A n d, v = .slice A n d) ∧ Ext w w') ∨
  (∃ g b x p, e = .returned (.tuple #[.pointer (some ⟨g, 0, none⟩), .agg #[.int .i64 p.rows, .int .i64 p.cols, .slice (some ⟨x, 0, none⟩) p.cells.length p.cells.length, .int .i64 p.cur], .bool true]) ∧
    PlAt w' g b p ∧ Blk w' x 38 (cellRow p.cells) ∧ Ext w w' ∧ w.heap.size ≤ g ∧ w.heap.size ≤ b ∧ w.heap.size ≤ x ∧ x ≠ g ∧ x ≠ b ∧ p.cells.length ≤ 60)

theorem set_over {r c : Int} {l cs : List Cel} {k m : Nat} {z : Cel} (hz : cs.getD k Cel.zero = z) (hl : (overC l cs k).length = m) (hk : k < m) : Pl.set ⟨r, c, overC l cs k, 0⟩ (k : Int) z = ⟨r, c, overC l cs (k + 1), 0⟩ := by
  unfold Pl.set
  rw [if_pos (by simp [Pl.has, Pl.n]; omega), overC, hz]
  rfl
theorem row_cell {w : World} {x : Nat} {t : TypeId} {l : List Cel} {k : Nat} (h : Blk w x t (cellRow l)) (hk : k < l.length) (j : Nat) (u : Value) (hj : (l[k]).enc[j]? = some u) : w.cell? ⟨x, k * 5 + j, none⟩ = some u := by
  have hr : Rd w 5 (some ⟨x, 0, none⟩) l.length (l.flatMap Cel.enc) := Rd.blk h (flat_length Cel.enc 5 Cel.len _)
  obtain ⟨b, o, e, hc⟩ := hr.elem Cel.enc Cel.len hk (List.getElem?_eq_getElem hk)
  cases e
  have := hc j u hj
  rwa [Nat.zero_add] at this
end Go.Proofs.Ytmcfckdgolojlaa
/- Chapter 19's example. -/
namespace Go.Proofs.Ytmcfckdgolojlaa
set_option linter.unusedVariables false
set_option linter.unusedSimpArgs false
open Go.RowKit

end Go.Proofs.Ytmcfckdgolojlaa
/- The document's fields: Starts, All, Opens. -/
namespace Go.Proofs.Ytmcfckdgolojlaa
set_option linter.unusedVariables false
set_option linter.unusedSimpArgs false
open Go.RowKit

/-- the places of the attributes among the first k -/
def Pl.starts (p : Pl) (k : Nat) : List Int := ((List.range k).filter fun i : Nat => p.st (i : Int)).map fun i : Nat => (i : Int)
theorem starts_succ (p : Pl) (k : Nat) : p.starts (k + 1) = if p.st (k : Int) then p.starts k ++ [(k : Int)] else p.starts k := by
  unfold Pl.starts
  rw [List.range_succ, List.filter_append, List.map_append]
  cases h : p.st (k : Int) <;> simp [h]
theorem starts_len (p : Pl) : ∀ k, (p.starts k).length ≤ k
  | 0 => by simp [Pl.starts]
  | k + 1 => by
    rw [starts_succ]
    have := starts_len p k
    split <;> simp <;> omega

theorem own_ne {w : World} {b b' : Nat} {e e' : TypeId} {s s' n n' : Nat} {v v' : Value} {xs xs' : List Value} (h : w.ownsRow b e s v n xs) (h' : w.ownsRow b' e' s' v' n' xs') (hne : e ≠ e') : v.ownBlock = none ∨ v.ownBlock ≠ v'.ownBlock := by
  rcases h.2 with ⟨rfl, _⟩ | ⟨g, cap, cur, rfl, _, hh, _⟩
  · exact .inl rfl
  · refine .inr fun hk => ?_
    rcases h'.2 with ⟨rfl, _⟩ | ⟨g', cap', cur', rfl, _, hh', _⟩
    · simp [Value.ownBlock] at hk
    · have : g = g' := by simpa [Value.ownBlock] using hk
      subst this
      exact hne (Blk.same hh hh').1
/-- the document's fields -/
def Pl.rfld (p : Pl) (i : Nat) : FV :=
  let s := p.starts p.cells.length
  ⟨s.getD i 0, (if i + 1 < s.length then s.getD (i + 1) 0 else s.getD 0 0 + p.n) - s.getD i 0 - 1, (p.at (s.getD i 0)).b % 64⟩
def Pl.rflds (p : Pl) (k : Nat) : List FV := (List.range k).map p.rfld
def FV.enc (x : FV) : List Value := [.int .i64 x.s, .int .i64 x.l, .int .u8 x.a]
theorem rflds_succ (p : Pl) (k : Nat) : p.rflds (k + 1) = p.rflds k ++ [p.rfld k] := by unfold Pl.rflds; rw [List.range_succ, List.map_append]; rfl
theorem rflds_len (p : Pl) (k : Nat) : (p.rflds k).length = k := by simp [Pl.rflds]
theorem getD_mem {s : List Int} {k : Nat} (h : k < s.length) : s.getD k 0 ∈ s := by simp [h]
end Go.Proofs.Ytmcfckdgolojlaa
/- The document's open fields. -/
namespace Go.Proofs.Ytmcfckdgolojlaa
set_option linter.unusedVariables false
set_option linter.unusedSimpArgs false
open Go.RowKit
/-- has a byte the bit of that value? -/
def bitV (b v : Int) : Bool := b / v % 2 == 1
theorem RBit32_any (b : Int) (hb : 0 ≤ b ∧ b < 256) (w : World) : Calls Try.prog 53 #[.int .u8 b, .int .i64 32] w (Ret (.bool (bitV b 32)) w) := by
  have e1 : b.tdiv 32 = b / 32 := Int.tdiv_eq_ediv_of_nonneg hb.1
  have e2 : (b / 32).tmod 2 = b / 32 % 2 := Int.tmod_eq_emod_of_nonneg (by omega)
  have hw : IntKind.i64.wrap b = b := IntWalk.i64_in _ (by omega)
  have hq : wrap64 (b / 32) = b / 32 := IntWalk.wrap64_in _ (by omega)
  have HB := Lib.hid hb
  clear hb
  go_enter Try.func53, Try.ntmps53
  go_wp2_with fail
  go_ret
  exact ⟨rfl, Ext_refl _⟩
end Go.Proofs.Ytmcfckdgolojlaa
/- S1 S2 S3 S4: the texts of these, one behind the other. -/
namespace Go.Proofs.Ytmcfckdgolojlaa
set_option linter.unusedVariables false
set_option linter.unusedSimpArgs false
open Go.RowKit

theorem scan_none {f : Int → Bool} {n a s : Int} : ∀ {m : Nat}, (∀ j, j < m → f (plc n a s j) = false) → scan f n a s m = none
  | 0, _ => rfl
  | m + 1, h => by rw [scan_none_succ (scan_none fun j hj => h j (by omega)), h m (by omega)]; rfl
theorem scan_none_all {f : Int → Bool} {n a s : Int} : ∀ {m : Nat}, scan f n a s m = none → ∀ j, j < m → f (plc n a s j) = false
  | 0, _, _, hj => by omega
  | m + 1, h, j, hj => by
    have e : scan f n a s m = none := by
      cases e : scan f n a s m with
      | none => rfl
      | some y => rw [scan, e] at h; cases h
    by_cases hm : j = m
    · subst hm
      rw [scan_none_succ e] at h
      cases hc : f (plc n a s j)
      · rfl
      · rw [hc] at h; cases h
    · exact scan_none_all e j (by omega)
theorem scan_some {f : Int → Bool} {n a s : Int} {m k : Nat} (hk : k < m) (hf : f (plc n a s k) = true) (hb : ∀ j, j < k → f (plc n a s j) = false) : scan f n a s m = some (plc n a s k) := by
  refine scan_mono (m := k + 1) (by omega) ?_
  rw [scan_none_succ (scan_none hb), if_pos hf]
theorem scan_of_some {f : Int → Bool} {n a s x : Int} : ∀ {m : Nat}, scan f n a s m = some x → ∃ k, k < m ∧ x = plc n a s k ∧ f x = true ∧ ∀ j, j < k → f (plc n a s j) = false
  | 0, h => by cases h
  | m + 1, h => by
    cases e : scan f n a s m with
    | none =>
      rw [scan_none_succ e] at h
      split at h
      · next hf =>
        cases h
        exact ⟨m, by omega, rfl, hf, scan_none_all e⟩
      · cases h
    | some y =>
      rw [scan, e] at h
      cases h
      obtain ⟨k, h1, h2⟩ := scan_of_some e
      exact ⟨k, by omega, h2⟩
variable {p : Pl}
theorem lookM_in {i s : Int} (h0 : 0 ≤ i) (h1 : i < p.n) : p.lookM i s = (scan p.st p.n i s p.cells.length).getD (-1) := by unfold Pl.lookM; rw [if_pos ⟨h0, h1⟩]
variable {p : Pl}
/-- a rising list of all places in [0,n) that f takes -/
structure Enum (f : Int → Bool) (n : Int) (O : List Int) : Prop where
  mem : ∀ x, x ∈ O ↔ 0 ≤ x ∧ x < n ∧ f x = true
  up : O.Pairwise (· < ·)
theorem Enum.of (f : Int → Bool) (m : Nat) : Enum f m (((List.range m).filter fun i : Nat => f (i : Int)).map fun i : Nat => (i : Int)) := by
  constructor
  · intro x
    simp only [List.mem_map, List.mem_filter, List.mem_range]
    constructor
    · rintro ⟨i, ⟨h1, h2⟩, rfl⟩; exact ⟨by omega, by omega, h2⟩
    · rintro ⟨h1, h2, h3⟩
      exact ⟨x.toNat, ⟨by omega, by rw [Int.toNat_of_nonneg h1]; exact h3⟩, Int.toNat_of_nonneg h1⟩
  · exact List.Pairwise.map _ (fun a b h => by omega) (List.Pairwise.filter _ List.pairwise_lt_range)
variable {f : Int → Bool} {n : Int} {O : List Int}
theorem Enum.at_ (h : Enum f n O) {i : Nat} (hi : i < O.length) : 0 ≤ O.getD i 0 ∧ O.getD i 0 < n ∧ f (O.getD i 0) = true := (h.mem _).1 (getD_mem hi)
theorem Enum.lt (h : Enum f n O) {i j : Nat} (hij : i < j) (hj : j < O.length) : O.getD i 0 < O.getD j 0 := by
  have := List.pairwise_iff_getElem.1 h.up i j (by omega) hj hij
  simpa [hj, (by omega : i < O.length)] using this
theorem Enum.idx (h : Enum f n O) {x : Int} (h0 : 0 ≤ x) (h1 : x < n) (h2 : f x = true) : ∃ i, i < O.length ∧ O.getD i 0 = x := by
  obtain ⟨i, hi, rfl⟩ := List.getElem_of_mem ((h.mem x).2 ⟨h0, h1, h2⟩)
  exact ⟨i, hi, by simp [hi]⟩
theorem Enum.gap (h : Enum f n O) {i : Nat} (hi : i < O.length) {x : Int} (hx : O.getD i 0 < x) (hn : x < n) (hu : i + 1 < O.length → x < O.getD (i + 1) 0) : f x = false := by
  cases hf : f x
  · rfl
  · exfalso
    obtain ⟨j, hj, rfl⟩ := h.idx (by have := (h.at_ hi).1; omega) hn hf
    by_cases h1 : j ≤ i
    · by_cases h2 : j = i
      · subst h2; omega
      · have := h.lt (by omega : j < i) hi; omega
    · by_cases h2 : j = i + 1
      · subst h2; have := hu hj; omega
      · have := hu (by omega); have := h.lt (by omega : i + 1 < j) hj; omega
theorem Enum.low (h : Enum f n O) {x : Int} (h0 : 0 ≤ x) (hn : x < n) (hu : 0 < O.length → x < O.getD 0 0) : f x = false := by
  cases hf : f x
  · rfl
  · exfalso
    obtain ⟨j, hj, rfl⟩ := h.idx h0 hn hf
    by_cases h2 : j = 0
    · subst h2; have := hu hj; omega
    · have := hu (by omega); have := h.lt (by omega : 0 < j) hj; omega
/-! ### the document's list -/
theorem bit_b (b : Int) (h : 0 ≤ b ∧ b < 256) : bitV (b % 64) 32 = bitB (Go.bits .and .u8 b 63) 32 := by
  obtain ⟨k, rfl⟩ := Int.eq_ofNat_of_zero_le h.1
  have hk : k < 256 := by omega
  have := (by decide +kernel : ∀ k : Fin 256, bitV ((k.val : Int) % 64) 32 = bitB (Go.bits .and .u8 (k.val : Int) 63) 32) ⟨k, hk⟩
  exact this
theorem starts_enum (p : Pl) : Enum p.st p.n (p.starts p.cells.length) := Enum.of p.st p.cells.length
theorem at_bd (hby : ∀ y ∈ p.cells, 0 ≤ y.b ∧ y.b < 256) (i : Int) : 0 ≤ (p.at i).b ∧ (p.at i).b < 256 := by
  unfold Pl.at
  split
  · next h =>
    have : i.toNat < p.cells.length := by have : p.n = p.cells.length := rfl; omega
    rw [List.getD_eq_getElem?_getD, List.getElem?_eq_getElem this]
    exact hby _ (List.getElem_mem this)
  · exact ⟨by decide, by decide⟩
variable {p : Pl}
variable {p : Pl}
end Go.Proofs.Ytmcfckdgolojlaa
/- U1 U2: the texts of these, one behind the other. -/
namespace Go.Proofs.Ytmcfckdgolojlaa
set_option linter.unusedVariables false
set_option linter.unusedSimpArgs false
open Go.RowKit
open Go.RowKit
section
variable {P : Program}
end
theorem flat_cells (l : List Cel) : (l.flatMap Cel.enc).length = l.length * 5 := flat_length Cel.enc 5 Cel.len l
open Go.RowKit
theorem PlAt.rd {w : World} {g c : Nat} {p : Pl} (h : PlAt w g c p) : ∃ kap, Rd w 5 (some ⟨c, 0, none⟩) p.cells.length (p.cells.flatMap Cel.enc) ∧ w.cell? ⟨g, 0, none⟩ = some (.int .i64 p.rows) ∧ w.cell? ⟨g, 1, none⟩ = some (.int .i64 p.cols) ∧ w.cell? ⟨g, 2, none⟩ = some (.slice (some ⟨c, 0, none⟩) p.cells.length kap) ∧ w.cell? ⟨g, 3, none⟩ = some (.int .i64 p.cur) := by
  obtain ⟨kap, tl, hk⟩ := h
  exact ⟨kap, Rd.blk_head hk.row (flat_cells _), hk.obj.cell 0, hk.obj.cell 1, hk.obj.cell 2, hk.obj.cell 3⟩
end Go.Proofs.Ytmcfckdgolojlaa
/- The range over a field's places, where the body may turn the plane's cells. -/
namespace Go.Proofs.Ytmcfckdgolojlaa
set_option linter.unusedVariables false
set_option linter.unusedSimpArgs false
open Go.RowKit Go.Shelf
attribute [local go_sem] Oper.semAt_some
/-- the plane stays a plane of its size, and blocks a and b stay -/
structure KpP (g c a b : Nat) (X Y : World) : Prop where
  size : X.heap.size ≤ Y.heap.size
  same : ∀ i, i = a ∨ i = b → i < X.heap.size → Y.heap[i]? = X.heap[i]?
  pl : ∀ p, PlAt X g c p → ∃ q, PlAt Y g c q ∧ q.rows = p.rows ∧ q.cols = p.cols ∧ q.cells.length = p.cells.length
theorem KpP.refl (g c a b : Nat) (X : World) : KpP g c a b X X := ⟨Nat.le_refl _, fun _ _ _ => rfl, fun p h => ⟨p, h, rfl, rfl, rfl⟩⟩
theorem KpP.trans {g c a b : Nat} {X Y Z : World} (h : KpP g c a b X Y) (k : KpP g c a b Y Z) : KpP g c a b X Z :=
  ⟨Nat.le_trans h.size k.size, fun i hi hl => (k.same i hi (Nat.lt_of_lt_of_le hl h.size)).trans (h.same i hi hl), fun p hp => by
    obtain ⟨q, h1, h2, h3, h4⟩ := h.pl p hp
    obtain ⟨r, k1, k2, k3, k4⟩ := k.pl q h1
    exact ⟨r, k1, k2.trans h2, k3.trans h3, k4.trans h4⟩⟩
theorem KpP.of_ext {g c a b : Nat} {X Y : World} (h : Ext X Y) : KpP g c a b X Y := ⟨h.size, fun i _ hl => h.block i hl, fun p hp => ⟨p, hp.ext h, rfl, rfl, rfl⟩⟩
theorem KpP.put {g c a b : Nat} {w : World} (ha : a < w.heap.size) (hb : b < w.heap.size) (W : World) (l : Nat) (o o' : Obj) (hl : w.heap.size ≤ l) (h : W.heap[l]? = some o) (h1 : o.isCells = false) (_ : o.isWalk = false) : KpP g c a b W (W.putObj l o') := by
  have hg := grownBy_putObj' W l o'
  refine ⟨hg.size, fun i hi hil => hg.block i hil (fun e => by injection e with e; omega), fun p hp => ⟨p, ?_, rfl, rfl, rfl⟩⟩
  obtain ⟨k, t, hk⟩ := hp
  have ne : ∀ {x : Nat} {t : TypeId} {cs : Array Value}, Blk W x t cs → some x ≠ some l := fun hx e => by
    injection e with e
    subst e
    have h2 := hx
    unfold Blk at h2
    rw [h] at h2
    cases h2
    cases h1
  exact ⟨k, t, hk.obj.grown hg (ne hk.obj), hk.row.grown hg (ne hk.row), hk.ok⟩
theorem LenQ_any (g c : Nat) (p : Pl) (w : World) (h : PlAt w g c p) : Calls Try.prog 18 #[.pointer (some ⟨g, 0, none⟩)] w (fun e w' => e = .returned (.int .i64 p.n) ∧ w' = w) := by
  obtain ⟨kap, tl, h⟩ := h
  have c2 := h.obj.cell 2
  have hn := h.ok.sz.n1
  unfold Pl.n at hn
  clear h
  go_enter Try.func18, Try.ntmps18
  go_wp2
  go_ret
  exact ⟨rfl, rfl⟩
end Go.Proofs.Ytmcfckdgolojlaa
/- A field's cells let go: wipe.Inside. -/
namespace Go.Proofs.Ytmcfckdgolojlaa
set_option linter.unusedVariables false
set_option linter.unusedSimpArgs false
open Go.RowKit Go.Shelf
attribute [local go_sem] Oper.semAt_some
theorem set_dims (p : Pl) (i : Int) (x : Cel) : (p.set i x).rows = p.rows ∧ (p.set i x).cols = p.cols ∧ (p.set i x).cells.length = p.cells.length := by
  unfold Pl.set
  split <;> simp
theorem plat_own {β : Type} (g c : Nat) (f : β → Pl) : Own (fun s W => PlAt W g c (f s)) := fun s X Y row hs hg hrow => by
  have ne : ∀ {x : Nat} {t : TypeId} {cs : Array Value}, Blk X x t cs → some x ≠ row := fun hx e => by
    obtain ⟨o, ho, hc⟩ := hrow _ e.symm
    rw [show X.heap[_]? = _ from hx] at ho; cases ho; cases hc
  obtain ⟨k, t, hk⟩ := hs
  exact ⟨k, t, hk.obj.grown hg (ne hk.obj), hk.row.grown hg (ne hk.row), hk.ok⟩
theorem chg_ownFrom {β : Type} (l : List Nat) (w : World) (B : Nat) (hB : w.heap.size ≤ B) : OwnFrom B (fun (_ : β) W => Chg l w W) := fun s X Y row hs hg hr =>
  ⟨hg.os.trans hs.os, hg.tape.trans hs.tape, hg.output.trans hs.output, Nat.le_trans hs.size hg.size, fun i hi hn => (hg.block i (Nat.lt_of_lt_of_le hi hs.size) (fun e => by have := (hr i e.symm).1; omega)).trans (hs.block i hi hn)⟩
theorem Chg.drop {l m : List Nat} {w w1 w2 : World} (h : Chg l w1 w2) (k : Ext w w1) (hl : ∀ i, i ∈ l → i ∈ m ∨ w.heap.size ≤ i) : Chg m w w2 :=
  ⟨h.os.trans k.os, h.tape.trans k.tape, h.output.trans k.output, Nat.le_trans k.size h.size, fun i hi hn => (h.block i (Nat.lt_of_lt_of_le hi k.size) (fun hx => by
    rcases hl i hx with h1 | h1
    · exact hn h1
    · omega)).trans (k.block i hi)⟩
theorem Chg.put {l : List Nat} {w w1 : World} (h : Chg l w w1) (D : Nat) (o : Obj) (hD : w.heap.size ≤ D) : Chg l w (w1.putObj D o) := by
  have hg := grownBy_putObj' w1 D o
  exact ⟨hg.os.trans h.os, hg.tape.trans h.tape, hg.output.trans h.output, Nat.le_trans h.size hg.size, fun i hi hn => (hg.block i (Nat.lt_of_lt_of_le hi h.size) (fun e => by injection e with e; omega)).trans (h.block i hi hn)⟩
theorem KeepsFrom.of_chg {B : Nat} {l : List Nat} {X Y : World} (h : Chg l X Y) (hl : ∀ i, i ∈ l → i < B) : KeepsFrom B X Y :=
  ⟨h.size, fun k o hB hk _ => (h.block k (Array.getElem?_eq_some_iff.1 hk).1 (fun hx => by have := hl k hx; omega)).trans hk⟩
end Go.Proofs.Ytmcfckdgolojlaa
/- Attributes modified: attr.Modify, field.modify, field.Mark. -/
namespace Go.Proofs.Ytmcfckdgolojlaa
set_option linter.unusedVariables false
set_option linter.unusedSimpArgs false
open Go.RowKit
theorem at_bdd {p : Pl} (hby : ∀ y ∈ p.cells, 0 ≤ y.b ∧ y.b < 256) (i : Int) : 0 ≤ (p.at i).b ∧ (p.at i).b < 256 := by
  unfold Pl.at
  split
  · next h =>
    have : i.toNat < p.cells.length := by have : p.n = p.cells.length := rfl; omega
    rw [List.getD_eq_getElem?_getD, List.getElem?_eq_getElem this]
    exact hby _ (List.getElem_mem this)
  · exact ⟨by decide, by decide⟩
end Go.Proofs.Ytmcfckdgolojlaa
/- The range over the places between two. -/
namespace Go.Proofs.Ytmcfckdgolojlaa
set_option linter.unusedVariables false
set_option linter.unusedSimpArgs false
open Go.RowKit Go.Shelf
attribute [local go_sem] Oper.semAt_some
/-- three blocks stay -/
structure Kp3 (a b d : Nat) (X Y : World) : Prop where
  size : X.heap.size ≤ Y.heap.size
  same : ∀ i, i = a ∨ i = b ∨ i = d → i < X.heap.size → Y.heap[i]? = X.heap[i]?
theorem Kp3.refl (a b d : Nat) (X : World) : Kp3 a b d X X := ⟨Nat.le_refl _, fun _ _ _ => rfl⟩
theorem Kp3.trans {a b d : Nat} {X Y Z : World} (h : Kp3 a b d X Y) (k : Kp3 a b d Y Z) : Kp3 a b d X Z :=
  ⟨Nat.le_trans h.size k.size, fun i hi hl => (k.same i hi (Nat.lt_of_lt_of_le hl h.size)).trans (h.same i hi hl)⟩
theorem Kp3.of_ext {a b d : Nat} {X Y : World} (h : Ext X Y) : Kp3 a b d X Y := ⟨h.size, fun i _ hl => h.block i hl⟩
theorem Kp3.of_chg {a b d : Nat} {l : List Nat} {X Y : World} (h : Chg l X Y) (ha : a ∉ l) (hb : b ∉ l) (hd : d ∉ l) : Kp3 a b d X Y :=
  ⟨h.size, fun i hi hl => h.block i hl (by rcases hi with rfl | rfl | rfl <;> assumption)⟩
theorem Kp3.put {a b d : Nat} {w : World} (ha : a < w.heap.size) (hb : b < w.heap.size) (hd : d < w.heap.size) (W : World) (l : Nat) (o o' : Obj) (hl : w.heap.size ≤ l) (h : W.heap[l]? = some o) (_ : o.isCells = false) (_ : o.isWalk = false) : Kp3 a b d W (W.putObj l o') := by
  have hg := grownBy_putObj' W l o'
  exact ⟨hg.size, fun i hi hil => hg.block i hil (fun e => by injection e with e; omega)⟩
/-- how many places from one on up to another -/
def btwM (n f t : Int) : Nat := ((t - f - 1) % n).toNat + 1
def btwN (n f : Int) (m : Nat) : List Int := (List.range m).map fun j : Nat => (f + (j : Int)) % n
theorem btwN_succ (n f : Int) (m : Nat) : btwN n f (m + 1) = btwN n f m ++ [(f + (m : Int)) % n] := by unfold btwN; rw [List.range_succ, List.map_append]; rfl
theorem btwN_len (n f : Int) (m : Nat) : (btwN n f m).length = m := by simp [btwN]
theorem btwN_prefix (n f : Int) (k : Nat) : ∀ m, btwN n f k <+: btwN n f (k + m)
  | 0 => List.prefix_refl _
  | m + 1 => by
    refine (btwN_prefix n f k m).trans ?_
    rw [← Nat.add_assoc, btwN_succ]
    exact List.prefix_append _ _
/-- it is come to the end just behind the last -/
theorem btw_end {n f t : Int} (hn : 1 ≤ n) (t0 : 0 ≤ t) (t1 : t < n) (k : Nat) (hk : k < btwM n f t) : ((f + ((k : Int) + 1)) % n == t) = decide (k + 1 = btwM n f t) := by
  have h0 : 0 ≤ (t - f - 1) % n := Int.emod_nonneg _ (by omega)
  have h1 : (t - f - 1) % n < n := Int.emod_lt_of_pos _ (by omega)
  have e : (f + ((t - f - 1) % n + 1)) % n = t := by
    rw [Int.add_comm ((t - f - 1) % n) 1, ← Int.add_assoc, Int.add_emod_emod, show f + 1 + (t - f - 1) = t by omega, Int.emod_eq_of_lt t0 t1]
  unfold btwM at *
  by_cases hkk : k + 1 = ((t - f - 1) % n).toNat + 1
  · rw [decide_eq_true hkk, beq_iff_eq]
    rw [← e]
    congr 2
    omega
  · rw [decide_eq_false hkk, beq_eq_false_iff_ne]
    intro e2
    have e3 : ((f + ((k : Int) + 1)) - (f + ((t - f - 1) % n + 1))) % n = 0 := by
      rw [Int.sub_emod, e2, e, Int.sub_self, Int.zero_emod]
    rw [show (f + ((k : Int) + 1)) - (f + ((t - f - 1) % n + 1)) = (k : Int) - (t - f - 1) % n by omega] at e3
    have := Int.emod_emod_of_dvd ((k : Int) - (t - f - 1) % n) (Int.dvd_refl n)
    have hd : n ∣ (k : Int) - (t - f - 1) % n := Int.dvd_of_emod_eq_zero e3
    obtain ⟨q, hq⟩ := hd
    have : q = 0 := by
      rcases Int.lt_trichotomy q 0 with h | h | h
      · have : n * q ≤ n * (-1) := Int.mul_le_mul_of_nonneg_left (by omega) (by omega)
        omega
      · exact h
      · have : n * 1 ≤ n * q := Int.mul_le_mul_of_nonneg_left (by omega) (by omega)
        omega
    rw [this, Int.mul_zero] at hq
    omega
theorem Between_any (r c f t : Int) (w : World) : Calls Try.prog 89 #[.agg #[.int .i64 r, .int .i64 c], .int .i64 f, .int .i64 t] w fun e w' =>
    e = .returned (.func (.func 109) #[] #[.pointer (some ⟨w.heap.size, 0, none⟩), .pointer (some ⟨w.heap.size + 1, 0, none⟩), .pointer (some ⟨w.heap.size + 2, 0, none⟩)]) ∧ w' = ((w.alloc (.cells #[.int .i64 r, .int .i64 c] 23)).alloc (.cells #[.int .i64 f] 3)).alloc (.cells #[.int .i64 t] 3) := by
  go_enter Try.func89, Try.ntmps89
  go_wp2
  go_ret
  exact ⟨rfl, rfl⟩
set_option maxRecDepth 100000 in
set_option maxHeartbeats 4000000 in
theorem Between1_in (n : Nat) (hn : 1 ≤ n) (l B1 B2 B3 : Nat) (r c nn f t : Int) (hz : SzOk r c nn) (f0 : 0 ≤ f) (f1 : f < nn) (t0 : 0 ≤ t) (t1 : t < nn) (J Jx : List Int → World → Prop) (W : World) (hJ : AbidesFrom W.heap.size J)
    (hY : ∀ pre x W, J pre W → pre.length < 5000 → 0 ≤ x → x < nn → YieldAt Fence.wide (n - 1) Try.prog l #[.int .i64 x] W fun e W' =>
      (e = .returned (.bool true) ∧ J (pre ++ [x]) W' ∧ Kp3 B1 B2 B3 W W') ∨ (e = .returned (.bool false) ∧ Jx (pre ++ [x]) W'))
    (h1 : Blk W B1 23 #[.int .i64 r, .int .i64 c]) (h2 : Blk W B2 3 #[.int .i64 f]) (h3 : Blk W B3 3 #[.int .i64 t]) (h0 : J [] W) :
    CallsIn Fence.wide n Try.prog 109 #[.func (.yield l) #[] #[], .pointer (some ⟨B1, 0, none⟩), .pointer (some ⟨B2, 0, none⟩), .pointer (some ⟨B3, 0, none⟩)] W fun e W' => (∃ v, e = .returned v) ∧
      ((∃ xs, xs = btwN nn f (btwM nn f t) ∧ J xs W') ∨ (∃ pre, (pre <+: btwN nn f (btwM nn f t)) ∧ Jx pre W')) := by
  have HJ := Lib.hid hJ
  have H1 := Lib.hid h1
  have H2 := Lib.hid h2
  have H3 := Lib.hid h3
  have HZ := Lib.hid hz
  have HC := Lib.hid (cellsM_ok hz)
  have q0 := h1.cell 0
  have q1 := h1.cell 1
  have z0 := h2.cell 0
  have y0 := h3.cell 0
  simp at q0 q1 z0 y0
  have hlt1 := h1.lt
  have hlt2 := h2.lt
  have hlt3 := h3.lt
  have hn1 : nn ≤ 4096 := hz.n1
  have hn0 : 1 ≤ nn := hz.n0
  have hs0 : decide (f < 0) = false := decide_eq_false (by omega)
  have hs1 : decide (nn ≤ f) = false := decide_eq_false (by omega)
  have hs2 : decide (t < 0) = false := decide_eq_false (by omega)
  have hs3 : decide (nn ≤ t) = false := decide_eq_false (by omega)
  have HX := Lib.hid (Ext_refl W)
  clear hJ h1 h2 h3 hz
  refine callsIn_of_wp Try.func109 rfl trivial ?_ rfl
  simp only [Try.ntmps109, List.size_toArray, List.length_cons, List.length_nil, Nat.reduceAdd, Nat.reduceSub, Array.replicate_succ, Array.replicate_zero, List.push_toArray, List.append_toArray, List.nil_append, List.cons_append]
  gi_wp2_with (refine ⟨trivial, ?_⟩; gi_at_call 80; refine (callsIn_wide.2 (Cells_any _ _ _)).mono ?_; rintro e wn ⟨rfl, hb⟩; rw [HC.out]; have HXn := Lib.hid (Ext_trans hb (by repeat' (first | (with_reducible first | exact HX.out | apply Ext_alloc | apply Ext_drewN | apply Ext_drew | (refine Ext_set ?_ ?_) | exact Ext_refl _) | (simp only [World.size_alloc, World.size_setCell, World.size_drew, size_drewN]; omega) | (simp; done) | (simp; omega)))); clear hb HX; have HX := HXn; clear HXn; have m1 := (cell_ext HX.out hlt1).trans q0; have m1b := (cell_ext HX.out hlt1).trans q1; have m2 := (cell_ext HX.out hlt2).trans z0; have m3 := (cell_ext HX.out hlt3).trans y0)
  obtain ⟨m, hm⟩ : ∃ m, btwM nn f t = m := ⟨_, rfl⟩
  have hm1 : 1 ≤ m := by rw [← hm]; unfold btwM; omega
  have hmn : (m : Int) ≤ nn := by
    rw [← hm]
    unfold btwM
    have h0 : 0 ≤ (t - f - 1) % nn := Int.emod_nonneg _ (by omega)
    have h1 : (t - f - 1) % nn < nn := Int.emod_lt_of_pos _ (by omega)
    omega
  have HM := Lib.hid hm
  have HEND := Lib.hid (fun k (hk : k < btwM nn f t) => btw_end (f := f) hn0 t0 t1 k hk)
  have H12 := Lib.hid (Blk.below' H1.out HX.out)
  have H22 := Lib.hid (Blk.below' H2.out HX.out)
  have H32 := Lib.hid (Blk.below' H3.out HX.out)
  have HJ2 := Lib.hid (HJ.out _ _ _ none h0 (grown_below HX.out none) (fun _ e => by cases e))
  have hidx : ∀ k : Nat, k < m → ((f + (k : Int)) % nn - f) % nn = k := fun k hk => by
    rw [Int.emod_sub_emod, show f + (k : Int) - f = k by omega]
    exact Int.emod_eq_of_lt (by omega) (by omega)
  have HIDX := Lib.hid hidx
  have hf0 : f = (f + ((0 : Nat) : Int)) % nn := by
    have : f + ((0 : Nat) : Int) = f := by omega
    rw [this, Int.emod_eq_of_lt f0 f1]
  have HF0 := Lib.hid hf0
  clear q0 q1 z0 y0 m1 m1b m2 m3 hm hidx hf0 hlt1 hlt2 hlt3
  gi_loopw [6] (fun v wr => ∃ k : Nat, k < m ∧ v = .int .i64 ((f + (k : Int)) % nn) ∧ Hid (J (btwN nn f k) wr) ∧ Hid (Kp3 B1 B2 B3 wn wr)) (fun v _ => m - ((intOf v - f) % nn).toNat)
  case atStart => exact ⟨0, by omega, by rw [← HF0.out], HJ2, Kp3.refl _ _ _ _⟩
  case round =>
    obtain ⟨k, hk, rfl, HJk, HK⟩ := hrel
    have B1' := Lib.hid (show Blk wr B1 _ _ from (HK.out.same B1 (.inl rfl) H12.out.lt).trans H12.out)
    have B2' := Lib.hid (show Blk wr B2 _ _ from (HK.out.same B2 (.inr (.inl rfl)) H22.out.lt).trans H22.out)
    have B3' := Lib.hid (show Blk wr B3 _ _ from (HK.out.same B3 (.inr (.inr rfl)) H32.out.lt).trans H32.out)
    obtain ⟨fn, tmps, assign, body, hy, hR⟩ := hY (btwN nn f k) ((f + (k : Int)) % nn) wr HJk.out (by rw [btwN_len]; omega) (Int.emod_nonneg _ (by omega)) (Int.emod_lt_of_pos _ (by omega))
    have HI1 := Lib.hid (HIDX.out k hk)
    obtain ⟨av, hav⟩ : ∃ av, (f + (k : Int)) % nn = av := ⟨_, rfl⟩
    have HAV := Lib.hid hav
    rw [hav] at hy hR ⊢
    clear hav
    gi_wp2
    refine hR.mono ?_
    rintro e W3 (⟨rfl, hJ3, hk3⟩ | ⟨rfl, hJx3⟩)
    · have B13 := (show Blk W3 B1 _ _ from (hk3.same B1 (.inl rfl) B1'.out.lt).trans B1'.out)
      have B33 := (show Blk W3 B3 _ _ from (hk3.same B3 (.inr (.inr rfl)) B3'.out.lt).trans B3'.out)
      have q0 := B13.cell 0
      have q1 := B13.cell 1
      have y0 := B33.cell 0
      simp at q0 q1 y0
      have hlt3 := B33.lt
      have HK3 := Lib.hid (HK.out.trans hk3)
      have HJ3 := Lib.hid (show J (btwN nn f (k + 1)) W3 by rw [btwN_succ, HAV.out]; exact hJ3)
      have hend := HEND.out k (by rw [HM.out]; exact hk)
      have hnext : (av + 1) % nn = (f + ((k : Int) + 1)) % nn := by rw [← HAV.out, Int.emod_add_emod, Int.add_assoc]
      rw [← hnext, HM.out] at hend
      have HNX := Lib.hid hnext
      clear hJ3 hk3 hR hy B13 B33 hnext
      gi_wp2_with fail
      refine ⟨trivial, ?_⟩
      refine (callsIn_wide.2 (Move_any _ _ _ _ nn HZ.out _)).mono ?_
      rintro e W4 ⟨rfl, hb⟩
      have HX4 := Lib.hid hb
      have y1 := (cell_ext hb hlt3).trans y0
      have HJ4 := Lib.hid (HJ.out _ _ _ none HJ3.out (grown_below hb none) (fun _ e => by cases e))
      have HK4 := Lib.hid (HK3.out.trans (Kp3.of_ext hb))
      clear hb
      by_cases hkm : k + 1 = m
      · rw [decide_eq_true hkm] at hend
        gi_wp2
        refine bodyPost_ret (results_none rfl _ _ _) rfl ?_
        refine ⟨⟨_, rfl⟩, .inl ⟨btwN nn f (btwM nn f t), rfl, ?_⟩⟩
        rw [HM.out, ← hkm]
        exact HJ4.out
      · rw [decide_eq_false hkm] at hend
        have HI2 := Lib.hid (HIDX.out (k + 1) (by omega))
        gi_wp2
        go_roundw
        case rel => exact ⟨k + 1, by omega, by rw [HNX.out]; rfl, HJ4, HK4⟩
        case measure =>
          have h1 := HI1.out
          have h2 := HI2.out
          have h3 := HNX.out
          rw [HAV.out] at h1
          have h4 : ((k + 1 : Nat) : Int) = (k : Int) + 1 := by omega
          rw [h4, ← h3] at h2
          simp only [intOf]
          omega
    · gi_wp2
      go_end0
      refine ⟨⟨_, rfl⟩, .inr ⟨btwN nn f (k + 1), ?_, by rw [btwN_succ, HAV.out]; exact hJx3⟩⟩
      rw [HM.out]
      have := btwN_prefix nn f (k + 1) (m - (k + 1))
      rwa [show k + 1 + (m - (k + 1)) = m by omega] at this
/-- a place -/
abbrev PlN (nn : Int) := { x : Int // 0 ≤ x ∧ x < nn }
def vals {nn : Int} (l : List (PlN nn)) : List Int := l.map Subtype.val
theorem vals_snoc {nn : Int} (l : List (PlN nn)) (x : PlN nn) : vals (l ++ [x]) = vals l ++ [x.1] := by unfold vals; rw [List.map_append]; rfl
theorem vals_len {nn : Int} (l : List (PlN nn)) : (vals l).length = l.length := by unfold vals; exact List.length_map ..
theorem Between_stops (n : Nat) (hn : 1 ≤ n) (B1 B2 B3 : Nat) (r c nn f t : Int) (hz : SzOk r c nn) (f0 : 0 ≤ f) (f1 : f < nn) (t0 : 0 ≤ t) (t1 : t < nn) (w : World)
    (h1 : Blk w B1 23 #[.int .i64 r, .int .i64 c]) (h2 : Blk w B2 3 #[.int .i64 f]) (h3 : Blk w B3 3 #[.int .i64 t]) :
    SeqStopsK Fence.wide n Try.prog 109 #[.pointer (some ⟨B1, 0, none⟩), .pointer (some ⟨B2, 0, none⟩), .pointer (some ⟨B3, 0, none⟩)] (fun x : PlN nn => #[.int .i64 x.1]) (Kp3 B1 B2 B3) (fun xs => vals xs = btwN nn f (btwM nn f t)) (fun pre => vals pre <+: btwN nn f (btwM nn f t)) 5000 w :=
  fun l J Jx W hW hJ _ hY h0 => by
    refine (Between1_in n hn l B1 B2 B3 r c nn f t hz f0 f1 t0 t1 (fun pre W => ∃ pre' : List (PlN nn), vals pre' = pre ∧ J pre' W) (fun pre W => ∃ pre' : List (PlN nn), vals pre' = pre ∧ Jx pre' W) W ?_ ?_ (Blk.below' h1 hW) (Blk.below' h2 hW) (Blk.below' h3 hW) ⟨[], rfl, h0⟩).mono ?_
    · intro s X Y row hs hg hr
      obtain ⟨s', e, hs⟩ := hs
      exact ⟨s', e, hJ s' X Y row hs hg hr⟩
    · rintro pre x X ⟨pre', rfl, hp⟩ hl x0 x1
      rw [vals_len] at hl
      obtain ⟨fn, tmps, assign, body, hy, hR⟩ := hY pre' ⟨x, x0, x1⟩ X hp hl
      refine ⟨fn, tmps, assign, body, hy, hR.mono fun e Y h => ?_⟩
      rcases h with ⟨h1, h2, h3⟩ | ⟨h1, h2⟩
      · exact .inl ⟨h1, ⟨_, vals_snoc _ _, h2⟩, h3⟩
      · exact .inr ⟨h1, ⟨_, vals_snoc _ _, h2⟩⟩
    · rintro e Y ⟨h1, h2⟩
      refine ⟨h1, ?_⟩
      rcases h2 with ⟨xs, rfl, xs', e1, e2⟩ | ⟨pre, e0, pre', e1, e2⟩
      · exact .inl ⟨xs', e1, e2⟩
      · exact .inr ⟨pre', by show vals pre' <+: _; rw [e1]; exact e0, e2⟩
end Go.Proofs.Ytmcfckdgolojlaa
/- A drawn region inside a round: its first operations only read, the rest follow one by one. -/
namespace Go.Proofs.Ytmcfckdgolojlaa
set_option linter.unusedVariables false
set_option linter.unusedSimpArgs false
section
variable {F : Fence} {n : Nat} {P : Program} {ops : Array Oper} {md : Region.Mode} {C : World → Prop}
theorem wpOpIn_quiet {i : Nat} {a : Act} {K : Act → Prop} {K' : Act → World → Prop} {Q' : Exit → Act → World → Prop} {w : World} (hd : ∀ o, ops[i]? = some o → ∀ c, o.op ≠ .defer c) (hC : C w) (h : ∀ a w', C w' → K a → K' a w')
    (hh : qOpIn F n P ops C i K a) : wpOpIn F n P ops Q' i K' a w := by
  unfold qOpIn at hh
  unfold wpOpIn
  split
  · rename_i ho; simp only [ho] at hh; exact h _ _ hC hh
  · rename_i o ho
    simp only [ho] at hh
    obtain ⟨ha, hh⟩ := hh
    split
    · rename_i hw
      simp only [hw, if_true] at hh
      obtain ⟨v, h1, h2⟩ := hh
      have h3 := h1 w hC
      unfold Oper.quietAtIn at h3
      unfold Oper.wpIn
      refine ⟨ha w hC, ?_⟩
      rw [Oper.semAt_plain F _ _ (hd o ho)]
      generalize (execOp a.eval o).run P w = r at *
      cases r with
      | ok x w' =>
        cases x <;> simp only [Oper.quietUponIn] at h3 <;> simp only [Oper.uponIn]
        case value u =>
          obtain ⟨e1, e2⟩ := h3
          rw [e1, e2]
          exact h _ _ hC h2
        case skip =>
          obtain ⟨e1, e2⟩ := h3
          rw [e1, ← e2]
          exact h _ _ hC h2
        case enter f args =>
          obtain ⟨e1, hd, hc⟩ := h3
          rw [e1]
          exact ⟨hd, hc.mono fun e w'' ⟨he, hw''⟩ => by subst he; exact h _ _ hw'' h2⟩
      | halt x w' => simp only [Oper.quietUponIn] at h3
    · rename_i hw; simp only [hw] at hh; exact ⟨ha w hC, h _ _ hC hh⟩
theorem lexQ {Q : Act → Prop} (hs : Region.noSelect ops = true) : ∀ (l : List Oper) (k : Nat) (listed : Array Bool) (a : Act), (∀ j o, l[j]? = some o → ops[k + j]? = some o) →
    Region.lexFrom md ops l.length k listed = true → wpQuietIn F n P ops C Q l a → wpAnyQIn F n P md ops C Q l.length listed a
  | [], _, _, _, _, hB, h => ⟨by simpa [Region.lexFrom] using hB, h⟩
  | o :: l, k, listed, a, hl, hB, h => by
    have h0 : ops[k]? = some o := by simpa using hl 0 o rfl
    simp only [List.length_cons, Region.lexFrom, Bool.and_eq_true] at hB
    obtain ⟨⟨hr, hf⟩, hB'⟩ := hB
    have hst : qOpIn F n P ops C k (wpQuietIn F n P ops C Q l) a := by unfold qOpIn; simp only [h0]; exact h
    obtain ⟨v, hy, hK⟩ := yieldsQuiet_of_qOpIn h0 hst
    exact wpAnyQIn_first h0 (Region.noSelect_spec hs) l.length listed a (Region.free_spec h0 hf) (by simpa using hr) hy
      (lexQ hs l (k + 1) _ _ (fun j p hp => by have := hl (j + 1) p (by simpa using hp); simpa [Nat.add_assoc, Nat.add_comm 1 j] using this) hB' hK)
/-- one by one -/
def chainB (md : Region.Mode) (ops : Array Oper) : Nat → Nat → Array Bool → Bool
  | 0, _, listed => decide (Region.ready md ops listed = [])
  | m + 1, k, listed => decide (Region.ready md ops listed = [k]) && chainB md ops m (k + 1) (listed.setIfInBounds k true)
theorem chainIn {Q : Exit → Act → World → Prop} : ∀ (m : List Oper) (k : Nat) (listed : Array Bool) (a : Act) (w : World), (∀ j o, m[j]? = some o → ops[k + j]? = some o) →
    chainB md ops m.length k listed = true → wpListIn F n P ops Q m a w → wpAnyIn F n P md ops Q m.length listed a w
  | [], k, listed, a, w, hl, hB, h => ⟨by simpa [chainB] using hB, h⟩
  | o :: m, k, listed, a, w, hl, hB, h => by
    have h0 : ops[k]? = some o := by simpa using hl 0 o rfl
    simp only [List.length_cons, chainB, Bool.and_eq_true, decide_eq_true_eq] at hB
    obtain ⟨hr, hB'⟩ := hB
    have hl' : ∀ j p, m[j]? = some p → ops[k + 1 + j]? = some p := fun j p hp => by have := hl (j + 1) p (by simpa using hp); simpa [Nat.add_assoc, Nat.add_comm 1 j] using this
    refine ⟨fun h1 => (by rw [hr] at h1; cases h1), fun i hi => ?_⟩
    rw [hr] at hi
    rw [List.mem_singleton.1 hi]
    unfold wpOpIn
    simp only [h0]
    unfold wpListIn at h
    split
    · rename_i hw
      rw [if_pos hw] at h
      exact Oper.wpIn_mono (fun a w hh => chainIn m (k + 1) _ a w hl' hB' hh) h
    · rename_i hw
      rw [if_neg hw] at h
      exact ⟨h.1, chainIn m (k + 1) _ _ w hl' hB' h.2⟩
/-- the checks -/
def backB (ops : Array Oper) : Bool := (List.range ops.size).all fun i => match ops[i]? with
  | some o => o.after.toList.all (fun e => decide (e.on < i)) && (match o.op with
    | .defer _ => false
    | _ => true)
  | none => true
def waitB (md : Region.Mode) (ops : Array Oper) (k : Nat) : Bool := (match ops[k]? with
  | some o => (List.range k).all fun i => o.after.toList.any fun e => Region.binds md e && decide (e.on = i)
  | none => false) && (List.range ops.size).all fun j => decide (j ≤ k) || (match ops[j]? with
  | some o => o.after.toList.any fun e => Region.binds md e && decide (e.on = k)
  | none => false)
theorem backB_spec (h : backB ops = true) {i : Nat} {o : Oper} (ho : ops[i]? = some o) : (∀ e ∈ o.after, e.on < i) ∧ ∀ c, o.op ≠ .defer c := by
  unfold backB at h
  rw [List.all_eq_true] at h
  have := h i (List.mem_range.2 (Array.getElem?_eq_some_iff.1 ho).1)
  simp only [ho, Bool.and_eq_true, List.all_eq_true, decide_eq_true_eq] at this
  refine ⟨fun e he => this.1 e (Array.mem_toList_iff.2 he), fun c hc => ?_⟩
  rw [hc] at this
  exact absurd this.2 (by simp)
theorem ready_some (h : backB ops = true) {listed : Array Bool} (hsz : listed.size = ops.size) {j : Nat} (hj : listed.getD j true = false) : ∃ i, i ≤ j ∧ i ∈ Region.ready md ops listed := by
  induction j using Nat.strongRecOn with
  | _ j ih =>
    have hjs : j < listed.size := by
      rcases Nat.lt_or_ge j listed.size with h1 | h1
      · exact h1
      · simp [Array.getElem?_eq_none h1] at hj
    obtain ⟨o, ho⟩ : ∃ o, ops[j]? = some o := ⟨_, Array.getElem?_eq_getElem (by omega)⟩
    by_cases hall : ∀ e ∈ o.after, Region.binds md e = true → listed.getD e.on false = true
    · exact ⟨j, Nat.le_refl _, mem_ready.2 ⟨hj, o, ho, hall⟩⟩
    · obtain ⟨e, hn⟩ := Classical.not_forall.1 hall
      obtain ⟨he, hn⟩ := Classical.not_imp.1 hn
      obtain ⟨hb, hn⟩ := Classical.not_imp.1 hn
      have hlt := (backB_spec h ho).1 e he
      obtain ⟨i, hi, hr⟩ := ih e.on hlt (by
        have h2 : e.on < listed.size := by omega
        simp [h2] at hn ⊢
        exact hn)
      exact ⟨i, by omega, hr⟩
theorem moreIn1 {Q : Exit → Act → World → Prop} : ∀ (m : Nat) (listed : Array Bool) (a : Act) (w : World), wpAnyIn F n P md ops Q m listed a w → wpAnyIn F n P md ops Q (m + 1) listed a w
  | 0, listed, a, w, h => ⟨fun _ => h.2, fun i hi => by rw [h.1] at hi; cases hi⟩
  | m + 1, listed, a, w, h => ⟨h.1, fun i hi => wpOpIn_mono (fun a w hh => moreIn1 m _ a w hh) (h.2 i hi)⟩
theorem moreIn {Q : Exit → Act → World → Prop} : ∀ (x m : Nat) (listed : Array Bool) (a : Act) (w : World), wpAnyIn F n P md ops Q m listed a w → wpAnyIn F n P md ops Q (m + x) listed a w
  | 0, m, listed, a, w, h => h
  | x + 1, m, listed, a, w, h => moreIn1 _ _ _ _ (moreIn x m listed a w h)
theorem quiet_chain {Qm : Act → Prop} {Q' : Exit → Act → World → Prop} (k m : Nat) (hb : backB ops = true) (hk : k + m = ops.size) (hw : waitB md ops k = true)
    (hQ : ∀ a w, C w → Qm a → wpAnyIn F n P md ops Q' m ((Array.replicate k true) ++ (Array.replicate m false)) a w) :
    ∀ (fuel : Nat) (listed marked : Array Bool) (a : Act) (w : World), C w → listed.size = ops.size → marked.size = ops.size → (∀ j, k ≤ j → j < ops.size → listed.getD j true = false ∧ marked.getD j true = true) → (∀ j, j < k → listed.getD j true = marked.getD j true) →
      wpAnyQIn F n P md ops C Qm fuel marked a → wpAnyIn F n P md ops Q' (fuel + m) listed a w := by
  unfold waitB at hw
  simp only [Bool.and_eq_true, List.all_eq_true, List.mem_range, Bool.or_eq_true, decide_eq_true_eq] at hw
  obtain ⟨hw1, hw2⟩ := hw
  have hkk : k < ops.size := by
    rcases Nat.lt_or_ge k ops.size with h | h
    · exact h
    · rw [Array.getElem?_eq_none h] at hw1
      cases hw1
  have hwk : ∀ o, ops[k]? = some o → ∀ i, i < k → ∃ e ∈ o.after, Region.binds md e = true ∧ e.on = i := fun o ho i hi => by
    rw [ho] at hw1
    simp only [List.all_eq_true, List.mem_range, List.any_eq_true, Bool.and_eq_true, decide_eq_true_eq] at hw1
    obtain ⟨e, he, h1, h2⟩ := hw1 i hi
    exact ⟨e, Array.mem_toList_iff.1 he, h1, h2⟩
  have hwj : ∀ j o, ops[j]? = some o → k < j → ∃ e ∈ o.after, Region.binds md e = true ∧ e.on = k := fun j o ho hj => by
    have := hw2 j (Array.getElem?_eq_some_iff.1 ho).1
    rw [ho] at this
    simp only [List.any_eq_true, Bool.and_eq_true, decide_eq_true_eq] at this
    rcases this with h | ⟨e, he, h1, h2⟩
    · omega
    · exact ⟨e, Array.mem_toList_iff.1 he, h1, h2⟩
  have eqL : ∀ (listed : Array Bool), listed.size = ops.size → (∀ j, k ≤ j → j < ops.size → listed.getD j true = false) → (∀ j, j < k → listed.getD j true = true) → listed = (Array.replicate k true) ++ (Array.replicate m false) := fun listed hs h1 h2 => by
    refine Array.ext (by simp; omega) (fun i hi hi2 => ?_)
    have hg : listed.getD i true = listed[i] := by simp [hi]
    rw [← hg]
    by_cases h : i < k
    · rw [h2 i h, Array.getElem_append_left (by simpa using h)]
      simp
    · rw [h1 i (by omega) (by omega), Array.getElem_append_right (by simp; omega)]
      simp
  intro fuel
  induction fuel with
  | zero =>
    intro listed marked a w hC hs1 hs2 hL hM h
    rw [Nat.zero_add]
    have hall : ∀ j, j < k → marked.getD j true = true := fun j hj => by
      rcases Bool.eq_false_or_eq_true (marked.getD j true) with h1 | h1
      · exact h1
      · obtain ⟨i, _, hi⟩ := ready_some (md := md) hb hs2 h1
        rw [h.1] at hi
        cases hi
    rw [eqL listed hs1 (fun j h1 h2 => (hL j h1 h2).1) (fun j hj => (hM j hj).trans (hall j hj))]
    exact hQ a w hC h.2
  | succ fuel ih =>
    intro listed marked a w hC hs1 hs2 hL hM h
    by_cases hall : ∀ j, j < k → marked.getD j true = true
    · have hr : Region.ready md ops marked = [] := by
        cases hr : Region.ready md ops marked with
        | nil => rfl
        | cons i r =>
          have hi : i ∈ Region.ready md ops marked := by rw [hr]; exact List.mem_cons_self
          obtain ⟨h0, o, ho, _⟩ := mem_ready.1 hi
          have hio := (Array.getElem?_eq_some_iff.1 ho).1
          by_cases hik : i < k
          · rw [hall i hik] at h0; cases h0
          · rw [(hL i (by omega) hio).2] at h0; cases h0
      rw [eqL listed hs1 (fun j h1 h2 => (hL j h1 h2).1) (fun j hj => (hM j hj).trans (hall j hj))]
      have := hQ a w hC (h.1 hr)
      rw [show fuel + 1 + m = m + (fuel + 1) by omega]
      exact moreIn (fuel + 1) m _ a w this
    · obtain ⟨j, hn⟩ := Classical.not_forall.1 hall
      obtain ⟨hj, hn⟩ := Classical.not_imp.1 hn
      have hjf : marked.getD j true = false := by simpa using hn
      have hlf : listed.getD j true = false := (hM j hj).trans hjf
      rw [show fuel + 1 + m = (fuel + m) + 1 by omega]
      refine ⟨fun h0 => ?_, fun i hi => ?_⟩
      · obtain ⟨i, _, hi⟩ := ready_some (md := md) hb hs1 hlf
        rw [h0] at hi
        cases hi
      · obtain ⟨h0, o, ho, hwait⟩ := mem_ready.1 hi
        have hio := (Array.getElem?_eq_some_iff.1 ho).1
        have hgd : ∀ (x : Nat), x < ops.size → listed.getD x true = false → listed.getD x false = false := fun x hx hf => by
          have hx2 : x < listed.size := by omega
          simp [hx2] at hf ⊢
          exact hf
        have hik : i < k := by
          rcases Nat.lt_trichotomy i k with h1 | h1 | h1
          · exact h1
          · subst h1
            obtain ⟨e, he, hbd, rfl⟩ := hwk o ho j hj
            have := hwait e he hbd
            rw [hgd _ (by omega) hlf] at this
            cases this
          · obtain ⟨e, he, hbd, h2⟩ := hwj i o ho h1
            have := hwait e he hbd
            rw [h2, hgd k hkk (hL k (Nat.le_refl _) hkk).1] at this
            cases this
        have hi2 : i ∈ Region.ready md ops marked := mem_ready.2 ⟨(hM i hik).symm.trans h0, o, ho, fun e he hbd => by
          have h1 := hwait e he hbd
          have h2 := (backB_spec hb ho).1 e he
          have h3 := hM e.on (by omega)
          have x1 : e.on < listed.size := by omega
          have x2 : e.on < marked.size := by omega
          simp [x1, x2] at h1 h3 ⊢
          rw [← h3]; exact h1⟩
        refine wpOpIn_quiet (C := C) (fun o' ho' => (backB_spec hb ho').2) hC (fun a' w' hw' hq => ih (listed.setIfInBounds i true) (marked.setIfInBounds i true) a' w' hw' (by simp [hs1]) (by simp [hs2]) ?_ ?_ hq) (h.2 i hi2)
        · intro j' h1 h2
          rw [getD_set_ne true (by omega), getD_set_ne true (by omega)]
          exact hL j' h1 h2
        · intro j' h1
          by_cases e : i = j'
          · subst e
            have x1 : i < listed.size := by omega
            have x2 : i < marked.size := by omega
            simp [x1, x2]
          · rw [getD_set_ne true e, getD_set_ne true e]
            exact hM j' h1
/-- the law: the first k operations only read; the others follow one by one -/
theorem wpIn_round_chain {id : Nat} {Q : Exit → Act → World → Prop} {a : Act} {w : World} {l : List Oper} (k : Nat) (hm : P.follows .mixedOrders = true)
    (hB : (Region.noSelect l.toArray && backB l.toArray && waitB .any l.toArray k && decide (k ≤ l.length) &&
      Region.lexFrom .any l.toArray k 0 ((Array.replicate k false) ++ (Array.replicate (l.length - k) true)) && chainB .any l.toArray (l.length - k) k ((Array.replicate k true) ++ (Array.replicate (l.length - k) false))) = true)
    (h : wpQuietIn F n P l.toArray (fun w' => ∃ n, w' = w.drewN n) (fun a' => ∀ w', (∃ n, w' = w.drewN n) → wpListIn F n P l.toArray Q (l.drop k) a' w') (l.take k) a) : (Code.region id l.toArray true).wpIn F n P Q a w := by
  simp only [Bool.and_eq_true, decide_eq_true_eq] at hB
  obtain ⟨⟨⟨⟨⟨h1, h2⟩, h3⟩, h4⟩, h5⟩, h6⟩ := hB
  refine wpIn_region_any hm ?_
  have hl : (l.take k).length = k := by rw [List.length_take]; omega
  have hl2 : (l.drop k).length = l.length - k := List.length_drop ..
  have hq := lexQ (F := F) (n := n) (C := fun w' => ∃ n, w' = w.drewN n) (md := .any) h1 (l.take k) 0 ((Array.replicate k false) ++ (Array.replicate (l.length - k) true)) a
    (fun j o ho => by
      rw [List.getElem?_take] at ho
      split at ho
      · simpa using ho
      · cases ho) (by rw [hl]; exact h5) h
  have hz : l.toArray.size = k + (l.length - k) := by simp; omega
  rw [hl] at hq
  rw [hz]
  have hr : Array.replicate (k + (l.length - k)) false = (Array.replicate k false) ++ (Array.replicate (l.length - k) false) := by
    refine Array.ext (by simp) (fun i hi hi2 => ?_)
    by_cases hc : i < k
    · rw [Array.getElem_append_left (by simpa using hc)]; simp
    · rw [Array.getElem_append_right (by simp; omega)]; simp
  refine quiet_chain k (l.length - k) h2 (by simp; omega) h3 (Qm := fun a' => ∀ w', (∃ n, w' = w.drewN n) → wpListIn F n P l.toArray Q (l.drop k) a' w') (fun a w' hw' hh => ?_) k _ _ a _ ⟨1, rfl⟩ (by simp; omega) (by simp; omega) ?_ ?_ hq
  · have := chainIn (F := F) (n := n) (md := .any) (ops := l.toArray) (Q := Q) (l.drop k) k ((Array.replicate k true) ++ (Array.replicate (l.length - k) false)) a w' (fun j o ho => by
      rw [List.getElem?_drop] at ho
      simpa using ho) (by rw [hl2]; exact h6) (hh w' hw')
    rw [hl2] at this
    exact this
  · intro j hj1 hj2
    simp at hj2
    refine ⟨?_, ?_⟩
    · have : j < (Array.replicate (k + (l.length - k)) false).size := by simp; omega
      rw [Array.getD, dif_pos this]; simp
    · have : j < ((Array.replicate k false) ++ (Array.replicate (l.length - k) true)).size := by simp; omega
      rw [Array.getD, dif_pos this]
      show ((Array.replicate k false) ++ (Array.replicate (l.length - k) true))[j] = true
      rw [Array.getElem_append_right (by simp; omega)]; simp
  · intro j hj
    have x1 : j < (Array.replicate (k + (l.length - k)) false).size := by simp; omega
    have x2 : j < ((Array.replicate k false) ++ (Array.replicate (l.length - k) true)).size := by simp; omega
    rw [Array.getD, dif_pos x1, Array.getD, dif_pos x2]
    show (Array.replicate (k + (l.length - k)) false)[j] = ((Array.replicate k false) ++ (Array.replicate (l.length - k) true))[j]
    rw [Array.getElem_append_left (by simpa using hj)]; simp
end
end Go.Proofs.Ytmcfckdgolojlaa
/- Places between two, filled. -/
namespace Go.Proofs.Ytmcfckdgolojlaa
set_option linter.unusedVariables false
set_option linter.unusedSimpArgs false
open Go.RowKit Go.Shelf
attribute [local go_sem] Oper.semAt_some
def Pl.puts (p : Pl) (l : List Int) (x : Cel) : Pl := l.foldl (fun q i => q.set i x) p
theorem puts_snoc (p : Pl) (l : List Int) (x : Cel) (i : Int) : p.puts (l ++ [i]) x = (p.puts l x).set i x := by unfold Pl.puts; rw [List.foldl_append]; rfl
set_option maxRecDepth 100000 in
set_option maxHeartbeats 1000000 in
theorem Fill_any (g c : Nat) (p : Pl) (f t : Int) (x : Cel) (hx : 0 ≤ x.b ∧ x.b < 256) (f0 : 0 ≤ f) (f1 : f < p.n) (t0 : 0 ≤ t) (t1 : t < p.n) (w : World) (h : PlAt w g c p) :
    Calls Try.prog 74 #[.pointer (some ⟨g, 0, none⟩), .int .i64 f, .int .i64 t, .agg #[.int .u8 x.b, .bool x.ge, .bool x.st, .int .u8 x.li, .int .u8 x.co]] w (PlTo (.int .i64 (btwM p.n f t)) g c (p.puts (btwN p.n f (btwM p.n f t)) x) w) := by
  have HP := Lib.hid h
  have hg := h.glt
  have hc := h.clt
  obtain ⟨kap, hr, k0, k1, k2, k3⟩ := h.rd
  clear hr k3 h
  have hg1 : g < w.heap.size + 1 := by omega
  have hg2 : g < w.heap.size + 1 + 1 := by omega
  have hg3 : (g = w.heap.size) = False := by simp; omega
  have hg4 : (g = w.heap.size + 1) = False := by simp; omega
  have hg5 : (g = w.heap.size + 1 + 1) = False := by simp; omega
  refine (callsIn_wide (n := 9)).1 ?_
  refine callsIn_of_wp_marks Try.func74 rfl trivial ?_ rfl
  simp only [Try.ntmps74, List.size_toArray, List.length_cons, List.length_nil, Nat.reduceAdd, Nat.reduceSub, Array.replicate_succ, Array.replicate_zero, List.push_toArray, List.append_toArray, List.nil_append, List.cons_append]
  gi_wp2_with (refine ⟨trivial, ?_⟩; gi_at_call 89; refine (callsIn_wide.2 (Between_any _ _ _ _ _)).mono ?_; rintro e w' ⟨rfl, rfl⟩)
  obtain ⟨W0, hW0⟩ : ∃ W0, ((((((w.alloc (.cells #[.pointer (some ⟨g, 0, none⟩)] 26)).alloc (.cells #[.int .u8 x.b, .bool x.ge, .bool x.st, .int .u8 x.li, .int .u8 x.co] 38)).alloc (.cells #[.int .i64 0] 3)).alloc (.cells #[.int .i64 p.rows, .int .i64 p.cols] 23)).alloc (.cells #[.int .i64 f] 3)).alloc (.cells #[.int .i64 t] 3)) = W0 := ⟨_, rfl⟩
  have hsz : W0.heap.size = w.heap.size + 6 := by rw [← hW0]; simp
  have hs1 : W0.heap.size ≤ w.heap.size + 6 := by omega
  have hs2 : w.heap.size + 6 ≤ W0.heap.size := by omega
  clear hsz hg1 hg2 hg3 hg4 hg5 k0 k1 k2
  have hB0 : Ext w W0 := by rw [← hW0]; exact Ext_alloc (Ext_alloc (Ext_alloc (Ext_alloc (Ext_alloc (Ext_alloc (Ext_refl _))))))
  have b0 : Blk W0 (w.heap.size) 26 #[.pointer (some ⟨g, 0, none⟩)] := by
    have := Blk.new w 26 #[.pointer (some ⟨g, 0, none⟩)]
    rw [← hW0]; exact (((((this.alloc _).alloc _).alloc _).alloc _).alloc _)
  have b1 : Blk W0 (w.heap.size + 1) 38 #[.int .u8 x.b, .bool x.ge, .bool x.st, .int .u8 x.li, .int .u8 x.co] := by
    have := Blk.new (w.alloc (.cells #[.pointer (some ⟨g, 0, none⟩)] 26)) 38 #[.int .u8 x.b, .bool x.ge, .bool x.st, .int .u8 x.li, .int .u8 x.co]
    rw [World.size_alloc] at this
    rw [← hW0]; exact ((((this.alloc _).alloc _).alloc _).alloc _)
  have b2 : Blk W0 (w.heap.size + 1 + 1) 3 #[.int .i64 0] := by
    have := Blk.new ((w.alloc (.cells #[.pointer (some ⟨g, 0, none⟩)] 26)).alloc (.cells #[.int .u8 x.b, .bool x.ge, .bool x.st, .int .u8 x.li, .int .u8 x.co] 38)) 3 #[.int .i64 0]
    rw [World.size_alloc, World.size_alloc] at this
    rw [← hW0]; exact (((this.alloc _).alloc _).alloc _)
  have b3 : Blk W0 (w.heap.size + 1 + 1 + 1) 23 #[.int .i64 p.rows, .int .i64 p.cols] := by
    have := Blk.new (((w.alloc (.cells #[.pointer (some ⟨g, 0, none⟩)] 26)).alloc (.cells #[.int .u8 x.b, .bool x.ge, .bool x.st, .int .u8 x.li, .int .u8 x.co] 38)).alloc (.cells #[.int .i64 0] 3)) 23 #[.int .i64 p.rows, .int .i64 p.cols]
    rw [World.size_alloc, World.size_alloc, World.size_alloc] at this
    rw [← hW0]; exact ((this.alloc _).alloc _)
  have b4 : Blk W0 (w.heap.size + 1 + 1 + 1 + 1) 3 #[.int .i64 f] := by
    have := Blk.new ((((w.alloc (.cells #[.pointer (some ⟨g, 0, none⟩)] 26)).alloc (.cells #[.int .u8 x.b, .bool x.ge, .bool x.st, .int .u8 x.li, .int .u8 x.co] 38)).alloc (.cells #[.int .i64 0] 3)).alloc (.cells #[.int .i64 p.rows, .int .i64 p.cols] 23)) 3 #[.int .i64 f]
    rw [World.size_alloc, World.size_alloc, World.size_alloc, World.size_alloc] at this
    rw [← hW0]; exact (this.alloc _)
  have b5 : Blk W0 (w.heap.size + 1 + 1 + 1 + 1 + 1) 3 #[.int .i64 t] := by
    have := Blk.new (((((w.alloc (.cells #[.pointer (some ⟨g, 0, none⟩)] 26)).alloc (.cells #[.int .u8 x.b, .bool x.ge, .bool x.st, .int .u8 x.li, .int .u8 x.co] 38)).alloc (.cells #[.int .i64 0] 3)).alloc (.cells #[.int .i64 p.rows, .int .i64 p.cols] 23)).alloc (.cells #[.int .i64 f] 3)) 3 #[.int .i64 t]
    rw [World.size_alloc, World.size_alloc, World.size_alloc, World.size_alloc, World.size_alloc] at this
    rw [← hW0]; exact this
  rw [hW0]
  clear hW0
  refine wpIn_rangeFunc_ownG rfl (by omega) (gf := 109) (lb := #[.pointer (some ⟨w.heap.size + 1 + 1 + 1, 0, none⟩), .pointer (some ⟨w.heap.size + 1 + 1 + 1 + 1, 0, none⟩), .pointer (some ⟨w.heap.size + 1 + 1 + 1 + 2, 0, none⟩)]) rfl trivial (enters_of Try.func109 (by kernel_rfl) rfl)
    (Between_stops 8 (by omega) (w.heap.size + 1 + 1 + 1) (w.heap.size + 1 + 1 + 1 + 1) (w.heap.size + 1 + 1 + 1 + 2) p.rows p.cols p.n f t HP.out.ok.sz f0 f1 t0 t1 W0 b3 b4 b5) Kp3.trans (Kp3.put (by omega) (by omega) (by omega)) (Below.refl _ _) (fun _ => rfl)
    (fun pre W => PlAt W g c (p.puts (vals pre) x) ∧ Blk W (w.heap.size + 1 + 1) 3 #[.int .i64 pre.length] ∧ Chg [g, c, w.heap.size + 1 + 1] W0 W ∧ (p.puts (vals pre) x).n = p.n)
    (fun _ _ _ => False)
    (OwnFrom.and (plat_own g c _ |>.from _) (OwnFrom.and ((blk_own _ 3 (fun pre : List (PlN p.n) => #[.int .i64 pre.length])).from _) (OwnFrom.and (chg_ownFrom _ _ _ (Nat.le_refl _)) (ownFrom_pure _ _))))
    (fun cd s X Y row hs hg' hr => hs)
    ⟨HP.out.ext hB0, b2, Chg.refl _ _, rfl⟩
    (fun y => { tmps := #[.pointer (some ⟨g, 0, none⟩), .int .i64 f, .int .i64 t, .agg #[.int .u8 x.b, .bool x.ge, .bool x.st, .int .u8 x.li, .int .u8 x.co], .pointer (some ⟨w.heap.size, 0, none⟩), undef, undef, .pointer (some ⟨w.heap.size + 1, 0, none⟩), .int .i64 0, .pointer (some ⟨w.heap.size + 1 + 1, 0, none⟩), .int .i64 y.1, .pointer (some ⟨g, 0, none⟩), .pointer (some ⟨g, 0, none⟩), .pointer (some ⟨g, 0, none⟩), .agg #[.int .i64 p.rows, .int .i64 p.cols], .int .i64 f, .int .i64 t, .func (.func 109) #[] #[.pointer (some ⟨w.heap.size + 1 + 1 + 1, 0, none⟩), .pointer (some ⟨w.heap.size + 1 + 1 + 1 + 1, 0, none⟩), .pointer (some ⟨w.heap.size + 1 + 1 + 1 + 2, 0, none⟩)], .int .i64 y.1, undef, undef, undef, undef, undef, undef, undef, undef, undef, undef], defers := [] })
    ?assign ?body ?done ?stop
  case assign =>
    intro l y W K hK
    gi_wp2
    exact hK
  case body =>
    rintro l pre ⟨y, y0, y1⟩ W ⟨hp, hn, hch, hd⟩ hlt
    have bB := b0.chg hch (by simp; omega)
    have bX := b1.chg hch (by simp; omega)
    have cB := bB.cell 0
    have x0 := bX.cell 0
    have x1 := bX.cell 1
    have x2 := bX.cell 2
    have x3 := bX.cell 3
    have x4 := bX.cell 4
    have hnl : w.heap.size + 1 + 1 ∉ [g, c] := by simp; omega
    have hw : IntKind.i64.wrap ((pre.length : Int) + 1) = ((pre.length + 1 : Nat) : Int) := IntWalk.i64_in _ (by omega)
    simp at cB x0 x1 x2 x3 x4
    obtain ⟨j, rfl⟩ := Int.eq_ofNat_of_zero_le y0
    have hj : j < (p.puts (vals pre) x).cells.length := by
      have : (p.puts (vals pre) x).n = ((p.puts (vals pre) x).cells.length : Int) := rfl
      omega
    obtain ⟨kap, hr, g0, g1, g2, g3⟩ := hp.rd
    obtain ⟨z, hz, c0, c1, c2, c3, c4⟩ := hp.at_ hj
    obtain ⟨kap', tl', hk⟩ := id hp
    have hf := hk.row.free
    have HPP := Lib.hid hp
    have HN := Lib.hid hn
    have HCH := Lib.hid hch
    have hjn : (j : Int) < (((p.puts (vals pre) x).cells.length : Nat) : Int) := by omega
    clear hp hn hch hr g0 g1 g3 hk hz
    have f0' := hf (j * 5)
    have f1' := hf (j * 5 + 1)
    have f2' := hf (j * 5 + 2)
    have f3' := hf (j * 5 + 3)
    have f4' := hf (j * 5 + 4)
    clear hf
    have hfz : g ≠ c := fun e => by
      obtain ⟨k, tl, hk⟩ := HPP.out
      subst e
      have := (Blk.same hk.obj hk.row).1
      simp at this
    obtain ⟨Q, hQ⟩ : ∃ Q, p.puts (vals pre) x = Q := ⟨_, rfl⟩
    rw [hQ] at hd hj g2 HPP hjn
    have HQ := Lib.hid hQ
    clear hQ
    clear bB bX b0 b1 b2 b3 b4 b5
    gi_wp2
    refine wpIn_round_chain 7 rfl (by kernel_rfl) ?_
    simp only [List.take_succ_cons, List.take_zero, List.drop_succ_cons, List.drop_zero]
    repeat (refine wpQuietIn_step (by quiet_asked_in) (fun K hK => ?_); go_simp; first | (refine hK _ ?_; clear hK K) | (apply Exists.intro; refine ⟨fun _ => ?_, hK _ ?_⟩; (fail); clear hK K))
    refine wpQuietIn_nil ?_
    intro _ hw'
    obtain ⟨nq, hw''⟩ := hw'
    subst hw''
    have HP1 := Lib.hid (HPP.out.ext (Ext_drewN (n := nq) (Ext_refl W)))
    have HC1 := Lib.hid (HCH.out.trans (Chg.of_ext (Ext_drewN (n := nq) (Ext_refl W)) _))
    have n0 := (HN.out.drewN nq).cell 0
    have fn := (HN.out.drewN nq).free 0
    have HN1 := Lib.hid (HN.out.drewN nq)
    have hcn : c ≠ w.heap.size + 1 + 1 := fun e => hnl (by rw [e]; simp)
    have hgn : g ≠ w.heap.size + 1 + 1 := fun e => hnl (by rw [e]; simp)
    simp only [World.cell?_drewN, World.frozen?_drewN] at n0 fn
    simp at n0
    gi_wp2
    obtain ⟨WF, hWF⟩ : ∃ WF, (((((W.drewN nq).setCell ⟨c, j * 5, none⟩ (.int .u8 x.b)).setCell ⟨c, j * 5 + 1, none⟩ (.bool x.ge)).setCell ⟨c, j * 5 + 2, none⟩ (.bool x.st)).setCell ⟨c, j * 5 + 3, none⟩ (.int .u8 x.li)).setCell ⟨c, j * 5 + 4, none⟩ (.int .u8 x.co) = WF := ⟨_, rfl⟩
    have hP1 := HP1.out.store_cell hj x hx
    have hS : Q.set (j : Int) x = { Q with cells := Q.cells.set j x } := by
      unfold Pl.set
      rw [if_pos (by simp only [Pl.has, Bool.and_eq_true, decide_eq_true_eq]; unfold Pl.n at *; omega), Int.toNat_natCast]
    rw [← hS, hWF] at hP1
    have hCF : Chg [g, c, w.heap.size + 1 + 1] (W.drewN nq) WF := by
      rw [← hWF]
      exact ((((((Chg.refl _ _).set _ _ _ (.inl (by simp))).set _ _ _ (.inl (by simp))).set _ _ _ (.inl (by simp))).set _ _ _ (.inl (by simp))).set _ _ _ (.inl (by simp)))
    have hCF' : Chg [g, c] (W.drewN nq) WF := by
      rw [← hWF]
      exact ((((((Chg.refl _ _).set _ _ _ (.inl (by simp))).set _ _ _ (.inl (by simp))).set _ _ _ (.inl (by simp))).set _ _ _ (.inl (by simp))).set _ _ _ (.inl (by simp)))
    rw [hWF]
    have hnF := HN1.out.chg hCF' hnl
    have hCW : Chg [g, c, w.heap.size + 1 + 1] W (WF.setCell ⟨w.heap.size + 1 + 1, 0, none⟩ (.int .i64 ((pre.length : Int) + 1))) := ((Chg.of_ext (Ext_drewN (n := nq) (Ext_refl W)) _).trans hCF).set _ _ _ (.inl (by simp))
    refine ⟨KeepsFrom.of_chg hCW (by simp; omega), Kp3.of_chg hCW (by simp; omega) (by simp; omega) (by simp; omega), ?_, ?_, ?_, ?_⟩
    · rw [vals_snoc, puts_snoc, HQ.out]
      exact hP1.chg (l := [w.heap.size + 1 + 1]) ((Chg.refl _ _).set _ _ _ (.inl (by simp))) (by simp; omega) (by simp; omega)
    · have := hnF.store 0 (.int .i64 ((pre.length : Int) + 1))
      rw [List.length_append, List.length_singleton, Int.natCast_add]
      exact this
    · exact (HC1.out.trans hCF).set _ _ _ (.inl (by simp))
    · rw [vals_snoc, puts_snoc, HQ.out]
      have := (set_dims Q (j : Int) x).2.2
      unfold Pl.n at hd ⊢
      rw [this]
      exact hd
  case done =>
    rintro D xs W hD hxs ⟨hp, hn, hch, hd⟩ hK
    have cN := hn.cell 0
    rw [← vals_len, hxs, btwN_len] at cN
    rw [hxs] at hp
    simp at cN
    gi_wp2
    refine ⟨by simp, .inl ⟨_, _, rfl, run_takeDeferred hK, ?_⟩⟩
    refine ⟨.int .i64 (btwM p.n f t), ?_, rfl, (plat_own (β := Unit) g c (fun _ => p.puts (btwN p.n f (btwM p.n f t)) x)).putObj (s := ()) _ hp hK rfl, (hch.drop (m := [g, c]) hB0 (by intro i hi; simp at hi ⊢; omega)).put D _ (by omega)⟩
    simp [results, Try.f74, go_sem]
  case stop =>
    rintro D cd pre W hD hpre hf hK
    exact hf.elim
end Go.Proofs.Ytmcfckdgolojlaa
