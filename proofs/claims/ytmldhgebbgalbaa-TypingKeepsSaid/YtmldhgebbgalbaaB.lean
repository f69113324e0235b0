/- Words for memory that all proofs here use: rows of cells that are read, blocks that are known whole, what a call leaves as it was. -/
import Derived.Test.YtmldhgebbgalbaaProg
import Derived.WalkKit
import Derived.WalkSpells
import Derived.WalkLawsBesides
import Derived.KernelRfl
import Derived.Lib.Hide
import Derived.Below
import Derived.OneCell
import Derived.Laws.OwnMore
import Derived.Laws.AppendOwn
import Derived.Deep.Draws
import Derived.Deep.AppendLies
import Derived.OwnWalk
import Derived.OwnWalkIn
namespace Go.Proofs.Ytmldhgebbgalbaa
set_option linter.unusedVariables false
set_option linter.unusedSimpArgs false
open Go.RowKit

/-! ### blocks -/
/-- block b is known whole -/
def Blk (w : World) (b : Nat) (t : TypeId) (cs : Array Value) : Prop := w.heap[b]? = some (.cells cs t (0, 0))
section
variable {w w' : World} {b : Nat} {t : TypeId} {cs : Array Value}
theorem Blk.lt (h : Blk w b t cs) : b < w.heap.size := lt_of_block h
theorem Blk.cell (h : Blk w b t cs) (i : Nat) : w.cell? ⟨b, i, none⟩ = cs[i]? := by unfold Blk at h; simp [World.cell?, h]
theorem Blk.free (h : Blk w b t cs) (i : Nat) : w.frozen? ⟨b, i, none⟩ = false := by unfold Blk at h; simp [World.frozen?, h]
theorem Blk.new (w : World) (t : TypeId) (cs : Array Value) : Blk (w.alloc (.cells cs t)) w.heap.size t cs := heap_alloc_new w _
theorem Blk.alloc (h : Blk w b t cs) (o : Obj) : Blk (w.alloc o) b t cs := (Below.heap_alloc w o b h.lt).trans h
theorem Blk.drew (h : Blk w b t cs) : Blk w.drew b t cs := h
theorem Blk.drewN (h : Blk w b t cs) (n : Nat) : Blk (w.drewN n) b t cs := h
theorem Blk.store (h : Blk w b t cs) (i : Nat) (u : Value) : Blk (w.setCell ⟨b, i, none⟩ u) b t (cs.setIfInBounds i u) := by
  unfold Blk at h ⊢
  simp [World.setCell, Array.getElem?_modify, h]
theorem Blk.far (h : Blk w b t cs) {p : Addr} (hp : b ≠ p.block) (u : Value) : Blk (w.setCell p u) b t cs := (Below.heap_setCell w p u b hp).trans h
theorem Blk.below {B : Nat} (h : Blk w b t cs) (hb : Below B w w') (hB : b < B) : Blk w' b t cs := (hb.block b hB).trans h
theorem Blk.below' (h : Blk w b t cs) (hb : Below w.heap.size w w') : Blk w' b t cs := (hb.block b h.lt).trans h
theorem Blk.grown {row : Option Nat} (h : Blk w b t cs) (hb : w.grownBy w' row) (hr : some b ≠ row) : Blk w' b t cs := (hb.block b h.lt hr).trans h
theorem Blk.same {cs' : Array Value} {t' : TypeId} (h : Blk w b t cs) (h' : Blk w b t' cs') : t = t' ∧ cs = cs' := by
  unfold Blk at h h'
  rw [h] at h'
  injection h' with h'
  injection h' with h1 h2
  exact ⟨h2, h1⟩
end

/-! ### rows of cells that are read -/
/-- the slice at A, of n elements of sz cells, has the cells cs -/
def Rd (w : World) (sz : Nat) (A : Option Addr) (n : Nat) (cs : List Value) : Prop :=
  cs.length = n * sz ∧ (0 < n → ∃ b o, A = some ⟨b, o, none⟩ ∧ ∀ j u, cs[j]? = some u → w.cell? ⟨b, o + j, none⟩ = some u)
/-- it lies at or beyond B -/
def Fresh (B : Nat) (A : Option Addr) : Prop := ∀ ad, A = some ad → B ≤ ad.block
/-- it doesn't lie in block b -/
def Off (b : Nat) (A : Option Addr) : Prop := ∀ ad, A = some ad → ad.block ≠ b

section
variable {w w' : World} {sz n : Nat} {A : Option Addr} {cs : List Value}
theorem Rd.nil (w : World) (sz : Nat) (A : Option Addr) : Rd w sz A 0 [] := ⟨by simp, fun h => absurd h (by omega)⟩
theorem Rd.keep (h : Rd w sz A n cs) (hk : ∀ b o v, A = some ⟨b, o, none⟩ → b < w.heap.size → w.cell? ⟨b, v, none⟩ ≠ none → w'.heap[b]? = w.heap[b]?) : Rd w' sz A n cs := by
  refine ⟨h.1, fun hn => ?_⟩
  obtain ⟨b, o, e, hc⟩ := h.2 hn
  refine ⟨b, o, e, fun j u hu => ?_⟩
  have h1 := hc j u hu
  have hb := World.block_lt_of_cell? w _ h1
  rw [World.cell?_of_block (w := w) (hk b o (o + j) e hb (by rw [h1]; simp))]
  exact h1
theorem Rd.below (h : Rd w sz A n cs) (hb : Below w.heap.size w w') : Rd w' sz A n cs := h.keep fun b _ _ _ hlt _ => hb.block b hlt
theorem Rd.grown {row : Option Nat} (h : Rd w sz A n cs) (hg : w.grownBy w' row) (hr : ∀ g, row = some g → Off g A) : Rd w' sz A n cs :=
  h.keep fun b _ _ e hlt _ => hg.block b hlt (fun he => hr b he.symm _ e rfl)
theorem Rd.alloc (h : Rd w sz A n cs) (o : Obj) : Rd (w.alloc o) sz A n cs := h.below ((Below.refl _ _).alloc (Nat.le_refl _) o)
theorem Rd.drew (h : Rd w sz A n cs) : Rd w.drew sz A n cs := h
theorem Rd.drewN (h : Rd w sz A n cs) (k : Nat) : Rd (w.drewN k) sz A n cs := h
theorem Rd.far (h : Rd w sz A n cs) {p : Addr} (hp : Off p.block A) (u : Value) : Rd (w.setCell p u) sz A n cs :=
  h.keep fun b _ _ e _ _ => Below.heap_setCell w p u b (fun he => hp _ e he)
/-- what was there before block b was stays while b turns -/
theorem Rd.old {w0 : World} {b : Nat} (h0 : Rd w0 sz A n cs) (h : Rd w sz A n cs) (hs : 0 < sz) (hg : w0.grownBy w' (some b)) (hb : w.heap.size ≤ b) : Rd w' sz A n cs := by
  rcases Nat.eq_zero_or_pos n with hn | hn
  · exact ⟨h0.1, fun h => absurd h (by omega)⟩
  · obtain ⟨g, o, e, hc⟩ := h.2 hn
    have hl : 0 < cs.length := by rw [h.1]; exact Nat.mul_pos hn hs
    have hlt := World.block_lt_of_cell? w _ (hc 0 _ (List.getElem?_eq_getElem hl))
    refine h0.keep fun g' o' v e' hlt' _ => hg.block g' hlt' (fun he => ?_)
    rw [e] at e'
    cases e'
    injection he with he
    simp at hlt
    omega

/-- where an element's cells lie -/
theorem Rd.at_ (h : Rd w sz A n cs) {i : Nat} (hi : i < n) : ∃ b o, A = some ⟨b, o, none⟩ ∧ ∀ j u, j < sz → cs[i * sz + j]? = some u → w.cell? ⟨b, o + i * sz + j, none⟩ = some u := by
  obtain ⟨b, o, e, hc⟩ := h.2 (by omega)
  exact ⟨b, o, e, fun j u _ hu => by rw [Nat.add_assoc]; exact hc _ u hu⟩
theorem Rd.at1 (h : Rd w 1 A n cs) {i : Nat} (hi : i < n) : ∃ b o u, A = some ⟨b, o, none⟩ ∧ cs[i]? = some u ∧ w.cell? ⟨b, o + i, none⟩ = some u := by
  obtain ⟨b, o, e, hc⟩ := h.2 (by omega)
  have hl : i < cs.length := by have := h.1; omega
  exact ⟨b, o, cs[i], e, List.getElem?_eq_getElem hl, hc i _ (List.getElem?_eq_getElem hl)⟩
theorem Rd.blk {b : Nat} {t : TypeId} {l : List Value} (h : Blk w b t l.toArray) (hl : l.length = n * sz) : Rd w sz (some ⟨b, 0, none⟩) n l :=
  ⟨hl, fun _ => ⟨b, 0, rfl, fun j u hu => by rw [h.cell]; simpa using hu⟩⟩
theorem Rd.own {base : Nat} {e : TypeId} {c : Nat} (h : w.ownsRow base e sz (.slice A n c) n cs) : Rd w sz A n cs := by
  refine ⟨h.1, fun hn => ?_⟩
  rcases h.2 with ⟨_, h0⟩ | ⟨g, cap, cur, hv, _, hh, _, _, _, ht⟩
  · omega
  · have hA : A = some ⟨g, 0, none⟩ := by injection hv
    refine ⟨g, 0, hA, fun j u hu => ?_⟩
    rw [Blk.cell (t := e) (cs := cur) hh, Nat.zero_add]
    rw [← ht, List.getElem?_take] at hu
    split at hu
    · simpa using hu
    · cases hu
end

/-! ### rows of elements of sz cells -/
theorem flat_get {α : Type} (enc : α → List Value) (sz : Nat) (he : ∀ x, (enc x).length = sz) : ∀ (xs : List α) (i j : Nat), j < sz → ((xs.flatMap enc)[i * sz + j]?) = (xs[i]?).bind fun x => (enc x)[j]?
  | [], i, j, _ => by simp
  | x :: xs, 0, j, hj => by
    rw [List.flatMap_cons, Nat.zero_mul, Nat.zero_add, List.getElem?_append_left (by rw [he]; exact hj)]
    simp
  | x :: xs, i + 1, j, hj => by
    rw [List.flatMap_cons, List.getElem?_append_right (by rw [he, Nat.add_mul]; omega), he, show (i + 1) * sz + j - sz = i * sz + j from by rw [Nat.add_mul]; omega, flat_get enc sz he xs i j hj]
    simp
theorem flat_length {α : Type} (enc : α → List Value) (sz : Nat) (he : ∀ x, (enc x).length = sz) (xs : List α) : (xs.flatMap enc).length = xs.length * sz := by
  induction xs with
  | nil => simp
  | cons x xs ih => rw [List.flatMap_cons, List.length_append, ih, he, List.length_cons, Nat.add_mul]; omega
/-- where the cells of element i lie -/
theorem Rd.elem {α : Type} {w : World} {sz : Nat} {A : Option Addr} {n : Nat} (enc : α → List Value) (he : ∀ x, (enc x).length = sz) {xs : List α} (h : Rd w sz A n (xs.flatMap enc)) {i : Nat} (hi : i < n) {x : α} (hx : xs[i]? = some x) :
    ∃ b o, A = some ⟨b, o, none⟩ ∧ ∀ j u, (enc x)[j]? = some u → w.cell? ⟨b, o + i * sz + j, none⟩ = some u := by
  obtain ⟨b, o, e, hc⟩ := h.at_ hi
  refine ⟨b, o, e, fun j u hu => ?_⟩
  have hj : j < sz := by rw [← he x]; exact (List.getElem?_eq_some_iff.1 hu).1
  exact hc j u hj (by rw [flat_get enc sz he xs i j hj, hx]; exact hu)

/-! ### bytes -/
def u8s (l : List Int) : List Value := l.map (Value.int .u8)
theorem u8s_length (l : List Int) : (u8s l).length = l.length := by simp [u8s]
theorem u8s_append (l m : List Int) : u8s (l ++ m) = u8s l ++ u8s m := by simp [u8s]
theorem u8s_get (l : List Int) (j : Nat) : (u8s l)[j]? = (l[j]?).map (Value.int .u8) := by simp [u8s]

/-- v is a slice of bytes that reads as l, of the call's own from block B on -/
def Bts (B : Nat) (w : World) (v : Value) (l : List Int) : Prop := ∃ A c, v = .slice A l.length c ∧ l.length ≤ c ∧ Rd w 1 A l.length (u8s l) ∧ Fresh B A

theorem Fresh.none_ (B : Nat) : Fresh B none := fun _ h => by cases h
theorem Fresh.some_ {B b o : Nat} (h : B ≤ b) : Fresh B (some ⟨b, o, none⟩) := fun _ e => by cases e; exact h
theorem Fresh.mono {B B' : Nat} {A : Option Addr} (h : Fresh B A) (hB : B' ≤ B) : Fresh B' A := fun ad e => Nat.le_trans hB (h ad e)
theorem Fresh.off {B b : Nat} {A : Option Addr} (h : Fresh B A) (hb : b < B) : Off b A := fun ad e => by have := h ad e; omega
theorem Bts.nil (B : Nat) (w : World) : Bts B w (.slice none 0 0) [] := ⟨none, 0, rfl, Nat.le_refl _, Rd.nil _ _ _, Fresh.none_ _⟩
theorem Bts.new (w : World) (l : List Int) : Bts w.heap.size (w.alloc (.cells (u8s l).toArray 5)) (.slice (some ⟨w.heap.size, 0, none⟩) l.length l.length) l :=
  ⟨_, _, rfl, Nat.le_refl _, Rd.blk (Blk.new w 5 _) (by simp [u8s]), Fresh.some_ (Nat.le_refl _)⟩
theorem Bts.mono {B B' : Nat} {w : World} {v : Value} {l : List Int} (h : Bts B w v l) (hB : B' ≤ B) : Bts B' w v l := by
  obtain ⟨A, c, h1, h2, h3, h4⟩ := h
  exact ⟨A, c, h1, h2, h3, h4.mono hB⟩
theorem Bts.grown {B : Nat} {w w' : World} {v : Value} {l : List Int} {row : Option Nat} (h : Bts B w v l) (hg : w.grownBy w' row) (hr : ∀ g, row = some g → g < B) : Bts B w' v l := by
  obtain ⟨A, c, h1, h2, h3, h4⟩ := h
  exact ⟨A, c, h1, h2, h3.grown hg (fun g e => h4.off (hr g e)), h4⟩
theorem Bts.below {B : Nat} {w w' : World} {v : Value} {l : List Int} (h : Bts B w v l) (hb : Below w.heap.size w w') : Bts B w' v l := by
  obtain ⟨A, c, h1, h2, h3, h4⟩ := h
  exact ⟨A, c, h1, h2, h3.below hb, h4⟩

theorem Bts.of_own {base : Nat} {w : World} {e : TypeId} {v : Value} {l : List Int} (h : w.ownsRow base e 1 v l.length (u8s l)) : Bts base w v l := by
  rcases h.2 with ⟨rfl, h0⟩ | ⟨g, cap, cur, rfl, hg, _, hc, _⟩
  · have : l = [] := List.eq_nil_of_length_eq_zero h0
    subst this
    exact Bts.nil _ _
  · exact ⟨_, _, rfl, hc, Rd.own h, Fresh.some_ hg⟩

/-! ### what a call leaves -/
theorem grown_below {w w' : World} (h : Below w.heap.size w w') (row : Option Nat) : w.grownBy w' row := ⟨h.os, h.tape, h.output, h.size, fun i hi _ => h.block i hi⟩
theorem below_grown {w w' : World} (h : w.grownBy w' none) : Below w.heap.size w w' := ⟨h.os, h.tape, h.output, h.size, fun i hi => h.block i hi (by simp)⟩
theorem Below.of_grown {B : Nat} {w w' : World} {row : Option Nat} (h : w.grownBy w' row) (hB : B ≤ w.heap.size) (hr : ∀ g, row = some g → B ≤ g) : Below B w w' :=
  (Below.refl B w).grown h hB hr
theorem grown_set (w : World) (b i : Nat) (u : Value) : w.grownBy (w.setCell ⟨b, i, none⟩ u) (some b) :=
  ⟨rfl, rfl, rfl, by simp [World.setCell], fun k _ hne => Below.heap_setCell _ _ _ _ (fun e => hne (by rw [e]))⟩

/-! ### rows of one's own that grow -/
theorem Blk.not_row {w : World} {b : Nat} {t e : TypeId} {cs : Array Value} (h : Blk w b t cs) (hte : t ≠ e) {base size k : Nat} {v : Value} {xs : List Value} (hr : w.ownsRow base e size v k xs) : some b ≠ v.ownBlock := by
  rcases hr.2 with ⟨rfl, _⟩ | ⟨g, cap, cur, rfl, _, hh, _⟩
  · simp [Value.ownBlock]
  · intro he
    have : b = g := by simpa [Value.ownBlock] using he
    subst this
    exact hte (Blk.same h hh).1
theorem own_base {w : World} {base : Nat} {e : TypeId} {size n : Nat} {v : Value} {xs : List Value} (h : w.ownsRow base e size v n xs) : ∀ g, v.ownBlock = some g → base ≤ g ∧ g < w.heap.size := fun g hg => h.lt g hg
theorem own_slice {w : World} {base : Nat} {e : TypeId} {size n : Nat} {v : Value} {xs : List Value} (h : w.ownsRow base e size v n xs) : ∃ A c, v = .slice A n c := by
  rcases h.2 with ⟨rfl, rfl⟩ | ⟨g, cap, cur, rfl, _⟩
  · exact ⟨none, 0, rfl⟩
  · exact ⟨_, _, rfl⟩

section
variable {P : Program} {ops : Array Oper} {rest : List Oper} {o : Oper} {a : Act} {Q : Exit → Act → World → Prop}
/-- one element of several cells, or of one, is appended; it has just been laid into a block of its own -/
theorem append_one {w W : World} (base : Nat) (hgd : o.guard = none) (s x : Operand) (t e : TypeId) (z : Value) (size bytes : Nat)
    (ho : o.op = .call { callee := .builtin .append, args := #[s, x], argTypes := #[t, t] })
    (ht : P.underlying t = some (.slice e)) (hinfo : (P.info? e).map (fun i => (i.zero, i.size, i.bytes)) = some (some z, size, bytes)) (hz : z.cells.size = size) (hs0 : 0 < size)
    (v : Value) (n : Nat) (xs cs : List Value) (HO : w.ownsRow base e size v n xs) (hW : W = w.alloc (.cells cs.toArray e)) (hs : a.eval s = v) (hcs : cs.length = size) (h1 : cs.all (·.oneCell') = true) (hx : a.eval x = .slice (some ⟨w.heap.size, 0, none⟩) 1 1)
    (hl : (n + 1) * bytes ≤ 140737488355328) (hm : n + 1 ≤ maxLen) (hbase : base ≤ w.heap.size)
    (h : ∀ g c w1, w1.ownsRow base e size (.slice (some ⟨g, 0, none⟩) (n + 1) c) (n + 1) (xs ++ cs) → w.grownBy w1 v.ownBlock → base ≤ g → wpList P ops Q rest (a.put o.dst (.slice (some ⟨g, 0, none⟩) (n + 1) c)) w1) :
    wpList P ops Q (o :: rest) a W := by
  subst hW
  obtain ⟨i0, hi, hz0, hz1, hz2⟩ := info_parts hinfo
  refine wpList_append_own (w.alloc (.cells cs.toArray e)) hgd s x t ho base e i0 z size bytes ht hi hz0 hz1 hz2 hz hs0 v n xs hs (HO.alloc _) ⟨w.heap.size, 0, none⟩ 1 1 cs hx (by rw [hcs]; simp)
    (by simpa using World.news_of_block (cs := cs.toArray) (t := e) (fr := (0, 0)) (heap_alloc_new w (.cells cs.toArray e))) (by simpa using h1) hm hl (by simp; omega) ?_
  intro v1 w1 hown hg _
  rcases hown.2 with ⟨rfl, h0⟩ | ⟨g, cap, cur, rfl, hb, _⟩
  · omega
  · exact h g cap w1 hown (World.grownBy.trans (World.grownBy_alloc w _ _) hg) hb
/-- the same inside a fence -/
theorem append_one_in {F : Fence} {m : Nat} {w W : World} (base : Nat) (hgd : o.guard = none) (s x : Operand) (t e : TypeId) (z : Value) (size bytes : Nat)
    (ho : o.op = .call { callee := .builtin .append, args := #[s, x], argTypes := #[t, t] })
    (ht : P.underlying t = some (.slice e)) (hinfo : (P.info? e).map (fun i => (i.zero, i.size, i.bytes)) = some (some z, size, bytes)) (hz : z.cells.size = size) (hs0 : 0 < size)
    (v : Value) (n : Nat) (xs cs : List Value) (HO : w.ownsRow base e size v n xs) (hW : W = w.alloc (.cells cs.toArray e)) (hs : a.eval s = v) (hcs : cs.length = size) (h1 : cs.all (·.oneCell') = true) (hx : a.eval x = .slice (some ⟨w.heap.size, 0, none⟩) 1 1)
    (hl : (n + 1) * bytes ≤ 140737488355328) (hm : n + 1 ≤ maxLen) (hbase : base ≤ w.heap.size)
    (h : ∀ g c w1, w1.ownsRow base e size (.slice (some ⟨g, 0, none⟩) (n + 1) c) (n + 1) (xs ++ cs) → w.grownBy w1 v.ownBlock → base ≤ g → wpListIn F m P ops Q rest (a.put o.dst (.slice (some ⟨g, 0, none⟩) (n + 1) c)) w1) :
    wpListIn F m P ops Q (o :: rest) a W := by
  subst hW
  obtain ⟨i0, hi, hz0, hz1, hz2⟩ := info_parts hinfo
  refine wpListIn_append_own (w.alloc (.cells cs.toArray e)) hgd s x t ho base e i0 z size bytes ht hi hz0 hz1 hz2 hz hs0 v n xs hs (HO.alloc _) ⟨w.heap.size, 0, none⟩ 1 1 cs hx (by rw [hcs]; simp)
    (by simpa using World.news_of_block (cs := cs.toArray) (t := e) (fr := (0, 0)) (heap_alloc_new w (.cells cs.toArray e))) (by simpa using h1) hm hl (by simp; omega) ?_
  intro v1 w1 hown hg _
  rcases hown.2 with ⟨rfl, h0⟩ | ⟨g, cap, cur, rfl, hb, _⟩
  · omega
  · exact h g cap w1 hown (World.grownBy.trans (World.grownBy_alloc w _ _) hg) hb
end
/-- a slice value of one's own, from block B on, with its elements -/
abbrev OwnL {α : Type} (enc : α → List Value) (sz e : Nat) (B : Nat) (w : World) (v : Value) (l : List α) : Prop := w.ownsRow B e sz v l.length (l.flatMap enc)
theorem OwnL.snoc {α : Type} {enc : α → List Value} {sz e B : Nat} {w : World} {v : Value} {l : List α} {a : α} (h : w.ownsRow B e sz v (l.length + 1) (l.flatMap enc ++ enc a)) : OwnL enc sz e B w v (l ++ [a]) := by
  show w.ownsRow B e sz v (l ++ [a]).length ((l ++ [a]).flatMap enc)
  rw [List.length_append, List.flatMap_append]
  simpa using h
theorem OwnL.nil {α : Type} {enc : α → List Value} {sz e B g : Nat} {w : World} (hb : B ≤ g) (h : Blk w g e #[]) : OwnL enc sz e B w (.slice (some ⟨g, 0, none⟩) 0 0) [] :=
  ⟨by simp, .inr ⟨g, 0, #[], rfl, hb, h, Nat.le_refl _, Nat.zero_le _, by simp, by simp⟩⟩
/-- v is a slice of elements of sz cells that reads as l, and lies from block B on -/
def Sl {α : Type} (enc : α → List Value) (sz B : Nat) (w : World) (v : Value) (l : List α) : Prop := ∃ A c, v = .slice A l.length c ∧ l.length ≤ c ∧ Rd w sz A l.length (l.flatMap enc) ∧ Fresh B A
section
variable {α : Type} {enc : α → List Value} {sz B : Nat} {w w' : World} {v : Value} {l : List α}
theorem Sl.nil : Sl enc sz B w (.slice none 0 0) ([] : List α) := ⟨none, 0, rfl, Nat.le_refl _, Rd.nil _ _ _, Fresh.none_ _⟩
theorem Sl.mono {B' : Nat} (h : Sl enc sz B w v l) (hB : B' ≤ B) : Sl enc sz B' w v l := by
  obtain ⟨A, c, h1, h2, h3, h4⟩ := h
  exact ⟨A, c, h1, h2, h3, h4.mono hB⟩
theorem Sl.grown {row : Option Nat} (h : Sl enc sz B w v l) (hg : w.grownBy w' row) (hr : ∀ g, row = some g → g < B) : Sl enc sz B w' v l := by
  obtain ⟨A, c, h1, h2, h3, h4⟩ := h
  exact ⟨A, c, h1, h2, h3.grown hg (fun g e => h4.off (hr g e)), h4⟩
theorem Sl.below (h : Sl enc sz B w v l) (hb : Below w.heap.size w w') : Sl enc sz B w' v l := by
  obtain ⟨A, c, h1, h2, h3, h4⟩ := h
  exact ⟨A, c, h1, h2, h3.below hb, h4⟩
theorem Sl.of_own {e : TypeId} (h : OwnL enc sz e B w v l) : Sl enc sz B w v l := by
  rcases h.2 with ⟨rfl, h0⟩ | ⟨g, cap, cur, rfl, hg, _, hc, _⟩
  · have : l = [] := List.eq_nil_of_length_eq_zero h0
    subst this
    exact Sl.nil
  · exact ⟨_, _, rfl, hc, Rd.own h, Fresh.some_ hg⟩
end
end Go.Proofs.Ytmldhgebbgalbaa
