/- Planes that turn: Point, Set, New. -/
import Derived.Test.YtmldhgebbgalbaaP3
import Derived.RegionTactic
import Derived.ChangeAlike
import Derived.BigRegion
import Derived.StillTailTactics
import Derived.Laws.MakeOwn
namespace Go.Proofs.Ytmldhgebbgalbaa
set_option linter.unusedVariables false
set_option linter.unusedSimpArgs false
open Go.RowKit

/-- no old block has turned but these -/
structure Chg (l : List Nat) (w w' : World) : Prop where
  os : w'.os = w.os
  tape : w'.tape = w.tape
  output : w'.output = w.output
  size : w.heap.size ≤ w'.heap.size
  block : ∀ i, i < w.heap.size → i ∉ l → w'.heap[i]? = w.heap[i]?
theorem Chg.refl (l : List Nat) (w : World) : Chg l w w := ⟨rfl, rfl, rfl, Nat.le_refl _, fun _ _ _ => rfl⟩
theorem Chg.trans {l : List Nat} {w w1 w2 : World} (h : Chg l w w1) (k : Chg l w1 w2) : Chg l w w2 :=
  ⟨k.os.trans h.os, k.tape.trans h.tape, k.output.trans h.output, Nat.le_trans h.size k.size, fun i hi hn => (k.block i (Nat.lt_of_lt_of_le hi h.size) hn).trans (h.block i hi hn)⟩
theorem Chg.mono {l m : List Nat} {w w1 : World} (h : Chg l w w1) (hm : ∀ i, i ∈ l → i ∈ m) : Chg m w w1 := ⟨h.os, h.tape, h.output, h.size, fun i hi hn => h.block i hi (fun hx => hn (hm i hx))⟩
theorem Chg.of_ext {w w1 : World} (h : Ext w w1) (l : List Nat) : Chg l w w1 := ⟨h.os, h.tape, h.output, h.size, fun i hi _ => h.block i hi⟩
theorem Chg.ext {l : List Nat} {w w1 w2 : World} (h : Chg l w1 w2) (k : Ext w w1) (hl : ∀ i, i ∈ l → w.heap.size ≤ i) : Ext w w2 :=
  ⟨h.os.trans k.os, h.tape.trans k.tape, h.output.trans k.output, Nat.le_trans k.size h.size, fun i hi => (h.block i (Nat.lt_of_lt_of_le hi k.size) (fun hx => by have := hl i hx; omega)).trans (k.block i hi)⟩
theorem Chg.set {l : List Nat} {w w1 : World} (h : Chg l w w1) (b i : Nat) (u : Value) (hb : b ∈ l ∨ w.heap.size ≤ b) : Chg l w (w1.setCell ⟨b, i, none⟩ u) :=
  ⟨h.os, h.tape, h.output, by simpa [World.setCell] using h.size, fun k hk hn => (Below.heap_setCell _ _ _ _ (fun e => by
    simp only at e
    rcases hb with hb | hb
    · exact hn (e ▸ hb)
    · omega)).trans (h.block k hk hn)⟩
theorem Chg.alloc {l : List Nat} {w w1 : World} (h : Chg l w w1) (o : Obj) : Chg l w (w1.alloc o) := h.trans (Chg.of_ext (Ext_alloc (Ext_refl _)) l)
theorem Chg.drewN {l : List Nat} {w w1 : World} (h : Chg l w w1) (n : Nat) : Chg l w (w1.drewN n) := ⟨h.os, h.tape, h.output, h.size, h.block⟩
theorem Chg.drew {l : List Nat} {w w1 : World} (h : Chg l w w1) : Chg l w w1.drew := ⟨h.os, h.tape, h.output, h.size, h.block⟩
theorem Chg.step {l : List Nat} {w w1 w2 : World} (h : Chg l w w1) (k : Ext w1 w2) : Chg l w w2 := h.trans (Chg.of_ext k l)
theorem Blk.chg {l : List Nat} {w w1 : World} {b : Nat} {t : TypeId} {cs : Array Value} (h : Blk w b t cs) (k : Chg l w w1) (hb : b ∉ l) : Blk w1 b t cs := (k.block b h.lt hb).trans h
theorem PlAt.chg {l : List Nat} {w w1 : World} {g c : Nat} {p : Pl} (h : PlAt w g c p) (k : Chg l w w1) (hg : g ∉ l) (hc : c ∉ l) : PlAt w1 g c p := let ⟨a, t, h⟩ := h; ⟨a, t, h.obj.chg k hg, h.row.chg k hc, h.ok⟩
theorem Rd.chg {l : List Nat} {w w1 : World} {sz n : Nat} {A : Option Addr} {cs : List Value} (h : Rd w sz A n cs) (k : Chg l w w1) (hb : ∀ b, b ∈ l → Off b A) : Rd w1 sz A n cs :=
  h.keep fun b _ _ e hlt _ => k.block b hlt (fun hx => hb b hx _ e rfl)

theorem PlAt.drew {w : World} {g c : Nat} {p : Pl} (h : PlAt w g c p) : PlAt w.drew g c p := let ⟨a, t, h⟩ := h; ⟨a, t, h.obj, h.row, h.ok⟩
theorem PlAt.drewN {w : World} {g c : Nat} {p : Pl} (h : PlAt w g c p) (n : Nat) : PlAt (w.drewN n) g c p := let ⟨a, t, h⟩ := h; ⟨a, t, h.obj, h.row, h.ok⟩
/-- the plane behind a call that turns it -/
def PlTo (v : Value) (g c : Nat) (p' : Pl) (w : World) (e : Ending) (w' : World) : Prop := e = .returned v ∧ PlAt w' g c p' ∧ Chg [g, c] w w'
def Pl.point (p : Pl) (i : Int) : Pl := if p.has i then { p with cur := i } else p
def Pl.set (p : Pl) (i : Int) (x : Cel) : Pl := if p.has i then { p with cells := p.cells.set i.toNat x } else p
theorem PlAt.store_cur {w : World} {g c : Nat} {p : Pl} (h : PlAt w g c p) {i : Int} (h0 : 0 ≤ i) (h1 : i < p.n) : PlAt (w.setCell ⟨g, 3, none⟩ (.int .i64 i)) g c { p with cur := i } := by
  have hne := h.ne
  obtain ⟨kap, tl, h⟩ := h
  refine ⟨kap, tl, ?_, h.row.far (p := ⟨g, 3, none⟩) (fun e => hne e.symm) _, ⟨h.ok.sz, h0, h1, h.ok.by_⟩⟩
  have := h.obj.store 3 (.int .i64 i)
  exact this
theorem flat_set (tl : List Value) (cs : List Cel) (k : Nat) (hk : k < cs.length) (x : Cel) :
    ((((((cs.flatMap Cel.enc ++ tl).toArray.setIfInBounds (k * 5) (.int .u8 x.b)).setIfInBounds (k * 5 + 1) (.bool x.ge)).setIfInBounds (k * 5 + 2) (.bool x.st)).setIfInBounds (k * 5 + 3) (.int .u8 x.li)).setIfInBounds (k * 5 + 4) (.int .u8 x.co))
      = ((cs.set k x).flatMap Cel.enc ++ tl).toArray := by
  have hL := flat_length Cel.enc 5 Cel.len cs
  have hL' := flat_length Cel.enc 5 Cel.len (cs.set k x)
  rw [List.length_set] at hL'
  apply Array.ext_getElem?
  intro i
  obtain ⟨q, r, hr5, rfl⟩ : ∃ q r, r < 5 ∧ i = q * 5 + r := ⟨i / 5, i % 5, by omega, by omega⟩
  have hr := flat_get Cel.enc 5 Cel.len (cs.set k x) q r hr5
  have hl := flat_get Cel.enc 5 Cel.len cs q r hr5
  simp only [Array.getElem?_setIfInBounds, List.size_toArray, Array.size_setIfInBounds, List.getElem?_toArray, List.length_append]
  rw [hL]
  by_cases hq : q < cs.length
  rotate_left 1
  · rw [List.getElem?_append_right (by omega), List.getElem?_append_right (by omega), hL, hL', if_neg (by omega), if_neg (by omega), if_neg (by omega), if_neg (by omega), if_neg (by omega)]
  rw [List.getElem?_append_left (by omega), List.getElem?_append_left (by omega), hr, hl, List.getElem?_set]
  by_cases e : k = q
  · subst e
    rw [if_pos rfl, if_pos hk]
    have hc : r = 0 ∨ r = 1 ∨ r = 2 ∨ r = 3 ∨ r = 4 := by omega
    rcases hc with rfl | rfl | rfl | rfl | rfl <;> (repeat' (first | rw [if_pos (by omega)] | rw [if_neg (by omega)])) <;> rfl
  · rw [if_neg e, if_neg (by omega), if_neg (by omega), if_neg (by omega), if_neg (by omega), if_neg (by omega)]
theorem PlAt.store_cell {w : World} {g c : Nat} {p : Pl} (h : PlAt w g c p) {k : Nat} (hk : k < p.cells.length) (x : Cel) (hx : 0 ≤ x.b ∧ x.b < 256) :
    PlAt (((((w.setCell ⟨c, k * 5, none⟩ (.int .u8 x.b)).setCell ⟨c, k * 5 + 1, none⟩ (.bool x.ge)).setCell ⟨c, k * 5 + 2, none⟩ (.bool x.st)).setCell ⟨c, k * 5 + 3, none⟩ (.int .u8 x.li)).setCell ⟨c, k * 5 + 4, none⟩ (.int .u8 x.co)) g c { p with cells := p.cells.set k x } := by
  have hne := h.ne
  obtain ⟨kap, tl, h⟩ := h
  refine ⟨kap, tl, ?_, ?_, ⟨?_, h.ok.k0, ?_, ?_⟩⟩
  · have := ((((h.obj.far (p := ⟨c, k * 5, none⟩) hne (.int .u8 x.b)).far (p := ⟨c, k * 5 + 1, none⟩) hne (.bool x.ge)).far (p := ⟨c, k * 5 + 2, none⟩) hne (.bool x.st)).far (p := ⟨c, k * 5 + 3, none⟩) hne (.int .u8 x.li)).far (p := ⟨c, k * 5 + 4, none⟩) hne (.int .u8 x.co)
    simp only [List.length_set]
    exact this
  · have := ((((h.row.store (k * 5) (.int .u8 x.b)).store (k * 5 + 1) (.bool x.ge)).store (k * 5 + 2) (.bool x.st)).store (k * 5 + 3) (.int .u8 x.li)).store (k * 5 + 4) (.int .u8 x.co)
    rw [flat_set tl p.cells k hk x] at this
    exact this
  · have := h.ok.sz
    unfold Pl.n at *
    rw [List.length_set]
    exact this
  · have := h.ok.k1
    unfold Pl.n at *
    rw [List.length_set]
    exact this
  · intro y hy
    rcases List.mem_or_eq_of_mem_set hy with hy | rfl
    · exact h.ok.by_ y hy
    · exact hx

theorem Point_any (g c : Nat) (p : Pl) (i : Int) (w : World) (h : PlAt w g c p) : Calls Try.prog 18 #[.pointer (some ⟨g, 0, none⟩), .int .i64 i] w (PlTo (.bool (p.has i)) g c (p.point i) w) := by
  have HP := Lib.hid h
  have HX := Lib.hid (Ext_refl w)
  rcases Bool.eq_false_or_eq_true (p.has i) with hi | hi
  · have HH := Lib.hid hi
    have HV := Lib.hid (show p.point i = { p with cur := i } by unfold Pl.point; rw [if_pos hi])
    rw [HV.out, hi]
    obtain ⟨kap, tl, h⟩ := h
    have c3 := h.obj.cell 3
    have f3 := h.obj.free 3
    have hg : In g w := h.obj.lt
    clear h hi
    go_enter Try.func18, Try.ntmps18
    go_wp2_with (go_at_call 45; refine (has_any g c p _ _ (HP.out.ext (by repeat' (first | (with_reducible first | exact HX.out | apply Ext_alloc | apply Ext_drewN | apply Ext_drew | (refine Ext_set ?_ ?_) | exact Ext_refl _) | (simp only [World.size_alloc, World.size_setCell, World.size_drew, size_drewN]; omega) | (simp; done) | (simp; omega))))).mono ?_; rintro e wn ⟨rfl, hb⟩; rw [HH.out]; have d3 := (cell_ext hb hg).trans c3; have e3 := (frozen_ext hb hg).trans f3; have HXn := Lib.hid (Ext_trans hb (by repeat' (first | (with_reducible first | exact HX.out | apply Ext_alloc | apply Ext_drewN | apply Ext_drew | (refine Ext_set ?_ ?_) | exact Ext_refl _) | (simp only [World.size_alloc, World.size_setCell, World.size_drew, size_drewN]; omega) | (simp; done) | (simp; omega)))); clear hb HX; have HX := HXn; clear HXn)
    go_ret
    have hh := HH.out
    simp only [Pl.has, decide_eq_true_eq] at hh
    exact ⟨rfl, (HP.out.ext HX.out).store_cur hh.1 hh.2, (Chg.of_ext HX.out _).set _ _ _ (.inl (by simp))⟩
  · have HH := Lib.hid hi
    have HV := Lib.hid (show p.point i = p by unfold Pl.point; rw [if_neg (by simp [hi])])
    rw [HV.out, hi]
    clear h hi
    go_enter Try.func18, Try.ntmps18
    go_wp2_with (go_at_call 45; refine (has_any g c p _ _ (HP.out.ext (by repeat' (first | (with_reducible first | exact HX.out | apply Ext_alloc | apply Ext_drewN | apply Ext_drew | (refine Ext_set ?_ ?_) | exact Ext_refl _) | (simp only [World.size_alloc, World.size_setCell, World.size_drew, size_drewN]; omega) | (simp; done) | (simp; omega))))).mono ?_; rintro e wn ⟨rfl, hb⟩; rw [HH.out]; have HXn := Lib.hid (Ext_trans hb (by repeat' (first | (with_reducible first | exact HX.out | apply Ext_alloc | apply Ext_drewN | apply Ext_drew | (refine Ext_set ?_ ?_) | exact Ext_refl _) | (simp only [World.size_alloc, World.size_setCell, World.size_drew, size_drewN]; omega) | (simp; done) | (simp; omega)))); clear hb HX; have HX := HXn; clear HXn)
    go_ret
    exact ⟨rfl, HP.out.ext HX.out, Chg.of_ext HX.out _⟩

set_option maxRecDepth 100000 in
set_option maxHeartbeats 4000000 in
theorem Set_any (g c : Nat) (p : Pl) (i : Int) (x : Cel) (hx : 0 ≤ x.b ∧ x.b < 256) (w : World) (h : PlAt w g c p) :
    Calls Try.prog 30 #[.pointer (some ⟨g, 0, none⟩), .int .i64 i, .agg #[.int .u8 x.b, .bool x.ge, .bool x.st, .int .u8 x.li, .int .u8 x.co]] w (PlTo (.bool (p.has i)) g c (p.set i x) w) := by
  have HP := Lib.hid h
  have HX := Lib.hid (Ext_refl w)
  have n1 := h.ok.sz.n1
  unfold Pl.n at n1
  rcases Bool.eq_false_or_eq_true (p.has i) with hi | hi
  · have HH := Lib.hid hi
    have HV := Lib.hid (show p.set i x = { p with cells := p.cells.set i.toNat x } by unfold Pl.set; rw [if_pos hi])
    rw [HV.out, hi]
    have hi2 : 0 ≤ i ∧ i < p.n := by simpa [Pl.has] using hi
    clear hi
    unfold Pl.n at hi2
    obtain ⟨h0, h1⟩ := hi2
    obtain ⟨k, rfl⟩ := Int.eq_ofNat_of_zero_le h0
    have hk : k < p.cells.length := by omega
    have HKK := Lib.hid hk
    have HXB := Lib.hid hx
    obtain ⟨y, hy, k0, k1, k2, k3, k4⟩ := h.at_ hk
    obtain ⟨kap, tl, h⟩ := h
    have hf := h.row.free
    have c2 := h.obj.cell 2
    simp at c2
    have hg : In g w := h.obj.lt
    have hcc : In c w := h.row.lt
    clear h hy HV hx
    go_enter Try.func30, Try.ntmps30
    go_wp2_with (go_at_call 45; refine (has_any g c p _ _ (HP.out.ext (by repeat' (first | (with_reducible first | exact HX.out | apply Ext_alloc | apply Ext_drewN | apply Ext_drew | (refine Ext_set ?_ ?_) | exact Ext_refl _) | (simp only [World.size_alloc, World.size_setCell, World.size_drew, size_drewN]; omega) | (simp; done) | (simp; omega))))).mono ?_; rintro e wn ⟨rfl, hb⟩; rw [HH.out]; have d2 := (cell_ext hb (In_old hg)).trans ((cell_In hg).trans c2); have e0 := (cell_ext hb (In_old hcc)).trans ((cell_In hcc).trans k0); have e1 := (cell_ext hb (In_old hcc)).trans ((cell_In hcc).trans k1); have e2 := (cell_ext hb (In_old hcc)).trans ((cell_In hcc).trans k2); have e3 := (cell_ext hb (In_old hcc)).trans ((cell_In hcc).trans k3); have e4 := (cell_ext hb (In_old hcc)).trans ((cell_In hcc).trans k4); have f0 := (frozen_ext (i := k * 5) hb (In_old hcc)).trans ((frozen_In hcc).trans (hf _)); have f1 := (frozen_ext (i := k * 5 + 1) hb (In_old hcc)).trans ((frozen_In hcc).trans (hf _)); have f2 := (frozen_ext (i := k * 5 + 2) hb (In_old hcc)).trans ((frozen_In hcc).trans (hf _)); have f3 := (frozen_ext (i := k * 5 + 3) hb (In_old hcc)).trans ((frozen_In hcc).trans (hf _)); have f4 := (frozen_ext (i := k * 5 + 4) hb (In_old hcc)).trans ((frozen_In hcc).trans (hf _)); have hz0 : w.heap.size < wn.heap.size := (by have := hb.size; (try simp only [World.size_alloc, World.size_setCell, World.size_drew, size_drewN] at this); omega); have hc0_0 : wn.cell? ⟨w.heap.size, 0, none⟩ = some (.int .u8 x.b) := (cell_ext hb (by unfold In; first | omega | (simp; done) | (simp; omega))).trans (by go_simp); have hf0_0 : wn.frozen? ⟨w.heap.size, 0, none⟩ = false := (frozen_ext hb (by unfold In; first | omega | (simp; done) | (simp; omega))).trans (by go_simp); have hc0_1 : wn.cell? ⟨w.heap.size, 1, none⟩ = some (.bool x.ge) := (cell_ext hb (by unfold In; first | omega | (simp; done) | (simp; omega))).trans (by go_simp); have hf0_1 : wn.frozen? ⟨w.heap.size, 1, none⟩ = false := (frozen_ext hb (by unfold In; first | omega | (simp; done) | (simp; omega))).trans (by go_simp); have hc0_2 : wn.cell? ⟨w.heap.size, 2, none⟩ = some (.bool x.st) := (cell_ext hb (by unfold In; first | omega | (simp; done) | (simp; omega))).trans (by go_simp); have hf0_2 : wn.frozen? ⟨w.heap.size, 2, none⟩ = false := (frozen_ext hb (by unfold In; first | omega | (simp; done) | (simp; omega))).trans (by go_simp); have hc0_3 : wn.cell? ⟨w.heap.size, 3, none⟩ = some (.int .u8 x.li) := (cell_ext hb (by unfold In; first | omega | (simp; done) | (simp; omega))).trans (by go_simp); have hf0_3 : wn.frozen? ⟨w.heap.size, 3, none⟩ = false := (frozen_ext hb (by unfold In; first | omega | (simp; done) | (simp; omega))).trans (by go_simp); have hc0_4 : wn.cell? ⟨w.heap.size, 4, none⟩ = some (.int .u8 x.co) := (cell_ext hb (by unfold In; first | omega | (simp; done) | (simp; omega))).trans (by go_simp); have hf0_4 : wn.frozen? ⟨w.heap.size, 4, none⟩ = false := (frozen_ext hb (by unfold In; first | omega | (simp; done) | (simp; omega))).trans (by go_simp); have HXn := Lib.hid (Ext_trans hb (by repeat' (first | (with_reducible first | exact HX.out | apply Ext_alloc | apply Ext_drewN | apply Ext_drew | (refine Ext_set ?_ ?_) | exact Ext_refl _) | (simp only [World.size_alloc, World.size_setCell, World.size_drew, size_drewN]; omega) | (simp; done) | (simp; omega)))); clear hb HX; have HX := HXn; clear HXn)
    clear k0 k1 k2 k3 k4 c2 hg hcc hf
    go_region
    all_goals go_wp2
    go_ret
    exact ⟨rfl, ((HP.out.ext HX.out).store_cell HKK.out x HXB.out).drew, ((((((Chg.of_ext HX.out _).set _ _ _ (.inl (by simp))).set _ _ _ (.inl (by simp))).set _ _ _ (.inl (by simp))).set _ _ _ (.inl (by simp))).set _ _ _ (.inl (by simp))).drew⟩
  · have HH := Lib.hid hi
    have HV := Lib.hid (show p.set i x = p by unfold Pl.set; rw [if_neg (by simp [hi])])
    rw [HV.out, hi]
    clear h hi
    go_enter Try.func30, Try.ntmps30
    go_wp2_with (go_at_call 45; refine (has_any g c p _ _ (HP.out.ext (by repeat' (first | (with_reducible first | exact HX.out | apply Ext_alloc | apply Ext_drewN | apply Ext_drew | (refine Ext_set ?_ ?_) | exact Ext_refl _) | (simp only [World.size_alloc, World.size_setCell, World.size_drew, size_drewN]; omega) | (simp; done) | (simp; omega))))).mono ?_; rintro e wn ⟨rfl, hb⟩; rw [HH.out]; have HXn := Lib.hid (Ext_trans hb (by repeat' (first | (with_reducible first | exact HX.out | apply Ext_alloc | apply Ext_drewN | apply Ext_drew | (refine Ext_set ?_ ?_) | exact Ext_refl _) | (simp only [World.size_alloc, World.size_setCell, World.size_drew, size_drewN]; omega) | (simp; done) | (simp; omega)))); clear hb HX; have HX := HXn; clear HXn)
    go_ret
    exact ⟨rfl, HP.out.ext (by repeat' (first | (with_reducible first | exact HX.out | apply Ext_alloc | apply Ext_drewN | apply Ext_drew | (refine Ext_set ?_ ?_) | exact Ext_refl _) | (simp only [World.size_alloc, World.size_setCell, World.size_drew, size_drewN]; omega) | (simp; done) | (simp; omega))), Chg.of_ext (by repeat' (first | (with_reducible first | exact HX.out | apply Ext_alloc | apply Ext_drewN | apply Ext_drew | (refine Ext_set ?_ ?_) | exact Ext_refl _) | (simp only [World.size_alloc, World.size_setCell, World.size_drew, size_drewN]; omega) | (simp; done) | (simp; omega))) _⟩

/-! ### New -/
def cellRow (l : List Cel) : Array Value := (l.flatMap Cel.enc).toArray
theorem made_zero (m : Nat) : madeCells #[.int .u8 0, .bool false, .bool false, .int .u8 0, .int .u8 0] (m * 5) = cellRow (List.replicate m Cel.zero) := by
  apply Array.ext_getElem?
  intro i
  unfold madeCells cellRow
  obtain ⟨q, r, hr5, rfl⟩ : ∃ q r, r < 5 ∧ i = q * 5 + r := ⟨i / 5, i % 5, by omega, by omega⟩
  have e1 : ((List.replicate m Cel.zero).flatMap Cel.enc).toArray[q * 5 + r]? = ((List.replicate m Cel.zero)[q]?).bind fun x => (Cel.enc x)[r]? := by
    rw [List.getElem?_toArray, flat_get Cel.enc 5 Cel.len _ q r hr5]
  rw [e1, List.getElem?_replicate, Array.getElem?_map, Array.getElem?_range]
  by_cases h : q < m
  · rw [if_pos h, if_pos (by omega)]
    have hc : r = 0 ∨ r = 1 ∨ r = 2 ∨ r = 3 ∨ r = 4 := by omega
    rcases hc with rfl | rfl | rfl | rfl | rfl <;> simp [Cel.enc, Cel.zero]
  · rw [if_neg h, if_neg (by omega)]
    rfl
theorem infoCell : (Try.prog.info? 46).map (fun i => (i.zero, i.size, i.bytes)) = some (some (.agg #[.int .u8 0, .bool false, .bool false, .int .u8 0, .int .u8 0]), 5, 5) := by kernel_rfl
theorem make_cells (m : Nat) (hm : m ≤ 4096) (W : World) : (Instr.makeSlice 24 (.int .i64 (m : Int)) (.int .i64 (m : Int))).run Try.prog W = .ok (.slice (some ⟨W.heap.size, 0, none⟩) m m) (W.alloc (.cells (cellRow (List.replicate m Cel.zero)) 46)) := by
  obtain ⟨i0, hi, hz0, hz1, hz2⟩ := info_parts infoCell
  have h := run_makeSlice W 24 46 i0 _ Try.underlying24 hi hz0 .i64 .i64 (m : Int) (m : Int) (by omega) (Int.le_refl _) (by rw [hz1]; simp; omega) (by rw [hz2]; omega) (by omega)
  rw [h, hz1]
  simp only [Int.toNat_natCast, Value.cells]
  rw [made_zero]
def NewP (r c : Int) (n : Nat) (w : World) (e : Ending) (w' : World) : Prop :=
  ∃ g b, e = .returned (.tuple #[.pointer (some ⟨g, 0, none⟩), .int .i64 0]) ∧ PlAt w' g b ⟨r, c, List.replicate n Cel.zero, 0⟩ ∧ Ext w w' ∧ w.heap.size ≤ g ∧ w.heap.size ≤ b
theorem cellsM_cases (r c : Int) : cellsM r c = 0 ∨ SzOk r c (cellsM r c) := by
  unfold cellsM
  split
  · exact .inl rfl
  · rename_i h
    have := mul_bound (r := r) (c := c) (by omega) (by omega) (by omega) (by omega)
    exact .inr ⟨by omega, by omega, by omega, by omega, this.1, by omega, rfl⟩
theorem PlAt.new {w : World} {g b : Nat} {r c : Int} {m : Nat} (h : SzOk r c m) (h1 : Blk w g 82 #[.int .i64 r, .int .i64 c, .slice (some ⟨b, 0, none⟩) m m, .int .i64 0]) (h2 : Blk w b 46 (cellRow (List.replicate m Cel.zero))) : PlAt w g b ⟨r, c, List.replicate m Cel.zero, 0⟩ := by
  refine ⟨m, [], ?_, by rw [List.append_nil]; exact h2, ⟨?_, Int.le_refl _, ?_, ?_⟩⟩
  · simp only [List.length_replicate]; exact h1
  · show SzOk r c (((List.replicate m Cel.zero).length : Nat) : Int); rw [List.length_replicate]; exact h
  · show 0 < (((List.replicate m Cel.zero).length : Nat) : Int); rw [List.length_replicate]; have := h.n0; omega
  · intro x hx
    rw [List.eq_of_mem_replicate hx]
    simp [Cel.zero]
set_option maxRecDepth 100000 in
set_option maxHeartbeats 4000000 in
theorem New_yes (r c : Int) (m : Nat) (h : SzOk r c m) (w : World) : Calls Try.prog 29 #[.agg #[.int .i64 r, .int .i64 c]] w (NewP r c m w) := by
  have HZ := Lib.hid h
  have HC := Lib.hid (cellsM_ok h)
  have HX := Lib.hid (Ext_refl w)
  have n0 := h.n0
  have n1 := h.n1
  have hmk := make_cells m (by omega)
  have hm0 : ((m : Int) == 0) = false := by rw [beq_eq_false_iff_ne]; omega
  clear h
  go_enter Try.func29, Try.ntmps29
  go_wp2_with (go_at_call 54; refine (Cells_any _ _ _).mono ?_; rintro e wn ⟨rfl, hb⟩; rw [HC.out]; have hz0 : w.heap.size < wn.heap.size := (by have := hb.size; (try simp only [World.size_alloc, World.size_setCell, World.size_drew, size_drewN] at this); omega); have hc0_0 : wn.cell? ⟨w.heap.size, 0, none⟩ = some (.int .i64 r) := (cell_ext hb (by unfold In; first | omega | (simp; done) | (simp; omega))).trans (by go_simp); have hf0_0 : wn.frozen? ⟨w.heap.size, 0, none⟩ = false := (frozen_ext hb (by unfold In; first | omega | (simp; done) | (simp; omega))).trans (by go_simp); have hc0_1 : wn.cell? ⟨w.heap.size, 1, none⟩ = some (.int .i64 c) := (cell_ext hb (by unfold In; first | omega | (simp; done) | (simp; omega))).trans (by go_simp); have hf0_1 : wn.frozen? ⟨w.heap.size, 1, none⟩ = false := (frozen_ext hb (by unfold In; first | omega | (simp; done) | (simp; omega))).trans (by go_simp); have HXn := Lib.hid (Ext_trans hb (by repeat' (first | (with_reducible first | exact HX.out | apply Ext_alloc | apply Ext_drewN | apply Ext_drew | (refine Ext_set ?_ ?_) | exact Ext_refl _) | (simp only [World.size_alloc, World.size_setCell, World.size_drew, size_drewN]; omega) | (simp; done) | (simp; omega)))); clear hb HX; have HX := HXn; clear HXn)
  go_region
  all_goals go_wp2
  go_ret2
  have q1 := (Blk.new wn 46 (cellRow (List.replicate m Cel.zero))).alloc (.cells #[.int .i64 r, .int .i64 c, .slice (some ⟨wn.heap.size, 0, none⟩) m m, .int .i64 0] 82)
  have q2 := Blk.new (wn.alloc (.cells (cellRow (List.replicate m Cel.zero)) 46)) 82 #[.int .i64 r, .int .i64 c, .slice (some ⟨wn.heap.size, 0, none⟩) m m, .int .i64 0]
  rw [World.size_alloc] at q2
  refine ⟨_, _, rfl, (PlAt.new HZ.out q2 q1).drew, ?_, ?_, ?_⟩
  · exact (by repeat' (first | (with_reducible first | exact HX.out | apply Ext_alloc | apply Ext_drewN | apply Ext_drew | (refine Ext_set ?_ ?_) | exact Ext_refl _) | (simp only [World.size_alloc, World.size_setCell, World.size_drew, size_drewN]; omega) | (simp; done) | (simp; omega)))
  · have := HX.out.size; omega
  · exact HX.out.size
theorem New_no (r c : Int) (h : cellsM r c = 0) (w : World) : Calls Try.prog 29 #[.agg #[.int .i64 r, .int .i64 c]] w (Ret (.tuple #[.pointer none, .int .i64 1]) w) := by
  have HC := Lib.hid h
  have HX := Lib.hid (Ext_refl w)
  clear h
  go_enter Try.func29, Try.ntmps29
  go_wp2_with (go_at_call 54; refine (Cells_any _ _ _).mono ?_; rintro e wn ⟨rfl, hb⟩; rw [HC.out]; have hz0 : w.heap.size < wn.heap.size := (by have := hb.size; (try simp only [World.size_alloc, World.size_setCell, World.size_drew, size_drewN] at this); omega); have hc0_0 : wn.cell? ⟨w.heap.size, 0, none⟩ = some (.int .i64 r) := (cell_ext hb (by unfold In; first | omega | (simp; done) | (simp; omega))).trans (by go_simp); have hf0_0 : wn.frozen? ⟨w.heap.size, 0, none⟩ = false := (frozen_ext hb (by unfold In; first | omega | (simp; done) | (simp; omega))).trans (by go_simp); have hc0_1 : wn.cell? ⟨w.heap.size, 1, none⟩ = some (.int .i64 c) := (cell_ext hb (by unfold In; first | omega | (simp; done) | (simp; omega))).trans (by go_simp); have hf0_1 : wn.frozen? ⟨w.heap.size, 1, none⟩ = false := (frozen_ext hb (by unfold In; first | omega | (simp; done) | (simp; omega))).trans (by go_simp); have HXn := Lib.hid (Ext_trans hb (by repeat' (first | (with_reducible first | exact HX.out | apply Ext_alloc | apply Ext_drewN | apply Ext_drew | (refine Ext_set ?_ ?_) | exact Ext_refl _) | (simp only [World.size_alloc, World.size_setCell, World.size_drew, size_drewN]; omega) | (simp; done) | (simp; omega)))); clear hb HX; have HX := HXn; clear HXn)
  go_ret2
  exact ⟨rfl, (by repeat' (first | (with_reducible first | exact HX.out | apply Ext_alloc | apply Ext_drewN | apply Ext_drew | (refine Ext_set ?_ ?_) | exact Ext_refl _) | (simp only [World.size_alloc, World.size_setCell, World.size_drew, size_drewN]; omega) | (simp; done) | (simp; omega)))⟩
end Go.Proofs.Ytmldhgebbgalbaa
