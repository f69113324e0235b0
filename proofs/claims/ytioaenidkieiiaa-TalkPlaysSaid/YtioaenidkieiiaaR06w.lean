/- The document's answer of chapter 6: Want. -/
import Derived.Test.YtioaenidkieiiaaR06b
import Derived.Deep.RegionHeld3
import Derived.Deep.DeepCutAuto
import Derived.Deep.Cut
namespace Go.Proofs.Ytioaenidkieiiaa
set_option linter.unusedVariables false
set_option linter.unusedSimpArgs false
open Go.RowKit

/-- the document's step behind a wish: the next state, what is said; none: it is so already -/
def wantR (on : Bool) (was : Int) : Option (Int × Int) :=
  if on then (if was = 0 then some (3, 1) else if was = 2 then some (4, 0) else if was = 5 then some (3, 0) else none)
  else (if was = 1 then some (2, 2) else if was = 3 then some (5, 0) else if was = 4 then some (2, 0) else none)
/-- the options, a slice and further values that are handed back -/
def RefP (w : World) (A : Option Addr) (vA vB : Value) (l : List One) (said : List Int) (t : List Value) (e : Ending) (w' : World) : Prop :=
  ∃ A' c' v3, e = .returned (.tuple (#[.agg #[.slice A' l.length c', vA, vB], v3] ++ t)) ∧ Rd w' 3 A' l.length (l.flatMap One.enc) ∧ (∀ b, b < w.heap.size → Off b A → Off b A') ∧ Bts w.heap.size w' v3 said ∧ Ext w w'
theorem ref_end {w w3 : World} {A Av Aw : Option Addr} {vA vB x0 x1 x2 : Value} {l : List One} {said : List Int} {n cv m cw g B B' : Nat} (hS : Sl One.enc 3 B w3 (.slice Av n cv) l) (hg : g < B) (hw : w.heap.size ≤ B) (hT : Bts B' w3 (.slice Aw m cw) said) (hg' : g < B') (hw' : w.heap.size ≤ B')
    (hE : Ext w (((w3.setCell ⟨g, 0, none⟩ x0).setCell ⟨g, 1, none⟩ x1).setCell ⟨g, 2, none⟩ x2)) :
    RefP w A vA vB l said [.int .i64 0] (.returned (.tuple #[.agg #[.slice Av n cv, vA, vB], .slice Aw m cw, .int .i64 0])) (((w3.setCell ⟨g, 0, none⟩ x0).setCell ⟨g, 1, none⟩ x1).setCell ⟨g, 2, none⟩ x2) := by
  obtain ⟨A', c', e, -, hr, hf⟩ := Sl_set (Sl_set (Sl_set hS hg (i := 0) (u := x0)) hg (i := 1) (u := x1)) hg (i := 2) (u := x2)
  cases e
  exact ⟨_, _, _, rfl, hr, fun b hb _ => hf.off (by omega), Bts.mono (Bts_set (Bts_set (Bts_set hT hg') hg') hg') hw', hE⟩
theorem new_cell {w : World} {b i : Nat} {t : TypeId} {cs : Array Value} (h : b = w.heap.size) : (w.alloc (.cells cs t)).cell? ⟨b, i, none⟩ = cs[i]? := by subst h; exact (Blk.new w t cs).cell i
theorem new_cell1 {w : World} {b i : Nat} {t : TypeId} {cs : Array Value} {o : Obj} (h : b = w.heap.size) : ((w.alloc (.cells cs t)).alloc o).cell? ⟨b, i, none⟩ = cs[i]? := by subst h; exact ((Blk.new w t cs).alloc o).cell i
theorem keep_cell {W wn : World} {b i : Nat} {v : Value} (hb : Ext W wn) (h : W.cell? ⟨b, i, none⟩ = some v) : wn.cell? ⟨b, i, none⟩ = some v := (cell_ext hb (World.block_lt_of_cell? W _ h)).trans h
theorem keep_frozen {W wn : World} {b i : Nat} {v : Value} (hb : Ext W wn) (h : W.cell? ⟨b, i, none⟩ = some v) (hf : W.frozen? ⟨b, i, none⟩ = false) : wn.frozen? ⟨b, i, none⟩ = false := (frozen_ext hb (World.block_lt_of_cell? W _ h)).trans hf
theorem keep5 {w W wn : World} {b0 b1 b2 b3 i0 i1 i2 i3 : Nat} {v0 v1 v2 v3 : Value} (hb : Ext W wn) (h : W.cell? ⟨b0, i0, none⟩ = some v0 ∧ W.cell? ⟨b1, i1, none⟩ = some v1 ∧ W.cell? ⟨b2, i2, none⟩ = some v2 ∧ W.cell? ⟨b3, i3, none⟩ = some v3 ∧ Ext w W) :
    wn.cell? ⟨b0, i0, none⟩ = some v0 ∧ wn.cell? ⟨b1, i1, none⟩ = some v1 ∧ wn.cell? ⟨b2, i2, none⟩ = some v2 ∧ wn.cell? ⟨b3, i3, none⟩ = some v3 ∧ Ext w wn :=
  ⟨keep_cell hb h.1, keep_cell hb h.2.1, keep_cell hb h.2.2.1, keep_cell hb h.2.2.2.1, Ext_trans hb h.2.2.2.2⟩
theorem set5 {w W : World} {b0 b1 b2 b3 i0 i1 i2 i3 c j : Nat} {u v0 v1 v2 v3 : Value} (n0 : b0 ≠ c) (n1 : b1 ≠ c) (n2 : b2 ≠ c) (n3 : b3 ≠ c) (hc : w.heap.size ≤ c) (h : W.cell? ⟨b0, i0, none⟩ = some v0 ∧ W.cell? ⟨b1, i1, none⟩ = some v1 ∧ W.cell? ⟨b2, i2, none⟩ = some v2 ∧ W.cell? ⟨b3, i3, none⟩ = some v3 ∧ Ext w W) :
    (W.setCell ⟨c, j, none⟩ u).cell? ⟨b0, i0, none⟩ = some v0 ∧ (W.setCell ⟨c, j, none⟩ u).cell? ⟨b1, i1, none⟩ = some v1 ∧ (W.setCell ⟨c, j, none⟩ u).cell? ⟨b2, i2, none⟩ = some v2 ∧ (W.setCell ⟨c, j, none⟩ u).cell? ⟨b3, i3, none⟩ = some v3 ∧ Ext w (W.setCell ⟨c, j, none⟩ u) :=
  ⟨(World.cell?_setCell_far _ _ _ _ (Ne.symm n0)).trans h.1, (World.cell?_setCell_far _ _ _ _ (Ne.symm n1)).trans h.2.1, (World.cell?_setCell_far _ _ _ _ (Ne.symm n2)).trans h.2.2.1, (World.cell?_setCell_far _ _ _ _ (Ne.symm n3)).trans h.2.2.2.1, Ext_set h.2.2.2.2 hc⟩
theorem ext5 {p q r s : Prop} {w W : World} (h : p ∧ q ∧ r ∧ s ∧ Ext w W) : Ext w W := h.2.2.2.2

set_option maxRecDepth 100000 in
set_option maxHeartbeats 4000000 in
theorem ref_Want_253 (A A1 A2 : Option Addr) (c0 n1 c1 n2 c2 : Nat) (l : List One) (x was : Int) (hn : l.length ≤ 100000) (w : World)
    (hr : Rd w 3 A l.length (l.flatMap One.enc)) (hst : stateR l false x = was) (h0 : 0 ≤ was) (h5 : was ≤ 5) :
    Calls Try.prog 13 #[.agg #[.slice A l.length c0, .slice A1 n1 c1, .slice A2 n2 c2], .int .u8 253, .int .u8 x] w
      (match wantR true was with
       | some (st, say) => RefP w A (.slice A1 n1 c1) (.slice A2 n2 c2) (setR l false x st) (wordL false x say) [.int .i64 0]
       | none => RefP w A (.slice A1 n1 c1) (.slice A2 n2 c2) l [] [.int .i64 5]) := by
  have HST := Lib.hid hst
  have HR := Lib.hid (fun w' (h : Ext w w') => Rd_ext h hr)
  have HX := Lib.hid (Ext_refl w)
  have BA := Lib.hid ((Blk.new w 29 #[.slice A l.length c0, .slice A1 n1 c1, .slice A2 n2 c2]).alloc (.cells #[.slice none 0 0, .slice none 0 0, .slice none 0 0] 29))
  have BB := Lib.hid (Blk.new (w.alloc (.cells #[.slice A l.length c0, .slice A1 n1 c1, .slice A2 n2 c2] 29)) 29 #[.slice none 0 0, .slice none 0 0, .slice none 0 0])
  rw [World.size_alloc] at BB
  clear hst hr
  have hcs : was = 0 ∨ was = 1 ∨ was = 2 ∨ was = 3 ∨ was = 4 ∨ was = 5 := by omega
  clear h0 h5
  rcases hcs with rfl | rfl | rfl | rfl | rfl | rfl
  · show Calls Try.prog _ _ w (RefP w A (.slice A1 n1 c1) (.slice A2 n2 c2) (setR l false x 3) (wordL false x 1) [.int .i64 0])
    go_enter Try.func13, Try.ntmps13
    go_upto_region 9 with (go_at_call 19; refine (ref_State A c0 _ _ l _ x (by omega) _ (HR.out _ (by repeat' (first | exact HX.out | (apply Ext_alloc) | (apply Ext_drewN) | (refine Ext_set ?_ ?_) | exact Ext_refl _ | (simp; done) | (simp; omega))))).mono ?_; rintro e wn ⟨rfl, hb⟩; rw [HST.out]; have BAn := Lib.hid (Blk.below' BA.out hb); have BBn := Lib.hid (Blk.below' BB.out hb); have HXn := Lib.hid (Ext_trans hb (by repeat' (first | exact HX.out | (apply Ext_alloc) | (apply Ext_drewN) | (refine Ext_set ?_ ?_) | exact Ext_refl _ | (simp; done) | (simp; omega)))); clear hb HX BA BB; have HX := HXn; have BA := BAn; have BB := BBn; clear HXn BAn BBn; have e0 := BA.out.cell 0; have e1 := BA.out.cell 1; have e2 := BA.out.cell 2; have f0 := BB.out.free 0; have f1 := BB.out.free 1; have f2 := BB.out.free 2; have g0 := BB.out.cell 0; have g1 := BB.out.cell 1; have g2 := BB.out.cell 2; have z0 := BA.out.lt; have z1 := BB.out.lt)
    generalize hW : World.alloc (World.alloc wn _) _ = W
    have hEw : Ext w W := by rw [← hW]; exact Ext_alloc (Ext_alloc (HX.out))
    have d0 : W.cell? ⟨w.heap.size, 0, none⟩ = some (.slice A l.length c0) := by rw [← hW]; exact (((BA.out.alloc _).alloc _).cell 0)
    have d1 : W.cell? ⟨w.heap.size, 1, none⟩ = some (.slice A1 n1 c1) := by rw [← hW]; exact (((BA.out.alloc _).alloc _).cell 1)
    have d2 : W.cell? ⟨w.heap.size, 2, none⟩ = some (.slice A2 n2 c2) := by rw [← hW]; exact (((BA.out.alloc _).alloc _).cell 2)
    have d3 : W.cell? ⟨wn.heap.size, 0, none⟩ = some (.int .i64 (3)) := by rw [← hW]; exact new_cell1 (by simp)
    have d4 : W.cell? ⟨wn.heap.size + 1, 0, none⟩ = some (.int .i64 1) := by rw [← hW]; exact new_cell (by simp)
    have b0 : W.cell? ⟨w.heap.size + 1, 0, none⟩ = some (.slice none 0 0) := by rw [← hW]; exact (((BB.out.alloc _).alloc _).cell 0)
    have q0 : W.frozen? ⟨w.heap.size + 1, 0, none⟩ = false := by rw [← hW]; exact (((BB.out.alloc _).alloc _).free 0)
    have b1 : W.cell? ⟨w.heap.size + 1, 1, none⟩ = some (.slice none 0 0) := by rw [← hW]; exact (((BB.out.alloc _).alloc _).cell 1)
    have q1 : W.frozen? ⟨w.heap.size + 1, 1, none⟩ = false := by rw [← hW]; exact (((BB.out.alloc _).alloc _).free 1)
    have b2 : W.cell? ⟨w.heap.size + 1, 2, none⟩ = some (.slice none 0 0) := by rw [← hW]; exact (((BB.out.alloc _).alloc _).cell 2)
    have q2 : W.frozen? ⟨w.heap.size + 1, 2, none⟩ = false := by rw [← hW]; exact (((BB.out.alloc _).alloc _).free 2)
    have zW : w.heap.size + 1 < W.heap.size := by rw [← hW]; simp only [World.size_alloc]; omega
    have l1 := BB.out.lt
    have l3 : w.heap.size + 1 ≠ wn.heap.size := by omega
    have l2 : wn.heap.size ≠ w.heap.size + 1 := by omega
    clear e0 e1 e2 f0 f1 f2 g0 g1 g2 hW
    go_wp2_with fail
    have zW : w.heap.size + 1 < W.drew.heap.size := zW
    have b0 : W.drew.cell? ⟨w.heap.size + 1, 0, none⟩ = some (.slice none 0 0) := b0
    have b1 : W.drew.cell? ⟨w.heap.size + 1, 1, none⟩ = some (.slice none 0 0) := b1
    have b2 : W.drew.cell? ⟨w.heap.size + 1, 2, none⟩ = some (.slice none 0 0) := b2
    have q0 : W.drew.frozen? ⟨w.heap.size + 1, 0, none⟩ = false := q0
    have q1 : W.drew.frozen? ⟨w.heap.size + 1, 1, none⟩ = false := q1
    have q2 : W.drew.frozen? ⟨w.heap.size + 1, 2, none⟩ = false := q2
    go_region_held3 (fun w' => w'.cell? ⟨w.heap.size, 0, none⟩ = some (.slice A l.length c0) ∧ w'.cell? ⟨w.heap.size, 1, none⟩ = some (.slice A1 n1 c1) ∧ w'.cell? ⟨w.heap.size, 2, none⟩ = some (.slice A2 n2 c2) ∧ w'.cell? ⟨wn.heap.size, 0, none⟩ = some (.int .i64 3) ∧ Ext w w') (first | (exact keep5 hb (by assumption)) | (exact set5 (by omega) (by omega) (by omega) l2 (by omega) (set5 (by omega) (by omega) (by omega) l2 (by omega) (set5 (by omega) (by omega) (by omega) l2 (by omega) (by assumption)))) | (refine ⟨?_, ?_, ?_, ?_, ?_⟩ <;> first | exact Ext_drew hEw | (refine Ext_set (ext5 (by assumption)) ?_; simp; done) | (go_simp; done) | (simp [*]; done)))
      (first
        | (go_at_call 47; refine (ref_set A A1 A2 c0 n1 c1 n2 c2 l _ x _ (by omega) _ (HR.out _ (ext5 (by assumption)))).mono ?_; rintro e w2 ⟨v, rfl, hown, hb⟩; obtain ⟨Av, cv, rfl⟩ := own_slice hown; have HOWN := Lib.hid hown; clear hown; have hbs := hb.size; (try have b0 := keep_cell (b := w.heap.size + 1) (i := 0) hb (by assumption)); (try have q0 := keep_frozen (b := w.heap.size + 1) (i := 0) (v := .slice none 0 0) hb (by assumption) (by assumption)); (try have b1 := keep_cell (b := w.heap.size + 1) (i := 1) hb (by assumption)); (try have q1 := keep_frozen (b := w.heap.size + 1) (i := 1) (v := .slice none 0 0) hb (by assumption) (by assumption)); (try have b2 := keep_cell (b := w.heap.size + 1) (i := 2) hb (by assumption)); (try have q2 := keep_frozen (b := w.heap.size + 1) (i := 2) (v := .slice none 0 0) hb (by assumption) (by assumption)))
        | (go_at_call 48; refine (ref_word _ x _ (by omega) (by omega) _).mono ?_; rintro e w3 ⟨v3, rfl, ⟨Aw, cw, rfl, hw2⟩, hb⟩; have HB4 := Lib.hid hb; have HBT := Lib.hid (show Bts _ _ _ _ from ⟨Aw, cw, rfl, hw2⟩); clear hw2; (try have b0 := keep_cell (b := w.heap.size + 1) (i := 0) hb (by assumption)); (try have q0 := keep_frozen (b := w.heap.size + 1) (i := 0) (v := .slice none 0 0) hb (by assumption) (by assumption)); (try have b1 := keep_cell (b := w.heap.size + 1) (i := 1) hb (by assumption)); (try have q1 := keep_frozen (b := w.heap.size + 1) (i := 1) (v := .slice none 0 0) hb (by assumption) (by assumption)); (try have b2 := keep_cell (b := w.heap.size + 1) (i := 2) hb (by assumption)); (try have q2 := keep_frozen (b := w.heap.size + 1) (i := 2) (v := .slice none 0 0) hb (by assumption) (by assumption))))
    go_wp2_with fail
    refine bodyPost_ret (v := .tuple #[.agg #[.slice Av (setR l false x _).length cv, .slice A1 n1 c1, .slice A2 n2 c2], .slice Aw (wordL false x _).length cw, .int .i64 0]) (by simp [results, Try.results13, go_sem, *]; exact ⟨rfl, rfl⟩) rfl ?_
    have hS := Sl.below (Sl.of_own HOWN.out) HB4.out
    exact ref_end hS zW (Nat.le_trans (Nat.le_succ _) (Nat.le_of_lt zW)) HBT.out (Nat.lt_of_lt_of_le zW hbs) (Nat.le_trans (Nat.le_trans (Nat.le_succ _) (Nat.le_of_lt zW)) hbs) (ext5 (by assumption))
  · show Calls Try.prog _ _ w (RefP w A (.slice A1 n1 c1) (.slice A2 n2 c2) l [] [.int .i64 5])
    go_enter Try.func13, Try.ntmps13
    go_upto_region 9 with (go_at_call 19; refine (ref_State A c0 _ _ l _ x (by omega) _ (HR.out _ (by repeat' (first | exact HX.out | (apply Ext_alloc) | (apply Ext_drewN) | (refine Ext_set ?_ ?_) | exact Ext_refl _ | (simp; done) | (simp; omega))))).mono ?_; rintro e wn ⟨rfl, hb⟩; rw [HST.out]; have BAn := Lib.hid (Blk.below' BA.out hb); have BBn := Lib.hid (Blk.below' BB.out hb); have HXn := Lib.hid (Ext_trans hb (by repeat' (first | exact HX.out | (apply Ext_alloc) | (apply Ext_drewN) | (refine Ext_set ?_ ?_) | exact Ext_refl _ | (simp; done) | (simp; omega)))); clear hb HX BA BB; have HX := HXn; have BA := BAn; have BB := BBn; clear HXn BAn BBn; have e0 := BA.out.cell 0; have e1 := BA.out.cell 1; have e2 := BA.out.cell 2; have f0 := BB.out.free 0; have f1 := BB.out.free 1; have f2 := BB.out.free 2; have g0 := BB.out.cell 0; have g1 := BB.out.cell 1; have g2 := BB.out.cell 2; have z0 := BA.out.lt; have z1 := BB.out.lt)
    generalize hW : World.alloc (World.alloc wn _) _ = W
    have hEw : Ext w W := by rw [← hW]; exact Ext_alloc (Ext_alloc (HX.out))
    have d0 : W.cell? ⟨w.heap.size, 0, none⟩ = some (.slice A l.length c0) := by rw [← hW]; exact (((BA.out.alloc _).alloc _).cell 0)
    have d1 : W.cell? ⟨w.heap.size, 1, none⟩ = some (.slice A1 n1 c1) := by rw [← hW]; exact (((BA.out.alloc _).alloc _).cell 1)
    have d2 : W.cell? ⟨w.heap.size, 2, none⟩ = some (.slice A2 n2 c2) := by rw [← hW]; exact (((BA.out.alloc _).alloc _).cell 2)
    have d3 : W.cell? ⟨wn.heap.size, 1, none⟩ = some (.int .i64 (-1)) := by rw [← hW]; exact new_cell1 (by simp)
    have d4 : W.cell? ⟨wn.heap.size + 1, 1, none⟩ = some (.int .i64 0) := by rw [← hW]; exact new_cell (by simp)
    have b0 : W.cell? ⟨w.heap.size + 1, 0, none⟩ = some (.slice none 0 0) := by rw [← hW]; exact (((BB.out.alloc _).alloc _).cell 0)
    have q0 : W.frozen? ⟨w.heap.size + 1, 0, none⟩ = false := by rw [← hW]; exact (((BB.out.alloc _).alloc _).free 0)
    have b1 : W.cell? ⟨w.heap.size + 1, 1, none⟩ = some (.slice none 0 0) := by rw [← hW]; exact (((BB.out.alloc _).alloc _).cell 1)
    have q1 : W.frozen? ⟨w.heap.size + 1, 1, none⟩ = false := by rw [← hW]; exact (((BB.out.alloc _).alloc _).free 1)
    have b2 : W.cell? ⟨w.heap.size + 1, 2, none⟩ = some (.slice none 0 0) := by rw [← hW]; exact (((BB.out.alloc _).alloc _).cell 2)
    have q2 : W.frozen? ⟨w.heap.size + 1, 2, none⟩ = false := by rw [← hW]; exact (((BB.out.alloc _).alloc _).free 2)
    have zW : w.heap.size + 1 < W.heap.size := by rw [← hW]; simp only [World.size_alloc]; omega
    have l1 := BB.out.lt
    have l3 : w.heap.size + 1 ≠ wn.heap.size := by omega
    have l2 : wn.heap.size ≠ w.heap.size + 1 := by omega
    clear e0 e1 e2 f0 f1 f2 g0 g1 g2 hW
    go_wp2_with fail
    refine bodyPost_ret (v := .tuple #[.agg #[.slice A l.length c0, .slice A1 n1 c1, .slice A2 n2 c2], .slice none 0 0, .int .i64 5]) (by simp [results, Try.results13, go_sem, *]) rfl ?_
    have hE : ∀ W, Ext w W → RefP w A (.slice A1 n1 c1) (.slice A2 n2 c2) l [] [.int .i64 5] (.returned (.tuple #[.agg #[.slice A l.length c0, .slice A1 n1 c1, .slice A2 n2 c2], .slice none 0 0, .int .i64 5])) W := fun W h => ⟨A, c0, _, rfl, HR.out _ h, fun b _ h => h, Bts.nil _ _, h⟩
    exact hE _ (by repeat' (first | exact hEw | (refine Ext_set ?_ ?_) | (simp; done)))
  · show Calls Try.prog _ _ w (RefP w A (.slice A1 n1 c1) (.slice A2 n2 c2) (setR l false x 4) (wordL false x 0) [.int .i64 0])
    go_enter Try.func13, Try.ntmps13
    go_upto_region 9 with (go_at_call 19; refine (ref_State A c0 _ _ l _ x (by omega) _ (HR.out _ (by repeat' (first | exact HX.out | (apply Ext_alloc) | (apply Ext_drewN) | (refine Ext_set ?_ ?_) | exact Ext_refl _ | (simp; done) | (simp; omega))))).mono ?_; rintro e wn ⟨rfl, hb⟩; rw [HST.out]; have BAn := Lib.hid (Blk.below' BA.out hb); have BBn := Lib.hid (Blk.below' BB.out hb); have HXn := Lib.hid (Ext_trans hb (by repeat' (first | exact HX.out | (apply Ext_alloc) | (apply Ext_drewN) | (refine Ext_set ?_ ?_) | exact Ext_refl _ | (simp; done) | (simp; omega)))); clear hb HX BA BB; have HX := HXn; have BA := BAn; have BB := BBn; clear HXn BAn BBn; have e0 := BA.out.cell 0; have e1 := BA.out.cell 1; have e2 := BA.out.cell 2; have f0 := BB.out.free 0; have f1 := BB.out.free 1; have f2 := BB.out.free 2; have g0 := BB.out.cell 0; have g1 := BB.out.cell 1; have g2 := BB.out.cell 2; have z0 := BA.out.lt; have z1 := BB.out.lt)
    generalize hW : World.alloc (World.alloc wn _) _ = W
    have hEw : Ext w W := by rw [← hW]; exact Ext_alloc (Ext_alloc (HX.out))
    have d0 : W.cell? ⟨w.heap.size, 0, none⟩ = some (.slice A l.length c0) := by rw [← hW]; exact (((BA.out.alloc _).alloc _).cell 0)
    have d1 : W.cell? ⟨w.heap.size, 1, none⟩ = some (.slice A1 n1 c1) := by rw [← hW]; exact (((BA.out.alloc _).alloc _).cell 1)
    have d2 : W.cell? ⟨w.heap.size, 2, none⟩ = some (.slice A2 n2 c2) := by rw [← hW]; exact (((BA.out.alloc _).alloc _).cell 2)
    have d3 : W.cell? ⟨wn.heap.size, 2, none⟩ = some (.int .i64 (4)) := by rw [← hW]; exact new_cell1 (by simp)
    have d4 : W.cell? ⟨wn.heap.size + 1, 2, none⟩ = some (.int .i64 0) := by rw [← hW]; exact new_cell (by simp)
    have b0 : W.cell? ⟨w.heap.size + 1, 0, none⟩ = some (.slice none 0 0) := by rw [← hW]; exact (((BB.out.alloc _).alloc _).cell 0)
    have q0 : W.frozen? ⟨w.heap.size + 1, 0, none⟩ = false := by rw [← hW]; exact (((BB.out.alloc _).alloc _).free 0)
    have b1 : W.cell? ⟨w.heap.size + 1, 1, none⟩ = some (.slice none 0 0) := by rw [← hW]; exact (((BB.out.alloc _).alloc _).cell 1)
    have q1 : W.frozen? ⟨w.heap.size + 1, 1, none⟩ = false := by rw [← hW]; exact (((BB.out.alloc _).alloc _).free 1)
    have b2 : W.cell? ⟨w.heap.size + 1, 2, none⟩ = some (.slice none 0 0) := by rw [← hW]; exact (((BB.out.alloc _).alloc _).cell 2)
    have q2 : W.frozen? ⟨w.heap.size + 1, 2, none⟩ = false := by rw [← hW]; exact (((BB.out.alloc _).alloc _).free 2)
    have zW : w.heap.size + 1 < W.heap.size := by rw [← hW]; simp only [World.size_alloc]; omega
    have l1 := BB.out.lt
    have l3 : w.heap.size + 1 ≠ wn.heap.size := by omega
    have l2 : wn.heap.size ≠ w.heap.size + 1 := by omega
    clear e0 e1 e2 f0 f1 f2 g0 g1 g2 hW
    go_wp2_with fail
    have zW : w.heap.size + 1 < W.drew.heap.size := zW
    have b0 : W.drew.cell? ⟨w.heap.size + 1, 0, none⟩ = some (.slice none 0 0) := b0
    have b1 : W.drew.cell? ⟨w.heap.size + 1, 1, none⟩ = some (.slice none 0 0) := b1
    have b2 : W.drew.cell? ⟨w.heap.size + 1, 2, none⟩ = some (.slice none 0 0) := b2
    have q0 : W.drew.frozen? ⟨w.heap.size + 1, 0, none⟩ = false := q0
    have q1 : W.drew.frozen? ⟨w.heap.size + 1, 1, none⟩ = false := q1
    have q2 : W.drew.frozen? ⟨w.heap.size + 1, 2, none⟩ = false := q2
    go_region_held3 (fun w' => w'.cell? ⟨w.heap.size, 0, none⟩ = some (.slice A l.length c0) ∧ w'.cell? ⟨w.heap.size, 1, none⟩ = some (.slice A1 n1 c1) ∧ w'.cell? ⟨w.heap.size, 2, none⟩ = some (.slice A2 n2 c2) ∧ w'.cell? ⟨wn.heap.size, 2, none⟩ = some (.int .i64 4) ∧ Ext w w') (first | (exact keep5 hb (by assumption)) | (exact set5 (by omega) (by omega) (by omega) l2 (by omega) (set5 (by omega) (by omega) (by omega) l2 (by omega) (set5 (by omega) (by omega) (by omega) l2 (by omega) (by assumption)))) | (refine ⟨?_, ?_, ?_, ?_, ?_⟩ <;> first | exact Ext_drew hEw | (refine Ext_set (ext5 (by assumption)) ?_; simp; done) | (go_simp; done) | (simp [*]; done)))
      (first
        | (go_at_call 47; refine (ref_set A A1 A2 c0 n1 c1 n2 c2 l _ x _ (by omega) _ (HR.out _ (ext5 (by assumption)))).mono ?_; rintro e w2 ⟨v, rfl, hown, hb⟩; obtain ⟨Av, cv, rfl⟩ := own_slice hown; have HOWN := Lib.hid hown; clear hown; have hbs := hb.size; (try have b0 := keep_cell (b := w.heap.size + 1) (i := 0) hb (by assumption)); (try have q0 := keep_frozen (b := w.heap.size + 1) (i := 0) (v := .slice none 0 0) hb (by assumption) (by assumption)); (try have b1 := keep_cell (b := w.heap.size + 1) (i := 1) hb (by assumption)); (try have q1 := keep_frozen (b := w.heap.size + 1) (i := 1) (v := .slice none 0 0) hb (by assumption) (by assumption)); (try have b2 := keep_cell (b := w.heap.size + 1) (i := 2) hb (by assumption)); (try have q2 := keep_frozen (b := w.heap.size + 1) (i := 2) (v := .slice none 0 0) hb (by assumption) (by assumption)))
        | (go_at_call 48; refine (ref_word _ x _ (by omega) (by omega) _).mono ?_; rintro e w3 ⟨v3, rfl, ⟨Aw, cw, rfl, hw2⟩, hb⟩; have HB4 := Lib.hid hb; have HBT := Lib.hid (show Bts _ _ _ _ from ⟨Aw, cw, rfl, hw2⟩); clear hw2; (try have b0 := keep_cell (b := w.heap.size + 1) (i := 0) hb (by assumption)); (try have q0 := keep_frozen (b := w.heap.size + 1) (i := 0) (v := .slice none 0 0) hb (by assumption) (by assumption)); (try have b1 := keep_cell (b := w.heap.size + 1) (i := 1) hb (by assumption)); (try have q1 := keep_frozen (b := w.heap.size + 1) (i := 1) (v := .slice none 0 0) hb (by assumption) (by assumption)); (try have b2 := keep_cell (b := w.heap.size + 1) (i := 2) hb (by assumption)); (try have q2 := keep_frozen (b := w.heap.size + 1) (i := 2) (v := .slice none 0 0) hb (by assumption) (by assumption))))
    go_wp2_with fail
    refine bodyPost_ret (v := .tuple #[.agg #[.slice Av (setR l false x _).length cv, .slice A1 n1 c1, .slice A2 n2 c2], .slice Aw (wordL false x _).length cw, .int .i64 0]) (by simp [results, Try.results13, go_sem, *]; exact ⟨rfl, rfl⟩) rfl ?_
    have hS := Sl.below (Sl.of_own HOWN.out) HB4.out
    exact ref_end hS zW (Nat.le_trans (Nat.le_succ _) (Nat.le_of_lt zW)) HBT.out (Nat.lt_of_lt_of_le zW hbs) (Nat.le_trans (Nat.le_trans (Nat.le_succ _) (Nat.le_of_lt zW)) hbs) (ext5 (by assumption))
  · show Calls Try.prog _ _ w (RefP w A (.slice A1 n1 c1) (.slice A2 n2 c2) l [] [.int .i64 5])
    go_enter Try.func13, Try.ntmps13
    go_upto_region 9 with (go_at_call 19; refine (ref_State A c0 _ _ l _ x (by omega) _ (HR.out _ (by repeat' (first | exact HX.out | (apply Ext_alloc) | (apply Ext_drewN) | (refine Ext_set ?_ ?_) | exact Ext_refl _ | (simp; done) | (simp; omega))))).mono ?_; rintro e wn ⟨rfl, hb⟩; rw [HST.out]; have BAn := Lib.hid (Blk.below' BA.out hb); have BBn := Lib.hid (Blk.below' BB.out hb); have HXn := Lib.hid (Ext_trans hb (by repeat' (first | exact HX.out | (apply Ext_alloc) | (apply Ext_drewN) | (refine Ext_set ?_ ?_) | exact Ext_refl _ | (simp; done) | (simp; omega)))); clear hb HX BA BB; have HX := HXn; have BA := BAn; have BB := BBn; clear HXn BAn BBn; have e0 := BA.out.cell 0; have e1 := BA.out.cell 1; have e2 := BA.out.cell 2; have f0 := BB.out.free 0; have f1 := BB.out.free 1; have f2 := BB.out.free 2; have g0 := BB.out.cell 0; have g1 := BB.out.cell 1; have g2 := BB.out.cell 2; have z0 := BA.out.lt; have z1 := BB.out.lt)
    generalize hW : World.alloc (World.alloc wn _) _ = W
    have hEw : Ext w W := by rw [← hW]; exact Ext_alloc (Ext_alloc (HX.out))
    have d0 : W.cell? ⟨w.heap.size, 0, none⟩ = some (.slice A l.length c0) := by rw [← hW]; exact (((BA.out.alloc _).alloc _).cell 0)
    have d1 : W.cell? ⟨w.heap.size, 1, none⟩ = some (.slice A1 n1 c1) := by rw [← hW]; exact (((BA.out.alloc _).alloc _).cell 1)
    have d2 : W.cell? ⟨w.heap.size, 2, none⟩ = some (.slice A2 n2 c2) := by rw [← hW]; exact (((BA.out.alloc _).alloc _).cell 2)
    have d3 : W.cell? ⟨wn.heap.size, 3, none⟩ = some (.int .i64 (-1)) := by rw [← hW]; exact new_cell1 (by simp)
    have d4 : W.cell? ⟨wn.heap.size + 1, 3, none⟩ = some (.int .i64 0) := by rw [← hW]; exact new_cell (by simp)
    have b0 : W.cell? ⟨w.heap.size + 1, 0, none⟩ = some (.slice none 0 0) := by rw [← hW]; exact (((BB.out.alloc _).alloc _).cell 0)
    have q0 : W.frozen? ⟨w.heap.size + 1, 0, none⟩ = false := by rw [← hW]; exact (((BB.out.alloc _).alloc _).free 0)
    have b1 : W.cell? ⟨w.heap.size + 1, 1, none⟩ = some (.slice none 0 0) := by rw [← hW]; exact (((BB.out.alloc _).alloc _).cell 1)
    have q1 : W.frozen? ⟨w.heap.size + 1, 1, none⟩ = false := by rw [← hW]; exact (((BB.out.alloc _).alloc _).free 1)
    have b2 : W.cell? ⟨w.heap.size + 1, 2, none⟩ = some (.slice none 0 0) := by rw [← hW]; exact (((BB.out.alloc _).alloc _).cell 2)
    have q2 : W.frozen? ⟨w.heap.size + 1, 2, none⟩ = false := by rw [← hW]; exact (((BB.out.alloc _).alloc _).free 2)
    have zW : w.heap.size + 1 < W.heap.size := by rw [← hW]; simp only [World.size_alloc]; omega
    have l1 := BB.out.lt
    have l3 : w.heap.size + 1 ≠ wn.heap.size := by omega
    have l2 : wn.heap.size ≠ w.heap.size + 1 := by omega
    clear e0 e1 e2 f0 f1 f2 g0 g1 g2 hW
    go_wp2_with fail
    refine bodyPost_ret (v := .tuple #[.agg #[.slice A l.length c0, .slice A1 n1 c1, .slice A2 n2 c2], .slice none 0 0, .int .i64 5]) (by simp [results, Try.results13, go_sem, *]) rfl ?_
    have hE : ∀ W, Ext w W → RefP w A (.slice A1 n1 c1) (.slice A2 n2 c2) l [] [.int .i64 5] (.returned (.tuple #[.agg #[.slice A l.length c0, .slice A1 n1 c1, .slice A2 n2 c2], .slice none 0 0, .int .i64 5])) W := fun W h => ⟨A, c0, _, rfl, HR.out _ h, fun b _ h => h, Bts.nil _ _, h⟩
    exact hE _ (by repeat' (first | exact hEw | (refine Ext_set ?_ ?_) | (simp; done)))
  · show Calls Try.prog _ _ w (RefP w A (.slice A1 n1 c1) (.slice A2 n2 c2) l [] [.int .i64 5])
    go_enter Try.func13, Try.ntmps13
    go_upto_region 9 with (go_at_call 19; refine (ref_State A c0 _ _ l _ x (by omega) _ (HR.out _ (by repeat' (first | exact HX.out | (apply Ext_alloc) | (apply Ext_drewN) | (refine Ext_set ?_ ?_) | exact Ext_refl _ | (simp; done) | (simp; omega))))).mono ?_; rintro e wn ⟨rfl, hb⟩; rw [HST.out]; have BAn := Lib.hid (Blk.below' BA.out hb); have BBn := Lib.hid (Blk.below' BB.out hb); have HXn := Lib.hid (Ext_trans hb (by repeat' (first | exact HX.out | (apply Ext_alloc) | (apply Ext_drewN) | (refine Ext_set ?_ ?_) | exact Ext_refl _ | (simp; done) | (simp; omega)))); clear hb HX BA BB; have HX := HXn; have BA := BAn; have BB := BBn; clear HXn BAn BBn; have e0 := BA.out.cell 0; have e1 := BA.out.cell 1; have e2 := BA.out.cell 2; have f0 := BB.out.free 0; have f1 := BB.out.free 1; have f2 := BB.out.free 2; have g0 := BB.out.cell 0; have g1 := BB.out.cell 1; have g2 := BB.out.cell 2; have z0 := BA.out.lt; have z1 := BB.out.lt)
    generalize hW : World.alloc (World.alloc wn _) _ = W
    have hEw : Ext w W := by rw [← hW]; exact Ext_alloc (Ext_alloc (HX.out))
    have d0 : W.cell? ⟨w.heap.size, 0, none⟩ = some (.slice A l.length c0) := by rw [← hW]; exact (((BA.out.alloc _).alloc _).cell 0)
    have d1 : W.cell? ⟨w.heap.size, 1, none⟩ = some (.slice A1 n1 c1) := by rw [← hW]; exact (((BA.out.alloc _).alloc _).cell 1)
    have d2 : W.cell? ⟨w.heap.size, 2, none⟩ = some (.slice A2 n2 c2) := by rw [← hW]; exact (((BA.out.alloc _).alloc _).cell 2)
    have d3 : W.cell? ⟨wn.heap.size, 4, none⟩ = some (.int .i64 (-1)) := by rw [← hW]; exact new_cell1 (by simp)
    have d4 : W.cell? ⟨wn.heap.size + 1, 4, none⟩ = some (.int .i64 0) := by rw [← hW]; exact new_cell (by simp)
    have b0 : W.cell? ⟨w.heap.size + 1, 0, none⟩ = some (.slice none 0 0) := by rw [← hW]; exact (((BB.out.alloc _).alloc _).cell 0)
    have q0 : W.frozen? ⟨w.heap.size + 1, 0, none⟩ = false := by rw [← hW]; exact (((BB.out.alloc _).alloc _).free 0)
    have b1 : W.cell? ⟨w.heap.size + 1, 1, none⟩ = some (.slice none 0 0) := by rw [← hW]; exact (((BB.out.alloc _).alloc _).cell 1)
    have q1 : W.frozen? ⟨w.heap.size + 1, 1, none⟩ = false := by rw [← hW]; exact (((BB.out.alloc _).alloc _).free 1)
    have b2 : W.cell? ⟨w.heap.size + 1, 2, none⟩ = some (.slice none 0 0) := by rw [← hW]; exact (((BB.out.alloc _).alloc _).cell 2)
    have q2 : W.frozen? ⟨w.heap.size + 1, 2, none⟩ = false := by rw [← hW]; exact (((BB.out.alloc _).alloc _).free 2)
    have zW : w.heap.size + 1 < W.heap.size := by rw [← hW]; simp only [World.size_alloc]; omega
    have l1 := BB.out.lt
    have l3 : w.heap.size + 1 ≠ wn.heap.size := by omega
    have l2 : wn.heap.size ≠ w.heap.size + 1 := by omega
    clear e0 e1 e2 f0 f1 f2 g0 g1 g2 hW
    go_wp2_with fail
    refine bodyPost_ret (v := .tuple #[.agg #[.slice A l.length c0, .slice A1 n1 c1, .slice A2 n2 c2], .slice none 0 0, .int .i64 5]) (by simp [results, Try.results13, go_sem, *]) rfl ?_
    have hE : ∀ W, Ext w W → RefP w A (.slice A1 n1 c1) (.slice A2 n2 c2) l [] [.int .i64 5] (.returned (.tuple #[.agg #[.slice A l.length c0, .slice A1 n1 c1, .slice A2 n2 c2], .slice none 0 0, .int .i64 5])) W := fun W h => ⟨A, c0, _, rfl, HR.out _ h, fun b _ h => h, Bts.nil _ _, h⟩
    exact hE _ (by repeat' (first | exact hEw | (refine Ext_set ?_ ?_) | (simp; done)))
  · show Calls Try.prog _ _ w (RefP w A (.slice A1 n1 c1) (.slice A2 n2 c2) (setR l false x 3) (wordL false x 0) [.int .i64 0])
    go_enter Try.func13, Try.ntmps13
    go_upto_region 9 with (go_at_call 19; refine (ref_State A c0 _ _ l _ x (by omega) _ (HR.out _ (by repeat' (first | exact HX.out | (apply Ext_alloc) | (apply Ext_drewN) | (refine Ext_set ?_ ?_) | exact Ext_refl _ | (simp; done) | (simp; omega))))).mono ?_; rintro e wn ⟨rfl, hb⟩; rw [HST.out]; have BAn := Lib.hid (Blk.below' BA.out hb); have BBn := Lib.hid (Blk.below' BB.out hb); have HXn := Lib.hid (Ext_trans hb (by repeat' (first | exact HX.out | (apply Ext_alloc) | (apply Ext_drewN) | (refine Ext_set ?_ ?_) | exact Ext_refl _ | (simp; done) | (simp; omega)))); clear hb HX BA BB; have HX := HXn; have BA := BAn; have BB := BBn; clear HXn BAn BBn; have e0 := BA.out.cell 0; have e1 := BA.out.cell 1; have e2 := BA.out.cell 2; have f0 := BB.out.free 0; have f1 := BB.out.free 1; have f2 := BB.out.free 2; have g0 := BB.out.cell 0; have g1 := BB.out.cell 1; have g2 := BB.out.cell 2; have z0 := BA.out.lt; have z1 := BB.out.lt)
    generalize hW : World.alloc (World.alloc wn _) _ = W
    have hEw : Ext w W := by rw [← hW]; exact Ext_alloc (Ext_alloc (HX.out))
    have d0 : W.cell? ⟨w.heap.size, 0, none⟩ = some (.slice A l.length c0) := by rw [← hW]; exact (((BA.out.alloc _).alloc _).cell 0)
    have d1 : W.cell? ⟨w.heap.size, 1, none⟩ = some (.slice A1 n1 c1) := by rw [← hW]; exact (((BA.out.alloc _).alloc _).cell 1)
    have d2 : W.cell? ⟨w.heap.size, 2, none⟩ = some (.slice A2 n2 c2) := by rw [← hW]; exact (((BA.out.alloc _).alloc _).cell 2)
    have d3 : W.cell? ⟨wn.heap.size, 5, none⟩ = some (.int .i64 (3)) := by rw [← hW]; exact new_cell1 (by simp)
    have d4 : W.cell? ⟨wn.heap.size + 1, 5, none⟩ = some (.int .i64 0) := by rw [← hW]; exact new_cell (by simp)
    have b0 : W.cell? ⟨w.heap.size + 1, 0, none⟩ = some (.slice none 0 0) := by rw [← hW]; exact (((BB.out.alloc _).alloc _).cell 0)
    have q0 : W.frozen? ⟨w.heap.size + 1, 0, none⟩ = false := by rw [← hW]; exact (((BB.out.alloc _).alloc _).free 0)
    have b1 : W.cell? ⟨w.heap.size + 1, 1, none⟩ = some (.slice none 0 0) := by rw [← hW]; exact (((BB.out.alloc _).alloc _).cell 1)
    have q1 : W.frozen? ⟨w.heap.size + 1, 1, none⟩ = false := by rw [← hW]; exact (((BB.out.alloc _).alloc _).free 1)
    have b2 : W.cell? ⟨w.heap.size + 1, 2, none⟩ = some (.slice none 0 0) := by rw [← hW]; exact (((BB.out.alloc _).alloc _).cell 2)
    have q2 : W.frozen? ⟨w.heap.size + 1, 2, none⟩ = false := by rw [← hW]; exact (((BB.out.alloc _).alloc _).free 2)
    have zW : w.heap.size + 1 < W.heap.size := by rw [← hW]; simp only [World.size_alloc]; omega
    have l1 := BB.out.lt
    have l3 : w.heap.size + 1 ≠ wn.heap.size := by omega
    have l2 : wn.heap.size ≠ w.heap.size + 1 := by omega
    clear e0 e1 e2 f0 f1 f2 g0 g1 g2 hW
    go_wp2_with fail
    have zW : w.heap.size + 1 < W.drew.heap.size := zW
    have b0 : W.drew.cell? ⟨w.heap.size + 1, 0, none⟩ = some (.slice none 0 0) := b0
    have b1 : W.drew.cell? ⟨w.heap.size + 1, 1, none⟩ = some (.slice none 0 0) := b1
    have b2 : W.drew.cell? ⟨w.heap.size + 1, 2, none⟩ = some (.slice none 0 0) := b2
    have q0 : W.drew.frozen? ⟨w.heap.size + 1, 0, none⟩ = false := q0
    have q1 : W.drew.frozen? ⟨w.heap.size + 1, 1, none⟩ = false := q1
    have q2 : W.drew.frozen? ⟨w.heap.size + 1, 2, none⟩ = false := q2
    go_region_held3 (fun w' => w'.cell? ⟨w.heap.size, 0, none⟩ = some (.slice A l.length c0) ∧ w'.cell? ⟨w.heap.size, 1, none⟩ = some (.slice A1 n1 c1) ∧ w'.cell? ⟨w.heap.size, 2, none⟩ = some (.slice A2 n2 c2) ∧ w'.cell? ⟨wn.heap.size, 5, none⟩ = some (.int .i64 3) ∧ Ext w w') (first | (exact keep5 hb (by assumption)) | (exact set5 (by omega) (by omega) (by omega) l2 (by omega) (set5 (by omega) (by omega) (by omega) l2 (by omega) (set5 (by omega) (by omega) (by omega) l2 (by omega) (by assumption)))) | (refine ⟨?_, ?_, ?_, ?_, ?_⟩ <;> first | exact Ext_drew hEw | (refine Ext_set (ext5 (by assumption)) ?_; simp; done) | (go_simp; done) | (simp [*]; done)))
      (first
        | (go_at_call 47; refine (ref_set A A1 A2 c0 n1 c1 n2 c2 l _ x _ (by omega) _ (HR.out _ (ext5 (by assumption)))).mono ?_; rintro e w2 ⟨v, rfl, hown, hb⟩; obtain ⟨Av, cv, rfl⟩ := own_slice hown; have HOWN := Lib.hid hown; clear hown; have hbs := hb.size; (try have b0 := keep_cell (b := w.heap.size + 1) (i := 0) hb (by assumption)); (try have q0 := keep_frozen (b := w.heap.size + 1) (i := 0) (v := .slice none 0 0) hb (by assumption) (by assumption)); (try have b1 := keep_cell (b := w.heap.size + 1) (i := 1) hb (by assumption)); (try have q1 := keep_frozen (b := w.heap.size + 1) (i := 1) (v := .slice none 0 0) hb (by assumption) (by assumption)); (try have b2 := keep_cell (b := w.heap.size + 1) (i := 2) hb (by assumption)); (try have q2 := keep_frozen (b := w.heap.size + 1) (i := 2) (v := .slice none 0 0) hb (by assumption) (by assumption)))
        | (go_at_call 48; refine (ref_word _ x _ (by omega) (by omega) _).mono ?_; rintro e w3 ⟨v3, rfl, ⟨Aw, cw, rfl, hw2⟩, hb⟩; have HB4 := Lib.hid hb; have HBT := Lib.hid (show Bts _ _ _ _ from ⟨Aw, cw, rfl, hw2⟩); clear hw2; (try have b0 := keep_cell (b := w.heap.size + 1) (i := 0) hb (by assumption)); (try have q0 := keep_frozen (b := w.heap.size + 1) (i := 0) (v := .slice none 0 0) hb (by assumption) (by assumption)); (try have b1 := keep_cell (b := w.heap.size + 1) (i := 1) hb (by assumption)); (try have q1 := keep_frozen (b := w.heap.size + 1) (i := 1) (v := .slice none 0 0) hb (by assumption) (by assumption)); (try have b2 := keep_cell (b := w.heap.size + 1) (i := 2) hb (by assumption)); (try have q2 := keep_frozen (b := w.heap.size + 1) (i := 2) (v := .slice none 0 0) hb (by assumption) (by assumption))))
    go_wp2_with fail
    refine bodyPost_ret (v := .tuple #[.agg #[.slice Av (setR l false x _).length cv, .slice A1 n1 c1, .slice A2 n2 c2], .slice Aw (wordL false x _).length cw, .int .i64 0]) (by simp [results, Try.results13, go_sem, *]; exact ⟨rfl, rfl⟩) rfl ?_
    have hS := Sl.below (Sl.of_own HOWN.out) HB4.out
    exact ref_end hS zW (Nat.le_trans (Nat.le_succ _) (Nat.le_of_lt zW)) HBT.out (Nat.lt_of_lt_of_le zW hbs) (Nat.le_trans (Nat.le_trans (Nat.le_succ _) (Nat.le_of_lt zW)) hbs) (ext5 (by assumption))
set_option maxRecDepth 100000 in
set_option maxHeartbeats 4000000 in
theorem ref_Want_254 (A A1 A2 : Option Addr) (c0 n1 c1 n2 c2 : Nat) (l : List One) (x was : Int) (hn : l.length ≤ 100000) (w : World)
    (hr : Rd w 3 A l.length (l.flatMap One.enc)) (hst : stateR l false x = was) (h0 : 0 ≤ was) (h5 : was ≤ 5) :
    Calls Try.prog 13 #[.agg #[.slice A l.length c0, .slice A1 n1 c1, .slice A2 n2 c2], .int .u8 254, .int .u8 x] w
      (match wantR false was with
       | some (st, say) => RefP w A (.slice A1 n1 c1) (.slice A2 n2 c2) (setR l false x st) (wordL false x say) [.int .i64 0]
       | none => RefP w A (.slice A1 n1 c1) (.slice A2 n2 c2) l [] [.int .i64 5]) := by
  have HST := Lib.hid hst
  have HR := Lib.hid (fun w' (h : Ext w w') => Rd_ext h hr)
  have HX := Lib.hid (Ext_refl w)
  have BA := Lib.hid ((Blk.new w 29 #[.slice A l.length c0, .slice A1 n1 c1, .slice A2 n2 c2]).alloc (.cells #[.slice none 0 0, .slice none 0 0, .slice none 0 0] 29))
  have BB := Lib.hid (Blk.new (w.alloc (.cells #[.slice A l.length c0, .slice A1 n1 c1, .slice A2 n2 c2] 29)) 29 #[.slice none 0 0, .slice none 0 0, .slice none 0 0])
  rw [World.size_alloc] at BB
  clear hst hr
  have hcs : was = 0 ∨ was = 1 ∨ was = 2 ∨ was = 3 ∨ was = 4 ∨ was = 5 := by omega
  clear h0 h5
  rcases hcs with rfl | rfl | rfl | rfl | rfl | rfl
  · show Calls Try.prog _ _ w (RefP w A (.slice A1 n1 c1) (.slice A2 n2 c2) l [] [.int .i64 5])
    go_enter Try.func13, Try.ntmps13
    go_upto_region 9 with (go_at_call 19; refine (ref_State A c0 _ _ l _ x (by omega) _ (HR.out _ (by repeat' (first | exact HX.out | (apply Ext_alloc) | (apply Ext_drewN) | (refine Ext_set ?_ ?_) | exact Ext_refl _ | (simp; done) | (simp; omega))))).mono ?_; rintro e wn ⟨rfl, hb⟩; rw [HST.out]; have BAn := Lib.hid (Blk.below' BA.out hb); have BBn := Lib.hid (Blk.below' BB.out hb); have HXn := Lib.hid (Ext_trans hb (by repeat' (first | exact HX.out | (apply Ext_alloc) | (apply Ext_drewN) | (refine Ext_set ?_ ?_) | exact Ext_refl _ | (simp; done) | (simp; omega)))); clear hb HX BA BB; have HX := HXn; have BA := BAn; have BB := BBn; clear HXn BAn BBn; have e0 := BA.out.cell 0; have e1 := BA.out.cell 1; have e2 := BA.out.cell 2; have f0 := BB.out.free 0; have f1 := BB.out.free 1; have f2 := BB.out.free 2; have g0 := BB.out.cell 0; have g1 := BB.out.cell 1; have g2 := BB.out.cell 2; have z0 := BA.out.lt; have z1 := BB.out.lt)
    generalize hW : World.alloc (World.alloc (World.alloc (World.alloc wn _) _) _) _ = W
    have hEw : Ext w W := by rw [← hW]; exact Ext_alloc (Ext_alloc (Ext_alloc (Ext_alloc (HX.out))))
    have d0 : W.cell? ⟨w.heap.size, 0, none⟩ = some (.slice A l.length c0) := by rw [← hW]; exact (((((BA.out.alloc _).alloc _).alloc _).alloc _).cell 0)
    have d1 : W.cell? ⟨w.heap.size, 1, none⟩ = some (.slice A1 n1 c1) := by rw [← hW]; exact (((((BA.out.alloc _).alloc _).alloc _).alloc _).cell 1)
    have d2 : W.cell? ⟨w.heap.size, 2, none⟩ = some (.slice A2 n2 c2) := by rw [← hW]; exact (((((BA.out.alloc _).alloc _).alloc _).alloc _).cell 2)
    have d3 : W.cell? ⟨wn.heap.size + 2, 0, none⟩ = some (.int .i64 (-1)) := by rw [← hW]; exact new_cell1 (by simp)
    have d4 : W.cell? ⟨wn.heap.size + 2 + 1, 0, none⟩ = some (.int .i64 0) := by rw [← hW]; exact new_cell (by simp)
    have b0 : W.cell? ⟨w.heap.size + 1, 0, none⟩ = some (.slice none 0 0) := by rw [← hW]; exact (((((BB.out.alloc _).alloc _).alloc _).alloc _).cell 0)
    have q0 : W.frozen? ⟨w.heap.size + 1, 0, none⟩ = false := by rw [← hW]; exact (((((BB.out.alloc _).alloc _).alloc _).alloc _).free 0)
    have b1 : W.cell? ⟨w.heap.size + 1, 1, none⟩ = some (.slice none 0 0) := by rw [← hW]; exact (((((BB.out.alloc _).alloc _).alloc _).alloc _).cell 1)
    have q1 : W.frozen? ⟨w.heap.size + 1, 1, none⟩ = false := by rw [← hW]; exact (((((BB.out.alloc _).alloc _).alloc _).alloc _).free 1)
    have b2 : W.cell? ⟨w.heap.size + 1, 2, none⟩ = some (.slice none 0 0) := by rw [← hW]; exact (((((BB.out.alloc _).alloc _).alloc _).alloc _).cell 2)
    have q2 : W.frozen? ⟨w.heap.size + 1, 2, none⟩ = false := by rw [← hW]; exact (((((BB.out.alloc _).alloc _).alloc _).alloc _).free 2)
    have zW : w.heap.size + 1 < W.heap.size := by rw [← hW]; simp only [World.size_alloc]; omega
    have l1 := BB.out.lt
    have l3 : w.heap.size + 1 ≠ wn.heap.size + 2 := by omega
    have l2 : wn.heap.size + 2 ≠ w.heap.size + 1 := by omega
    clear e0 e1 e2 f0 f1 f2 g0 g1 g2 hW
    go_wp2_with fail
    refine bodyPost_ret (v := .tuple #[.agg #[.slice A l.length c0, .slice A1 n1 c1, .slice A2 n2 c2], .slice none 0 0, .int .i64 5]) (by simp [results, Try.results13, go_sem, *]) rfl ?_
    have hE : ∀ W, Ext w W → RefP w A (.slice A1 n1 c1) (.slice A2 n2 c2) l [] [.int .i64 5] (.returned (.tuple #[.agg #[.slice A l.length c0, .slice A1 n1 c1, .slice A2 n2 c2], .slice none 0 0, .int .i64 5])) W := fun W h => ⟨A, c0, _, rfl, HR.out _ h, fun b _ h => h, Bts.nil _ _, h⟩
    exact hE _ (by repeat' (first | exact hEw | (refine Ext_set ?_ ?_) | (simp; done)))
  · show Calls Try.prog _ _ w (RefP w A (.slice A1 n1 c1) (.slice A2 n2 c2) (setR l false x 2) (wordL false x 2) [.int .i64 0])
    go_enter Try.func13, Try.ntmps13
    go_upto_region 9 with (go_at_call 19; refine (ref_State A c0 _ _ l _ x (by omega) _ (HR.out _ (by repeat' (first | exact HX.out | (apply Ext_alloc) | (apply Ext_drewN) | (refine Ext_set ?_ ?_) | exact Ext_refl _ | (simp; done) | (simp; omega))))).mono ?_; rintro e wn ⟨rfl, hb⟩; rw [HST.out]; have BAn := Lib.hid (Blk.below' BA.out hb); have BBn := Lib.hid (Blk.below' BB.out hb); have HXn := Lib.hid (Ext_trans hb (by repeat' (first | exact HX.out | (apply Ext_alloc) | (apply Ext_drewN) | (refine Ext_set ?_ ?_) | exact Ext_refl _ | (simp; done) | (simp; omega)))); clear hb HX BA BB; have HX := HXn; have BA := BAn; have BB := BBn; clear HXn BAn BBn; have e0 := BA.out.cell 0; have e1 := BA.out.cell 1; have e2 := BA.out.cell 2; have f0 := BB.out.free 0; have f1 := BB.out.free 1; have f2 := BB.out.free 2; have g0 := BB.out.cell 0; have g1 := BB.out.cell 1; have g2 := BB.out.cell 2; have z0 := BA.out.lt; have z1 := BB.out.lt)
    generalize hW : World.alloc (World.alloc (World.alloc (World.alloc wn _) _) _) _ = W
    have hEw : Ext w W := by rw [← hW]; exact Ext_alloc (Ext_alloc (Ext_alloc (Ext_alloc (HX.out))))
    have d0 : W.cell? ⟨w.heap.size, 0, none⟩ = some (.slice A l.length c0) := by rw [← hW]; exact (((((BA.out.alloc _).alloc _).alloc _).alloc _).cell 0)
    have d1 : W.cell? ⟨w.heap.size, 1, none⟩ = some (.slice A1 n1 c1) := by rw [← hW]; exact (((((BA.out.alloc _).alloc _).alloc _).alloc _).cell 1)
    have d2 : W.cell? ⟨w.heap.size, 2, none⟩ = some (.slice A2 n2 c2) := by rw [← hW]; exact (((((BA.out.alloc _).alloc _).alloc _).alloc _).cell 2)
    have d3 : W.cell? ⟨wn.heap.size + 2, 1, none⟩ = some (.int .i64 (2)) := by rw [← hW]; exact new_cell1 (by simp)
    have d4 : W.cell? ⟨wn.heap.size + 2 + 1, 1, none⟩ = some (.int .i64 2) := by rw [← hW]; exact new_cell (by simp)
    have b0 : W.cell? ⟨w.heap.size + 1, 0, none⟩ = some (.slice none 0 0) := by rw [← hW]; exact (((((BB.out.alloc _).alloc _).alloc _).alloc _).cell 0)
    have q0 : W.frozen? ⟨w.heap.size + 1, 0, none⟩ = false := by rw [← hW]; exact (((((BB.out.alloc _).alloc _).alloc _).alloc _).free 0)
    have b1 : W.cell? ⟨w.heap.size + 1, 1, none⟩ = some (.slice none 0 0) := by rw [← hW]; exact (((((BB.out.alloc _).alloc _).alloc _).alloc _).cell 1)
    have q1 : W.frozen? ⟨w.heap.size + 1, 1, none⟩ = false := by rw [← hW]; exact (((((BB.out.alloc _).alloc _).alloc _).alloc _).free 1)
    have b2 : W.cell? ⟨w.heap.size + 1, 2, none⟩ = some (.slice none 0 0) := by rw [← hW]; exact (((((BB.out.alloc _).alloc _).alloc _).alloc _).cell 2)
    have q2 : W.frozen? ⟨w.heap.size + 1, 2, none⟩ = false := by rw [← hW]; exact (((((BB.out.alloc _).alloc _).alloc _).alloc _).free 2)
    have zW : w.heap.size + 1 < W.heap.size := by rw [← hW]; simp only [World.size_alloc]; omega
    have l1 := BB.out.lt
    have l3 : w.heap.size + 1 ≠ wn.heap.size + 2 := by omega
    have l2 : wn.heap.size + 2 ≠ w.heap.size + 1 := by omega
    clear e0 e1 e2 f0 f1 f2 g0 g1 g2 hW
    go_wp2_with fail
    have zW : w.heap.size + 1 < W.drew.heap.size := zW
    have b0 : W.drew.cell? ⟨w.heap.size + 1, 0, none⟩ = some (.slice none 0 0) := b0
    have b1 : W.drew.cell? ⟨w.heap.size + 1, 1, none⟩ = some (.slice none 0 0) := b1
    have b2 : W.drew.cell? ⟨w.heap.size + 1, 2, none⟩ = some (.slice none 0 0) := b2
    have q0 : W.drew.frozen? ⟨w.heap.size + 1, 0, none⟩ = false := q0
    have q1 : W.drew.frozen? ⟨w.heap.size + 1, 1, none⟩ = false := q1
    have q2 : W.drew.frozen? ⟨w.heap.size + 1, 2, none⟩ = false := q2
    go_region_held3 (fun w' => w'.cell? ⟨w.heap.size, 0, none⟩ = some (.slice A l.length c0) ∧ w'.cell? ⟨w.heap.size, 1, none⟩ = some (.slice A1 n1 c1) ∧ w'.cell? ⟨w.heap.size, 2, none⟩ = some (.slice A2 n2 c2) ∧ w'.cell? ⟨wn.heap.size + 2, 1, none⟩ = some (.int .i64 2) ∧ Ext w w') (first | (exact keep5 hb (by assumption)) | (exact set5 (by omega) (by omega) (by omega) l2 (by omega) (set5 (by omega) (by omega) (by omega) l2 (by omega) (set5 (by omega) (by omega) (by omega) l2 (by omega) (by assumption)))) | (refine ⟨?_, ?_, ?_, ?_, ?_⟩ <;> first | exact Ext_drew hEw | (refine Ext_set (ext5 (by assumption)) ?_; simp; done) | (go_simp; done) | (simp [*]; done)))
      (first
        | (go_at_call 47; refine (ref_set A A1 A2 c0 n1 c1 n2 c2 l _ x _ (by omega) _ (HR.out _ (ext5 (by assumption)))).mono ?_; rintro e w2 ⟨v, rfl, hown, hb⟩; obtain ⟨Av, cv, rfl⟩ := own_slice hown; have HOWN := Lib.hid hown; clear hown; have hbs := hb.size; (try have b0 := keep_cell (b := w.heap.size + 1) (i := 0) hb (by assumption)); (try have q0 := keep_frozen (b := w.heap.size + 1) (i := 0) (v := .slice none 0 0) hb (by assumption) (by assumption)); (try have b1 := keep_cell (b := w.heap.size + 1) (i := 1) hb (by assumption)); (try have q1 := keep_frozen (b := w.heap.size + 1) (i := 1) (v := .slice none 0 0) hb (by assumption) (by assumption)); (try have b2 := keep_cell (b := w.heap.size + 1) (i := 2) hb (by assumption)); (try have q2 := keep_frozen (b := w.heap.size + 1) (i := 2) (v := .slice none 0 0) hb (by assumption) (by assumption)))
        | (go_at_call 48; refine (ref_word _ x _ (by omega) (by omega) _).mono ?_; rintro e w3 ⟨v3, rfl, ⟨Aw, cw, rfl, hw2⟩, hb⟩; have HB4 := Lib.hid hb; have HBT := Lib.hid (show Bts _ _ _ _ from ⟨Aw, cw, rfl, hw2⟩); clear hw2; (try have b0 := keep_cell (b := w.heap.size + 1) (i := 0) hb (by assumption)); (try have q0 := keep_frozen (b := w.heap.size + 1) (i := 0) (v := .slice none 0 0) hb (by assumption) (by assumption)); (try have b1 := keep_cell (b := w.heap.size + 1) (i := 1) hb (by assumption)); (try have q1 := keep_frozen (b := w.heap.size + 1) (i := 1) (v := .slice none 0 0) hb (by assumption) (by assumption)); (try have b2 := keep_cell (b := w.heap.size + 1) (i := 2) hb (by assumption)); (try have q2 := keep_frozen (b := w.heap.size + 1) (i := 2) (v := .slice none 0 0) hb (by assumption) (by assumption))))
    go_wp2_with fail
    refine bodyPost_ret (v := .tuple #[.agg #[.slice Av (setR l false x _).length cv, .slice A1 n1 c1, .slice A2 n2 c2], .slice Aw (wordL false x _).length cw, .int .i64 0]) (by simp [results, Try.results13, go_sem, *]; exact ⟨rfl, rfl⟩) rfl ?_
    have hS := Sl.below (Sl.of_own HOWN.out) HB4.out
    exact ref_end hS zW (Nat.le_trans (Nat.le_succ _) (Nat.le_of_lt zW)) HBT.out (Nat.lt_of_lt_of_le zW hbs) (Nat.le_trans (Nat.le_trans (Nat.le_succ _) (Nat.le_of_lt zW)) hbs) (ext5 (by assumption))
  · show Calls Try.prog _ _ w (RefP w A (.slice A1 n1 c1) (.slice A2 n2 c2) l [] [.int .i64 5])
    go_enter Try.func13, Try.ntmps13
    go_upto_region 9 with (go_at_call 19; refine (ref_State A c0 _ _ l _ x (by omega) _ (HR.out _ (by repeat' (first | exact HX.out | (apply Ext_alloc) | (apply Ext_drewN) | (refine Ext_set ?_ ?_) | exact Ext_refl _ | (simp; done) | (simp; omega))))).mono ?_; rintro e wn ⟨rfl, hb⟩; rw [HST.out]; have BAn := Lib.hid (Blk.below' BA.out hb); have BBn := Lib.hid (Blk.below' BB.out hb); have HXn := Lib.hid (Ext_trans hb (by repeat' (first | exact HX.out | (apply Ext_alloc) | (apply Ext_drewN) | (refine Ext_set ?_ ?_) | exact Ext_refl _ | (simp; done) | (simp; omega)))); clear hb HX BA BB; have HX := HXn; have BA := BAn; have BB := BBn; clear HXn BAn BBn; have e0 := BA.out.cell 0; have e1 := BA.out.cell 1; have e2 := BA.out.cell 2; have f0 := BB.out.free 0; have f1 := BB.out.free 1; have f2 := BB.out.free 2; have g0 := BB.out.cell 0; have g1 := BB.out.cell 1; have g2 := BB.out.cell 2; have z0 := BA.out.lt; have z1 := BB.out.lt)
    generalize hW : World.alloc (World.alloc (World.alloc (World.alloc wn _) _) _) _ = W
    have hEw : Ext w W := by rw [← hW]; exact Ext_alloc (Ext_alloc (Ext_alloc (Ext_alloc (HX.out))))
    have d0 : W.cell? ⟨w.heap.size, 0, none⟩ = some (.slice A l.length c0) := by rw [← hW]; exact (((((BA.out.alloc _).alloc _).alloc _).alloc _).cell 0)
    have d1 : W.cell? ⟨w.heap.size, 1, none⟩ = some (.slice A1 n1 c1) := by rw [← hW]; exact (((((BA.out.alloc _).alloc _).alloc _).alloc _).cell 1)
    have d2 : W.cell? ⟨w.heap.size, 2, none⟩ = some (.slice A2 n2 c2) := by rw [← hW]; exact (((((BA.out.alloc _).alloc _).alloc _).alloc _).cell 2)
    have d3 : W.cell? ⟨wn.heap.size + 2, 2, none⟩ = some (.int .i64 (-1)) := by rw [← hW]; exact new_cell1 (by simp)
    have d4 : W.cell? ⟨wn.heap.size + 2 + 1, 2, none⟩ = some (.int .i64 0) := by rw [← hW]; exact new_cell (by simp)
    have b0 : W.cell? ⟨w.heap.size + 1, 0, none⟩ = some (.slice none 0 0) := by rw [← hW]; exact (((((BB.out.alloc _).alloc _).alloc _).alloc _).cell 0)
    have q0 : W.frozen? ⟨w.heap.size + 1, 0, none⟩ = false := by rw [← hW]; exact (((((BB.out.alloc _).alloc _).alloc _).alloc _).free 0)
    have b1 : W.cell? ⟨w.heap.size + 1, 1, none⟩ = some (.slice none 0 0) := by rw [← hW]; exact (((((BB.out.alloc _).alloc _).alloc _).alloc _).cell 1)
    have q1 : W.frozen? ⟨w.heap.size + 1, 1, none⟩ = false := by rw [← hW]; exact (((((BB.out.alloc _).alloc _).alloc _).alloc _).free 1)
    have b2 : W.cell? ⟨w.heap.size + 1, 2, none⟩ = some (.slice none 0 0) := by rw [← hW]; exact (((((BB.out.alloc _).alloc _).alloc _).alloc _).cell 2)
    have q2 : W.frozen? ⟨w.heap.size + 1, 2, none⟩ = false := by rw [← hW]; exact (((((BB.out.alloc _).alloc _).alloc _).alloc _).free 2)
    have zW : w.heap.size + 1 < W.heap.size := by rw [← hW]; simp only [World.size_alloc]; omega
    have l1 := BB.out.lt
    have l3 : w.heap.size + 1 ≠ wn.heap.size + 2 := by omega
    have l2 : wn.heap.size + 2 ≠ w.heap.size + 1 := by omega
    clear e0 e1 e2 f0 f1 f2 g0 g1 g2 hW
    go_wp2_with fail
    refine bodyPost_ret (v := .tuple #[.agg #[.slice A l.length c0, .slice A1 n1 c1, .slice A2 n2 c2], .slice none 0 0, .int .i64 5]) (by simp [results, Try.results13, go_sem, *]) rfl ?_
    have hE : ∀ W, Ext w W → RefP w A (.slice A1 n1 c1) (.slice A2 n2 c2) l [] [.int .i64 5] (.returned (.tuple #[.agg #[.slice A l.length c0, .slice A1 n1 c1, .slice A2 n2 c2], .slice none 0 0, .int .i64 5])) W := fun W h => ⟨A, c0, _, rfl, HR.out _ h, fun b _ h => h, Bts.nil _ _, h⟩
    exact hE _ (by repeat' (first | exact hEw | (refine Ext_set ?_ ?_) | (simp; done)))
  · show Calls Try.prog _ _ w (RefP w A (.slice A1 n1 c1) (.slice A2 n2 c2) (setR l false x 5) (wordL false x 0) [.int .i64 0])
    go_enter Try.func13, Try.ntmps13
    go_upto_region 9 with (go_at_call 19; refine (ref_State A c0 _ _ l _ x (by omega) _ (HR.out _ (by repeat' (first | exact HX.out | (apply Ext_alloc) | (apply Ext_drewN) | (refine Ext_set ?_ ?_) | exact Ext_refl _ | (simp; done) | (simp; omega))))).mono ?_; rintro e wn ⟨rfl, hb⟩; rw [HST.out]; have BAn := Lib.hid (Blk.below' BA.out hb); have BBn := Lib.hid (Blk.below' BB.out hb); have HXn := Lib.hid (Ext_trans hb (by repeat' (first | exact HX.out | (apply Ext_alloc) | (apply Ext_drewN) | (refine Ext_set ?_ ?_) | exact Ext_refl _ | (simp; done) | (simp; omega)))); clear hb HX BA BB; have HX := HXn; have BA := BAn; have BB := BBn; clear HXn BAn BBn; have e0 := BA.out.cell 0; have e1 := BA.out.cell 1; have e2 := BA.out.cell 2; have f0 := BB.out.free 0; have f1 := BB.out.free 1; have f2 := BB.out.free 2; have g0 := BB.out.cell 0; have g1 := BB.out.cell 1; have g2 := BB.out.cell 2; have z0 := BA.out.lt; have z1 := BB.out.lt)
    generalize hW : World.alloc (World.alloc (World.alloc (World.alloc wn _) _) _) _ = W
    have hEw : Ext w W := by rw [← hW]; exact Ext_alloc (Ext_alloc (Ext_alloc (Ext_alloc (HX.out))))
    have d0 : W.cell? ⟨w.heap.size, 0, none⟩ = some (.slice A l.length c0) := by rw [← hW]; exact (((((BA.out.alloc _).alloc _).alloc _).alloc _).cell 0)
    have d1 : W.cell? ⟨w.heap.size, 1, none⟩ = some (.slice A1 n1 c1) := by rw [← hW]; exact (((((BA.out.alloc _).alloc _).alloc _).alloc _).cell 1)
    have d2 : W.cell? ⟨w.heap.size, 2, none⟩ = some (.slice A2 n2 c2) := by rw [← hW]; exact (((((BA.out.alloc _).alloc _).alloc _).alloc _).cell 2)
    have d3 : W.cell? ⟨wn.heap.size + 2, 3, none⟩ = some (.int .i64 (5)) := by rw [← hW]; exact new_cell1 (by simp)
    have d4 : W.cell? ⟨wn.heap.size + 2 + 1, 3, none⟩ = some (.int .i64 0) := by rw [← hW]; exact new_cell (by simp)
    have b0 : W.cell? ⟨w.heap.size + 1, 0, none⟩ = some (.slice none 0 0) := by rw [← hW]; exact (((((BB.out.alloc _).alloc _).alloc _).alloc _).cell 0)
    have q0 : W.frozen? ⟨w.heap.size + 1, 0, none⟩ = false := by rw [← hW]; exact (((((BB.out.alloc _).alloc _).alloc _).alloc _).free 0)
    have b1 : W.cell? ⟨w.heap.size + 1, 1, none⟩ = some (.slice none 0 0) := by rw [← hW]; exact (((((BB.out.alloc _).alloc _).alloc _).alloc _).cell 1)
    have q1 : W.frozen? ⟨w.heap.size + 1, 1, none⟩ = false := by rw [← hW]; exact (((((BB.out.alloc _).alloc _).alloc _).alloc _).free 1)
    have b2 : W.cell? ⟨w.heap.size + 1, 2, none⟩ = some (.slice none 0 0) := by rw [← hW]; exact (((((BB.out.alloc _).alloc _).alloc _).alloc _).cell 2)
    have q2 : W.frozen? ⟨w.heap.size + 1, 2, none⟩ = false := by rw [← hW]; exact (((((BB.out.alloc _).alloc _).alloc _).alloc _).free 2)
    have zW : w.heap.size + 1 < W.heap.size := by rw [← hW]; simp only [World.size_alloc]; omega
    have l1 := BB.out.lt
    have l3 : w.heap.size + 1 ≠ wn.heap.size + 2 := by omega
    have l2 : wn.heap.size + 2 ≠ w.heap.size + 1 := by omega
    clear e0 e1 e2 f0 f1 f2 g0 g1 g2 hW
    go_wp2_with fail
    have zW : w.heap.size + 1 < W.drew.heap.size := zW
    have b0 : W.drew.cell? ⟨w.heap.size + 1, 0, none⟩ = some (.slice none 0 0) := b0
    have b1 : W.drew.cell? ⟨w.heap.size + 1, 1, none⟩ = some (.slice none 0 0) := b1
    have b2 : W.drew.cell? ⟨w.heap.size + 1, 2, none⟩ = some (.slice none 0 0) := b2
    have q0 : W.drew.frozen? ⟨w.heap.size + 1, 0, none⟩ = false := q0
    have q1 : W.drew.frozen? ⟨w.heap.size + 1, 1, none⟩ = false := q1
    have q2 : W.drew.frozen? ⟨w.heap.size + 1, 2, none⟩ = false := q2
    go_region_held3 (fun w' => w'.cell? ⟨w.heap.size, 0, none⟩ = some (.slice A l.length c0) ∧ w'.cell? ⟨w.heap.size, 1, none⟩ = some (.slice A1 n1 c1) ∧ w'.cell? ⟨w.heap.size, 2, none⟩ = some (.slice A2 n2 c2) ∧ w'.cell? ⟨wn.heap.size + 2, 3, none⟩ = some (.int .i64 5) ∧ Ext w w') (first | (exact keep5 hb (by assumption)) | (exact set5 (by omega) (by omega) (by omega) l2 (by omega) (set5 (by omega) (by omega) (by omega) l2 (by omega) (set5 (by omega) (by omega) (by omega) l2 (by omega) (by assumption)))) | (refine ⟨?_, ?_, ?_, ?_, ?_⟩ <;> first | exact Ext_drew hEw | (refine Ext_set (ext5 (by assumption)) ?_; simp; done) | (go_simp; done) | (simp [*]; done)))
      (first
        | (go_at_call 47; refine (ref_set A A1 A2 c0 n1 c1 n2 c2 l _ x _ (by omega) _ (HR.out _ (ext5 (by assumption)))).mono ?_; rintro e w2 ⟨v, rfl, hown, hb⟩; obtain ⟨Av, cv, rfl⟩ := own_slice hown; have HOWN := Lib.hid hown; clear hown; have hbs := hb.size; (try have b0 := keep_cell (b := w.heap.size + 1) (i := 0) hb (by assumption)); (try have q0 := keep_frozen (b := w.heap.size + 1) (i := 0) (v := .slice none 0 0) hb (by assumption) (by assumption)); (try have b1 := keep_cell (b := w.heap.size + 1) (i := 1) hb (by assumption)); (try have q1 := keep_frozen (b := w.heap.size + 1) (i := 1) (v := .slice none 0 0) hb (by assumption) (by assumption)); (try have b2 := keep_cell (b := w.heap.size + 1) (i := 2) hb (by assumption)); (try have q2 := keep_frozen (b := w.heap.size + 1) (i := 2) (v := .slice none 0 0) hb (by assumption) (by assumption)))
        | (go_at_call 48; refine (ref_word _ x _ (by omega) (by omega) _).mono ?_; rintro e w3 ⟨v3, rfl, ⟨Aw, cw, rfl, hw2⟩, hb⟩; have HB4 := Lib.hid hb; have HBT := Lib.hid (show Bts _ _ _ _ from ⟨Aw, cw, rfl, hw2⟩); clear hw2; (try have b0 := keep_cell (b := w.heap.size + 1) (i := 0) hb (by assumption)); (try have q0 := keep_frozen (b := w.heap.size + 1) (i := 0) (v := .slice none 0 0) hb (by assumption) (by assumption)); (try have b1 := keep_cell (b := w.heap.size + 1) (i := 1) hb (by assumption)); (try have q1 := keep_frozen (b := w.heap.size + 1) (i := 1) (v := .slice none 0 0) hb (by assumption) (by assumption)); (try have b2 := keep_cell (b := w.heap.size + 1) (i := 2) hb (by assumption)); (try have q2 := keep_frozen (b := w.heap.size + 1) (i := 2) (v := .slice none 0 0) hb (by assumption) (by assumption))))
    go_wp2_with fail
    refine bodyPost_ret (v := .tuple #[.agg #[.slice Av (setR l false x _).length cv, .slice A1 n1 c1, .slice A2 n2 c2], .slice Aw (wordL false x _).length cw, .int .i64 0]) (by simp [results, Try.results13, go_sem, *]; exact ⟨rfl, rfl⟩) rfl ?_
    have hS := Sl.below (Sl.of_own HOWN.out) HB4.out
    exact ref_end hS zW (Nat.le_trans (Nat.le_succ _) (Nat.le_of_lt zW)) HBT.out (Nat.lt_of_lt_of_le zW hbs) (Nat.le_trans (Nat.le_trans (Nat.le_succ _) (Nat.le_of_lt zW)) hbs) (ext5 (by assumption))
  · show Calls Try.prog _ _ w (RefP w A (.slice A1 n1 c1) (.slice A2 n2 c2) (setR l false x 2) (wordL false x 0) [.int .i64 0])
    go_enter Try.func13, Try.ntmps13
    go_upto_region 9 with (go_at_call 19; refine (ref_State A c0 _ _ l _ x (by omega) _ (HR.out _ (by repeat' (first | exact HX.out | (apply Ext_alloc) | (apply Ext_drewN) | (refine Ext_set ?_ ?_) | exact Ext_refl _ | (simp; done) | (simp; omega))))).mono ?_; rintro e wn ⟨rfl, hb⟩; rw [HST.out]; have BAn := Lib.hid (Blk.below' BA.out hb); have BBn := Lib.hid (Blk.below' BB.out hb); have HXn := Lib.hid (Ext_trans hb (by repeat' (first | exact HX.out | (apply Ext_alloc) | (apply Ext_drewN) | (refine Ext_set ?_ ?_) | exact Ext_refl _ | (simp; done) | (simp; omega)))); clear hb HX BA BB; have HX := HXn; have BA := BAn; have BB := BBn; clear HXn BAn BBn; have e0 := BA.out.cell 0; have e1 := BA.out.cell 1; have e2 := BA.out.cell 2; have f0 := BB.out.free 0; have f1 := BB.out.free 1; have f2 := BB.out.free 2; have g0 := BB.out.cell 0; have g1 := BB.out.cell 1; have g2 := BB.out.cell 2; have z0 := BA.out.lt; have z1 := BB.out.lt)
    generalize hW : World.alloc (World.alloc (World.alloc (World.alloc wn _) _) _) _ = W
    have hEw : Ext w W := by rw [← hW]; exact Ext_alloc (Ext_alloc (Ext_alloc (Ext_alloc (HX.out))))
    have d0 : W.cell? ⟨w.heap.size, 0, none⟩ = some (.slice A l.length c0) := by rw [← hW]; exact (((((BA.out.alloc _).alloc _).alloc _).alloc _).cell 0)
    have d1 : W.cell? ⟨w.heap.size, 1, none⟩ = some (.slice A1 n1 c1) := by rw [← hW]; exact (((((BA.out.alloc _).alloc _).alloc _).alloc _).cell 1)
    have d2 : W.cell? ⟨w.heap.size, 2, none⟩ = some (.slice A2 n2 c2) := by rw [← hW]; exact (((((BA.out.alloc _).alloc _).alloc _).alloc _).cell 2)
    have d3 : W.cell? ⟨wn.heap.size + 2, 4, none⟩ = some (.int .i64 (2)) := by rw [← hW]; exact new_cell1 (by simp)
    have d4 : W.cell? ⟨wn.heap.size + 2 + 1, 4, none⟩ = some (.int .i64 0) := by rw [← hW]; exact new_cell (by simp)
    have b0 : W.cell? ⟨w.heap.size + 1, 0, none⟩ = some (.slice none 0 0) := by rw [← hW]; exact (((((BB.out.alloc _).alloc _).alloc _).alloc _).cell 0)
    have q0 : W.frozen? ⟨w.heap.size + 1, 0, none⟩ = false := by rw [← hW]; exact (((((BB.out.alloc _).alloc _).alloc _).alloc _).free 0)
    have b1 : W.cell? ⟨w.heap.size + 1, 1, none⟩ = some (.slice none 0 0) := by rw [← hW]; exact (((((BB.out.alloc _).alloc _).alloc _).alloc _).cell 1)
    have q1 : W.frozen? ⟨w.heap.size + 1, 1, none⟩ = false := by rw [← hW]; exact (((((BB.out.alloc _).alloc _).alloc _).alloc _).free 1)
    have b2 : W.cell? ⟨w.heap.size + 1, 2, none⟩ = some (.slice none 0 0) := by rw [← hW]; exact (((((BB.out.alloc _).alloc _).alloc _).alloc _).cell 2)
    have q2 : W.frozen? ⟨w.heap.size + 1, 2, none⟩ = false := by rw [← hW]; exact (((((BB.out.alloc _).alloc _).alloc _).alloc _).free 2)
    have zW : w.heap.size + 1 < W.heap.size := by rw [← hW]; simp only [World.size_alloc]; omega
    have l1 := BB.out.lt
    have l3 : w.heap.size + 1 ≠ wn.heap.size + 2 := by omega
    have l2 : wn.heap.size + 2 ≠ w.heap.size + 1 := by omega
    clear e0 e1 e2 f0 f1 f2 g0 g1 g2 hW
    go_wp2_with fail
    have zW : w.heap.size + 1 < W.drew.heap.size := zW
    have b0 : W.drew.cell? ⟨w.heap.size + 1, 0, none⟩ = some (.slice none 0 0) := b0
    have b1 : W.drew.cell? ⟨w.heap.size + 1, 1, none⟩ = some (.slice none 0 0) := b1
    have b2 : W.drew.cell? ⟨w.heap.size + 1, 2, none⟩ = some (.slice none 0 0) := b2
    have q0 : W.drew.frozen? ⟨w.heap.size + 1, 0, none⟩ = false := q0
    have q1 : W.drew.frozen? ⟨w.heap.size + 1, 1, none⟩ = false := q1
    have q2 : W.drew.frozen? ⟨w.heap.size + 1, 2, none⟩ = false := q2
    go_region_held3 (fun w' => w'.cell? ⟨w.heap.size, 0, none⟩ = some (.slice A l.length c0) ∧ w'.cell? ⟨w.heap.size, 1, none⟩ = some (.slice A1 n1 c1) ∧ w'.cell? ⟨w.heap.size, 2, none⟩ = some (.slice A2 n2 c2) ∧ w'.cell? ⟨wn.heap.size + 2, 4, none⟩ = some (.int .i64 2) ∧ Ext w w') (first | (exact keep5 hb (by assumption)) | (exact set5 (by omega) (by omega) (by omega) l2 (by omega) (set5 (by omega) (by omega) (by omega) l2 (by omega) (set5 (by omega) (by omega) (by omega) l2 (by omega) (by assumption)))) | (refine ⟨?_, ?_, ?_, ?_, ?_⟩ <;> first | exact Ext_drew hEw | (refine Ext_set (ext5 (by assumption)) ?_; simp; done) | (go_simp; done) | (simp [*]; done)))
      (first
        | (go_at_call 47; refine (ref_set A A1 A2 c0 n1 c1 n2 c2 l _ x _ (by omega) _ (HR.out _ (ext5 (by assumption)))).mono ?_; rintro e w2 ⟨v, rfl, hown, hb⟩; obtain ⟨Av, cv, rfl⟩ := own_slice hown; have HOWN := Lib.hid hown; clear hown; have hbs := hb.size; (try have b0 := keep_cell (b := w.heap.size + 1) (i := 0) hb (by assumption)); (try have q0 := keep_frozen (b := w.heap.size + 1) (i := 0) (v := .slice none 0 0) hb (by assumption) (by assumption)); (try have b1 := keep_cell (b := w.heap.size + 1) (i := 1) hb (by assumption)); (try have q1 := keep_frozen (b := w.heap.size + 1) (i := 1) (v := .slice none 0 0) hb (by assumption) (by assumption)); (try have b2 := keep_cell (b := w.heap.size + 1) (i := 2) hb (by assumption)); (try have q2 := keep_frozen (b := w.heap.size + 1) (i := 2) (v := .slice none 0 0) hb (by assumption) (by assumption)))
        | (go_at_call 48; refine (ref_word _ x _ (by omega) (by omega) _).mono ?_; rintro e w3 ⟨v3, rfl, ⟨Aw, cw, rfl, hw2⟩, hb⟩; have HB4 := Lib.hid hb; have HBT := Lib.hid (show Bts _ _ _ _ from ⟨Aw, cw, rfl, hw2⟩); clear hw2; (try have b0 := keep_cell (b := w.heap.size + 1) (i := 0) hb (by assumption)); (try have q0 := keep_frozen (b := w.heap.size + 1) (i := 0) (v := .slice none 0 0) hb (by assumption) (by assumption)); (try have b1 := keep_cell (b := w.heap.size + 1) (i := 1) hb (by assumption)); (try have q1 := keep_frozen (b := w.heap.size + 1) (i := 1) (v := .slice none 0 0) hb (by assumption) (by assumption)); (try have b2 := keep_cell (b := w.heap.size + 1) (i := 2) hb (by assumption)); (try have q2 := keep_frozen (b := w.heap.size + 1) (i := 2) (v := .slice none 0 0) hb (by assumption) (by assumption))))
    go_wp2_with fail
    refine bodyPost_ret (v := .tuple #[.agg #[.slice Av (setR l false x _).length cv, .slice A1 n1 c1, .slice A2 n2 c2], .slice Aw (wordL false x _).length cw, .int .i64 0]) (by simp [results, Try.results13, go_sem, *]; exact ⟨rfl, rfl⟩) rfl ?_
    have hS := Sl.below (Sl.of_own HOWN.out) HB4.out
    exact ref_end hS zW (Nat.le_trans (Nat.le_succ _) (Nat.le_of_lt zW)) HBT.out (Nat.lt_of_lt_of_le zW hbs) (Nat.le_trans (Nat.le_trans (Nat.le_succ _) (Nat.le_of_lt zW)) hbs) (ext5 (by assumption))
  · show Calls Try.prog _ _ w (RefP w A (.slice A1 n1 c1) (.slice A2 n2 c2) l [] [.int .i64 5])
    go_enter Try.func13, Try.ntmps13
    go_upto_region 9 with (go_at_call 19; refine (ref_State A c0 _ _ l _ x (by omega) _ (HR.out _ (by repeat' (first | exact HX.out | (apply Ext_alloc) | (apply Ext_drewN) | (refine Ext_set ?_ ?_) | exact Ext_refl _ | (simp; done) | (simp; omega))))).mono ?_; rintro e wn ⟨rfl, hb⟩; rw [HST.out]; have BAn := Lib.hid (Blk.below' BA.out hb); have BBn := Lib.hid (Blk.below' BB.out hb); have HXn := Lib.hid (Ext_trans hb (by repeat' (first | exact HX.out | (apply Ext_alloc) | (apply Ext_drewN) | (refine Ext_set ?_ ?_) | exact Ext_refl _ | (simp; done) | (simp; omega)))); clear hb HX BA BB; have HX := HXn; have BA := BAn; have BB := BBn; clear HXn BAn BBn; have e0 := BA.out.cell 0; have e1 := BA.out.cell 1; have e2 := BA.out.cell 2; have f0 := BB.out.free 0; have f1 := BB.out.free 1; have f2 := BB.out.free 2; have g0 := BB.out.cell 0; have g1 := BB.out.cell 1; have g2 := BB.out.cell 2; have z0 := BA.out.lt; have z1 := BB.out.lt)
    generalize hW : World.alloc (World.alloc (World.alloc (World.alloc wn _) _) _) _ = W
    have hEw : Ext w W := by rw [← hW]; exact Ext_alloc (Ext_alloc (Ext_alloc (Ext_alloc (HX.out))))
    have d0 : W.cell? ⟨w.heap.size, 0, none⟩ = some (.slice A l.length c0) := by rw [← hW]; exact (((((BA.out.alloc _).alloc _).alloc _).alloc _).cell 0)
    have d1 : W.cell? ⟨w.heap.size, 1, none⟩ = some (.slice A1 n1 c1) := by rw [← hW]; exact (((((BA.out.alloc _).alloc _).alloc _).alloc _).cell 1)
    have d2 : W.cell? ⟨w.heap.size, 2, none⟩ = some (.slice A2 n2 c2) := by rw [← hW]; exact (((((BA.out.alloc _).alloc _).alloc _).alloc _).cell 2)
    have d3 : W.cell? ⟨wn.heap.size + 2, 5, none⟩ = some (.int .i64 (-1)) := by rw [← hW]; exact new_cell1 (by simp)
    have d4 : W.cell? ⟨wn.heap.size + 2 + 1, 5, none⟩ = some (.int .i64 0) := by rw [← hW]; exact new_cell (by simp)
    have b0 : W.cell? ⟨w.heap.size + 1, 0, none⟩ = some (.slice none 0 0) := by rw [← hW]; exact (((((BB.out.alloc _).alloc _).alloc _).alloc _).cell 0)
    have q0 : W.frozen? ⟨w.heap.size + 1, 0, none⟩ = false := by rw [← hW]; exact (((((BB.out.alloc _).alloc _).alloc _).alloc _).free 0)
    have b1 : W.cell? ⟨w.heap.size + 1, 1, none⟩ = some (.slice none 0 0) := by rw [← hW]; exact (((((BB.out.alloc _).alloc _).alloc _).alloc _).cell 1)
    have q1 : W.frozen? ⟨w.heap.size + 1, 1, none⟩ = false := by rw [← hW]; exact (((((BB.out.alloc _).alloc _).alloc _).alloc _).free 1)
    have b2 : W.cell? ⟨w.heap.size + 1, 2, none⟩ = some (.slice none 0 0) := by rw [← hW]; exact (((((BB.out.alloc _).alloc _).alloc _).alloc _).cell 2)
    have q2 : W.frozen? ⟨w.heap.size + 1, 2, none⟩ = false := by rw [← hW]; exact (((((BB.out.alloc _).alloc _).alloc _).alloc _).free 2)
    have zW : w.heap.size + 1 < W.heap.size := by rw [← hW]; simp only [World.size_alloc]; omega
    have l1 := BB.out.lt
    have l3 : w.heap.size + 1 ≠ wn.heap.size + 2 := by omega
    have l2 : wn.heap.size + 2 ≠ w.heap.size + 1 := by omega
    clear e0 e1 e2 f0 f1 f2 g0 g1 g2 hW
    go_wp2_with fail
    refine bodyPost_ret (v := .tuple #[.agg #[.slice A l.length c0, .slice A1 n1 c1, .slice A2 n2 c2], .slice none 0 0, .int .i64 5]) (by simp [results, Try.results13, go_sem, *]) rfl ?_
    have hE : ∀ W, Ext w W → RefP w A (.slice A1 n1 c1) (.slice A2 n2 c2) l [] [.int .i64 5] (.returned (.tuple #[.agg #[.slice A l.length c0, .slice A1 n1 c1, .slice A2 n2 c2], .slice none 0 0, .int .i64 5])) W := fun W h => ⟨A, c0, _, rfl, HR.out _ h, fun b _ h => h, Bts.nil _ _, h⟩
    exact hE _ (by repeat' (first | exact hEw | (refine Ext_set ?_ ?_) | (simp; done)))
set_option maxRecDepth 100000 in
set_option maxHeartbeats 4000000 in
theorem ref_Want_251 (A A1 A2 : Option Addr) (c0 n1 c1 n2 c2 : Nat) (l : List One) (x was : Int) (hn : l.length ≤ 100000) (w : World)
    (hr : Rd w 3 A l.length (l.flatMap One.enc)) (hst : stateR l true x = was) (h0 : 0 ≤ was) (h5 : was ≤ 5) :
    Calls Try.prog 13 #[.agg #[.slice A l.length c0, .slice A1 n1 c1, .slice A2 n2 c2], .int .u8 251, .int .u8 x] w
      (match wantR true was with
       | some (st, say) => RefP w A (.slice A1 n1 c1) (.slice A2 n2 c2) (setR l true x st) (wordL true x say) [.int .i64 0]
       | none => RefP w A (.slice A1 n1 c1) (.slice A2 n2 c2) l [] [.int .i64 5]) := by
  have HST := Lib.hid hst
  have HR := Lib.hid (fun w' (h : Ext w w') => Rd_ext h hr)
  have HX := Lib.hid (Ext_refl w)
  have BA := Lib.hid ((Blk.new w 29 #[.slice A l.length c0, .slice A1 n1 c1, .slice A2 n2 c2]).alloc (.cells #[.slice none 0 0, .slice none 0 0, .slice none 0 0] 29))
  have BB := Lib.hid (Blk.new (w.alloc (.cells #[.slice A l.length c0, .slice A1 n1 c1, .slice A2 n2 c2] 29)) 29 #[.slice none 0 0, .slice none 0 0, .slice none 0 0])
  rw [World.size_alloc] at BB
  clear hst hr
  have hcs : was = 0 ∨ was = 1 ∨ was = 2 ∨ was = 3 ∨ was = 4 ∨ was = 5 := by omega
  clear h0 h5
  rcases hcs with rfl | rfl | rfl | rfl | rfl | rfl
  · show Calls Try.prog _ _ w (RefP w A (.slice A1 n1 c1) (.slice A2 n2 c2) (setR l true x 3) (wordL true x 1) [.int .i64 0])
    go_enter Try.func13, Try.ntmps13
    go_upto_region 9 with (go_at_call 19; refine (ref_State A c0 _ _ l _ x (by omega) _ (HR.out _ (by repeat' (first | exact HX.out | (apply Ext_alloc) | (apply Ext_drewN) | (refine Ext_set ?_ ?_) | exact Ext_refl _ | (simp; done) | (simp; omega))))).mono ?_; rintro e wn ⟨rfl, hb⟩; rw [HST.out]; have BAn := Lib.hid (Blk.below' BA.out hb); have BBn := Lib.hid (Blk.below' BB.out hb); have HXn := Lib.hid (Ext_trans hb (by repeat' (first | exact HX.out | (apply Ext_alloc) | (apply Ext_drewN) | (refine Ext_set ?_ ?_) | exact Ext_refl _ | (simp; done) | (simp; omega)))); clear hb HX BA BB; have HX := HXn; have BA := BAn; have BB := BBn; clear HXn BAn BBn; have e0 := BA.out.cell 0; have e1 := BA.out.cell 1; have e2 := BA.out.cell 2; have f0 := BB.out.free 0; have f1 := BB.out.free 1; have f2 := BB.out.free 2; have g0 := BB.out.cell 0; have g1 := BB.out.cell 1; have g2 := BB.out.cell 2; have z0 := BA.out.lt; have z1 := BB.out.lt)
    generalize hW : World.alloc (World.alloc wn _) _ = W
    have hEw : Ext w W := by rw [← hW]; exact Ext_alloc (Ext_alloc (HX.out))
    have d0 : W.cell? ⟨w.heap.size, 0, none⟩ = some (.slice A l.length c0) := by rw [← hW]; exact (((BA.out.alloc _).alloc _).cell 0)
    have d1 : W.cell? ⟨w.heap.size, 1, none⟩ = some (.slice A1 n1 c1) := by rw [← hW]; exact (((BA.out.alloc _).alloc _).cell 1)
    have d2 : W.cell? ⟨w.heap.size, 2, none⟩ = some (.slice A2 n2 c2) := by rw [← hW]; exact (((BA.out.alloc _).alloc _).cell 2)
    have d3 : W.cell? ⟨wn.heap.size, 0, none⟩ = some (.int .i64 (3)) := by rw [← hW]; exact new_cell1 (by simp)
    have d4 : W.cell? ⟨wn.heap.size + 1, 0, none⟩ = some (.int .i64 1) := by rw [← hW]; exact new_cell (by simp)
    have b0 : W.cell? ⟨w.heap.size + 1, 0, none⟩ = some (.slice none 0 0) := by rw [← hW]; exact (((BB.out.alloc _).alloc _).cell 0)
    have q0 : W.frozen? ⟨w.heap.size + 1, 0, none⟩ = false := by rw [← hW]; exact (((BB.out.alloc _).alloc _).free 0)
    have b1 : W.cell? ⟨w.heap.size + 1, 1, none⟩ = some (.slice none 0 0) := by rw [← hW]; exact (((BB.out.alloc _).alloc _).cell 1)
    have q1 : W.frozen? ⟨w.heap.size + 1, 1, none⟩ = false := by rw [← hW]; exact (((BB.out.alloc _).alloc _).free 1)
    have b2 : W.cell? ⟨w.heap.size + 1, 2, none⟩ = some (.slice none 0 0) := by rw [← hW]; exact (((BB.out.alloc _).alloc _).cell 2)
    have q2 : W.frozen? ⟨w.heap.size + 1, 2, none⟩ = false := by rw [← hW]; exact (((BB.out.alloc _).alloc _).free 2)
    have zW : w.heap.size + 1 < W.heap.size := by rw [← hW]; simp only [World.size_alloc]; omega
    have l1 := BB.out.lt
    have l3 : w.heap.size + 1 ≠ wn.heap.size := by omega
    have l2 : wn.heap.size ≠ w.heap.size + 1 := by omega
    clear e0 e1 e2 f0 f1 f2 g0 g1 g2 hW
    go_wp2_with fail
    have zW : w.heap.size + 1 < W.drew.heap.size := zW
    have b0 : W.drew.cell? ⟨w.heap.size + 1, 0, none⟩ = some (.slice none 0 0) := b0
    have b1 : W.drew.cell? ⟨w.heap.size + 1, 1, none⟩ = some (.slice none 0 0) := b1
    have b2 : W.drew.cell? ⟨w.heap.size + 1, 2, none⟩ = some (.slice none 0 0) := b2
    have q0 : W.drew.frozen? ⟨w.heap.size + 1, 0, none⟩ = false := q0
    have q1 : W.drew.frozen? ⟨w.heap.size + 1, 1, none⟩ = false := q1
    have q2 : W.drew.frozen? ⟨w.heap.size + 1, 2, none⟩ = false := q2
    go_region_held3 (fun w' => w'.cell? ⟨w.heap.size, 0, none⟩ = some (.slice A l.length c0) ∧ w'.cell? ⟨w.heap.size, 1, none⟩ = some (.slice A1 n1 c1) ∧ w'.cell? ⟨w.heap.size, 2, none⟩ = some (.slice A2 n2 c2) ∧ w'.cell? ⟨wn.heap.size, 0, none⟩ = some (.int .i64 3) ∧ Ext w w') (first | (exact keep5 hb (by assumption)) | (exact set5 (by omega) (by omega) (by omega) l2 (by omega) (set5 (by omega) (by omega) (by omega) l2 (by omega) (set5 (by omega) (by omega) (by omega) l2 (by omega) (by assumption)))) | (refine ⟨?_, ?_, ?_, ?_, ?_⟩ <;> first | exact Ext_drew hEw | (refine Ext_set (ext5 (by assumption)) ?_; simp; done) | (go_simp; done) | (simp [*]; done)))
      (first
        | (go_at_call 47; refine (ref_set A A1 A2 c0 n1 c1 n2 c2 l _ x _ (by omega) _ (HR.out _ (ext5 (by assumption)))).mono ?_; rintro e w2 ⟨v, rfl, hown, hb⟩; obtain ⟨Av, cv, rfl⟩ := own_slice hown; have HOWN := Lib.hid hown; clear hown; have hbs := hb.size; (try have b0 := keep_cell (b := w.heap.size + 1) (i := 0) hb (by assumption)); (try have q0 := keep_frozen (b := w.heap.size + 1) (i := 0) (v := .slice none 0 0) hb (by assumption) (by assumption)); (try have b1 := keep_cell (b := w.heap.size + 1) (i := 1) hb (by assumption)); (try have q1 := keep_frozen (b := w.heap.size + 1) (i := 1) (v := .slice none 0 0) hb (by assumption) (by assumption)); (try have b2 := keep_cell (b := w.heap.size + 1) (i := 2) hb (by assumption)); (try have q2 := keep_frozen (b := w.heap.size + 1) (i := 2) (v := .slice none 0 0) hb (by assumption) (by assumption)))
        | (go_at_call 48; refine (ref_word _ x _ (by omega) (by omega) _).mono ?_; rintro e w3 ⟨v3, rfl, ⟨Aw, cw, rfl, hw2⟩, hb⟩; have HB4 := Lib.hid hb; have HBT := Lib.hid (show Bts _ _ _ _ from ⟨Aw, cw, rfl, hw2⟩); clear hw2; (try have b0 := keep_cell (b := w.heap.size + 1) (i := 0) hb (by assumption)); (try have q0 := keep_frozen (b := w.heap.size + 1) (i := 0) (v := .slice none 0 0) hb (by assumption) (by assumption)); (try have b1 := keep_cell (b := w.heap.size + 1) (i := 1) hb (by assumption)); (try have q1 := keep_frozen (b := w.heap.size + 1) (i := 1) (v := .slice none 0 0) hb (by assumption) (by assumption)); (try have b2 := keep_cell (b := w.heap.size + 1) (i := 2) hb (by assumption)); (try have q2 := keep_frozen (b := w.heap.size + 1) (i := 2) (v := .slice none 0 0) hb (by assumption) (by assumption))))
    go_wp2_with fail
    refine bodyPost_ret (v := .tuple #[.agg #[.slice Av (setR l true x _).length cv, .slice A1 n1 c1, .slice A2 n2 c2], .slice Aw (wordL true x _).length cw, .int .i64 0]) (by simp [results, Try.results13, go_sem, *]; exact ⟨rfl, rfl⟩) rfl ?_
    have hS := Sl.below (Sl.of_own HOWN.out) HB4.out
    exact ref_end hS zW (Nat.le_trans (Nat.le_succ _) (Nat.le_of_lt zW)) HBT.out (Nat.lt_of_lt_of_le zW hbs) (Nat.le_trans (Nat.le_trans (Nat.le_succ _) (Nat.le_of_lt zW)) hbs) (ext5 (by assumption))
  · show Calls Try.prog _ _ w (RefP w A (.slice A1 n1 c1) (.slice A2 n2 c2) l [] [.int .i64 5])
    go_enter Try.func13, Try.ntmps13
    go_upto_region 9 with (go_at_call 19; refine (ref_State A c0 _ _ l _ x (by omega) _ (HR.out _ (by repeat' (first | exact HX.out | (apply Ext_alloc) | (apply Ext_drewN) | (refine Ext_set ?_ ?_) | exact Ext_refl _ | (simp; done) | (simp; omega))))).mono ?_; rintro e wn ⟨rfl, hb⟩; rw [HST.out]; have BAn := Lib.hid (Blk.below' BA.out hb); have BBn := Lib.hid (Blk.below' BB.out hb); have HXn := Lib.hid (Ext_trans hb (by repeat' (first | exact HX.out | (apply Ext_alloc) | (apply Ext_drewN) | (refine Ext_set ?_ ?_) | exact Ext_refl _ | (simp; done) | (simp; omega)))); clear hb HX BA BB; have HX := HXn; have BA := BAn; have BB := BBn; clear HXn BAn BBn; have e0 := BA.out.cell 0; have e1 := BA.out.cell 1; have e2 := BA.out.cell 2; have f0 := BB.out.free 0; have f1 := BB.out.free 1; have f2 := BB.out.free 2; have g0 := BB.out.cell 0; have g1 := BB.out.cell 1; have g2 := BB.out.cell 2; have z0 := BA.out.lt; have z1 := BB.out.lt)
    generalize hW : World.alloc (World.alloc wn _) _ = W
    have hEw : Ext w W := by rw [← hW]; exact Ext_alloc (Ext_alloc (HX.out))
    have d0 : W.cell? ⟨w.heap.size, 0, none⟩ = some (.slice A l.length c0) := by rw [← hW]; exact (((BA.out.alloc _).alloc _).cell 0)
    have d1 : W.cell? ⟨w.heap.size, 1, none⟩ = some (.slice A1 n1 c1) := by rw [← hW]; exact (((BA.out.alloc _).alloc _).cell 1)
    have d2 : W.cell? ⟨w.heap.size, 2, none⟩ = some (.slice A2 n2 c2) := by rw [← hW]; exact (((BA.out.alloc _).alloc _).cell 2)
    have d3 : W.cell? ⟨wn.heap.size, 1, none⟩ = some (.int .i64 (-1)) := by rw [← hW]; exact new_cell1 (by simp)
    have d4 : W.cell? ⟨wn.heap.size + 1, 1, none⟩ = some (.int .i64 0) := by rw [← hW]; exact new_cell (by simp)
    have b0 : W.cell? ⟨w.heap.size + 1, 0, none⟩ = some (.slice none 0 0) := by rw [← hW]; exact (((BB.out.alloc _).alloc _).cell 0)
    have q0 : W.frozen? ⟨w.heap.size + 1, 0, none⟩ = false := by rw [← hW]; exact (((BB.out.alloc _).alloc _).free 0)
    have b1 : W.cell? ⟨w.heap.size + 1, 1, none⟩ = some (.slice none 0 0) := by rw [← hW]; exact (((BB.out.alloc _).alloc _).cell 1)
    have q1 : W.frozen? ⟨w.heap.size + 1, 1, none⟩ = false := by rw [← hW]; exact (((BB.out.alloc _).alloc _).free 1)
    have b2 : W.cell? ⟨w.heap.size + 1, 2, none⟩ = some (.slice none 0 0) := by rw [← hW]; exact (((BB.out.alloc _).alloc _).cell 2)
    have q2 : W.frozen? ⟨w.heap.size + 1, 2, none⟩ = false := by rw [← hW]; exact (((BB.out.alloc _).alloc _).free 2)
    have zW : w.heap.size + 1 < W.heap.size := by rw [← hW]; simp only [World.size_alloc]; omega
    have l1 := BB.out.lt
    have l3 : w.heap.size + 1 ≠ wn.heap.size := by omega
    have l2 : wn.heap.size ≠ w.heap.size + 1 := by omega
    clear e0 e1 e2 f0 f1 f2 g0 g1 g2 hW
    go_wp2_with fail
    refine bodyPost_ret (v := .tuple #[.agg #[.slice A l.length c0, .slice A1 n1 c1, .slice A2 n2 c2], .slice none 0 0, .int .i64 5]) (by simp [results, Try.results13, go_sem, *]) rfl ?_
    have hE : ∀ W, Ext w W → RefP w A (.slice A1 n1 c1) (.slice A2 n2 c2) l [] [.int .i64 5] (.returned (.tuple #[.agg #[.slice A l.length c0, .slice A1 n1 c1, .slice A2 n2 c2], .slice none 0 0, .int .i64 5])) W := fun W h => ⟨A, c0, _, rfl, HR.out _ h, fun b _ h => h, Bts.nil _ _, h⟩
    exact hE _ (by repeat' (first | exact hEw | (refine Ext_set ?_ ?_) | (simp; done)))
  · show Calls Try.prog _ _ w (RefP w A (.slice A1 n1 c1) (.slice A2 n2 c2) (setR l true x 4) (wordL true x 0) [.int .i64 0])
    go_enter Try.func13, Try.ntmps13
    go_upto_region 9 with (go_at_call 19; refine (ref_State A c0 _ _ l _ x (by omega) _ (HR.out _ (by repeat' (first | exact HX.out | (apply Ext_alloc) | (apply Ext_drewN) | (refine Ext_set ?_ ?_) | exact Ext_refl _ | (simp; done) | (simp; omega))))).mono ?_; rintro e wn ⟨rfl, hb⟩; rw [HST.out]; have BAn := Lib.hid (Blk.below' BA.out hb); have BBn := Lib.hid (Blk.below' BB.out hb); have HXn := Lib.hid (Ext_trans hb (by repeat' (first | exact HX.out | (apply Ext_alloc) | (apply Ext_drewN) | (refine Ext_set ?_ ?_) | exact Ext_refl _ | (simp; done) | (simp; omega)))); clear hb HX BA BB; have HX := HXn; have BA := BAn; have BB := BBn; clear HXn BAn BBn; have e0 := BA.out.cell 0; have e1 := BA.out.cell 1; have e2 := BA.out.cell 2; have f0 := BB.out.free 0; have f1 := BB.out.free 1; have f2 := BB.out.free 2; have g0 := BB.out.cell 0; have g1 := BB.out.cell 1; have g2 := BB.out.cell 2; have z0 := BA.out.lt; have z1 := BB.out.lt)
    generalize hW : World.alloc (World.alloc wn _) _ = W
    have hEw : Ext w W := by rw [← hW]; exact Ext_alloc (Ext_alloc (HX.out))
    have d0 : W.cell? ⟨w.heap.size, 0, none⟩ = some (.slice A l.length c0) := by rw [← hW]; exact (((BA.out.alloc _).alloc _).cell 0)
    have d1 : W.cell? ⟨w.heap.size, 1, none⟩ = some (.slice A1 n1 c1) := by rw [← hW]; exact (((BA.out.alloc _).alloc _).cell 1)
    have d2 : W.cell? ⟨w.heap.size, 2, none⟩ = some (.slice A2 n2 c2) := by rw [← hW]; exact (((BA.out.alloc _).alloc _).cell 2)
    have d3 : W.cell? ⟨wn.heap.size, 2, none⟩ = some (.int .i64 (4)) := by rw [← hW]; exact new_cell1 (by simp)
    have d4 : W.cell? ⟨wn.heap.size + 1, 2, none⟩ = some (.int .i64 0) := by rw [← hW]; exact new_cell (by simp)
    have b0 : W.cell? ⟨w.heap.size + 1, 0, none⟩ = some (.slice none 0 0) := by rw [← hW]; exact (((BB.out.alloc _).alloc _).cell 0)
    have q0 : W.frozen? ⟨w.heap.size + 1, 0, none⟩ = false := by rw [← hW]; exact (((BB.out.alloc _).alloc _).free 0)
    have b1 : W.cell? ⟨w.heap.size + 1, 1, none⟩ = some (.slice none 0 0) := by rw [← hW]; exact (((BB.out.alloc _).alloc _).cell 1)
    have q1 : W.frozen? ⟨w.heap.size + 1, 1, none⟩ = false := by rw [← hW]; exact (((BB.out.alloc _).alloc _).free 1)
    have b2 : W.cell? ⟨w.heap.size + 1, 2, none⟩ = some (.slice none 0 0) := by rw [← hW]; exact (((BB.out.alloc _).alloc _).cell 2)
    have q2 : W.frozen? ⟨w.heap.size + 1, 2, none⟩ = false := by rw [← hW]; exact (((BB.out.alloc _).alloc _).free 2)
    have zW : w.heap.size + 1 < W.heap.size := by rw [← hW]; simp only [World.size_alloc]; omega
    have l1 := BB.out.lt
    have l3 : w.heap.size + 1 ≠ wn.heap.size := by omega
    have l2 : wn.heap.size ≠ w.heap.size + 1 := by omega
    clear e0 e1 e2 f0 f1 f2 g0 g1 g2 hW
    go_wp2_with fail
    have zW : w.heap.size + 1 < W.drew.heap.size := zW
    have b0 : W.drew.cell? ⟨w.heap.size + 1, 0, none⟩ = some (.slice none 0 0) := b0
    have b1 : W.drew.cell? ⟨w.heap.size + 1, 1, none⟩ = some (.slice none 0 0) := b1
    have b2 : W.drew.cell? ⟨w.heap.size + 1, 2, none⟩ = some (.slice none 0 0) := b2
    have q0 : W.drew.frozen? ⟨w.heap.size + 1, 0, none⟩ = false := q0
    have q1 : W.drew.frozen? ⟨w.heap.size + 1, 1, none⟩ = false := q1
    have q2 : W.drew.frozen? ⟨w.heap.size + 1, 2, none⟩ = false := q2
    go_region_held3 (fun w' => w'.cell? ⟨w.heap.size, 0, none⟩ = some (.slice A l.length c0) ∧ w'.cell? ⟨w.heap.size, 1, none⟩ = some (.slice A1 n1 c1) ∧ w'.cell? ⟨w.heap.size, 2, none⟩ = some (.slice A2 n2 c2) ∧ w'.cell? ⟨wn.heap.size, 2, none⟩ = some (.int .i64 4) ∧ Ext w w') (first | (exact keep5 hb (by assumption)) | (exact set5 (by omega) (by omega) (by omega) l2 (by omega) (set5 (by omega) (by omega) (by omega) l2 (by omega) (set5 (by omega) (by omega) (by omega) l2 (by omega) (by assumption)))) | (refine ⟨?_, ?_, ?_, ?_, ?_⟩ <;> first | exact Ext_drew hEw | (refine Ext_set (ext5 (by assumption)) ?_; simp; done) | (go_simp; done) | (simp [*]; done)))
      (first
        | (go_at_call 47; refine (ref_set A A1 A2 c0 n1 c1 n2 c2 l _ x _ (by omega) _ (HR.out _ (ext5 (by assumption)))).mono ?_; rintro e w2 ⟨v, rfl, hown, hb⟩; obtain ⟨Av, cv, rfl⟩ := own_slice hown; have HOWN := Lib.hid hown; clear hown; have hbs := hb.size; (try have b0 := keep_cell (b := w.heap.size + 1) (i := 0) hb (by assumption)); (try have q0 := keep_frozen (b := w.heap.size + 1) (i := 0) (v := .slice none 0 0) hb (by assumption) (by assumption)); (try have b1 := keep_cell (b := w.heap.size + 1) (i := 1) hb (by assumption)); (try have q1 := keep_frozen (b := w.heap.size + 1) (i := 1) (v := .slice none 0 0) hb (by assumption) (by assumption)); (try have b2 := keep_cell (b := w.heap.size + 1) (i := 2) hb (by assumption)); (try have q2 := keep_frozen (b := w.heap.size + 1) (i := 2) (v := .slice none 0 0) hb (by assumption) (by assumption)))
        | (go_at_call 48; refine (ref_word _ x _ (by omega) (by omega) _).mono ?_; rintro e w3 ⟨v3, rfl, ⟨Aw, cw, rfl, hw2⟩, hb⟩; have HB4 := Lib.hid hb; have HBT := Lib.hid (show Bts _ _ _ _ from ⟨Aw, cw, rfl, hw2⟩); clear hw2; (try have b0 := keep_cell (b := w.heap.size + 1) (i := 0) hb (by assumption)); (try have q0 := keep_frozen (b := w.heap.size + 1) (i := 0) (v := .slice none 0 0) hb (by assumption) (by assumption)); (try have b1 := keep_cell (b := w.heap.size + 1) (i := 1) hb (by assumption)); (try have q1 := keep_frozen (b := w.heap.size + 1) (i := 1) (v := .slice none 0 0) hb (by assumption) (by assumption)); (try have b2 := keep_cell (b := w.heap.size + 1) (i := 2) hb (by assumption)); (try have q2 := keep_frozen (b := w.heap.size + 1) (i := 2) (v := .slice none 0 0) hb (by assumption) (by assumption))))
    go_wp2_with fail
    refine bodyPost_ret (v := .tuple #[.agg #[.slice Av (setR l true x _).length cv, .slice A1 n1 c1, .slice A2 n2 c2], .slice Aw (wordL true x _).length cw, .int .i64 0]) (by simp [results, Try.results13, go_sem, *]; exact ⟨rfl, rfl⟩) rfl ?_
    have hS := Sl.below (Sl.of_own HOWN.out) HB4.out
    exact ref_end hS zW (Nat.le_trans (Nat.le_succ _) (Nat.le_of_lt zW)) HBT.out (Nat.lt_of_lt_of_le zW hbs) (Nat.le_trans (Nat.le_trans (Nat.le_succ _) (Nat.le_of_lt zW)) hbs) (ext5 (by assumption))
  · show Calls Try.prog _ _ w (RefP w A (.slice A1 n1 c1) (.slice A2 n2 c2) l [] [.int .i64 5])
    go_enter Try.func13, Try.ntmps13
    go_upto_region 9 with (go_at_call 19; refine (ref_State A c0 _ _ l _ x (by omega) _ (HR.out _ (by repeat' (first | exact HX.out | (apply Ext_alloc) | (apply Ext_drewN) | (refine Ext_set ?_ ?_) | exact Ext_refl _ | (simp; done) | (simp; omega))))).mono ?_; rintro e wn ⟨rfl, hb⟩; rw [HST.out]; have BAn := Lib.hid (Blk.below' BA.out hb); have BBn := Lib.hid (Blk.below' BB.out hb); have HXn := Lib.hid (Ext_trans hb (by repeat' (first | exact HX.out | (apply Ext_alloc) | (apply Ext_drewN) | (refine Ext_set ?_ ?_) | exact Ext_refl _ | (simp; done) | (simp; omega)))); clear hb HX BA BB; have HX := HXn; have BA := BAn; have BB := BBn; clear HXn BAn BBn; have e0 := BA.out.cell 0; have e1 := BA.out.cell 1; have e2 := BA.out.cell 2; have f0 := BB.out.free 0; have f1 := BB.out.free 1; have f2 := BB.out.free 2; have g0 := BB.out.cell 0; have g1 := BB.out.cell 1; have g2 := BB.out.cell 2; have z0 := BA.out.lt; have z1 := BB.out.lt)
    generalize hW : World.alloc (World.alloc wn _) _ = W
    have hEw : Ext w W := by rw [← hW]; exact Ext_alloc (Ext_alloc (HX.out))
    have d0 : W.cell? ⟨w.heap.size, 0, none⟩ = some (.slice A l.length c0) := by rw [← hW]; exact (((BA.out.alloc _).alloc _).cell 0)
    have d1 : W.cell? ⟨w.heap.size, 1, none⟩ = some (.slice A1 n1 c1) := by rw [← hW]; exact (((BA.out.alloc _).alloc _).cell 1)
    have d2 : W.cell? ⟨w.heap.size, 2, none⟩ = some (.slice A2 n2 c2) := by rw [← hW]; exact (((BA.out.alloc _).alloc _).cell 2)
    have d3 : W.cell? ⟨wn.heap.size, 3, none⟩ = some (.int .i64 (-1)) := by rw [← hW]; exact new_cell1 (by simp)
    have d4 : W.cell? ⟨wn.heap.size + 1, 3, none⟩ = some (.int .i64 0) := by rw [← hW]; exact new_cell (by simp)
    have b0 : W.cell? ⟨w.heap.size + 1, 0, none⟩ = some (.slice none 0 0) := by rw [← hW]; exact (((BB.out.alloc _).alloc _).cell 0)
    have q0 : W.frozen? ⟨w.heap.size + 1, 0, none⟩ = false := by rw [← hW]; exact (((BB.out.alloc _).alloc _).free 0)
    have b1 : W.cell? ⟨w.heap.size + 1, 1, none⟩ = some (.slice none 0 0) := by rw [← hW]; exact (((BB.out.alloc _).alloc _).cell 1)
    have q1 : W.frozen? ⟨w.heap.size + 1, 1, none⟩ = false := by rw [← hW]; exact (((BB.out.alloc _).alloc _).free 1)
    have b2 : W.cell? ⟨w.heap.size + 1, 2, none⟩ = some (.slice none 0 0) := by rw [← hW]; exact (((BB.out.alloc _).alloc _).cell 2)
    have q2 : W.frozen? ⟨w.heap.size + 1, 2, none⟩ = false := by rw [← hW]; exact (((BB.out.alloc _).alloc _).free 2)
    have zW : w.heap.size + 1 < W.heap.size := by rw [← hW]; simp only [World.size_alloc]; omega
    have l1 := BB.out.lt
    have l3 : w.heap.size + 1 ≠ wn.heap.size := by omega
    have l2 : wn.heap.size ≠ w.heap.size + 1 := by omega
    clear e0 e1 e2 f0 f1 f2 g0 g1 g2 hW
    go_wp2_with fail
    refine bodyPost_ret (v := .tuple #[.agg #[.slice A l.length c0, .slice A1 n1 c1, .slice A2 n2 c2], .slice none 0 0, .int .i64 5]) (by simp [results, Try.results13, go_sem, *]) rfl ?_
    have hE : ∀ W, Ext w W → RefP w A (.slice A1 n1 c1) (.slice A2 n2 c2) l [] [.int .i64 5] (.returned (.tuple #[.agg #[.slice A l.length c0, .slice A1 n1 c1, .slice A2 n2 c2], .slice none 0 0, .int .i64 5])) W := fun W h => ⟨A, c0, _, rfl, HR.out _ h, fun b _ h => h, Bts.nil _ _, h⟩
    exact hE _ (by repeat' (first | exact hEw | (refine Ext_set ?_ ?_) | (simp; done)))
  · show Calls Try.prog _ _ w (RefP w A (.slice A1 n1 c1) (.slice A2 n2 c2) l [] [.int .i64 5])
    go_enter Try.func13, Try.ntmps13
    go_upto_region 9 with (go_at_call 19; refine (ref_State A c0 _ _ l _ x (by omega) _ (HR.out _ (by repeat' (first | exact HX.out | (apply Ext_alloc) | (apply Ext_drewN) | (refine Ext_set ?_ ?_) | exact Ext_refl _ | (simp; done) | (simp; omega))))).mono ?_; rintro e wn ⟨rfl, hb⟩; rw [HST.out]; have BAn := Lib.hid (Blk.below' BA.out hb); have BBn := Lib.hid (Blk.below' BB.out hb); have HXn := Lib.hid (Ext_trans hb (by repeat' (first | exact HX.out | (apply Ext_alloc) | (apply Ext_drewN) | (refine Ext_set ?_ ?_) | exact Ext_refl _ | (simp; done) | (simp; omega)))); clear hb HX BA BB; have HX := HXn; have BA := BAn; have BB := BBn; clear HXn BAn BBn; have e0 := BA.out.cell 0; have e1 := BA.out.cell 1; have e2 := BA.out.cell 2; have f0 := BB.out.free 0; have f1 := BB.out.free 1; have f2 := BB.out.free 2; have g0 := BB.out.cell 0; have g1 := BB.out.cell 1; have g2 := BB.out.cell 2; have z0 := BA.out.lt; have z1 := BB.out.lt)
    generalize hW : World.alloc (World.alloc wn _) _ = W
    have hEw : Ext w W := by rw [← hW]; exact Ext_alloc (Ext_alloc (HX.out))
    have d0 : W.cell? ⟨w.heap.size, 0, none⟩ = some (.slice A l.length c0) := by rw [← hW]; exact (((BA.out.alloc _).alloc _).cell 0)
    have d1 : W.cell? ⟨w.heap.size, 1, none⟩ = some (.slice A1 n1 c1) := by rw [← hW]; exact (((BA.out.alloc _).alloc _).cell 1)
    have d2 : W.cell? ⟨w.heap.size, 2, none⟩ = some (.slice A2 n2 c2) := by rw [← hW]; exact (((BA.out.alloc _).alloc _).cell 2)
    have d3 : W.cell? ⟨wn.heap.size, 4, none⟩ = some (.int .i64 (-1)) := by rw [← hW]; exact new_cell1 (by simp)
    have d4 : W.cell? ⟨wn.heap.size + 1, 4, none⟩ = some (.int .i64 0) := by rw [← hW]; exact new_cell (by simp)
    have b0 : W.cell? ⟨w.heap.size + 1, 0, none⟩ = some (.slice none 0 0) := by rw [← hW]; exact (((BB.out.alloc _).alloc _).cell 0)
    have q0 : W.frozen? ⟨w.heap.size + 1, 0, none⟩ = false := by rw [← hW]; exact (((BB.out.alloc _).alloc _).free 0)
    have b1 : W.cell? ⟨w.heap.size + 1, 1, none⟩ = some (.slice none 0 0) := by rw [← hW]; exact (((BB.out.alloc _).alloc _).cell 1)
    have q1 : W.frozen? ⟨w.heap.size + 1, 1, none⟩ = false := by rw [← hW]; exact (((BB.out.alloc _).alloc _).free 1)
    have b2 : W.cell? ⟨w.heap.size + 1, 2, none⟩ = some (.slice none 0 0) := by rw [← hW]; exact (((BB.out.alloc _).alloc _).cell 2)
    have q2 : W.frozen? ⟨w.heap.size + 1, 2, none⟩ = false := by rw [← hW]; exact (((BB.out.alloc _).alloc _).free 2)
    have zW : w.heap.size + 1 < W.heap.size := by rw [← hW]; simp only [World.size_alloc]; omega
    have l1 := BB.out.lt
    have l3 : w.heap.size + 1 ≠ wn.heap.size := by omega
    have l2 : wn.heap.size ≠ w.heap.size + 1 := by omega
    clear e0 e1 e2 f0 f1 f2 g0 g1 g2 hW
    go_wp2_with fail
    refine bodyPost_ret (v := .tuple #[.agg #[.slice A l.length c0, .slice A1 n1 c1, .slice A2 n2 c2], .slice none 0 0, .int .i64 5]) (by simp [results, Try.results13, go_sem, *]) rfl ?_
    have hE : ∀ W, Ext w W → RefP w A (.slice A1 n1 c1) (.slice A2 n2 c2) l [] [.int .i64 5] (.returned (.tuple #[.agg #[.slice A l.length c0, .slice A1 n1 c1, .slice A2 n2 c2], .slice none 0 0, .int .i64 5])) W := fun W h => ⟨A, c0, _, rfl, HR.out _ h, fun b _ h => h, Bts.nil _ _, h⟩
    exact hE _ (by repeat' (first | exact hEw | (refine Ext_set ?_ ?_) | (simp; done)))
  · show Calls Try.prog _ _ w (RefP w A (.slice A1 n1 c1) (.slice A2 n2 c2) (setR l true x 3) (wordL true x 0) [.int .i64 0])
    go_enter Try.func13, Try.ntmps13
    go_upto_region 9 with (go_at_call 19; refine (ref_State A c0 _ _ l _ x (by omega) _ (HR.out _ (by repeat' (first | exact HX.out | (apply Ext_alloc) | (apply Ext_drewN) | (refine Ext_set ?_ ?_) | exact Ext_refl _ | (simp; done) | (simp; omega))))).mono ?_; rintro e wn ⟨rfl, hb⟩; rw [HST.out]; have BAn := Lib.hid (Blk.below' BA.out hb); have BBn := Lib.hid (Blk.below' BB.out hb); have HXn := Lib.hid (Ext_trans hb (by repeat' (first | exact HX.out | (apply Ext_alloc) | (apply Ext_drewN) | (refine Ext_set ?_ ?_) | exact Ext_refl _ | (simp; done) | (simp; omega)))); clear hb HX BA BB; have HX := HXn; have BA := BAn; have BB := BBn; clear HXn BAn BBn; have e0 := BA.out.cell 0; have e1 := BA.out.cell 1; have e2 := BA.out.cell 2; have f0 := BB.out.free 0; have f1 := BB.out.free 1; have f2 := BB.out.free 2; have g0 := BB.out.cell 0; have g1 := BB.out.cell 1; have g2 := BB.out.cell 2; have z0 := BA.out.lt; have z1 := BB.out.lt)
    generalize hW : World.alloc (World.alloc wn _) _ = W
    have hEw : Ext w W := by rw [← hW]; exact Ext_alloc (Ext_alloc (HX.out))
    have d0 : W.cell? ⟨w.heap.size, 0, none⟩ = some (.slice A l.length c0) := by rw [← hW]; exact (((BA.out.alloc _).alloc _).cell 0)
    have d1 : W.cell? ⟨w.heap.size, 1, none⟩ = some (.slice A1 n1 c1) := by rw [← hW]; exact (((BA.out.alloc _).alloc _).cell 1)
    have d2 : W.cell? ⟨w.heap.size, 2, none⟩ = some (.slice A2 n2 c2) := by rw [← hW]; exact (((BA.out.alloc _).alloc _).cell 2)
    have d3 : W.cell? ⟨wn.heap.size, 5, none⟩ = some (.int .i64 (3)) := by rw [← hW]; exact new_cell1 (by simp)
    have d4 : W.cell? ⟨wn.heap.size + 1, 5, none⟩ = some (.int .i64 0) := by rw [← hW]; exact new_cell (by simp)
    have b0 : W.cell? ⟨w.heap.size + 1, 0, none⟩ = some (.slice none 0 0) := by rw [← hW]; exact (((BB.out.alloc _).alloc _).cell 0)
    have q0 : W.frozen? ⟨w.heap.size + 1, 0, none⟩ = false := by rw [← hW]; exact (((BB.out.alloc _).alloc _).free 0)
    have b1 : W.cell? ⟨w.heap.size + 1, 1, none⟩ = some (.slice none 0 0) := by rw [← hW]; exact (((BB.out.alloc _).alloc _).cell 1)
    have q1 : W.frozen? ⟨w.heap.size + 1, 1, none⟩ = false := by rw [← hW]; exact (((BB.out.alloc _).alloc _).free 1)
    have b2 : W.cell? ⟨w.heap.size + 1, 2, none⟩ = some (.slice none 0 0) := by rw [← hW]; exact (((BB.out.alloc _).alloc _).cell 2)
    have q2 : W.frozen? ⟨w.heap.size + 1, 2, none⟩ = false := by rw [← hW]; exact (((BB.out.alloc _).alloc _).free 2)
    have zW : w.heap.size + 1 < W.heap.size := by rw [← hW]; simp only [World.size_alloc]; omega
    have l1 := BB.out.lt
    have l3 : w.heap.size + 1 ≠ wn.heap.size := by omega
    have l2 : wn.heap.size ≠ w.heap.size + 1 := by omega
    clear e0 e1 e2 f0 f1 f2 g0 g1 g2 hW
    go_wp2_with fail
    have zW : w.heap.size + 1 < W.drew.heap.size := zW
    have b0 : W.drew.cell? ⟨w.heap.size + 1, 0, none⟩ = some (.slice none 0 0) := b0
    have b1 : W.drew.cell? ⟨w.heap.size + 1, 1, none⟩ = some (.slice none 0 0) := b1
    have b2 : W.drew.cell? ⟨w.heap.size + 1, 2, none⟩ = some (.slice none 0 0) := b2
    have q0 : W.drew.frozen? ⟨w.heap.size + 1, 0, none⟩ = false := q0
    have q1 : W.drew.frozen? ⟨w.heap.size + 1, 1, none⟩ = false := q1
    have q2 : W.drew.frozen? ⟨w.heap.size + 1, 2, none⟩ = false := q2
    go_region_held3 (fun w' => w'.cell? ⟨w.heap.size, 0, none⟩ = some (.slice A l.length c0) ∧ w'.cell? ⟨w.heap.size, 1, none⟩ = some (.slice A1 n1 c1) ∧ w'.cell? ⟨w.heap.size, 2, none⟩ = some (.slice A2 n2 c2) ∧ w'.cell? ⟨wn.heap.size, 5, none⟩ = some (.int .i64 3) ∧ Ext w w') (first | (exact keep5 hb (by assumption)) | (exact set5 (by omega) (by omega) (by omega) l2 (by omega) (set5 (by omega) (by omega) (by omega) l2 (by omega) (set5 (by omega) (by omega) (by omega) l2 (by omega) (by assumption)))) | (refine ⟨?_, ?_, ?_, ?_, ?_⟩ <;> first | exact Ext_drew hEw | (refine Ext_set (ext5 (by assumption)) ?_; simp; done) | (go_simp; done) | (simp [*]; done)))
      (first
        | (go_at_call 47; refine (ref_set A A1 A2 c0 n1 c1 n2 c2 l _ x _ (by omega) _ (HR.out _ (ext5 (by assumption)))).mono ?_; rintro e w2 ⟨v, rfl, hown, hb⟩; obtain ⟨Av, cv, rfl⟩ := own_slice hown; have HOWN := Lib.hid hown; clear hown; have hbs := hb.size; (try have b0 := keep_cell (b := w.heap.size + 1) (i := 0) hb (by assumption)); (try have q0 := keep_frozen (b := w.heap.size + 1) (i := 0) (v := .slice none 0 0) hb (by assumption) (by assumption)); (try have b1 := keep_cell (b := w.heap.size + 1) (i := 1) hb (by assumption)); (try have q1 := keep_frozen (b := w.heap.size + 1) (i := 1) (v := .slice none 0 0) hb (by assumption) (by assumption)); (try have b2 := keep_cell (b := w.heap.size + 1) (i := 2) hb (by assumption)); (try have q2 := keep_frozen (b := w.heap.size + 1) (i := 2) (v := .slice none 0 0) hb (by assumption) (by assumption)))
        | (go_at_call 48; refine (ref_word _ x _ (by omega) (by omega) _).mono ?_; rintro e w3 ⟨v3, rfl, ⟨Aw, cw, rfl, hw2⟩, hb⟩; have HB4 := Lib.hid hb; have HBT := Lib.hid (show Bts _ _ _ _ from ⟨Aw, cw, rfl, hw2⟩); clear hw2; (try have b0 := keep_cell (b := w.heap.size + 1) (i := 0) hb (by assumption)); (try have q0 := keep_frozen (b := w.heap.size + 1) (i := 0) (v := .slice none 0 0) hb (by assumption) (by assumption)); (try have b1 := keep_cell (b := w.heap.size + 1) (i := 1) hb (by assumption)); (try have q1 := keep_frozen (b := w.heap.size + 1) (i := 1) (v := .slice none 0 0) hb (by assumption) (by assumption)); (try have b2 := keep_cell (b := w.heap.size + 1) (i := 2) hb (by assumption)); (try have q2 := keep_frozen (b := w.heap.size + 1) (i := 2) (v := .slice none 0 0) hb (by assumption) (by assumption))))
    go_wp2_with fail
    refine bodyPost_ret (v := .tuple #[.agg #[.slice Av (setR l true x _).length cv, .slice A1 n1 c1, .slice A2 n2 c2], .slice Aw (wordL true x _).length cw, .int .i64 0]) (by simp [results, Try.results13, go_sem, *]; exact ⟨rfl, rfl⟩) rfl ?_
    have hS := Sl.below (Sl.of_own HOWN.out) HB4.out
    exact ref_end hS zW (Nat.le_trans (Nat.le_succ _) (Nat.le_of_lt zW)) HBT.out (Nat.lt_of_lt_of_le zW hbs) (Nat.le_trans (Nat.le_trans (Nat.le_succ _) (Nat.le_of_lt zW)) hbs) (ext5 (by assumption))
set_option maxRecDepth 100000 in
set_option maxHeartbeats 4000000 in
theorem ref_Want_252 (A A1 A2 : Option Addr) (c0 n1 c1 n2 c2 : Nat) (l : List One) (x was : Int) (hn : l.length ≤ 100000) (w : World)
    (hr : Rd w 3 A l.length (l.flatMap One.enc)) (hst : stateR l true x = was) (h0 : 0 ≤ was) (h5 : was ≤ 5) :
    Calls Try.prog 13 #[.agg #[.slice A l.length c0, .slice A1 n1 c1, .slice A2 n2 c2], .int .u8 252, .int .u8 x] w
      (match wantR false was with
       | some (st, say) => RefP w A (.slice A1 n1 c1) (.slice A2 n2 c2) (setR l true x st) (wordL true x say) [.int .i64 0]
       | none => RefP w A (.slice A1 n1 c1) (.slice A2 n2 c2) l [] [.int .i64 5]) := by
  have HST := Lib.hid hst
  have HR := Lib.hid (fun w' (h : Ext w w') => Rd_ext h hr)
  have HX := Lib.hid (Ext_refl w)
  have BA := Lib.hid ((Blk.new w 29 #[.slice A l.length c0, .slice A1 n1 c1, .slice A2 n2 c2]).alloc (.cells #[.slice none 0 0, .slice none 0 0, .slice none 0 0] 29))
  have BB := Lib.hid (Blk.new (w.alloc (.cells #[.slice A l.length c0, .slice A1 n1 c1, .slice A2 n2 c2] 29)) 29 #[.slice none 0 0, .slice none 0 0, .slice none 0 0])
  rw [World.size_alloc] at BB
  clear hst hr
  have hcs : was = 0 ∨ was = 1 ∨ was = 2 ∨ was = 3 ∨ was = 4 ∨ was = 5 := by omega
  clear h0 h5
  rcases hcs with rfl | rfl | rfl | rfl | rfl | rfl
  · show Calls Try.prog _ _ w (RefP w A (.slice A1 n1 c1) (.slice A2 n2 c2) l [] [.int .i64 5])
    go_enter Try.func13, Try.ntmps13
    go_upto_region 9 with (go_at_call 19; refine (ref_State A c0 _ _ l _ x (by omega) _ (HR.out _ (by repeat' (first | exact HX.out | (apply Ext_alloc) | (apply Ext_drewN) | (refine Ext_set ?_ ?_) | exact Ext_refl _ | (simp; done) | (simp; omega))))).mono ?_; rintro e wn ⟨rfl, hb⟩; rw [HST.out]; have BAn := Lib.hid (Blk.below' BA.out hb); have BBn := Lib.hid (Blk.below' BB.out hb); have HXn := Lib.hid (Ext_trans hb (by repeat' (first | exact HX.out | (apply Ext_alloc) | (apply Ext_drewN) | (refine Ext_set ?_ ?_) | exact Ext_refl _ | (simp; done) | (simp; omega)))); clear hb HX BA BB; have HX := HXn; have BA := BAn; have BB := BBn; clear HXn BAn BBn; have e0 := BA.out.cell 0; have e1 := BA.out.cell 1; have e2 := BA.out.cell 2; have f0 := BB.out.free 0; have f1 := BB.out.free 1; have f2 := BB.out.free 2; have g0 := BB.out.cell 0; have g1 := BB.out.cell 1; have g2 := BB.out.cell 2; have z0 := BA.out.lt; have z1 := BB.out.lt)
    generalize hW : World.alloc (World.alloc (World.alloc (World.alloc wn _) _) _) _ = W
    have hEw : Ext w W := by rw [← hW]; exact Ext_alloc (Ext_alloc (Ext_alloc (Ext_alloc (HX.out))))
    have d0 : W.cell? ⟨w.heap.size, 0, none⟩ = some (.slice A l.length c0) := by rw [← hW]; exact (((((BA.out.alloc _).alloc _).alloc _).alloc _).cell 0)
    have d1 : W.cell? ⟨w.heap.size, 1, none⟩ = some (.slice A1 n1 c1) := by rw [← hW]; exact (((((BA.out.alloc _).alloc _).alloc _).alloc _).cell 1)
    have d2 : W.cell? ⟨w.heap.size, 2, none⟩ = some (.slice A2 n2 c2) := by rw [← hW]; exact (((((BA.out.alloc _).alloc _).alloc _).alloc _).cell 2)
    have d3 : W.cell? ⟨wn.heap.size + 2, 0, none⟩ = some (.int .i64 (-1)) := by rw [← hW]; exact new_cell1 (by simp)
    have d4 : W.cell? ⟨wn.heap.size + 2 + 1, 0, none⟩ = some (.int .i64 0) := by rw [← hW]; exact new_cell (by simp)
    have b0 : W.cell? ⟨w.heap.size + 1, 0, none⟩ = some (.slice none 0 0) := by rw [← hW]; exact (((((BB.out.alloc _).alloc _).alloc _).alloc _).cell 0)
    have q0 : W.frozen? ⟨w.heap.size + 1, 0, none⟩ = false := by rw [← hW]; exact (((((BB.out.alloc _).alloc _).alloc _).alloc _).free 0)
    have b1 : W.cell? ⟨w.heap.size + 1, 1, none⟩ = some (.slice none 0 0) := by rw [← hW]; exact (((((BB.out.alloc _).alloc _).alloc _).alloc _).cell 1)
    have q1 : W.frozen? ⟨w.heap.size + 1, 1, none⟩ = false := by rw [← hW]; exact (((((BB.out.alloc _).alloc _).alloc _).alloc _).free 1)
    have b2 : W.cell? ⟨w.heap.size + 1, 2, none⟩ = some (.slice none 0 0) := by rw [← hW]; exact (((((BB.out.alloc _).alloc _).alloc _).alloc _).cell 2)
    have q2 : W.frozen? ⟨w.heap.size + 1, 2, none⟩ = false := by rw [← hW]; exact (((((BB.out.alloc _).alloc _).alloc _).alloc _).free 2)
    have zW : w.heap.size + 1 < W.heap.size := by rw [← hW]; simp only [World.size_alloc]; omega
    have l1 := BB.out.lt
    have l3 : w.heap.size + 1 ≠ wn.heap.size + 2 := by omega
    have l2 : wn.heap.size + 2 ≠ w.heap.size + 1 := by omega
    clear e0 e1 e2 f0 f1 f2 g0 g1 g2 hW
    go_wp2_with fail
    refine bodyPost_ret (v := .tuple #[.agg #[.slice A l.length c0, .slice A1 n1 c1, .slice A2 n2 c2], .slice none 0 0, .int .i64 5]) (by simp [results, Try.results13, go_sem, *]) rfl ?_
    have hE : ∀ W, Ext w W → RefP w A (.slice A1 n1 c1) (.slice A2 n2 c2) l [] [.int .i64 5] (.returned (.tuple #[.agg #[.slice A l.length c0, .slice A1 n1 c1, .slice A2 n2 c2], .slice none 0 0, .int .i64 5])) W := fun W h => ⟨A, c0, _, rfl, HR.out _ h, fun b _ h => h, Bts.nil _ _, h⟩
    exact hE _ (by repeat' (first | exact hEw | (refine Ext_set ?_ ?_) | (simp; done)))
  · show Calls Try.prog _ _ w (RefP w A (.slice A1 n1 c1) (.slice A2 n2 c2) (setR l true x 2) (wordL true x 2) [.int .i64 0])
    go_enter Try.func13, Try.ntmps13
    go_upto_region 9 with (go_at_call 19; refine (ref_State A c0 _ _ l _ x (by omega) _ (HR.out _ (by repeat' (first | exact HX.out | (apply Ext_alloc) | (apply Ext_drewN) | (refine Ext_set ?_ ?_) | exact Ext_refl _ | (simp; done) | (simp; omega))))).mono ?_; rintro e wn ⟨rfl, hb⟩; rw [HST.out]; have BAn := Lib.hid (Blk.below' BA.out hb); have BBn := Lib.hid (Blk.below' BB.out hb); have HXn := Lib.hid (Ext_trans hb (by repeat' (first | exact HX.out | (apply Ext_alloc) | (apply Ext_drewN) | (refine Ext_set ?_ ?_) | exact Ext_refl _ | (simp; done) | (simp; omega)))); clear hb HX BA BB; have HX := HXn; have BA := BAn; have BB := BBn; clear HXn BAn BBn; have e0 := BA.out.cell 0; have e1 := BA.out.cell 1; have e2 := BA.out.cell 2; have f0 := BB.out.free 0; have f1 := BB.out.free 1; have f2 := BB.out.free 2; have g0 := BB.out.cell 0; have g1 := BB.out.cell 1; have g2 := BB.out.cell 2; have z0 := BA.out.lt; have z1 := BB.out.lt)
    generalize hW : World.alloc (World.alloc (World.alloc (World.alloc wn _) _) _) _ = W
    have hEw : Ext w W := by rw [← hW]; exact Ext_alloc (Ext_alloc (Ext_alloc (Ext_alloc (HX.out))))
    have d0 : W.cell? ⟨w.heap.size, 0, none⟩ = some (.slice A l.length c0) := by rw [← hW]; exact (((((BA.out.alloc _).alloc _).alloc _).alloc _).cell 0)
    have d1 : W.cell? ⟨w.heap.size, 1, none⟩ = some (.slice A1 n1 c1) := by rw [← hW]; exact (((((BA.out.alloc _).alloc _).alloc _).alloc _).cell 1)
    have d2 : W.cell? ⟨w.heap.size, 2, none⟩ = some (.slice A2 n2 c2) := by rw [← hW]; exact (((((BA.out.alloc _).alloc _).alloc _).alloc _).cell 2)
    have d3 : W.cell? ⟨wn.heap.size + 2, 1, none⟩ = some (.int .i64 (2)) := by rw [← hW]; exact new_cell1 (by simp)
    have d4 : W.cell? ⟨wn.heap.size + 2 + 1, 1, none⟩ = some (.int .i64 2) := by rw [← hW]; exact new_cell (by simp)
    have b0 : W.cell? ⟨w.heap.size + 1, 0, none⟩ = some (.slice none 0 0) := by rw [← hW]; exact (((((BB.out.alloc _).alloc _).alloc _).alloc _).cell 0)
    have q0 : W.frozen? ⟨w.heap.size + 1, 0, none⟩ = false := by rw [← hW]; exact (((((BB.out.alloc _).alloc _).alloc _).alloc _).free 0)
    have b1 : W.cell? ⟨w.heap.size + 1, 1, none⟩ = some (.slice none 0 0) := by rw [← hW]; exact (((((BB.out.alloc _).alloc _).alloc _).alloc _).cell 1)
    have q1 : W.frozen? ⟨w.heap.size + 1, 1, none⟩ = false := by rw [← hW]; exact (((((BB.out.alloc _).alloc _).alloc _).alloc _).free 1)
    have b2 : W.cell? ⟨w.heap.size + 1, 2, none⟩ = some (.slice none 0 0) := by rw [← hW]; exact (((((BB.out.alloc _).alloc _).alloc _).alloc _).cell 2)
    have q2 : W.frozen? ⟨w.heap.size + 1, 2, none⟩ = false := by rw [← hW]; exact (((((BB.out.alloc _).alloc _).alloc _).alloc _).free 2)
    have zW : w.heap.size + 1 < W.heap.size := by rw [← hW]; simp only [World.size_alloc]; omega
    have l1 := BB.out.lt
    have l3 : w.heap.size + 1 ≠ wn.heap.size + 2 := by omega
    have l2 : wn.heap.size + 2 ≠ w.heap.size + 1 := by omega
    clear e0 e1 e2 f0 f1 f2 g0 g1 g2 hW
    go_wp2_with fail
    have zW : w.heap.size + 1 < W.drew.heap.size := zW
    have b0 : W.drew.cell? ⟨w.heap.size + 1, 0, none⟩ = some (.slice none 0 0) := b0
    have b1 : W.drew.cell? ⟨w.heap.size + 1, 1, none⟩ = some (.slice none 0 0) := b1
    have b2 : W.drew.cell? ⟨w.heap.size + 1, 2, none⟩ = some (.slice none 0 0) := b2
    have q0 : W.drew.frozen? ⟨w.heap.size + 1, 0, none⟩ = false := q0
    have q1 : W.drew.frozen? ⟨w.heap.size + 1, 1, none⟩ = false := q1
    have q2 : W.drew.frozen? ⟨w.heap.size + 1, 2, none⟩ = false := q2
    go_region_held3 (fun w' => w'.cell? ⟨w.heap.size, 0, none⟩ = some (.slice A l.length c0) ∧ w'.cell? ⟨w.heap.size, 1, none⟩ = some (.slice A1 n1 c1) ∧ w'.cell? ⟨w.heap.size, 2, none⟩ = some (.slice A2 n2 c2) ∧ w'.cell? ⟨wn.heap.size + 2, 1, none⟩ = some (.int .i64 2) ∧ Ext w w') (first | (exact keep5 hb (by assumption)) | (exact set5 (by omega) (by omega) (by omega) l2 (by omega) (set5 (by omega) (by omega) (by omega) l2 (by omega) (set5 (by omega) (by omega) (by omega) l2 (by omega) (by assumption)))) | (refine ⟨?_, ?_, ?_, ?_, ?_⟩ <;> first | exact Ext_drew hEw | (refine Ext_set (ext5 (by assumption)) ?_; simp; done) | (go_simp; done) | (simp [*]; done)))
      (first
        | (go_at_call 47; refine (ref_set A A1 A2 c0 n1 c1 n2 c2 l _ x _ (by omega) _ (HR.out _ (ext5 (by assumption)))).mono ?_; rintro e w2 ⟨v, rfl, hown, hb⟩; obtain ⟨Av, cv, rfl⟩ := own_slice hown; have HOWN := Lib.hid hown; clear hown; have hbs := hb.size; (try have b0 := keep_cell (b := w.heap.size + 1) (i := 0) hb (by assumption)); (try have q0 := keep_frozen (b := w.heap.size + 1) (i := 0) (v := .slice none 0 0) hb (by assumption) (by assumption)); (try have b1 := keep_cell (b := w.heap.size + 1) (i := 1) hb (by assumption)); (try have q1 := keep_frozen (b := w.heap.size + 1) (i := 1) (v := .slice none 0 0) hb (by assumption) (by assumption)); (try have b2 := keep_cell (b := w.heap.size + 1) (i := 2) hb (by assumption)); (try have q2 := keep_frozen (b := w.heap.size + 1) (i := 2) (v := .slice none 0 0) hb (by assumption) (by assumption)))
        | (go_at_call 48; refine (ref_word _ x _ (by omega) (by omega) _).mono ?_; rintro e w3 ⟨v3, rfl, ⟨Aw, cw, rfl, hw2⟩, hb⟩; have HB4 := Lib.hid hb; have HBT := Lib.hid (show Bts _ _ _ _ from ⟨Aw, cw, rfl, hw2⟩); clear hw2; (try have b0 := keep_cell (b := w.heap.size + 1) (i := 0) hb (by assumption)); (try have q0 := keep_frozen (b := w.heap.size + 1) (i := 0) (v := .slice none 0 0) hb (by assumption) (by assumption)); (try have b1 := keep_cell (b := w.heap.size + 1) (i := 1) hb (by assumption)); (try have q1 := keep_frozen (b := w.heap.size + 1) (i := 1) (v := .slice none 0 0) hb (by assumption) (by assumption)); (try have b2 := keep_cell (b := w.heap.size + 1) (i := 2) hb (by assumption)); (try have q2 := keep_frozen (b := w.heap.size + 1) (i := 2) (v := .slice none 0 0) hb (by assumption) (by assumption))))
    go_wp2_with fail
    refine bodyPost_ret (v := .tuple #[.agg #[.slice Av (setR l true x _).length cv, .slice A1 n1 c1, .slice A2 n2 c2], .slice Aw (wordL true x _).length cw, .int .i64 0]) (by simp [results, Try.results13, go_sem, *]; exact ⟨rfl, rfl⟩) rfl ?_
    have hS := Sl.below (Sl.of_own HOWN.out) HB4.out
    exact ref_end hS zW (Nat.le_trans (Nat.le_succ _) (Nat.le_of_lt zW)) HBT.out (Nat.lt_of_lt_of_le zW hbs) (Nat.le_trans (Nat.le_trans (Nat.le_succ _) (Nat.le_of_lt zW)) hbs) (ext5 (by assumption))
  · show Calls Try.prog _ _ w (RefP w A (.slice A1 n1 c1) (.slice A2 n2 c2) l [] [.int .i64 5])
    go_enter Try.func13, Try.ntmps13
    go_upto_region 9 with (go_at_call 19; refine (ref_State A c0 _ _ l _ x (by omega) _ (HR.out _ (by repeat' (first | exact HX.out | (apply Ext_alloc) | (apply Ext_drewN) | (refine Ext_set ?_ ?_) | exact Ext_refl _ | (simp; done) | (simp; omega))))).mono ?_; rintro e wn ⟨rfl, hb⟩; rw [HST.out]; have BAn := Lib.hid (Blk.below' BA.out hb); have BBn := Lib.hid (Blk.below' BB.out hb); have HXn := Lib.hid (Ext_trans hb (by repeat' (first | exact HX.out | (apply Ext_alloc) | (apply Ext_drewN) | (refine Ext_set ?_ ?_) | exact Ext_refl _ | (simp; done) | (simp; omega)))); clear hb HX BA BB; have HX := HXn; have BA := BAn; have BB := BBn; clear HXn BAn BBn; have e0 := BA.out.cell 0; have e1 := BA.out.cell 1; have e2 := BA.out.cell 2; have f0 := BB.out.free 0; have f1 := BB.out.free 1; have f2 := BB.out.free 2; have g0 := BB.out.cell 0; have g1 := BB.out.cell 1; have g2 := BB.out.cell 2; have z0 := BA.out.lt; have z1 := BB.out.lt)
    generalize hW : World.alloc (World.alloc (World.alloc (World.alloc wn _) _) _) _ = W
    have hEw : Ext w W := by rw [← hW]; exact Ext_alloc (Ext_alloc (Ext_alloc (Ext_alloc (HX.out))))
    have d0 : W.cell? ⟨w.heap.size, 0, none⟩ = some (.slice A l.length c0) := by rw [← hW]; exact (((((BA.out.alloc _).alloc _).alloc _).alloc _).cell 0)
    have d1 : W.cell? ⟨w.heap.size, 1, none⟩ = some (.slice A1 n1 c1) := by rw [← hW]; exact (((((BA.out.alloc _).alloc _).alloc _).alloc _).cell 1)
    have d2 : W.cell? ⟨w.heap.size, 2, none⟩ = some (.slice A2 n2 c2) := by rw [← hW]; exact (((((BA.out.alloc _).alloc _).alloc _).alloc _).cell 2)
    have d3 : W.cell? ⟨wn.heap.size + 2, 2, none⟩ = some (.int .i64 (-1)) := by rw [← hW]; exact new_cell1 (by simp)
    have d4 : W.cell? ⟨wn.heap.size + 2 + 1, 2, none⟩ = some (.int .i64 0) := by rw [← hW]; exact new_cell (by simp)
    have b0 : W.cell? ⟨w.heap.size + 1, 0, none⟩ = some (.slice none 0 0) := by rw [← hW]; exact (((((BB.out.alloc _).alloc _).alloc _).alloc _).cell 0)
    have q0 : W.frozen? ⟨w.heap.size + 1, 0, none⟩ = false := by rw [← hW]; exact (((((BB.out.alloc _).alloc _).alloc _).alloc _).free 0)
    have b1 : W.cell? ⟨w.heap.size + 1, 1, none⟩ = some (.slice none 0 0) := by rw [← hW]; exact (((((BB.out.alloc _).alloc _).alloc _).alloc _).cell 1)
    have q1 : W.frozen? ⟨w.heap.size + 1, 1, none⟩ = false := by rw [← hW]; exact (((((BB.out.alloc _).alloc _).alloc _).alloc _).free 1)
    have b2 : W.cell? ⟨w.heap.size + 1, 2, none⟩ = some (.slice none 0 0) := by rw [← hW]; exact (((((BB.out.alloc _).alloc _).alloc _).alloc _).cell 2)
    have q2 : W.frozen? ⟨w.heap.size + 1, 2, none⟩ = false := by rw [← hW]; exact (((((BB.out.alloc _).alloc _).alloc _).alloc _).free 2)
    have zW : w.heap.size + 1 < W.heap.size := by rw [← hW]; simp only [World.size_alloc]; omega
    have l1 := BB.out.lt
    have l3 : w.heap.size + 1 ≠ wn.heap.size + 2 := by omega
    have l2 : wn.heap.size + 2 ≠ w.heap.size + 1 := by omega
    clear e0 e1 e2 f0 f1 f2 g0 g1 g2 hW
    go_wp2_with fail
    refine bodyPost_ret (v := .tuple #[.agg #[.slice A l.length c0, .slice A1 n1 c1, .slice A2 n2 c2], .slice none 0 0, .int .i64 5]) (by simp [results, Try.results13, go_sem, *]) rfl ?_
    have hE : ∀ W, Ext w W → RefP w A (.slice A1 n1 c1) (.slice A2 n2 c2) l [] [.int .i64 5] (.returned (.tuple #[.agg #[.slice A l.length c0, .slice A1 n1 c1, .slice A2 n2 c2], .slice none 0 0, .int .i64 5])) W := fun W h => ⟨A, c0, _, rfl, HR.out _ h, fun b _ h => h, Bts.nil _ _, h⟩
    exact hE _ (by repeat' (first | exact hEw | (refine Ext_set ?_ ?_) | (simp; done)))
  · show Calls Try.prog _ _ w (RefP w A (.slice A1 n1 c1) (.slice A2 n2 c2) (setR l true x 5) (wordL true x 0) [.int .i64 0])
    go_enter Try.func13, Try.ntmps13
    go_upto_region 9 with (go_at_call 19; refine (ref_State A c0 _ _ l _ x (by omega) _ (HR.out _ (by repeat' (first | exact HX.out | (apply Ext_alloc) | (apply Ext_drewN) | (refine Ext_set ?_ ?_) | exact Ext_refl _ | (simp; done) | (simp; omega))))).mono ?_; rintro e wn ⟨rfl, hb⟩; rw [HST.out]; have BAn := Lib.hid (Blk.below' BA.out hb); have BBn := Lib.hid (Blk.below' BB.out hb); have HXn := Lib.hid (Ext_trans hb (by repeat' (first | exact HX.out | (apply Ext_alloc) | (apply Ext_drewN) | (refine Ext_set ?_ ?_) | exact Ext_refl _ | (simp; done) | (simp; omega)))); clear hb HX BA BB; have HX := HXn; have BA := BAn; have BB := BBn; clear HXn BAn BBn; have e0 := BA.out.cell 0; have e1 := BA.out.cell 1; have e2 := BA.out.cell 2; have f0 := BB.out.free 0; have f1 := BB.out.free 1; have f2 := BB.out.free 2; have g0 := BB.out.cell 0; have g1 := BB.out.cell 1; have g2 := BB.out.cell 2; have z0 := BA.out.lt; have z1 := BB.out.lt)
    generalize hW : World.alloc (World.alloc (World.alloc (World.alloc wn _) _) _) _ = W
    have hEw : Ext w W := by rw [← hW]; exact Ext_alloc (Ext_alloc (Ext_alloc (Ext_alloc (HX.out))))
    have d0 : W.cell? ⟨w.heap.size, 0, none⟩ = some (.slice A l.length c0) := by rw [← hW]; exact (((((BA.out.alloc _).alloc _).alloc _).alloc _).cell 0)
    have d1 : W.cell? ⟨w.heap.size, 1, none⟩ = some (.slice A1 n1 c1) := by rw [← hW]; exact (((((BA.out.alloc _).alloc _).alloc _).alloc _).cell 1)
    have d2 : W.cell? ⟨w.heap.size, 2, none⟩ = some (.slice A2 n2 c2) := by rw [← hW]; exact (((((BA.out.alloc _).alloc _).alloc _).alloc _).cell 2)
    have d3 : W.cell? ⟨wn.heap.size + 2, 3, none⟩ = some (.int .i64 (5)) := by rw [← hW]; exact new_cell1 (by simp)
    have d4 : W.cell? ⟨wn.heap.size + 2 + 1, 3, none⟩ = some (.int .i64 0) := by rw [← hW]; exact new_cell (by simp)
    have b0 : W.cell? ⟨w.heap.size + 1, 0, none⟩ = some (.slice none 0 0) := by rw [← hW]; exact (((((BB.out.alloc _).alloc _).alloc _).alloc _).cell 0)
    have q0 : W.frozen? ⟨w.heap.size + 1, 0, none⟩ = false := by rw [← hW]; exact (((((BB.out.alloc _).alloc _).alloc _).alloc _).free 0)
    have b1 : W.cell? ⟨w.heap.size + 1, 1, none⟩ = some (.slice none 0 0) := by rw [← hW]; exact (((((BB.out.alloc _).alloc _).alloc _).alloc _).cell 1)
    have q1 : W.frozen? ⟨w.heap.size + 1, 1, none⟩ = false := by rw [← hW]; exact (((((BB.out.alloc _).alloc _).alloc _).alloc _).free 1)
    have b2 : W.cell? ⟨w.heap.size + 1, 2, none⟩ = some (.slice none 0 0) := by rw [← hW]; exact (((((BB.out.alloc _).alloc _).alloc _).alloc _).cell 2)
    have q2 : W.frozen? ⟨w.heap.size + 1, 2, none⟩ = false := by rw [← hW]; exact (((((BB.out.alloc _).alloc _).alloc _).alloc _).free 2)
    have zW : w.heap.size + 1 < W.heap.size := by rw [← hW]; simp only [World.size_alloc]; omega
    have l1 := BB.out.lt
    have l3 : w.heap.size + 1 ≠ wn.heap.size + 2 := by omega
    have l2 : wn.heap.size + 2 ≠ w.heap.size + 1 := by omega
    clear e0 e1 e2 f0 f1 f2 g0 g1 g2 hW
    go_wp2_with fail
    have zW : w.heap.size + 1 < W.drew.heap.size := zW
    have b0 : W.drew.cell? ⟨w.heap.size + 1, 0, none⟩ = some (.slice none 0 0) := b0
    have b1 : W.drew.cell? ⟨w.heap.size + 1, 1, none⟩ = some (.slice none 0 0) := b1
    have b2 : W.drew.cell? ⟨w.heap.size + 1, 2, none⟩ = some (.slice none 0 0) := b2
    have q0 : W.drew.frozen? ⟨w.heap.size + 1, 0, none⟩ = false := q0
    have q1 : W.drew.frozen? ⟨w.heap.size + 1, 1, none⟩ = false := q1
    have q2 : W.drew.frozen? ⟨w.heap.size + 1, 2, none⟩ = false := q2
    go_region_held3 (fun w' => w'.cell? ⟨w.heap.size, 0, none⟩ = some (.slice A l.length c0) ∧ w'.cell? ⟨w.heap.size, 1, none⟩ = some (.slice A1 n1 c1) ∧ w'.cell? ⟨w.heap.size, 2, none⟩ = some (.slice A2 n2 c2) ∧ w'.cell? ⟨wn.heap.size + 2, 3, none⟩ = some (.int .i64 5) ∧ Ext w w') (first | (exact keep5 hb (by assumption)) | (exact set5 (by omega) (by omega) (by omega) l2 (by omega) (set5 (by omega) (by omega) (by omega) l2 (by omega) (set5 (by omega) (by omega) (by omega) l2 (by omega) (by assumption)))) | (refine ⟨?_, ?_, ?_, ?_, ?_⟩ <;> first | exact Ext_drew hEw | (refine Ext_set (ext5 (by assumption)) ?_; simp; done) | (go_simp; done) | (simp [*]; done)))
      (first
        | (go_at_call 47; refine (ref_set A A1 A2 c0 n1 c1 n2 c2 l _ x _ (by omega) _ (HR.out _ (ext5 (by assumption)))).mono ?_; rintro e w2 ⟨v, rfl, hown, hb⟩; obtain ⟨Av, cv, rfl⟩ := own_slice hown; have HOWN := Lib.hid hown; clear hown; have hbs := hb.size; (try have b0 := keep_cell (b := w.heap.size + 1) (i := 0) hb (by assumption)); (try have q0 := keep_frozen (b := w.heap.size + 1) (i := 0) (v := .slice none 0 0) hb (by assumption) (by assumption)); (try have b1 := keep_cell (b := w.heap.size + 1) (i := 1) hb (by assumption)); (try have q1 := keep_frozen (b := w.heap.size + 1) (i := 1) (v := .slice none 0 0) hb (by assumption) (by assumption)); (try have b2 := keep_cell (b := w.heap.size + 1) (i := 2) hb (by assumption)); (try have q2 := keep_frozen (b := w.heap.size + 1) (i := 2) (v := .slice none 0 0) hb (by assumption) (by assumption)))
        | (go_at_call 48; refine (ref_word _ x _ (by omega) (by omega) _).mono ?_; rintro e w3 ⟨v3, rfl, ⟨Aw, cw, rfl, hw2⟩, hb⟩; have HB4 := Lib.hid hb; have HBT := Lib.hid (show Bts _ _ _ _ from ⟨Aw, cw, rfl, hw2⟩); clear hw2; (try have b0 := keep_cell (b := w.heap.size + 1) (i := 0) hb (by assumption)); (try have q0 := keep_frozen (b := w.heap.size + 1) (i := 0) (v := .slice none 0 0) hb (by assumption) (by assumption)); (try have b1 := keep_cell (b := w.heap.size + 1) (i := 1) hb (by assumption)); (try have q1 := keep_frozen (b := w.heap.size + 1) (i := 1) (v := .slice none 0 0) hb (by assumption) (by assumption)); (try have b2 := keep_cell (b := w.heap.size + 1) (i := 2) hb (by assumption)); (try have q2 := keep_frozen (b := w.heap.size + 1) (i := 2) (v := .slice none 0 0) hb (by assumption) (by assumption))))
    go_wp2_with fail
    refine bodyPost_ret (v := .tuple #[.agg #[.slice Av (setR l true x _).length cv, .slice A1 n1 c1, .slice A2 n2 c2], .slice Aw (wordL true x _).length cw, .int .i64 0]) (by simp [results, Try.results13, go_sem, *]; exact ⟨rfl, rfl⟩) rfl ?_
    have hS := Sl.below (Sl.of_own HOWN.out) HB4.out
    exact ref_end hS zW (Nat.le_trans (Nat.le_succ _) (Nat.le_of_lt zW)) HBT.out (Nat.lt_of_lt_of_le zW hbs) (Nat.le_trans (Nat.le_trans (Nat.le_succ _) (Nat.le_of_lt zW)) hbs) (ext5 (by assumption))
  · show Calls Try.prog _ _ w (RefP w A (.slice A1 n1 c1) (.slice A2 n2 c2) (setR l true x 2) (wordL true x 0) [.int .i64 0])
    go_enter Try.func13, Try.ntmps13
    go_upto_region 9 with (go_at_call 19; refine (ref_State A c0 _ _ l _ x (by omega) _ (HR.out _ (by repeat' (first | exact HX.out | (apply Ext_alloc) | (apply Ext_drewN) | (refine Ext_set ?_ ?_) | exact Ext_refl _ | (simp; done) | (simp; omega))))).mono ?_; rintro e wn ⟨rfl, hb⟩; rw [HST.out]; have BAn := Lib.hid (Blk.below' BA.out hb); have BBn := Lib.hid (Blk.below' BB.out hb); have HXn := Lib.hid (Ext_trans hb (by repeat' (first | exact HX.out | (apply Ext_alloc) | (apply Ext_drewN) | (refine Ext_set ?_ ?_) | exact Ext_refl _ | (simp; done) | (simp; omega)))); clear hb HX BA BB; have HX := HXn; have BA := BAn; have BB := BBn; clear HXn BAn BBn; have e0 := BA.out.cell 0; have e1 := BA.out.cell 1; have e2 := BA.out.cell 2; have f0 := BB.out.free 0; have f1 := BB.out.free 1; have f2 := BB.out.free 2; have g0 := BB.out.cell 0; have g1 := BB.out.cell 1; have g2 := BB.out.cell 2; have z0 := BA.out.lt; have z1 := BB.out.lt)
    generalize hW : World.alloc (World.alloc (World.alloc (World.alloc wn _) _) _) _ = W
    have hEw : Ext w W := by rw [← hW]; exact Ext_alloc (Ext_alloc (Ext_alloc (Ext_alloc (HX.out))))
    have d0 : W.cell? ⟨w.heap.size, 0, none⟩ = some (.slice A l.length c0) := by rw [← hW]; exact (((((BA.out.alloc _).alloc _).alloc _).alloc _).cell 0)
    have d1 : W.cell? ⟨w.heap.size, 1, none⟩ = some (.slice A1 n1 c1) := by rw [← hW]; exact (((((BA.out.alloc _).alloc _).alloc _).alloc _).cell 1)
    have d2 : W.cell? ⟨w.heap.size, 2, none⟩ = some (.slice A2 n2 c2) := by rw [← hW]; exact (((((BA.out.alloc _).alloc _).alloc _).alloc _).cell 2)
    have d3 : W.cell? ⟨wn.heap.size + 2, 4, none⟩ = some (.int .i64 (2)) := by rw [← hW]; exact new_cell1 (by simp)
    have d4 : W.cell? ⟨wn.heap.size + 2 + 1, 4, none⟩ = some (.int .i64 0) := by rw [← hW]; exact new_cell (by simp)
    have b0 : W.cell? ⟨w.heap.size + 1, 0, none⟩ = some (.slice none 0 0) := by rw [← hW]; exact (((((BB.out.alloc _).alloc _).alloc _).alloc _).cell 0)
    have q0 : W.frozen? ⟨w.heap.size + 1, 0, none⟩ = false := by rw [← hW]; exact (((((BB.out.alloc _).alloc _).alloc _).alloc _).free 0)
    have b1 : W.cell? ⟨w.heap.size + 1, 1, none⟩ = some (.slice none 0 0) := by rw [← hW]; exact (((((BB.out.alloc _).alloc _).alloc _).alloc _).cell 1)
    have q1 : W.frozen? ⟨w.heap.size + 1, 1, none⟩ = false := by rw [← hW]; exact (((((BB.out.alloc _).alloc _).alloc _).alloc _).free 1)
    have b2 : W.cell? ⟨w.heap.size + 1, 2, none⟩ = some (.slice none 0 0) := by rw [← hW]; exact (((((BB.out.alloc _).alloc _).alloc _).alloc _).cell 2)
    have q2 : W.frozen? ⟨w.heap.size + 1, 2, none⟩ = false := by rw [← hW]; exact (((((BB.out.alloc _).alloc _).alloc _).alloc _).free 2)
    have zW : w.heap.size + 1 < W.heap.size := by rw [← hW]; simp only [World.size_alloc]; omega
    have l1 := BB.out.lt
    have l3 : w.heap.size + 1 ≠ wn.heap.size + 2 := by omega
    have l2 : wn.heap.size + 2 ≠ w.heap.size + 1 := by omega
    clear e0 e1 e2 f0 f1 f2 g0 g1 g2 hW
    go_wp2_with fail
    have zW : w.heap.size + 1 < W.drew.heap.size := zW
    have b0 : W.drew.cell? ⟨w.heap.size + 1, 0, none⟩ = some (.slice none 0 0) := b0
    have b1 : W.drew.cell? ⟨w.heap.size + 1, 1, none⟩ = some (.slice none 0 0) := b1
    have b2 : W.drew.cell? ⟨w.heap.size + 1, 2, none⟩ = some (.slice none 0 0) := b2
    have q0 : W.drew.frozen? ⟨w.heap.size + 1, 0, none⟩ = false := q0
    have q1 : W.drew.frozen? ⟨w.heap.size + 1, 1, none⟩ = false := q1
    have q2 : W.drew.frozen? ⟨w.heap.size + 1, 2, none⟩ = false := q2
    go_region_held3 (fun w' => w'.cell? ⟨w.heap.size, 0, none⟩ = some (.slice A l.length c0) ∧ w'.cell? ⟨w.heap.size, 1, none⟩ = some (.slice A1 n1 c1) ∧ w'.cell? ⟨w.heap.size, 2, none⟩ = some (.slice A2 n2 c2) ∧ w'.cell? ⟨wn.heap.size + 2, 4, none⟩ = some (.int .i64 2) ∧ Ext w w') (first | (exact keep5 hb (by assumption)) | (exact set5 (by omega) (by omega) (by omega) l2 (by omega) (set5 (by omega) (by omega) (by omega) l2 (by omega) (set5 (by omega) (by omega) (by omega) l2 (by omega) (by assumption)))) | (refine ⟨?_, ?_, ?_, ?_, ?_⟩ <;> first | exact Ext_drew hEw | (refine Ext_set (ext5 (by assumption)) ?_; simp; done) | (go_simp; done) | (simp [*]; done)))
      (first
        | (go_at_call 47; refine (ref_set A A1 A2 c0 n1 c1 n2 c2 l _ x _ (by omega) _ (HR.out _ (ext5 (by assumption)))).mono ?_; rintro e w2 ⟨v, rfl, hown, hb⟩; obtain ⟨Av, cv, rfl⟩ := own_slice hown; have HOWN := Lib.hid hown; clear hown; have hbs := hb.size; (try have b0 := keep_cell (b := w.heap.size + 1) (i := 0) hb (by assumption)); (try have q0 := keep_frozen (b := w.heap.size + 1) (i := 0) (v := .slice none 0 0) hb (by assumption) (by assumption)); (try have b1 := keep_cell (b := w.heap.size + 1) (i := 1) hb (by assumption)); (try have q1 := keep_frozen (b := w.heap.size + 1) (i := 1) (v := .slice none 0 0) hb (by assumption) (by assumption)); (try have b2 := keep_cell (b := w.heap.size + 1) (i := 2) hb (by assumption)); (try have q2 := keep_frozen (b := w.heap.size + 1) (i := 2) (v := .slice none 0 0) hb (by assumption) (by assumption)))
        | (go_at_call 48; refine (ref_word _ x _ (by omega) (by omega) _).mono ?_; rintro e w3 ⟨v3, rfl, ⟨Aw, cw, rfl, hw2⟩, hb⟩; have HB4 := Lib.hid hb; have HBT := Lib.hid (show Bts _ _ _ _ from ⟨Aw, cw, rfl, hw2⟩); clear hw2; (try have b0 := keep_cell (b := w.heap.size + 1) (i := 0) hb (by assumption)); (try have q0 := keep_frozen (b := w.heap.size + 1) (i := 0) (v := .slice none 0 0) hb (by assumption) (by assumption)); (try have b1 := keep_cell (b := w.heap.size + 1) (i := 1) hb (by assumption)); (try have q1 := keep_frozen (b := w.heap.size + 1) (i := 1) (v := .slice none 0 0) hb (by assumption) (by assumption)); (try have b2 := keep_cell (b := w.heap.size + 1) (i := 2) hb (by assumption)); (try have q2 := keep_frozen (b := w.heap.size + 1) (i := 2) (v := .slice none 0 0) hb (by assumption) (by assumption))))
    go_wp2_with fail
    refine bodyPost_ret (v := .tuple #[.agg #[.slice Av (setR l true x _).length cv, .slice A1 n1 c1, .slice A2 n2 c2], .slice Aw (wordL true x _).length cw, .int .i64 0]) (by simp [results, Try.results13, go_sem, *]; exact ⟨rfl, rfl⟩) rfl ?_
    have hS := Sl.below (Sl.of_own HOWN.out) HB4.out
    exact ref_end hS zW (Nat.le_trans (Nat.le_succ _) (Nat.le_of_lt zW)) HBT.out (Nat.lt_of_lt_of_le zW hbs) (Nat.le_trans (Nat.le_trans (Nat.le_succ _) (Nat.le_of_lt zW)) hbs) (ext5 (by assumption))
  · show Calls Try.prog _ _ w (RefP w A (.slice A1 n1 c1) (.slice A2 n2 c2) l [] [.int .i64 5])
    go_enter Try.func13, Try.ntmps13
    go_upto_region 9 with (go_at_call 19; refine (ref_State A c0 _ _ l _ x (by omega) _ (HR.out _ (by repeat' (first | exact HX.out | (apply Ext_alloc) | (apply Ext_drewN) | (refine Ext_set ?_ ?_) | exact Ext_refl _ | (simp; done) | (simp; omega))))).mono ?_; rintro e wn ⟨rfl, hb⟩; rw [HST.out]; have BAn := Lib.hid (Blk.below' BA.out hb); have BBn := Lib.hid (Blk.below' BB.out hb); have HXn := Lib.hid (Ext_trans hb (by repeat' (first | exact HX.out | (apply Ext_alloc) | (apply Ext_drewN) | (refine Ext_set ?_ ?_) | exact Ext_refl _ | (simp; done) | (simp; omega)))); clear hb HX BA BB; have HX := HXn; have BA := BAn; have BB := BBn; clear HXn BAn BBn; have e0 := BA.out.cell 0; have e1 := BA.out.cell 1; have e2 := BA.out.cell 2; have f0 := BB.out.free 0; have f1 := BB.out.free 1; have f2 := BB.out.free 2; have g0 := BB.out.cell 0; have g1 := BB.out.cell 1; have g2 := BB.out.cell 2; have z0 := BA.out.lt; have z1 := BB.out.lt)
    generalize hW : World.alloc (World.alloc (World.alloc (World.alloc wn _) _) _) _ = W
    have hEw : Ext w W := by rw [← hW]; exact Ext_alloc (Ext_alloc (Ext_alloc (Ext_alloc (HX.out))))
    have d0 : W.cell? ⟨w.heap.size, 0, none⟩ = some (.slice A l.length c0) := by rw [← hW]; exact (((((BA.out.alloc _).alloc _).alloc _).alloc _).cell 0)
    have d1 : W.cell? ⟨w.heap.size, 1, none⟩ = some (.slice A1 n1 c1) := by rw [← hW]; exact (((((BA.out.alloc _).alloc _).alloc _).alloc _).cell 1)
    have d2 : W.cell? ⟨w.heap.size, 2, none⟩ = some (.slice A2 n2 c2) := by rw [← hW]; exact (((((BA.out.alloc _).alloc _).alloc _).alloc _).cell 2)
    have d3 : W.cell? ⟨wn.heap.size + 2, 5, none⟩ = some (.int .i64 (-1)) := by rw [← hW]; exact new_cell1 (by simp)
    have d4 : W.cell? ⟨wn.heap.size + 2 + 1, 5, none⟩ = some (.int .i64 0) := by rw [← hW]; exact new_cell (by simp)
    have b0 : W.cell? ⟨w.heap.size + 1, 0, none⟩ = some (.slice none 0 0) := by rw [← hW]; exact (((((BB.out.alloc _).alloc _).alloc _).alloc _).cell 0)
    have q0 : W.frozen? ⟨w.heap.size + 1, 0, none⟩ = false := by rw [← hW]; exact (((((BB.out.alloc _).alloc _).alloc _).alloc _).free 0)
    have b1 : W.cell? ⟨w.heap.size + 1, 1, none⟩ = some (.slice none 0 0) := by rw [← hW]; exact (((((BB.out.alloc _).alloc _).alloc _).alloc _).cell 1)
    have q1 : W.frozen? ⟨w.heap.size + 1, 1, none⟩ = false := by rw [← hW]; exact (((((BB.out.alloc _).alloc _).alloc _).alloc _).free 1)
    have b2 : W.cell? ⟨w.heap.size + 1, 2, none⟩ = some (.slice none 0 0) := by rw [← hW]; exact (((((BB.out.alloc _).alloc _).alloc _).alloc _).cell 2)
    have q2 : W.frozen? ⟨w.heap.size + 1, 2, none⟩ = false := by rw [← hW]; exact (((((BB.out.alloc _).alloc _).alloc _).alloc _).free 2)
    have zW : w.heap.size + 1 < W.heap.size := by rw [← hW]; simp only [World.size_alloc]; omega
    have l1 := BB.out.lt
    have l3 : w.heap.size + 1 ≠ wn.heap.size + 2 := by omega
    have l2 : wn.heap.size + 2 ≠ w.heap.size + 1 := by omega
    clear e0 e1 e2 f0 f1 f2 g0 g1 g2 hW
    go_wp2_with fail
    refine bodyPost_ret (v := .tuple #[.agg #[.slice A l.length c0, .slice A1 n1 c1, .slice A2 n2 c2], .slice none 0 0, .int .i64 5]) (by simp [results, Try.results13, go_sem, *]) rfl ?_
    have hE : ∀ W, Ext w W → RefP w A (.slice A1 n1 c1) (.slice A2 n2 c2) l [] [.int .i64 5] (.returned (.tuple #[.agg #[.slice A l.length c0, .slice A1 n1 c1, .slice A2 n2 c2], .slice none 0 0, .int .i64 5])) W := fun W h => ⟨A, c0, _, rfl, HR.out _ h, fun b _ h => h, Bts.nil _ _, h⟩
    exact hE _ (by repeat' (first | exact hEw | (refine Ext_set ?_ ?_) | (simp; done)))
end Go.Proofs.Ytioaenidkieiiaa
