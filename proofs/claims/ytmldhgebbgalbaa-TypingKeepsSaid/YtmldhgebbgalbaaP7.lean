/- The package caret: where the cursor goes. -/
import Derived.Test.YtmldhgebbgalbaaP6
import Derived.Deep.RegionWith
namespace Go.Proofs.Ytmldhgebbgalbaa
set_option linter.unusedVariables false
set_option linter.unusedSimpArgs false
open Go.RowKit

section
variable (p : Pl) (q i s : Int)
theorem point_cells : (p.point q).cells = p.cells := by unfold Pl.point; split <;> rfl
theorem point_rows : (p.point q).rows = p.rows := by unfold Pl.point; split <;> rfl
theorem point_cols : (p.point q).cols = p.cols := by unfold Pl.point; split <;> rfl
theorem point_n : (p.point q).n = p.n := by unfold Pl.point; split <;> rfl
theorem point_at : (p.point q).at i = p.at i := by unfold Pl.point; split <;> rfl
theorem point_st : (p.point q).st = p.st := by unfold Pl.point; split <;> rfl
theorem point_lookM : (p.point q).lookM i s = p.lookM i s := by unfold Pl.point; split <;> rfl
theorem point_before : (p.point q).before i = p.before i := by unfold Pl.point; split <;> rfl
theorem point_after : (p.point q).after i = p.after i := by unfold Pl.point; split <;> rfl
theorem point_open : (p.point q).open_ = p.open_ := by unfold Pl.point; split <;> rfl
theorem point_homeM : (p.point q).homeM = p.homeM := by unfold Pl.point; split <;> rfl
theorem point_has : (p.point q).has i = p.has i := by unfold Pl.point; split <;> rfl
theorem point_point (r : Int) (hr : p.has r = true) : (p.point q).point r = p.point r := by
  unfold Pl.point
  cases h : p.has q
  · simp
  · have : Pl.has { p with cur := q } r = p.has r := rfl
    simp [this, hr]
theorem point_cur (h : p.has q = true) : (p.point q).cur = q := by unfold Pl.point; rw [if_pos h]
end

theorem to_any (g c : Nat) (p : Pl) (i : Int) (w : World) (h : PlAt w g c p) : Calls Try.prog 72 #[.pointer (some ⟨g, 0, none⟩), .int .i64 i] w (PlTo (.int .i64 i) g c (p.point i) w) := by
  have HP := Lib.hid h
  clear h
  go_enter Try.func72, Try.ntmps72
  go_wp2_with fail
  refine (Point_any g c p _ _ HP.out).mono ?_
  rintro e wn ⟨rfl, h1, h2⟩
  have H1 := Lib.hid h1
  have H2 := Lib.hid h2
  clear h1 h2
  go_wp2
  go_ret
  exact ⟨rfl, H1.out, H2.out⟩
theorem by_any (g c : Nat) (p : Pl) (i k : Int) (w : World) (h : PlAt w g c p) : Calls Try.prog 73 #[.pointer (some ⟨g, 0, none⟩), .int .i64 i, .int .i64 k] w (Ret (.int .i64 ((i + k) % p.n)) w) := by
  have HP := Lib.hid h
  have HZ := Lib.hid h.ok.sz
  have HX := Lib.hid (Ext_refl w)
  clear h
  go_enter Try.func73, Try.ntmps73
  go_wp2_with (first | (go_at_call 79; refine (Size_any g c p _ (HP.out.ext (by repeat' (first | (with_reducible first | exact HX.out | apply Ext_alloc | apply Ext_drewN | apply Ext_drew | (refine Ext_set ?_ ?_) | exact Ext_refl _) | (simp only [World.size_alloc, World.size_setCell, World.size_drew, size_drewN]; omega) | (simp; done) | (simp; omega))))).mono ?_; rintro e wn ⟨rfl, hb⟩; have HXn := Lib.hid (Ext_trans hb (by repeat' (first | (with_reducible first | exact HX.out | apply Ext_alloc | apply Ext_drewN | apply Ext_drew | (refine Ext_set ?_ ?_) | exact Ext_refl _) | (simp only [World.size_alloc, World.size_setCell, World.size_drew, size_drewN]; omega) | (simp; done) | (simp; omega)))); clear hb HX; have HX := HXn; clear HXn) | (go_at_call 78; refine (Move_any _ _ _ _ p.n HZ.out _).mono ?_; rintro e wn ⟨rfl, hb⟩; have HXn := Lib.hid (Ext_trans hb (by repeat' (first | (with_reducible first | exact HX.out | apply Ext_alloc | apply Ext_drewN | apply Ext_drew | (refine Ext_set ?_ ?_) | exact Ext_refl _) | (simp only [World.size_alloc, World.size_setCell, World.size_drew, size_drewN]; omega) | (simp; done) | (simp; omega)))); clear hb HX; have HX := HXn; clear HXn))
  go_ret
  exact ⟨rfl, (by repeat' (first | (with_reducible first | exact HX.out | apply Ext_alloc | apply Ext_drewN | apply Ext_drew | (refine Ext_set ?_ ?_) | exact Ext_refl _) | (simp only [World.size_alloc, World.size_setCell, World.size_drew, size_drewN]; omega) | (simp; done) | (simp; omega)))⟩

/-- does an open field's attribute stand at a place? -/
def Pl.copen (p : Pl) (i : Int) : Bool := if p.before i < 0 then false else p.before i == i && decide (0 < p.lenAt (p.before i)) && !bitB (p.attrAt (p.before i)) 32
theorem point_copen (p : Pl) (q : Int) : (p.point q).copen = p.copen := by unfold Pl.point; split <;> rfl
set_option maxRecDepth 100000 in
set_option maxHeartbeats 2000000 in
theorem copen_any (g c : Nat) (p : Pl) (i : Int) (w : World) (h : PlAt w g c p) : Calls Try.prog 87 #[.pointer (some ⟨g, 0, none⟩), .int .i64 i] w (Ret (.bool (p.copen i)) w) := by
  have HP := Lib.hid h
  have HZ := Lib.hid h.ok.sz
  have HX := Lib.hid (Ext_refl w)
  clear h
  unfold Pl.copen
  by_cases hneg : p.before i < 0
  · have HO := Lib.hid (show p.ofV i = .tuple #[.agg #[.int .i64 0, .int .i64 0, .int .u8 0], .bool false] by unfold Pl.ofV; rw [if_pos hneg])
    rw [if_pos hneg]
    clear hneg
    go_enter Try.func87, Try.ntmps87
    go_wp2_with (go_at_call 16; refine (Of_any g c p _ _ (HP.out.ext (by repeat' (first | (with_reducible first | exact HX.out | apply Ext_alloc | apply Ext_drewN | apply Ext_drew | (refine Ext_set ?_ ?_) | exact Ext_refl _) | (simp only [World.size_alloc, World.size_setCell, World.size_drew, size_drewN]; omega) | (simp; done) | (simp; omega))))).mono ?_; rintro e wn ⟨rfl, hb⟩; rw [HO.out]; have HXn := Lib.hid (Ext_trans hb (by repeat' (first | (with_reducible first | exact HX.out | apply Ext_alloc | apply Ext_drewN | apply Ext_drew | (refine Ext_set ?_ ?_) | exact Ext_refl _) | (simp only [World.size_alloc, World.size_setCell, World.size_drew, size_drewN]; omega) | (simp; done) | (simp; omega)))); clear hb HX; have HX := HXn; clear HXn)
    go_ret
    exact ⟨rfl, (by repeat' (first | (with_reducible first | exact HX.out | apply Ext_alloc | apply Ext_drewN | apply Ext_drew | (refine Ext_set ?_ ?_) | exact Ext_refl _) | (simp only [World.size_alloc, World.size_setCell, World.size_drew, size_drewN]; omega) | (simp; done) | (simp; omega)))⟩
  · have HO := Lib.hid (show p.ofV i = .tuple #[.agg #[.int .i64 (p.before i), .int .i64 (p.lenAt (p.before i)), .int .u8 (p.attrAt (p.before i))], .bool true] by unfold Pl.ofV; rw [if_neg hneg])
    rw [if_neg hneg]
    clear hneg
    generalize p.before i = q at *
    generalize p.lenAt q = ln at *
    generalize p.attrAt q = at_ at *
    by_cases hq : q = i
    · subst hq
      by_cases hl : 0 < ln
      · go_enter Try.func87, Try.ntmps87
        go_wp2_with (first | (go_at_call 16; refine (Of_any g c p _ _ (HP.out.ext (by repeat' (first | (with_reducible first | exact HX.out | apply Ext_alloc | apply Ext_drewN | apply Ext_drew | (refine Ext_set ?_ ?_) | exact Ext_refl _) | (simp only [World.size_alloc, World.size_setCell, World.size_drew, size_drewN]; omega) | (simp; done) | (simp; omega))))).mono ?_; rintro e wn ⟨rfl, hb⟩; rw [HO.out]; have HXn := Lib.hid (Ext_trans hb (by repeat' (first | (with_reducible first | exact HX.out | apply Ext_alloc | apply Ext_drewN | apply Ext_drew | (refine Ext_set ?_ ?_) | exact Ext_refl _) | (simp only [World.size_alloc, World.size_setCell, World.size_drew, size_drewN]; omega) | (simp; done) | (simp; omega)))); clear hb HX; have HX := HXn; clear HXn) | (go_at_call 51; refine (Protected_any _ _).mono ?_; rintro e wn ⟨rfl, hb⟩; have HXn := Lib.hid (Ext_trans hb (by repeat' (first | (with_reducible first | exact HX.out | apply Ext_alloc | apply Ext_drewN | apply Ext_drew | (refine Ext_set ?_ ?_) | exact Ext_refl _) | (simp only [World.size_alloc, World.size_setCell, World.size_drew, size_drewN]; omega) | (simp; done) | (simp; omega)))); clear hb HX; have HX := HXn; clear HXn))
        go_ret
        exact ⟨by simp [hl], (by repeat' (first | (with_reducible first | exact HX.out | apply Ext_alloc | apply Ext_drewN | apply Ext_drew | (refine Ext_set ?_ ?_) | exact Ext_refl _) | (simp only [World.size_alloc, World.size_setCell, World.size_drew, size_drewN]; omega) | (simp; done) | (simp; omega)))⟩
      · go_enter Try.func87, Try.ntmps87
        go_wp2_with (go_at_call 16; refine (Of_any g c p _ _ (HP.out.ext (by repeat' (first | (with_reducible first | exact HX.out | apply Ext_alloc | apply Ext_drewN | apply Ext_drew | (refine Ext_set ?_ ?_) | exact Ext_refl _) | (simp only [World.size_alloc, World.size_setCell, World.size_drew, size_drewN]; omega) | (simp; done) | (simp; omega))))).mono ?_; rintro e wn ⟨rfl, hb⟩; rw [HO.out]; have HXn := Lib.hid (Ext_trans hb (by repeat' (first | (with_reducible first | exact HX.out | apply Ext_alloc | apply Ext_drewN | apply Ext_drew | (refine Ext_set ?_ ?_) | exact Ext_refl _) | (simp only [World.size_alloc, World.size_setCell, World.size_drew, size_drewN]; omega) | (simp; done) | (simp; omega)))); clear hb HX; have HX := HXn; clear HXn)
        go_ret
        exact ⟨by rw [show decide (0 < ln) = false from by rw [decide_eq_false]; omega]; rfl, (by repeat' (first | (with_reducible first | exact HX.out | apply Ext_alloc | apply Ext_drewN | apply Ext_drew | (refine Ext_set ?_ ?_) | exact Ext_refl _) | (simp only [World.size_alloc, World.size_setCell, World.size_drew, size_drewN]; omega) | (simp; done) | (simp; omega)))⟩
    · have hq1 : (q == i) = false := by rw [beq_eq_false_iff_ne]; exact hq
      have HQ := Lib.hid hq
      clear hq
      go_enter Try.func87, Try.ntmps87
      go_wp2_with (go_at_call 16; refine (Of_any g c p _ _ (HP.out.ext (by repeat' (first | (with_reducible first | exact HX.out | apply Ext_alloc | apply Ext_drewN | apply Ext_drew | (refine Ext_set ?_ ?_) | exact Ext_refl _) | (simp only [World.size_alloc, World.size_setCell, World.size_drew, size_drewN]; omega) | (simp; done) | (simp; omega))))).mono ?_; rintro e wn ⟨rfl, hb⟩; rw [HO.out]; have HXn := Lib.hid (Ext_trans hb (by repeat' (first | (with_reducible first | exact HX.out | apply Ext_alloc | apply Ext_drewN | apply Ext_drew | (refine Ext_set ?_ ?_) | exact Ext_refl _) | (simp only [World.size_alloc, World.size_setCell, World.size_drew, size_drewN]; omega) | (simp; done) | (simp; omega)))); clear hb HX; have HX := HXn; clear HXn)
      go_ret
      exact ⟨by rw [hq1]; rfl, (by repeat' (first | (with_reducible first | exact HX.out | apply Ext_alloc | apply Ext_drewN | apply Ext_drew | (refine Ext_set ?_ ?_) | exact Ext_refl _) | (simp only [World.size_alloc, World.size_setCell, World.size_drew, size_drewN]; omega) | (simp; done) | (simp; omega)))⟩

/-- the first place of an open field, looked for from a place on -/
def Pl.seekM (p : Pl) (at_ step : Int) : Int := match scan p.copen p.n at_ step p.cells.length with | some x => (x + 1) % p.n | none => 0
theorem point_seekM (p : Pl) (q a s : Int) : (p.point q).seekM a s = p.seekM a s := by unfold Pl.point; split <;> rfl
set_option maxRecDepth 100000 in
set_option maxHeartbeats 2000000 in
theorem seek_any (g c : Nat) (p : Pl) (at_ step : Int) (hs : step = 1 ∨ step = -1) (w : World) (h : PlAt w g c p) :
    Calls Try.prog 80 #[.pointer (some ⟨g, 0, none⟩), .int .i64 at_, .int .i64 step] w (Ret (.int .i64 (p.seekM at_ step)) w) := by
  have n0 := h.ok.sz.n0
  have n1 := h.ok.sz.n1
  have HN := Lib.hid (show p.n = (p.cells.length : Int) from rfl)
  have HP := Lib.hid h
  have HZ := Lib.hid h.ok.sz
  have HX := Lib.hid (Ext_refl w)
  clear h
  go_enter Try.func80, Try.ntmps80
  go_wp2_with (go_at_call 22; refine (Len_any g c p _ (HP.out.ext (by repeat' (first | (with_reducible first | exact HX.out | apply Ext_alloc | apply Ext_drewN | apply Ext_drew | (refine Ext_set ?_ ?_) | exact Ext_refl _) | (simp only [World.size_alloc, World.size_setCell, World.size_drew, size_drewN]; omega) | (simp; done) | (simp; omega))))).mono ?_; rintro e wn ⟨rfl, hb⟩; have HXn := Lib.hid (Ext_trans hb (by repeat' (first | (with_reducible first | exact HX.out | apply Ext_alloc | apply Ext_drewN | apply Ext_drew | (refine Ext_set ?_ ?_) | exact Ext_refl _) | (simp only [World.size_alloc, World.size_setCell, World.size_drew, size_drewN]; omega) | (simp; done) | (simp; omega)))); clear hb HX; have HX := HXn; clear HXn)
  go_loopw [7, 8, 11] (fun _ _ v wr => ∃ k : Nat, (k : Int) ≤ p.n ∧ v = .int .i64 k ∧ Hid (scan p.copen p.n at_ step k = none) ∧ Hid (Ext w wr)) (fun _ _ v _ => p.cells.length - (intOf v).toNat)
  case atStart => exact ⟨0, by omega, rfl, rfl, HX.out⟩
  case round =>
    obtain ⟨k, hk, rfl, HS, HX⟩ := hrel
    by_cases hlt : (k : Int) < p.n
    · have HW := Lib.hid (show (at_ + wrap64 ((k : Int) * step)) % p.n = plc p.n at_ step k by
        have : wrap64 ((k : Int) * step) = (k : Int) * step := by rcases hs with rfl | rfl <;> unfold wrap64 <;> omega
        rw [this]; rfl)
      have HC := Lib.hid (scan_none_succ HS.out)
      cases hst : p.copen (plc p.n at_ step k)
      all_goals
        have HT := Lib.hid hst
        clear hst
        go_wp2_with fail
        refine (by_any g c p _ _ _ (HP.out.ext HX.out)).mono ?_
        rintro e wn ⟨rfl, hb⟩
        rw [HW.out]
        have HXn := Lib.hid (Ext_trans hb (by repeat' (first | (with_reducible first | exact HX.out | apply Ext_alloc | apply Ext_drewN | apply Ext_drew | (refine Ext_set ?_ ?_) | exact Ext_refl _) | (simp only [World.size_alloc, World.size_setCell, World.size_drew, size_drewN]; omega) | (simp; done) | (simp; omega)))); clear hb HX; have HX := HXn; clear HXn
        go_wp2_with fail
        refine (copen_any g c p _ _ (HP.out.ext HX.out)).mono ?_
        rintro e wn ⟨rfl, hb⟩
        rw [HT.out]
        have HXn := Lib.hid (Ext_trans hb (by repeat' (first | (with_reducible first | exact HX.out | apply Ext_alloc | apply Ext_drewN | apply Ext_drew | (refine Ext_set ?_ ?_) | exact Ext_refl _) | (simp only [World.size_alloc, World.size_setCell, World.size_drew, size_drewN]; omega) | (simp; done) | (simp; omega)))); clear hb HX; have HX := HXn; clear HXn
        go_wp2_with (go_at_call 73; refine (by_any g c p _ _ _ (HP.out.ext (by repeat' (first | (with_reducible first | exact HX.out | apply Ext_alloc | apply Ext_drewN | apply Ext_drew | (refine Ext_set ?_ ?_) | exact Ext_refl _) | (simp only [World.size_alloc, World.size_setCell, World.size_drew, size_drewN]; omega) | (simp; done) | (simp; omega))))).mono ?_; rintro e wn ⟨rfl, hb⟩; have HXn := Lib.hid (Ext_trans hb (by repeat' (first | (with_reducible first | exact HX.out | apply Ext_alloc | apply Ext_drewN | apply Ext_drew | (refine Ext_set ?_ ?_) | exact Ext_refl _) | (simp only [World.size_alloc, World.size_setCell, World.size_drew, size_drewN]; omega) | (simp; done) | (simp; omega)))); clear hb HX; have HX := HXn; clear HXn)
      · go_roundw
        case rel => exact ⟨k + 1, by omega, by go_num, by rw [HC.out, HT.out]; rfl, HX.out⟩
        case measure => simp [intOf]; have := HN.out; omega
      · go_ret
        exact ⟨by unfold Pl.seekM; rw [scan_mono (k := p.cells.length) (m := k + 1) (by have := HN.out; omega) (by rw [HC.out, HT.out]; rfl)]; rfl, HX.out⟩
    · have : k = p.cells.length := by have := HN.out; omega
      subst this
      go_wp2
      go_ret
      exact ⟨by unfold Pl.seekM; rw [HS.out]; rfl, HX.out⟩

/-- behind a cursor's move: what is handed back, and the plane -/
def CurP (q : Int) (g c : Nat) (p : Pl) (w : World) (e : Ending) (w' : World) : Prop := PlTo (.int .i64 q) g c (p.point q) w e w'
theorem Tab_any (g c : Nat) (p : Pl) (w : World) (h : PlAt w g c p) : Calls Try.prog 55 #[.pointer (some ⟨g, 0, none⟩)] w (PlTo (.int .i64 (p.seekM p.cur 1)) g c (p.point (p.seekM p.cur 1)) w) := by
  have HP := Lib.hid h
  have HZ := Lib.hid h.ok.sz
  have HX := Lib.hid (Ext_refl w)
  clear h
  go_enter Try.func55, Try.ntmps55
  go_wp2_with (first | (go_at_call 26; refine (Cursor_any g c p _ (HP.out.ext (by repeat' (first | (with_reducible first | exact HX.out | apply Ext_alloc | apply Ext_drewN | apply Ext_drew | (refine Ext_set ?_ ?_) | exact Ext_refl _) | (simp only [World.size_alloc, World.size_setCell, World.size_drew, size_drewN]; omega) | (simp; done) | (simp; omega))))).mono ?_; rintro e wn ⟨rfl, hb⟩; have HXn := Lib.hid (Ext_trans hb (by repeat' (first | (with_reducible first | exact HX.out | apply Ext_alloc | apply Ext_drewN | apply Ext_drew | (refine Ext_set ?_ ?_) | exact Ext_refl _) | (simp only [World.size_alloc, World.size_setCell, World.size_drew, size_drewN]; omega) | (simp; done) | (simp; omega)))); clear hb HX; have HX := HXn; clear HXn) | (go_at_call 80; refine (seek_any g c p _ _ (.inl rfl) _ (HP.out.ext (by repeat' (first | (with_reducible first | exact HX.out | apply Ext_alloc | apply Ext_drewN | apply Ext_drew | (refine Ext_set ?_ ?_) | exact Ext_refl _) | (simp only [World.size_alloc, World.size_setCell, World.size_drew, size_drewN]; omega) | (simp; done) | (simp; omega))))).mono ?_; rintro e wn ⟨rfl, hb⟩; have HXn := Lib.hid (Ext_trans hb (by repeat' (first | (with_reducible first | exact HX.out | apply Ext_alloc | apply Ext_drewN | apply Ext_drew | (refine Ext_set ?_ ?_) | exact Ext_refl _) | (simp only [World.size_alloc, World.size_setCell, World.size_drew, size_drewN]; omega) | (simp; done) | (simp; omega)))); clear hb HX; have HX := HXn; clear HXn) | (go_at_call 72; refine (to_any g c p _ _ (HP.out.ext (by repeat' (first | (with_reducible first | exact HX.out | apply Ext_alloc | apply Ext_drewN | apply Ext_drew | (refine Ext_set ?_ ?_) | exact Ext_refl _) | (simp only [World.size_alloc, World.size_setCell, World.size_drew, size_drewN]; omega) | (simp; done) | (simp; omega))))).mono ?_; rintro e wt ⟨rfl, h1, h2⟩; have H1 := Lib.hid h1; have H2 := Lib.hid h2; clear h1 h2))
  go_ret
  exact ⟨rfl, H1.out, (Chg.of_ext HX.out _).trans H2.out⟩
def Pl.backM (p : Pl) : Int :=
  if 0 ≤ p.before p.cur ∧ p.copen (p.before p.cur) = true ∧ p.cur ≠ p.before p.cur ∧ p.cur ≠ (p.before p.cur + 1) % p.n then (p.before p.cur + 1) % p.n
  else p.seekM ((p.cur + -2) % p.n) (-1)
end Go.Proofs.Ytmldhgebbgalbaa
