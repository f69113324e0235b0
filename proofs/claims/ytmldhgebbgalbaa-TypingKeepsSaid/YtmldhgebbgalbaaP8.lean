/- The package caret: Move, Newline, On. -/
import Derived.Test.YtmldhgebbgalbaaP7
import Derived.Deep.RegionHeld3
namespace Go.Proofs.Ytmldhgebbgalbaa
set_option linter.unusedVariables false
set_option linter.unusedSimpArgs false
open Go.RowKit

theorem field_cols (a b : Int) (W : World) : (Instr.field 23 (.agg #[.int .i64 a, .int .i64 b]) 1).run Try.prog W = .ok (.int .i64 b) W := by kernel_rfl

/-- where a move by rows and columns comes to -/
theorem seekM_has (p : Pl) {r c : Int} (h : SzOk r c p.n) (a s : Int) : p.has (p.seekM a s) = true := by
  have := h.n0
  simp only [Pl.has, decide_eq_true_eq]
  unfold Pl.seekM
  split
  · exact ⟨Int.emod_nonneg _ (by omega), Int.emod_lt_of_pos _ (by omega)⟩
  · omega
def Pl.moveM (p : Pl) (rows cols : Int) : Int := (p.cur + Int.tmod rows p.rows * p.cols + cols) % p.n
theorem rowmul_bd {r c x : Int} (r0 : 1 ≤ r) (r1 : r ≤ 43) (c0 : 1 ≤ c) (c1 : c ≤ 132) (x0 : -r < x) (x1 : x < r) : -5676 ≤ x * c ∧ x * c ≤ 5676 := by
  constructor
  · have h1 : (-43) * c ≤ x * c := Int.mul_le_mul_of_nonneg_right (by omega) (by omega)
    omega
  · have h1 : x * c ≤ 43 * c := Int.mul_le_mul_of_nonneg_right (by omega) (by omega)
    omega
/-- the cell behind the cursor, as On asks it -/
def Pl.onM (p : Pl) : Int :=
  if (p.at ((p.cur + 1) % p.n)).st then
    if bitB (p.at ((p.cur + 1) % p.n)).b 32 && bitB (p.at ((p.cur + 1) % p.n)).b 16 then p.seekM ((p.cur + 1) % p.n) 1 else (p.cur + 1 + 1) % p.n
  else (p.cur + 1) % p.n
def Pl.newlineM (p : Pl) : Int := (scan p.open_ p.n (((p.cur / p.cols + 1) * p.cols) % p.n) 1 p.cells.length).getD 0

set_option maxRecDepth 100000 in
set_option maxHeartbeats 4000000 in
theorem On_any (g c : Nat) (p : Pl) (w : World) (h : PlAt w g c p) : Calls Try.prog 44 #[.pointer (some ⟨g, 0, none⟩)] w (PlTo (.int .i64 p.onM) g c (p.point p.onM) w) := by
  have n0 := h.ok.sz.n0
  have hq : p.has ((p.cur + 1) % p.n) = true := by simp [Pl.has]; exact ⟨Int.emod_nonneg _ (by omega), Int.emod_lt_of_pos _ (by omega)⟩
  have HQ := Lib.hid hq
  clear hq
  have HP := Lib.hid h
  have HZ := Lib.hid h.ok.sz
  have HX := Lib.hid (Ext_refl w)
  clear h
  generalize hx : p.at ((p.cur + 1) % p.n) = x
  have HXX := Lib.hid hx
  cases hst : x.st
  · have HS := Lib.hid hst
    have hm : p.onM = (p.cur + 1) % p.n := by unfold Pl.onM; rw [hx, hst]; rfl
    rw [hm]
    clear hst hm hx
    go_enter Try.func44, Try.ntmps44
    go_wp2_with (first | (go_at_call 26; refine (Cursor_any g c p _ (HP.out.ext (by repeat' (first | (with_reducible first | exact HX.out | apply Ext_alloc | apply Ext_drewN | apply Ext_drew | (refine Ext_set ?_ ?_) | exact Ext_refl _) | (simp only [World.size_alloc, World.size_setCell, World.size_drew, size_drewN]; omega) | (simp; done) | (simp; omega))))).mono ?_; rintro e wn ⟨rfl, hb⟩; have HXn := Lib.hid (Ext_trans hb (by repeat' (first | (with_reducible first | exact HX.out | apply Ext_alloc | apply Ext_drewN | apply Ext_drew | (refine Ext_set ?_ ?_) | exact Ext_refl _) | (simp only [World.size_alloc, World.size_setCell, World.size_drew, size_drewN]; omega) | (simp; done) | (simp; omega)))); clear hb HX; have HX := HXn; clear HXn) | (go_at_call 73; refine (by_any g c p _ _ _ (HP.out.ext (by repeat' (first | (with_reducible first | exact HX.out | apply Ext_alloc | apply Ext_drewN | apply Ext_drew | (refine Ext_set ?_ ?_) | exact Ext_refl _) | (simp only [World.size_alloc, World.size_setCell, World.size_drew, size_drewN]; omega) | (simp; done) | (simp; omega))))).mono ?_; rintro e wn ⟨rfl, hb⟩; have HXn := Lib.hid (Ext_trans hb (by repeat' (first | (with_reducible first | exact HX.out | apply Ext_alloc | apply Ext_drewN | apply Ext_drew | (refine Ext_set ?_ ?_) | exact Ext_refl _) | (simp only [World.size_alloc, World.size_setCell, World.size_drew, size_drewN]; omega) | (simp; done) | (simp; omega)))); clear hb HX; have HX := HXn; clear HXn) | (go_at_call 72; refine (to_any g c p _ _ (HP.out.ext (by repeat' (first | (with_reducible first | exact HX.out | apply Ext_alloc | apply Ext_drewN | apply Ext_drew | (refine Ext_set ?_ ?_) | exact Ext_refl _) | (simp only [World.size_alloc, World.size_setCell, World.size_drew, size_drewN]; omega) | (simp; done) | (simp; omega))))).mono ?_; rintro e wt ⟨rfl, h1, h2⟩; have H1 := Lib.hid h1; have H2 := Lib.hid ((Chg.of_ext HX.out [g, c]).trans h2); clear h1 h2) | (go_at_call 15; refine (At_any g c _ _ _ H1.out).mono ?_; rintro e wa ⟨rfl, hb⟩; simp only [point_at]; rw [HXX.out, HS.out]; have H3 := Lib.hid (H1.out.ext hb); have H4 := Lib.hid (H2.out.step hb); clear hb))
    go_ret
    exact ⟨rfl, H3.out.ext (Ext_alloc (Ext_refl _)), H4.out.alloc _⟩
  · have HS := Lib.hid hst
    cases hsk : (bitB x.b 32 && bitB x.b 16)
    all_goals have HK := Lib.hid hsk
    · have hm : p.onM = (p.cur + 1 + 1) % p.n := by unfold Pl.onM; rw [hx, hst, hsk]; rfl
      rw [hm]
      clear hst hm hsk hx
      go_enter Try.func44, Try.ntmps44
      go_wp2_with fail
      refine (Cursor_any g c p _ HP.out).mono ?_
      rintro e wn ⟨rfl, hb⟩
      have HXn := Lib.hid (Ext_trans hb (by repeat' (first | (with_reducible first | exact HX.out | apply Ext_alloc | apply Ext_drewN | apply Ext_drew | (refine Ext_set ?_ ?_) | exact Ext_refl _) | (simp only [World.size_alloc, World.size_setCell, World.size_drew, size_drewN]; omega) | (simp; done) | (simp; omega)))); clear hb HX; have HX := HXn; clear HXn
      go_wp2_with fail
      refine (by_any g c p _ _ _ (HP.out.ext HX.out)).mono ?_
      rintro e wn ⟨rfl, hb⟩
      have HXn := Lib.hid (Ext_trans hb (by repeat' (first | (with_reducible first | exact HX.out | apply Ext_alloc | apply Ext_drewN | apply Ext_drew | (refine Ext_set ?_ ?_) | exact Ext_refl _) | (simp only [World.size_alloc, World.size_setCell, World.size_drew, size_drewN]; omega) | (simp; done) | (simp; omega)))); clear hb HX; have HX := HXn; clear HXn
      go_wp2_with fail
      refine (to_any g c p _ _ (HP.out.ext HX.out)).mono ?_
      rintro e wt ⟨rfl, h1, h2⟩
      have H1 := Lib.hid h1
      have H2 := Lib.hid ((Chg.of_ext HX.out [g, c]).trans h2)
      clear h1 h2 HX
      go_wp2_with fail
      refine (At_any g c _ _ _ H1.out).mono ?_
      rintro e wa ⟨rfl, hb⟩
      simp only [point_at]
      rw [HXX.out, HS.out]
      have hBk := Blk.new wa 46 #[.int .u8 x.b, .bool x.ge, .bool true, .int .u8 x.li, .int .u8 x.co]
      have hE := Ext_alloc (o := .cells #[.int .u8 x.b, .bool x.ge, .bool true, .int .u8 x.li, .int .u8 x.co] 46) hb
      go_wp2_with fail
      generalize wa.alloc (.cells #[.int .u8 x.b, .bool x.ge, .bool true, .int .u8 x.li, .int .u8 x.co] 46) = W1 at *
      generalize wa.heap.size = b1 at *
      have k2 := hBk.cell 2
      simp at k2
      have H3 := Lib.hid (H1.out.ext hE)
      have H4 := Lib.hid (H2.out.step hE)
      have iB : In b1 W1 := hBk.lt
      clear hb hE
      refine (Skip_any _ _).mono ?_
      rintro e wn ⟨rfl, hb⟩
      rw [HK.out]
      have j2 := (cell_ext hb iB).trans k2
      have HX := Lib.hid hb
      clear hb
      go_wp2_with fail
      refine (by_any g c _ _ _ _ (H3.out.ext HX.out)).mono ?_
      rintro e wn ⟨rfl, hb⟩
      simp only [point_n]
      have HXn := Lib.hid (Ext_trans hb (by repeat' (first | (with_reducible first | exact HX.out | apply Ext_alloc | apply Ext_drewN | apply Ext_drew | (refine Ext_set ?_ ?_) | exact Ext_refl _) | (simp only [World.size_alloc, World.size_setCell, World.size_drew, size_drewN]; omega) | (simp; done) | (simp; omega)))); clear hb HX; have HX := HXn; clear HXn
      go_wp2_with fail
      refine (to_any g c _ _ _ (H3.out.ext HX.out)).mono ?_
      rintro e wz ⟨rfl, h1, h2⟩
      have H5 := Lib.hid h1
      have H6 := Lib.hid h2
      clear h1 h2
      go_wp2
      go_ret
      have HR := Lib.hid (show p.has ((p.cur + 1 + 1) % p.n) = true by simp [Pl.has]; exact ⟨Int.emod_nonneg _ (by omega), Int.emod_lt_of_pos _ (by omega)⟩)
      refine ⟨by simp, ?_, (H4.out.step HX.out).trans H6.out⟩
      have := H5.out
      rw [point_point _ _ _ (by simp [HR.out])] at this
      simpa using this
    · have hm : p.onM = p.seekM ((p.cur + 1) % p.n) 1 := by unfold Pl.onM; rw [hx, hst, hsk]; rfl
      rw [hm]
      clear hst hm hsk hx
      go_enter Try.func44, Try.ntmps44
      go_wp2_with fail
      refine (Cursor_any g c p _ HP.out).mono ?_
      rintro e wn ⟨rfl, hb⟩
      have HXn := Lib.hid (Ext_trans hb (by repeat' (first | (with_reducible first | exact HX.out | apply Ext_alloc | apply Ext_drewN | apply Ext_drew | (refine Ext_set ?_ ?_) | exact Ext_refl _) | (simp only [World.size_alloc, World.size_setCell, World.size_drew, size_drewN]; omega) | (simp; done) | (simp; omega)))); clear hb HX; have HX := HXn; clear HXn
      go_wp2_with fail
      refine (by_any g c p _ _ _ (HP.out.ext HX.out)).mono ?_
      rintro e wn ⟨rfl, hb⟩
      have HXn := Lib.hid (Ext_trans hb (by repeat' (first | (with_reducible first | exact HX.out | apply Ext_alloc | apply Ext_drewN | apply Ext_drew | (refine Ext_set ?_ ?_) | exact Ext_refl _) | (simp only [World.size_alloc, World.size_setCell, World.size_drew, size_drewN]; omega) | (simp; done) | (simp; omega)))); clear hb HX; have HX := HXn; clear HXn
      go_wp2_with fail
      refine (to_any g c p _ _ (HP.out.ext HX.out)).mono ?_
      rintro e wt ⟨rfl, h1, h2⟩
      have H1 := Lib.hid h1
      have H2 := Lib.hid ((Chg.of_ext HX.out [g, c]).trans h2)
      clear h1 h2 HX
      go_wp2_with fail
      refine (At_any g c _ _ _ H1.out).mono ?_
      rintro e wa ⟨rfl, hb⟩
      simp only [point_at]
      rw [HXX.out, HS.out]
      have hBk := Blk.new wa 46 #[.int .u8 x.b, .bool x.ge, .bool true, .int .u8 x.li, .int .u8 x.co]
      have hE := Ext_alloc (o := .cells #[.int .u8 x.b, .bool x.ge, .bool true, .int .u8 x.li, .int .u8 x.co] 46) hb
      go_wp2_with fail
      generalize wa.alloc (.cells #[.int .u8 x.b, .bool x.ge, .bool true, .int .u8 x.li, .int .u8 x.co] 46) = W1 at *
      generalize wa.heap.size = b1 at *
      have k2 := hBk.cell 2
      simp at k2
      have H3 := Lib.hid (H1.out.ext hE)
      have H4 := Lib.hid (H2.out.step hE)
      have iB : In b1 W1 := hBk.lt
      clear hb hE
      refine (Skip_any _ _).mono ?_
      rintro e wn ⟨rfl, hb⟩
      rw [HK.out]
      have j2 := (cell_ext hb iB).trans k2
      have HX := Lib.hid hb
      clear hb
      go_wp2_with fail
      refine (Tab_any g c _ _ (H3.out.ext HX.out)).mono ?_
      rintro e wz ⟨rfl, h1, h2⟩
      rw [point_seekM, point_cur _ _ HQ.out] at h1 ⊢
      have H5 := Lib.hid h1
      have H6 := Lib.hid h2
      clear h1 h2
      go_wp2
      go_ret
      refine ⟨rfl, ?_, (H4.out.step HX.out).trans H6.out⟩
      have := H5.out
      rwa [point_point _ _ _ (seekM_has p HZ.out _ _)] at this
end Go.Proofs.Ytmldhgebbgalbaa
