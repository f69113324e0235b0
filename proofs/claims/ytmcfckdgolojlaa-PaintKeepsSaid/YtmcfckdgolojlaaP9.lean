/- The package caret: Newline. Same and Clone of planes. -/
import Derived.Test.YtmcfckdgolojlaaP8
namespace Go.Proofs.Ytmcfckdgolojlaa
set_option linter.unusedVariables false
set_option linter.unusedSimpArgs false
open Go.RowKit

theorem row_bd {r c n k : Int} (h : SzOk r c n) (h0 : 0 ≤ k) (h1 : k < n) : 0 ≤ k / c ∧ k / c < 43 ∧ 0 ≤ (k / c + 1) * c ∧ (k / c + 1) * c ≤ 5676 := by
  have c0 := h.c0
  have hq : k / c < r := by
    rw [Int.ediv_lt_iff_lt_mul (by omega)]
    have := h.mul; omega
  have hq0 : 0 ≤ k / c := Int.ediv_nonneg h0 (by omega)
  have := h.r1
  refine ⟨hq0, by omega, Int.mul_nonneg (by omega) (by omega), ?_⟩
  have h3 := Int.mul_le_mul (show k / c + 1 ≤ 43 by omega) h.c1 (by omega) (by omega)
  simpa using h3
set_option maxRecDepth 100000 in
set_option maxHeartbeats 4000000 in
theorem Newline_any (g c : Nat) (p : Pl) (w : World) (h : PlAt w g c p) : Calls Try.prog 26 #[.pointer (some ⟨g, 0, none⟩)] w (PlTo (.int .i64 p.newlineM) g c (p.point p.newlineM) w) := by
  have n0 := h.ok.sz.n0
  have n1 := h.ok.sz.n1
  have HN := Lib.hid (show p.n = (p.cells.length : Int) from rfl)
  have k0 := h.ok.k0
  have k1 := h.ok.k1
  obtain ⟨q0, q1, q2, q3⟩ := row_bd h.ok.sz k0 k1
  have c0 := h.ok.sz.c0
  have c1 := h.ok.sz.c1
  have HP := Lib.hid h
  have HZ := Lib.hid h.ok.sz
  have HX := Lib.hid (Ext_refl w)
  clear h
  have hF := field_cols
  go_enter Try.func26, Try.ntmps26
  go_wp2_with (first | (go_at_call 62; refine (Size_any g c p _ (HP.out.ext (by repeat' (first | (with_reducible first | exact HX.out | apply Ext_alloc | apply Ext_drewN | apply Ext_drew | (refine Ext_set ?_ ?_) | exact Ext_refl _) | (simp only [World.size_alloc, World.size_setCell, World.size_drew, size_drewN]; omega) | (simp; done) | (simp; omega))))).mono ?_; rintro e wn ⟨rfl, hb⟩; have HXn := Lib.hid (Ext_trans hb (by repeat' (first | (with_reducible first | exact HX.out | apply Ext_alloc | apply Ext_drewN | apply Ext_drew | (refine Ext_set ?_ ?_) | exact Ext_refl _) | (simp only [World.size_alloc, World.size_setCell, World.size_drew, size_drewN]; omega) | (simp; done) | (simp; omega)))); clear hb HX; have HX := HXn; clear HXn) | (go_at_call 19; refine (Cursor_any g c p _ (HP.out.ext (by repeat' (first | (with_reducible first | exact HX.out | apply Ext_alloc | apply Ext_drewN | apply Ext_drew | (refine Ext_set ?_ ?_) | exact Ext_refl _) | (simp only [World.size_alloc, World.size_setCell, World.size_drew, size_drewN]; omega) | (simp; done) | (simp; omega))))).mono ?_; rintro e wn ⟨rfl, hb⟩; have HXn := Lib.hid (Ext_trans hb (by repeat' (first | (with_reducible first | exact HX.out | apply Ext_alloc | apply Ext_drewN | apply Ext_drew | (refine Ext_set ?_ ?_) | exact Ext_refl _) | (simp only [World.size_alloc, World.size_setCell, World.size_drew, size_drewN]; omega) | (simp; done) | (simp; omega)))); clear hb HX; have HX := HXn; clear HXn) | (go_at_call 63; refine (Split_any _ _ p.n _ HZ.out k0 k1 _).mono ?_; rintro e wn ⟨rfl, hb⟩; have HXn := Lib.hid (Ext_trans hb (by repeat' (first | (with_reducible first | exact HX.out | apply Ext_alloc | apply Ext_drewN | apply Ext_drew | (refine Ext_set ?_ ?_) | exact Ext_refl _) | (simp only [World.size_alloc, World.size_setCell, World.size_drew, size_drewN]; omega) | (simp; done) | (simp; omega)))); clear hb HX; have HX := HXn; clear HXn) | (go_at_call 57; refine (by_any g c p _ _ _ (HP.out.ext (by repeat' (first | (with_reducible first | exact HX.out | apply Ext_alloc | apply Ext_drewN | apply Ext_drew | (refine Ext_set ?_ ?_) | exact Ext_refl _) | (simp only [World.size_alloc, World.size_setCell, World.size_drew, size_drewN]; omega) | (simp; done) | (simp; omega))))).mono ?_; rintro e wn ⟨rfl, hb⟩; have HXn := Lib.hid (Ext_trans hb (by repeat' (first | (with_reducible first | exact HX.out | apply Ext_alloc | apply Ext_drewN | apply Ext_drew | (refine Ext_set ?_ ?_) | exact Ext_refl _) | (simp only [World.size_alloc, World.size_setCell, World.size_drew, size_drewN]; omega) | (simp; done) | (simp; omega)))); clear hb HX; have HX := HXn; clear HXn) | (go_at_call 18; refine (Len_any g c p _ (HP.out.ext (by repeat' (first | (with_reducible first | exact HX.out | apply Ext_alloc | apply Ext_drewN | apply Ext_drew | (refine Ext_set ?_ ?_) | exact Ext_refl _) | (simp only [World.size_alloc, World.size_setCell, World.size_drew, size_drewN]; omega) | (simp; done) | (simp; omega))))).mono ?_; rintro e wn ⟨rfl, hb⟩; have HXn := Lib.hid (Ext_trans hb (by repeat' (first | (with_reducible first | exact HX.out | apply Ext_alloc | apply Ext_drewN | apply Ext_drew | (refine Ext_set ?_ ?_) | exact Ext_refl _) | (simp only [World.size_alloc, World.size_setCell, World.size_drew, size_drewN]; omega) | (simp; done) | (simp; omega)))); clear hb HX; have HX := HXn; clear HXn))
  go_loopw [7, 8, 28] (fun _ _ v wr => ∃ k : Nat, (k : Int) ≤ p.n ∧ v = .int .i64 k ∧ Hid (scan p.open_ p.n (((p.cur / p.cols + 1) * p.cols) % p.n) 1 k = none) ∧ Hid (Ext w wr)) (fun _ _ v _ => p.cells.length - (intOf v).toNat)
  case atStart => exact ⟨0, by omega, rfl, rfl, HX.out⟩
  case round =>
    obtain ⟨k, hk, rfl, HS, HX⟩ := hrel
    by_cases hlt : (k : Int) < p.n
    · have HW := Lib.hid (show ((((p.cur / p.cols + 1) * p.cols) % p.n) + (k : Int)) % p.n = plc p.n (((p.cur / p.cols + 1) * p.cols) % p.n) 1 k by
        unfold plc; rw [Int.mul_one])
      have HC := Lib.hid (scan_none_succ HS.out)
      cases hst : p.open_ (plc p.n (((p.cur / p.cols + 1) * p.cols) % p.n) 1 k)
      all_goals
        have HT := Lib.hid hst
        clear hst
        go_wp2_with fail
        refine (by_any g c p _ _ _ (HP.out.ext HX.out)).mono ?_
        rintro e wn ⟨rfl, hb⟩
        rw [HW.out]
        have HXn := Lib.hid (Ext_trans hb (by repeat' (first | (with_reducible first | exact HX.out | apply Ext_alloc | apply Ext_drewN | apply Ext_drew | (refine Ext_set ?_ ?_) | exact Ext_refl _) | (simp only [World.size_alloc, World.size_setCell, World.size_drew, size_drewN]; omega) | (simp; done) | (simp; omega)))); clear hb HX; have HX := HXn; clear HXn
        go_wp2_with fail
        refine (Open_any g c p _ _ (HP.out.ext HX.out)).mono ?_
        rintro e wn ⟨rfl, hb⟩
        rw [HT.out]
        have HXn := Lib.hid (Ext_trans hb (by repeat' (first | (with_reducible first | exact HX.out | apply Ext_alloc | apply Ext_drewN | apply Ext_drew | (refine Ext_set ?_ ?_) | exact Ext_refl _) | (simp only [World.size_alloc, World.size_setCell, World.size_drew, size_drewN]; omega) | (simp; done) | (simp; omega)))); clear hb HX; have HX := HXn; clear HXn
        go_wp2_with (go_at_call 54; refine (to_any g c p _ _ (HP.out.ext (by repeat' (first | (with_reducible first | exact HX.out | apply Ext_alloc | apply Ext_drewN | apply Ext_drew | (refine Ext_set ?_ ?_) | exact Ext_refl _) | (simp only [World.size_alloc, World.size_setCell, World.size_drew, size_drewN]; omega) | (simp; done) | (simp; omega))))).mono ?_; rintro e wt ⟨rfl, h1, h2⟩; have H1 := Lib.hid h1; have H2 := Lib.hid h2; clear h1 h2)
      · go_roundw
        case rel => exact ⟨k + 1, by omega, by go_num, by rw [HC.out, HT.out]; rfl, HX.out⟩
        case measure => simp [intOf]; have := HN.out; omega
      · go_ret
        have HV := Lib.hid (show p.newlineM = plc p.n (((p.cur / p.cols + 1) * p.cols) % p.n) 1 k by
          unfold Pl.newlineM; rw [scan_mono (k := p.cells.length) (m := k + 1) (by have := HN.out; omega) (by rw [HC.out, HT.out]; rfl)]; rfl)
        rw [HV.out]
        exact ⟨rfl, H1.out, (Chg.of_ext HX.out _).trans H2.out⟩
    · have : k = p.cells.length := by have := HN.out; omega
      subst this
      go_wp2_with (go_at_call 54; refine (to_any g c p _ _ (HP.out.ext (by repeat' (first | (with_reducible first | exact HX.out | apply Ext_alloc | apply Ext_drewN | apply Ext_drew | (refine Ext_set ?_ ?_) | exact Ext_refl _) | (simp only [World.size_alloc, World.size_setCell, World.size_drew, size_drewN]; omega) | (simp; done) | (simp; omega))))).mono ?_; rintro e wt ⟨rfl, h1, h2⟩; have H1 := Lib.hid h1; have H2 := Lib.hid h2; clear h1 h2)
      go_ret
      have HV := Lib.hid (show p.newlineM = 0 by unfold Pl.newlineM; rw [HS.out]; rfl)
      rw [HV.out]
      exact ⟨rfl, H1.out, (Chg.of_ext HX.out _).trans H2.out⟩
end Go.Proofs.Ytmcfckdgolojlaa
