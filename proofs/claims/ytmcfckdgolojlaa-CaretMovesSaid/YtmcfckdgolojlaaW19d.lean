/- CaretMoves: from all places the cursor goes where it is said. -/
import Derived.Test.YtmcfckdgolojlaaUB
import Derived.Test.YtmcfckdgolojlaaUA
import Derived.Test.YtmcfckdgolojlaaQ6
namespace Go.Proofs.Ytmcfckdgolojlaa
set_option linter.unusedVariables false
set_option linter.unusedSimpArgs false
open Go.RowKit
open Go.Proofs.YtmcfckdgolojlaaW.PrintWords (Kd)
theorem C_sl {w : World} {x : Nat} {p : Pl} (hok : p.Ok) (hr : Blk w x 38 (cellRow p.cells)) : Kd.C PCaretMoves.k38 w (some ⟨x, 0, none⟩) p.sl.length p.sl := by
  have n1 := hok.sz.n1
  unfold Pl.n at n1
  refine ⟨rfl, by rw [sl_len]; omega, fun hn => ⟨_, rfl, fun j q hj => ?_⟩⟩
  unfold Pl.sl at hj
  rw [List.getElem?_map] at hj
  have hjl : j < p.cells.length := by
    rcases Nat.lt_or_ge j p.cells.length with h | h
    · exact h
    · rw [List.getElem?_eq_none h] at hj; cases hj
  rw [List.getElem?_eq_getElem hjl] at hj
  cases hj
  refine ⟨(p.cells[j]).enc, rfl, PCaretMoves.k38_mk w (toS p.cells[j]), fun i u hu => ?_⟩
  have hc := row_cell hr hjl i u hu
  have e : (⟨x, 0, none⟩ : Addr).add (j * 5 + i) = ⟨x, j * 5 + i, none⟩ := by
    unfold Addr.add
    split <;> simp_all
  exact e ▸ hc
theorem RefMove_any (x : Nat) (p : Pl) (hok : p.Ok) (rows : Int) (cols : Int) (w : World) (hr : Blk w x 38 (cellRow p.cells)) : Calls Try.prog 28 #[.agg #[.int .i64 p.rows, .int .i64 p.cols, .slice (some ⟨x, 0, none⟩) p.cells.length p.cells.length, .int .i64 p.cur], .int .i64 rows, .int .i64 cols] w (Ret (.int .i64 (p.moveM rows cols)) w) := by
  obtain ⟨k, hk⟩ := (rmovep_f hok rows cols).get
  have := PCaretMoves.greenscreenref19_Move.calls k p.rows p.cols (some ⟨x, 0, none⟩) p.cells.length p.sl p.cur rows cols _ w (C_sl hok hr) (by rw [sl_len]; exact Nat.le_refl _) hk
  rw [sl_len] at this
  exact this.mono fun _ _ ⟨h1, h2⟩ => ⟨h1, h2⟩

theorem RefTab_any (x : Nat) (p : Pl) (hok : p.Ok) (a : Int) (a0 : 0 ≤ a) (a1 : a < p.n) (w : World) (hr : Blk w x 38 (cellRow p.cells)) : Calls Try.prog 29 #[.agg #[.int .i64 p.rows, .int .i64 p.cols, .slice (some ⟨x, 0, none⟩) p.cells.length p.cells.length, .int .i64 p.cur], .int .i64 a] w (Ret (.int .i64 (p.seekM a 1)) w) := by
  obtain ⟨k, hk⟩ := (rtab_f hok a0 a1).get
  have := PCaretMoves.greenscreenref19_Tab.calls k p.rows p.cols (some ⟨x, 0, none⟩) p.cells.length p.sl p.cur a _ w (C_sl hok hr) (by rw [sl_len]; exact Nat.le_refl _) hk
  rw [sl_len] at this
  exact this.mono fun _ _ ⟨h1, h2⟩ => ⟨h1, h2⟩

theorem RefBack_any (x : Nat) (p : Pl) (hok : p.Ok) (w : World) (hr : Blk w x 38 (cellRow p.cells)) : Calls Try.prog 30 #[.agg #[.int .i64 p.rows, .int .i64 p.cols, .slice (some ⟨x, 0, none⟩) p.cells.length p.cells.length, .int .i64 p.cur]] w (Ret (.int .i64 (p.backM)) w) := by
  obtain ⟨k, hk⟩ := (rback_f hok).get
  have := PCaretMoves.greenscreenref19_Back.calls k p.rows p.cols (some ⟨x, 0, none⟩) p.cells.length p.sl p.cur _ w (C_sl hok hr) (by rw [sl_len]; exact Nat.le_refl _) hk
  rw [sl_len] at this
  exact this.mono fun _ _ ⟨h1, h2⟩ => ⟨h1, h2⟩

theorem RefNewline_any (x : Nat) (p : Pl) (hok : p.Ok) (w : World) (hr : Blk w x 38 (cellRow p.cells)) : Calls Try.prog 31 #[.agg #[.int .i64 p.rows, .int .i64 p.cols, .slice (some ⟨x, 0, none⟩) p.cells.length p.cells.length, .int .i64 p.cur]] w (Ret (.int .i64 (p.newlineM)) w) := by
  obtain ⟨k, hk⟩ := (rnewline_f hok).get
  have := PCaretMoves.greenscreenref19_Newline.calls k p.rows p.cols (some ⟨x, 0, none⟩) p.cells.length p.sl p.cur _ w (C_sl hok hr) (by rw [sl_len]; exact Nat.le_refl _) hk
  rw [sl_len] at this
  exact this.mono fun _ _ ⟨h1, h2⟩ => ⟨h1, h2⟩

theorem RefHome_any (x : Nat) (p : Pl) (hok : p.Ok) (w : World) (hr : Blk w x 38 (cellRow p.cells)) : Calls Try.prog 32 #[.agg #[.int .i64 p.rows, .int .i64 p.cols, .slice (some ⟨x, 0, none⟩) p.cells.length p.cells.length, .int .i64 p.cur]] w (Ret (.int .i64 (p.homeM)) w) := by
  obtain ⟨k, hk⟩ := (rhome_f hok).get
  have := PCaretMoves.greenscreenref15_Home.calls k p.rows p.cols (some ⟨x, 0, none⟩) p.cells.length p.sl p.cur _ w (C_sl hok hr) (by rw [sl_len]; exact Nat.le_refl _) hk
  rw [sl_len] at this
  exact this.mono fun _ _ ⟨h1, h2⟩ => ⟨h1, h2⟩

theorem RefOn_any (x : Nat) (p : Pl) (hok : p.Ok) (w : World) (hr : Blk w x 38 (cellRow p.cells)) : Calls Try.prog 33 #[.agg #[.int .i64 p.rows, .int .i64 p.cols, .slice (some ⟨x, 0, none⟩) p.cells.length p.cells.length, .int .i64 p.cur]] w (Ret (.int .i64 (p.onM)) w) := by
  obtain ⟨k, hk⟩ := (ron_f hok).get
  have := PCaretMoves.greenscreenref19_On.calls k p.rows p.cols (some ⟨x, 0, none⟩) p.cells.length p.sl p.cur _ w (C_sl hok hr) (by rw [sl_len]; exact Nat.le_refl _) hk
  rw [sl_len] at this
  exact this.mono fun _ _ ⟨h1, h2⟩ => ⟨h1, h2⟩

/-- where the k-th goes -/
def Pl.wants (p : Pl) (rows cols : Int) (k : Nat) : Int := if k = 0 then p.moveM rows cols else if k = 1 then p.seekM p.cur 1 else if k = 2 then p.backM else if k = 3 then p.newlineM else if k = 4 then p.homeM else p.onM
theorem wants_has {p : Pl} (hok : p.Ok) (rows cols : Int) (k : Nat) : p.has (p.wants rows cols k) = true := by
  have n0 := hok.sz.n0
  have h0 : p.has 0 = true := by unfold Pl.has; exact decide_eq_true ⟨by omega, by omega⟩
  unfold Pl.wants
  split
  · exact moveM_has n0 rows cols
  split
  · exact seekM_has p hok.sz _ _
  split
  · unfold Pl.backM
    split
    · exact has_emod n0 _
    · exact seekM_has p hok.sz _ _
  split
  · unfold Pl.newlineM
    cases e : scan p.open_ p.n (((p.cur / p.cols + 1) * p.cols) % p.n) 1 p.cells.length with
    | none => exact h0
    | some y =>
      obtain ⟨k, _, rfl, _, _⟩ := scan_of_some e
      have := plc_bd n0 (((p.cur / p.cols + 1) * p.cols) % p.n) 1 k
      unfold Pl.has
      exact decide_eq_true this
  split
  · rw [homeM_eq hok.by_]
    split
    · exact has_emod n0 _
    · exact h0
  · unfold Pl.onM
    split
    · split
      · exact seekM_has p hok.sz _ _
      · exact has_emod n0 _
    · exact has_emod n0 _
def wantL (p : Pl) (rows cols : Int) : List Int := [p.moveM rows cols, p.seekM p.cur 1, p.backM, p.newlineM, p.homeM, p.onM]
theorem wantL_get (p : Pl) (rows cols : Int) {k : Nat} (hk : k < 6) : (i64s (wantL p rows cols))[k]? = some (.int .i64 (p.wants rows cols k)) := by
  match k, hk with
  | 0, _ => rfl
  | 1, _ => rfl
  | 2, _ => rfl
  | 3, _ => rfl
  | 4, _ => rfl
  | 5, _ => rfl
set_option maxRecDepth 100000 in
set_option maxHeartbeats 8000000 in
theorem CaretMoves_any (r c at_ rows cols : Int) (A : Option Addr) (d : Nat) (cs : List Cel) (hcs : ∀ x ∈ cs, 0 ≤ x.b ∧ x.b < 256) (hcl : cs.length ≤ maxLen) (w : World) (hr : Rd w 5 A cs.length (cs.flatMap Cel.enc)) :
    Calls Try.prog 6 #[.agg #[.int .i64 r, .int .i64 c], .slice A cs.length d, .int .i64 at_, .int .i64 rows, .int .i64 cols] w (Ret (.bool true) w) := by
  have HCS := Lib.hid hcs
  have HCL := Lib.hid hcl
  have HR := Lib.hid (fun w' (h : Ext w w') => Rd_ext h hr)
  have HX := Lib.hid (Ext_refl w)
  clear hcs hcl hr
  go_enter Try.func6, Try.ntmps6
  go_wp2_with fail
  refine (alive_any _).mono ?_
  rintro e wn ⟨rfl, hb⟩
  have hz0 : w.heap.size < wn.heap.size := (by have := hb.size; (try simp only [World.size_alloc, World.size_setCell, World.size_drew, size_drewN] at this); omega); have hc0_0 : wn.cell? ⟨w.heap.size, 0, none⟩ = some (.int .i64 r) := (cell_ext hb (by unfold In; first | omega | (simp; done) | (simp; omega))).trans (by go_simp); have hf0_0 : wn.frozen? ⟨w.heap.size, 0, none⟩ = false := (frozen_ext hb (by unfold In; first | omega | (simp; done) | (simp; omega))).trans (by go_simp); have hc0_1 : wn.cell? ⟨w.heap.size, 1, none⟩ = some (.int .i64 c) := (cell_ext hb (by unfold In; first | omega | (simp; done) | (simp; omega))).trans (by go_simp); have hf0_1 : wn.frozen? ⟨w.heap.size, 1, none⟩ = false := (frozen_ext hb (by unfold In; first | omega | (simp; done) | (simp; omega))).trans (by go_simp); have HXn := Lib.hid (Ext_trans hb (by repeat' (first | (with_reducible first | exact HX.out | apply Ext_alloc | apply Ext_drewN | apply Ext_drew | (refine Ext_set ?_ ?_) | exact Ext_refl _) | (simp only [World.size_alloc, World.size_setCell, World.size_drew, size_drewN]; omega) | (simp; done) | (simp; omega)))); clear hb HX; have HX := HXn; clear HXn
  go_wp2_with fail
  refine (made_any r c at_ A d cs HCS.out HCL.out _ (HR.out _ HX.out)).mono ?_
  rintro e w3 (⟨a, b, v, k, rfl, ⟨A1, n1, d1, rfl⟩, hb⟩ | ⟨g, b, x, p, rfl, hP, hx, hb, hg, hbb, hxx, hne1, hne2, hp6⟩)
  · have HXn := Lib.hid (Ext_trans hb (by repeat' (first | (with_reducible first | exact HX.out | apply Ext_alloc | apply Ext_drewN | apply Ext_drew | (refine Ext_set ?_ ?_) | exact Ext_refl _) | (simp only [World.size_alloc, World.size_setCell, World.size_drew, size_drewN]; omega) | (simp; done) | (simp; omega)))); clear hb HX; have HX := HXn; clear HXn
    go_wp2_with fail
    go_ret
    exact ⟨rfl, (by repeat' (first | (with_reducible first | exact HX.out | apply Ext_alloc | apply Ext_drewN | apply Ext_drew | (refine Ext_set ?_ ?_) | exact Ext_refl _) | (simp only [World.size_alloc, World.size_setCell, World.size_drew, size_drewN]; omega) | (simp; done) | (simp; omega)))⟩
  go_upto_region 6 with (fail)
  have hws : w.heap.size ≤ wn.heap.size := HX.out.size
  have hg' : w.heap.size ≤ g := by omega
  have hb' : w.heap.size ≤ b := by omega
  have hl3 : g < w3.heap.size ∧ b < w3.heap.size ∧ x < w3.heap.size := ⟨hP.glt, hP.clt, hx.lt⟩
  have hE := Ext_alloc (o := .cells #[.int .i64 p.rows, .int .i64 p.cols, .slice (some ⟨x, 0, none⟩) p.cells.length p.cells.length, .int .i64 p.cur] 28) (Ext_refl w3)
  have HP := Lib.hid (hP.ext hE)
  have HXC := Lib.hid (Blk.below' hx hE)
  have HBX := Lib.hid (Blk.new w3 28 #[.int .i64 p.rows, .int .i64 p.cols, .slice (some ⟨x, 0, none⟩) p.cells.length p.cells.length, .int .i64 p.cur])
  have HE := Lib.hid (Ext_trans hE (Ext_trans hb HX.out))
  have HOK := Lib.hid hP.ok
  have HBY := Lib.hid hP.ok.by_
  have hn0 := hP.ok.sz.n0
  have hlx : w3.heap.size ∉ [g, b] := by simp; omega
  have hxl : x ∉ [g, b] := by simp; omega
  have hgl : ∀ i, i ∈ [g, b] → w.heap.size ≤ i := by intro i hi; simp at hi; omega
  have hgu : ∀ i, i ∈ [g, b] → i < w3.heap.size := by intro i hi; simp at hi; omega
  have hc4 : p.cells.length ≤ 4096 := by omega
  clear hP hx hE hb HX hg hbb hxx hne1 hne2 hl3 HCS HCL HR
  generalize w3.heap.size = bx at *
  generalize w3.alloc (.cells #[.int .i64 p.rows, .int .i64 p.cols, .slice (some ⟨x, 0, none⟩) p.cells.length p.cells.length, .int .i64 p.cur] 28) = W4 at *
  have u0 := HBX.out.cell 0
  have u1 := HBX.out.cell 1
  have u2 := HBX.out.cell 2
  have u3 := HBX.out.cell 3
  simp at u0 u1 u2 u3
  have hbl : bx < W4.heap.size := HBX.out.lt
  have HX := Lib.hid (Ext_refl W4)
  have HXF := Lib.hid (fun w' (h : Ext W4 w') => Blk.below' HXC.out h)
  have HK := Lib.hid (And.intro HOK.out.k0 HOK.out.k1)
  go_region_held3 (fun w' => w'.cell? ⟨bx, 0, none⟩ = some (.int .i64 p.rows) ∧ w'.cell? ⟨bx, 1, none⟩ = some (.int .i64 p.cols) ∧ w'.cell? ⟨bx, 2, none⟩ = some (.slice (some ⟨x, 0, none⟩) p.cells.length p.cells.length) ∧ w'.cell? ⟨bx, 3, none⟩ = some (.int .i64 p.cur)) (first | exact ⟨u0, u1, u2, u3⟩ | exact ⟨j0, j1, j2, j3⟩ | exact ⟨(cell_In hbw).trans j0, (cell_In hbw).trans j1, (cell_In hbw).trans j2, (cell_In hbw).trans j3⟩) (first
    | (go_at_call 28; refine (RefMove_any x p HOK.out rows cols _ (HXF.out _ (by repeat' (first | (with_reducible first | exact HX.out | apply Ext_alloc | apply Ext_drewN | apply Ext_drew | (refine Ext_set ?_ ?_) | exact Ext_refl _) | (simp only [World.size_alloc, World.size_setCell, World.size_drew, size_drewN]; omega) | (simp; done) | (simp; omega))))).mono ?_; rintro e wn ⟨rfl, hb⟩; (try clear j0 j1 j2 j3 hbw); have HXn := Lib.hid (Ext_trans hb (by repeat' (first | (with_reducible first | exact HX.out | apply Ext_alloc | apply Ext_drewN | apply Ext_drew | (refine Ext_set ?_ ?_) | exact Ext_refl _) | (simp only [World.size_alloc, World.size_setCell, World.size_drew, size_drewN]; omega) | (simp; done) | (simp; omega)))); clear hb HX; have HX := HXn; clear HXn; have j0 := (cell_ext HX.out hbl).trans u0; have j1 := (cell_ext HX.out hbl).trans u1; have j2 := (cell_ext HX.out hbl).trans u2; have j3 := (cell_ext HX.out hbl).trans u3; have hbw : In bx wn := In_ext HX.out hbl)
    | (go_at_call 29; refine (RefTab_any x p HOK.out p.cur HK.out.1 HK.out.2 _ (HXF.out _ (by repeat' (first | (with_reducible first | exact HX.out | apply Ext_alloc | apply Ext_drewN | apply Ext_drew | (refine Ext_set ?_ ?_) | exact Ext_refl _) | (simp only [World.size_alloc, World.size_setCell, World.size_drew, size_drewN]; omega) | (simp; done) | (simp; omega))))).mono ?_; rintro e wn ⟨rfl, hb⟩; (try clear j0 j1 j2 j3 hbw); have HXn := Lib.hid (Ext_trans hb (by repeat' (first | (with_reducible first | exact HX.out | apply Ext_alloc | apply Ext_drewN | apply Ext_drew | (refine Ext_set ?_ ?_) | exact Ext_refl _) | (simp only [World.size_alloc, World.size_setCell, World.size_drew, size_drewN]; omega) | (simp; done) | (simp; omega)))); clear hb HX; have HX := HXn; clear HXn; have j0 := (cell_ext HX.out hbl).trans u0; have j1 := (cell_ext HX.out hbl).trans u1; have j2 := (cell_ext HX.out hbl).trans u2; have j3 := (cell_ext HX.out hbl).trans u3; have hbw : In bx wn := In_ext HX.out hbl)
    | (go_at_call 30; refine (RefBack_any x p HOK.out _ (HXF.out _ (by repeat' (first | (with_reducible first | exact HX.out | apply Ext_alloc | apply Ext_drewN | apply Ext_drew | (refine Ext_set ?_ ?_) | exact Ext_refl _) | (simp only [World.size_alloc, World.size_setCell, World.size_drew, size_drewN]; omega) | (simp; done) | (simp; omega))))).mono ?_; rintro e wn ⟨rfl, hb⟩; (try clear j0 j1 j2 j3 hbw); have HXn := Lib.hid (Ext_trans hb (by repeat' (first | (with_reducible first | exact HX.out | apply Ext_alloc | apply Ext_drewN | apply Ext_drew | (refine Ext_set ?_ ?_) | exact Ext_refl _) | (simp only [World.size_alloc, World.size_setCell, World.size_drew, size_drewN]; omega) | (simp; done) | (simp; omega)))); clear hb HX; have HX := HXn; clear HXn; have j0 := (cell_ext HX.out hbl).trans u0; have j1 := (cell_ext HX.out hbl).trans u1; have j2 := (cell_ext HX.out hbl).trans u2; have j3 := (cell_ext HX.out hbl).trans u3; have hbw : In bx wn := In_ext HX.out hbl)
    | (go_at_call 31; refine (RefNewline_any x p HOK.out _ (HXF.out _ (by repeat' (first | (with_reducible first | exact HX.out | apply Ext_alloc | apply Ext_drewN | apply Ext_drew | (refine Ext_set ?_ ?_) | exact Ext_refl _) | (simp only [World.size_alloc, World.size_setCell, World.size_drew, size_drewN]; omega) | (simp; done) | (simp; omega))))).mono ?_; rintro e wn ⟨rfl, hb⟩; (try clear j0 j1 j2 j3 hbw); have HXn := Lib.hid (Ext_trans hb (by repeat' (first | (with_reducible first | exact HX.out | apply Ext_alloc | apply Ext_drewN | apply Ext_drew | (refine Ext_set ?_ ?_) | exact Ext_refl _) | (simp only [World.size_alloc, World.size_setCell, World.size_drew, size_drewN]; omega) | (simp; done) | (simp; omega)))); clear hb HX; have HX := HXn; clear HXn; have j0 := (cell_ext HX.out hbl).trans u0; have j1 := (cell_ext HX.out hbl).trans u1; have j2 := (cell_ext HX.out hbl).trans u2; have j3 := (cell_ext HX.out hbl).trans u3; have hbw : In bx wn := In_ext HX.out hbl)
    | (go_at_call 32; refine (RefHome_any x p HOK.out _ (HXF.out _ (by repeat' (first | (with_reducible first | exact HX.out | apply Ext_alloc | apply Ext_drewN | apply Ext_drew | (refine Ext_set ?_ ?_) | exact Ext_refl _) | (simp only [World.size_alloc, World.size_setCell, World.size_drew, size_drewN]; omega) | (simp; done) | (simp; omega))))).mono ?_; rintro e wn ⟨rfl, hb⟩; (try clear j0 j1 j2 j3 hbw); have HXn := Lib.hid (Ext_trans hb (by repeat' (first | (with_reducible first | exact HX.out | apply Ext_alloc | apply Ext_drewN | apply Ext_drew | (refine Ext_set ?_ ?_) | exact Ext_refl _) | (simp only [World.size_alloc, World.size_setCell, World.size_drew, size_drewN]; omega) | (simp; done) | (simp; omega)))); clear hb HX; have HX := HXn; clear HXn; have j0 := (cell_ext HX.out hbl).trans u0; have j1 := (cell_ext HX.out hbl).trans u1; have j2 := (cell_ext HX.out hbl).trans u2; have j3 := (cell_ext HX.out hbl).trans u3; have hbw : In bx wn := In_ext HX.out hbl)
    | (go_at_call 33; refine (RefOn_any x p HOK.out _ (HXF.out _ (by repeat' (first | (with_reducible first | exact HX.out | apply Ext_alloc | apply Ext_drewN | apply Ext_drew | (refine Ext_set ?_ ?_) | exact Ext_refl _) | (simp only [World.size_alloc, World.size_setCell, World.size_drew, size_drewN]; omega) | (simp; done) | (simp; omega))))).mono ?_; rintro e wn ⟨rfl, hb⟩; (try clear j0 j1 j2 j3 hbw); have HXn := Lib.hid (Ext_trans hb (by repeat' (first | (with_reducible first | exact HX.out | apply Ext_alloc | apply Ext_drewN | apply Ext_drew | (refine Ext_set ?_ ?_) | exact Ext_refl _) | (simp only [World.size_alloc, World.size_setCell, World.size_drew, size_drewN]; omega) | (simp; done) | (simp; omega)))); clear hb HX; have HX := HXn; clear HXn; have j0 := (cell_ext HX.out hbl).trans u0; have j1 := (cell_ext HX.out hbl).trans u1; have j2 := (cell_ext HX.out hbl).trans u2; have j3 := (cell_ext HX.out hbl).trans u3; have hbw : In bx wn := In_ext HX.out hbl))
  have HE5 := Lib.hid (Ext_alloc (o := (.cells #[.int .i64 (p.moveM rows cols), .int .i64 (p.seekM p.cur 1), .int .i64 p.backM, .int .i64 p.newlineM, .int .i64 p.homeM, .int .i64 p.onM] 3)) (Ext_trans HX.out HE.out))
  have HP5 := Lib.hid (HP.out.ext (Ext_alloc (o := (.cells #[.int .i64 (p.moveM rows cols), .int .i64 (p.seekM p.cur 1), .int .i64 p.backM, .int .i64 p.newlineM, .int .i64 p.homeM, .int .i64 p.onM] 3)) HX.out))
  have hR : Rd (wn.alloc (.cells #[.int .i64 (p.moveM rows cols), .int .i64 (p.seekM p.cur 1), .int .i64 p.backM, .int .i64 p.newlineM, .int .i64 p.homeM, .int .i64 p.onM] 3)) 1 (some ⟨wn.heap.size, 0, none⟩) 6 (i64s (wantL p rows cols)) := Rd.blk (Blk.new wn 3 _) rfl
  have HR5 := Lib.hid hR
  have hrb : wn.heap.size < (wn.alloc (.cells #[.int .i64 (p.moveM rows cols), .int .i64 (p.seekM p.cur 1), .int .i64 p.backM, .int .i64 p.newlineM, .int .i64 p.homeM, .int .i64 p.onM] 3)).heap.size := by simp
  have HRB := Lib.hid hrb
  clear hR hrb j0 j1 j2 j3 hbw HX u0 u1 u2 u3 HXF HXC HBX HP HE hbl
  generalize (wn.alloc (.cells #[.int .i64 (p.moveM rows cols), .int .i64 (p.seekM p.cur 1), .int .i64 p.backM, .int .i64 p.newlineM, .int .i64 p.homeM, .int .i64 p.onM] 3)) = W5 at *
  generalize wn.heap.size = rb at *
  go_wp2_with fail
  go_loopw [15, 16, 17, 18, 50] (fun _ _ _ _ v wr => ∃ k : Nat, k ≤ 6 ∧ v = .int .i64 k ∧ Hid (PlAt wr g b p) ∧ Hid (Ext w wr) ∧ Hid (Rd wr 1 (some ⟨rb, 0, none⟩) 6 (i64s (wantL p rows cols))) ∧ Hid (rb < wr.heap.size)) (fun _ _ _ _ v _ => 6 - (intOf v).toNat)
  case atStart => exact ⟨0, Nat.zero_le _, rfl, HP5, HE5, HR5, HRB⟩
  case round =>
    clear HP5 HE5 HR5 HRB
    obtain ⟨k, hk, rfl, HP, HE, HR, HRB⟩ := hrel
    by_cases hlt : k < 6
    · obtain ⟨bb, o, hA, hcell⟩ := HR.out.2 (by decide)
      obtain ⟨rfl, rfl⟩ : rb = bb ∧ 0 = o := by cases hA; exact ⟨rfl, rfl⟩
      have hwc := hcell k _ (wantL_get p rows cols hlt)
      rw [Nat.zero_add] at hwc
      have hhas := wants_has HOK.out rows cols k
      obtain ⟨gv, hgv⟩ : ∃ gv, p.wants rows cols k = gv := ⟨_, rfl⟩
      rw [hgv] at hwc hhas
      have HGV := Lib.hid hgv
      have HHAS := Lib.hid hhas
      have hwk : IntKind.i64.wrap ((k : Int) + 1) = ((k + 1 : Nat) : Int) := IntWalk.i64_in _ (by omega)
      have hli : (k : Int) < 6 := by omega
      clear hA hcell hgv hhas
      go_wp2_with fail
      refine (PClone_any g b p _ HP.out).mono ?_
      rintro e w6 ⟨g2, c2, rfl, hp2, hx6, hg2, hc2⟩
      have HP6 := Lib.hid (HP.out.ext hx6)
      have HQ6 := Lib.hid hp2
      have HE6 := Lib.hid (Ext_trans hx6 HE.out)
      have HR6 := Lib.hid (Rd_ext hx6 HR.out)
      have HRB6 : Hid (rb < w6.heap.size) := Lib.hid (Nat.lt_of_lt_of_le HRB.out hx6.size)
      have hgn : g ∉ [g2, c2] := by have := HP.out.glt; simp; omega
      have hbn : b ∉ [g2, c2] := by have := HP.out.clt; simp; omega
      have hws : w.heap.size ≤ wr.heap.size := HE.out.size
      have hgc : ∀ i, i ∈ [g2, c2] → w.heap.size ≤ i := by intro i hi; simp at hi; omega
      have hrn : ∀ i, i ∈ [g2, c2] → Off i (some ⟨rb, 0, none⟩) := by intro i hi ad e; cases e; have := HRB.out; simp at hi; show rb ≠ i; omega
      clear hp2 hx6 hg2 hc2 HP HE HR HRB hwc hws
      have hkk : k = 0 ∨ k = 1 ∨ k = 2 ∨ k = 3 ∨ k = 4 ∨ k = 5 := by omega
      rcases hkk with hq | hq | hq | hq | hq | hq
      all_goals
        go_wp2_with fail
        (first
        | (have hct := CMove_any g2 c2 p rows cols _ HQ6.out
           rw [show p.moveM rows cols = gv by rw [← HGV.out, hq]; rfl] at hct
           refine hct.mono ?_
           clear hct)
        | (have hct := Tab_any g2 c2 p _ HQ6.out
           rw [show p.seekM p.cur 1 = gv by rw [← HGV.out, hq]; rfl] at hct
           refine hct.mono ?_
           clear hct)
        | (have hct := Back_any g2 c2 p _ HQ6.out
           rw [show p.backM = gv by rw [← HGV.out, hq]; rfl] at hct
           refine hct.mono ?_
           clear hct)
        | (have hct := Newline_any g2 c2 p _ HQ6.out
           rw [show p.newlineM = gv by rw [← HGV.out, hq]; rfl] at hct
           refine hct.mono ?_
           clear hct)
        | (have hct := CHome_any g2 c2 p _ HQ6.out
           rw [show p.homeM = gv by rw [← HGV.out, hq]; rfl] at hct
           refine hct.mono ?_
           clear hct)
        | (have hct := On_any g2 c2 p _ HQ6.out
           rw [show p.onM = gv by rw [← HGV.out, hq]; rfl] at hct
           refine hct.mono ?_
           clear hct))
        rintro e w7 ⟨rfl, hs, hch⟩
        have HQQ := Lib.hid hq
        clear hq
        have hcur : (p.point gv).cur = gv := by unfold Pl.point; rw [if_pos HHAS.out]
        have HCUR := Lib.hid hcur
        have HQ7 := Lib.hid hs
        have HP7 := Lib.hid (HP6.out.chg hch hgn hbn)
        have HE7 := Lib.hid (hch.ext HE6.out hgc)
        have HR7 := Lib.hid (HR6.out.chg hch hrn)
        have HRB7 : Hid (rb < w7.heap.size) := Lib.hid (Nat.lt_of_lt_of_le HRB6.out hch.size)
        clear hs hch hcur HQ6 HP6 HE6 HR6 HRB6
        go_wp2_with fail
        refine (Cursor_any g2 c2 _ _ HQ7.out).mono ?_
        rintro e w8 ⟨rfl, hb⟩
        rw [HCUR.out]
        have HQ8 := Lib.hid (HQ7.out.ext hb)
        have HP8 := Lib.hid (HP7.out.ext hb)
        have HE8 := Lib.hid (Ext_trans hb HE7.out)
        have HR8 := Lib.hid (Rd_ext hb HR7.out)
        have HRB8 : Hid (rb < w8.heap.size) := Lib.hid (Nat.lt_of_lt_of_le HRB7.out hb.size)
        clear hb HQ7 HP7 HE7 HR7 HRB7
        go_wp2_with fail
        refine (Cursor_any g b _ _ HP8.out).mono ?_
        rintro e w9 ⟨rfl, hb⟩
        have HQ9 := Lib.hid (HQ8.out.ext hb)
        have HP9 := Lib.hid (HP8.out.ext hb)
        have HE9 := Lib.hid (Ext_trans hb HE8.out)
        have HR9 := Lib.hid (Rd_ext hb HR8.out)
        have HRB9 : Hid (rb < w9.heap.size) := Lib.hid (Nat.lt_of_lt_of_le HRB8.out hb.size)
        clear hb HQ8 HP8 HE8 HR8 HRB8
        go_wp2_with fail
        refine (Point_any g2 c2 _ _ _ HQ9.out).mono ?_
        rintro e wa ⟨rfl, hs, hch⟩
        rw [point_point _ _ _ (by unfold Pl.has; exact decide_eq_true HK.out), point_self] at hs
        have HQa := Lib.hid hs
        have HPa := Lib.hid (HP9.out.chg hch hgn hbn)
        have HEa := Lib.hid (hch.ext HE9.out hgc)
        have HRa := Lib.hid (HR9.out.chg hch hrn)
        have HRBa : Hid (rb < wa.heap.size) := Lib.hid (Nat.lt_of_lt_of_le HRB9.out hch.size)
        clear hs hch HQ9 HP9 HE9 HR9 HRB9
        go_wp2_with fail
        refine (PSame_any g b g2 c2 p _ HPa.out HQa.out).mono ?_
        rintro e wb ⟨rfl, m, rfl⟩
        go_wp2_with fail
        go_roundw
        case rel => exact ⟨k + 1, by omega, by rw [HQQ.out]; rfl, HPa.out.ext (Ext_drewN (Ext_refl _)), Ext_drewN HEa.out, Rd_ext (Ext_drewN (Ext_refl _)) HRa.out, HRBa⟩
        case measure =>
          rw [HQQ.out]
          decide
    · have hke : k = 6 := by omega
      subst hke
      go_wp2_with fail
      go_ret
      exact ⟨rfl, HE.out⟩
set_option maxRecDepth 100000 in
theorem CaretMoves_walk {H : Type} (w : World) {base : Nat} (v : Value) (t0 : Handed Try.prog H w 23 v) (k0 : Value.okWide Try.prog w .any base 23 v) (A : Option Addr) (n d : Nat) (t1 : Handed Try.prog H w 24 (.slice A n d))
    (a2 : Int) (w2 : (Lit.int .i64 a2).wf = true) (a3 : Int) (w3 : (Lit.int .i64 a3).wf = true) (a4 : Int) (w4 : (Lit.int .i64 a4).wf = true) :
    Calls Try.prog 6 #[v, .slice A n d, .int .i64 a2, .int .i64 a3, .int .i64 a4] w (Ret (.bool true) w) := by
  obtain ⟨r, c, rfl, _, _⟩ := size_arg t0 k0
  obtain ⟨cs, rfl, _, hl, hr, hcs⟩ := cel_rows t1
  exact CaretMoves_any r c a2 a3 a4 A d cs hcs hl w hr
end Go.Proofs.Ytmcfckdgolojlaa
