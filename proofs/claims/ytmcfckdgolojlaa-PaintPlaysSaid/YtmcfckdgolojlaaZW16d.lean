import Derived.Test.YtmcfckdgolojlaaZGZ
import Derived.Test.YtmcfckdgolojlaaZGE
/- Chapter 16: PaintPlays. -/
namespace Go.Proofs.Ytmcfckdgolojlaa
set_option linter.unusedVariables false
set_option linter.unusedSimpArgs false
open Go.RowKit
theorem PlAt.hold {w w' : World} {g c : Nat} {p : Pl} (h : PlAt w g c p) (k : Holds c w w') : PlAt w' g c p := by
  obtain ⟨a, t, h⟩ := h
  exact ⟨a, t, h.obj.hold (by decide) k, (k.2 c h.row.lt (.inl rfl)).trans h.row, h.ok⟩
theorem few_pl {xs : List OrdV} (h : few16 xs = true) : ∀ x ∈ xs, x.o.ps.length ≤ 30 := fun x hx => by
  unfold few16 at h
  rw [Bool.and_eq_true, List.all_eq_true] at h
  have := h.1 x hx
  simp at this
  omega
set_option maxRecDepth 100000 in
set_option maxHeartbeats 16000000 in
theorem PaintPlays_any (r c from_ : Int) (A A2 : Option Addr) (d d2 : Nat) (cs : List Cel) (xs : List OrdV) (hcap : ∀ x ∈ xs, x.o.ps.length ≤ x.cA) (hcs : ∀ x ∈ cs, 0 ≤ x.b ∧ x.b < 256) (hcl : cs.length ≤ maxLen) (w : World) (hr : Rd w 5 A cs.length (cs.flatMap Cel.enc)) (ho : OsAt [] w A2 xs) :
    Calls Try.prog 9 #[.agg #[.int .i64 r, .int .i64 c], .slice A cs.length d, .slice A2 xs.length d2, .int .i64 from_] w (Ret (.bool true) w) := by
  have HO0 := Lib.hid ho
  have HCS := Lib.hid hcs
  have HCL := Lib.hid hcl
  have HR := Lib.hid (fun w' (h : Ext w w') => Rd_ext h hr)
  have HO := Lib.hid (fun (l : List Nat) (hl : ∀ i, i ∈ l → w.heap.size ≤ i) w' (h : Ext w w') => (ho.more (m := l) (fun i hi => .inr (hl i hi))).ext h)
  have HOL := Lib.hid ho.ln
  have HX := Lib.hid (Ext_refl w)
  clear hcs hcl hr ho
  go_enter Try.func9, Try.ntmps9
  go_wp2_with fail
  refine (alive16_any _).mono ?_
  rintro e wn ⟨rfl, hb⟩
  have hz0 : w.heap.size < wn.heap.size := (by have := hb.size; (try simp only [World.size_alloc, World.size_setCell, World.size_drew, size_drewN] at this); omega); have hc0_0 : wn.cell? ⟨w.heap.size, 0, none⟩ = some (.int .i64 r) := (cell_ext hb (by unfold In; first | omega | (simp; done) | (simp; omega))).trans (by go_simp); have hf0_0 : wn.frozen? ⟨w.heap.size, 0, none⟩ = false := (frozen_ext hb (by unfold In; first | omega | (simp; done) | (simp; omega))).trans (by go_simp); have hc0_1 : wn.cell? ⟨w.heap.size, 1, none⟩ = some (.int .i64 c) := (cell_ext hb (by unfold In; first | omega | (simp; done) | (simp; omega))).trans (by go_simp); have hf0_1 : wn.frozen? ⟨w.heap.size, 1, none⟩ = false := (frozen_ext hb (by unfold In; first | omega | (simp; done) | (simp; omega))).trans (by go_simp); have HXn := Lib.hid (Ext_trans hb (by repeat' (first | (with_reducible first | exact HX.out | apply Ext_alloc | apply Ext_drewN | apply Ext_drew | (refine Ext_set ?_ ?_) | exact Ext_refl _) | (simp only [World.size_alloc, World.size_setCell, World.size_drew, size_drewN]; omega) | (simp; done) | (simp; omega)))); clear hb HX; have HX := HXn; clear HXn
  go_wp2_with fail
  refine (made16_any r c A d cs HCS.out HCL.out _ (HR.out _ HX.out)).mono ?_
  rintro e w3 (⟨a, b, v, k, rfl, ⟨A1, n1, d1, rfl⟩, hb⟩ | ⟨g, b, x, p, rfl, hP, hx, hb, hg, hbb, hxx, hne1, hne2, hp6⟩)
  · have HXn := Lib.hid (Ext_trans hb (by repeat' (first | (with_reducible first | exact HX.out | apply Ext_alloc | apply Ext_drewN | apply Ext_drew | (refine Ext_set ?_ ?_) | exact Ext_refl _) | (simp only [World.size_alloc, World.size_setCell, World.size_drew, size_drewN]; omega) | (simp; done) | (simp; omega)))); clear hb HX; have HX := HXn; clear HXn
    go_wp2_with fail
    go_ret
    exact ⟨rfl, (by repeat' (first | (with_reducible first | exact HX.out | apply Ext_alloc | apply Ext_drewN | apply Ext_drew | (refine Ext_set ?_ ?_) | exact Ext_refl _) | (simp only [World.size_alloc, World.size_setCell, World.size_drew, size_drewN]; omega) | (simp; done) | (simp; omega)))⟩
  have hws : w.heap.size ≤ wn.heap.size := HX.out.size
  have hn1 : 1 ≤ p.n := hP.ok.sz.n0
  have hn2 : p.n ≤ 4096 := hP.ok.sz.n1
  have hpc : p.cells.length ≤ 4096 := by unfold Pl.n at hn2; omega
  have HP3 := Lib.hid hP
  have HX3 := Lib.hid hx
  have HE3 := Lib.hid (Ext_trans hb HX.out)
  have hgw : w.heap.size ≤ g := by omega
  have hbw : w.heap.size ≤ b := by omega
  have hxw : w.heap.size ≤ x := by omega
  clear hP hx hb HX hg hbb hxx hws hc0_0 hf0_0 hc0_1 hf0_1 hz0 HCS HCL HR hp6
  go_wp2_with fail
  have hE4 := Ext_alloc (o := .cells #[.int .i64 p.rows, .int .i64 p.cols, .slice (some ⟨x, 0, none⟩) p.cells.length p.cells.length, .int .i64 p.cur] 28) (Ext_refl w3)
  have hB4 := Blk.new w3 28 #[.int .i64 p.rows, .int .i64 p.cols, .slice (some ⟨x, 0, none⟩) p.cells.length p.cells.length, .int .i64 p.cur]
  have HP4 := Lib.hid (HP3.out.ext hE4)
  have HX4 := Lib.hid (Blk.ext2 HX3.out hE4)
  have HE4 := Lib.hid (Ext_trans hE4 HE3.out)
  have hbxw : w.heap.size ≤ w3.heap.size := HE3.out.size
  have hxlt := HX3.out.lt
  have hglt := HP3.out.glt
  have hblt := HP3.out.clt
  clear hE4 HP3 HE3 HX3
  generalize w3.alloc (.cells #[.int .i64 p.rows, .int .i64 p.cols, .slice (some ⟨x, 0, none⟩) p.cells.length p.cells.length, .int .i64 p.cur] 28) = W4 at *
  obtain ⟨bx, hbx⟩ : ∃ bx, w3.heap.size = bx := ⟨_, rfl⟩
  rw [hbx] at hB4 hbxw hxlt hglt hblt ⊢
  clear hbx
  have HB4 := Lib.hid hB4
  clear hB4
  refine (few16_any A2 d2 xs [] _ (HO.out [] (by simp) _ HE4.out)).mono ?_
  rintro e w5 ⟨rfl, hb⟩
  have HP5 := Lib.hid (HP4.out.ext hb)
  have HX5 := Lib.hid (Blk.ext2 HX4.out hb)
  have HB5 := Lib.hid (Blk.ext2 HB4.out hb)
  have HE5 := Lib.hid (Ext_trans hb HE4.out)
  clear hb HP4 HE4 HX4 HB4
  cases hf : few16 xs
  · go_wp2_with fail
    go_ret
    exact ⟨rfl, HE5.out⟩
  have HPX : Hid (∀ x ∈ xs, x.o.ps.length ≤ 1000 ∧ x.o.ps.length ≤ x.cA) := Lib.hid (fun y hy => ⟨by have := few_pl hf y hy; omega, hcap y hy⟩)
  clear hf hcap
  by_cases hh : 0 ≤ from_ ∧ from_ < p.n
  · go_wp2_with fail
    obtain ⟨F, hF⟩ : ∃ F, (Br.at0 p from_).run (xs.map OrdV.o) = F := ⟨_, rfl⟩
    have hPa := Paint_any g b p A2 d2 xs from_ hh _ HP5.out (HO.out [g, b] (by simp; omega) _ HE5.out)
    rw [hF] at hPa
    refine hPa.mono ?_
    rintro e w7 ⟨rfl, hp7, hch, fa0, fa1⟩
    have HP7 := Lib.hid hp7
    have HE7 := Lib.hid (hch.ext HE5.out (by intro i hi; simp at hi; omega))
    have HX7 := Lib.hid (HX5.out.chg hch (by simp; omega))
    have HB7 := Lib.hid (HB5.out.chg hch (by simp; omega))
    have HD7 : Hid (DP w w7 b (.slice (some ⟨x, 0, none⟩) p.cells.length p.cells.length) p) := Lib.hid (DP.start HX7.out HE7.out hxw (by omega) hpc)
    have HOKp := Lib.hid HP5.out.ok
    clear hp7 hch HP5 HE5 HX5 HB5 HX7 hPa
    have hb7 : b < w7.heap.size := HP7.out.clt
    have b0 := HB7.out.cell 0
    have b1 := HB7.out.cell 1
    have b2 := HB7.out.cell 2
    have b3 := HB7.out.cell 3
    simp at b0 b1 b2 b3
    unfold Paint3
    obtain ⟨⟨P, a, lk, ld⟩, m, e0⟩ := F
    simp only at fa0 fa1 HP7 ⊢
    go_wp2_with fail
    have hPb := rPaint_any p A2 d2 xs from_ HPX.out hh HOKp.out hb7 HD7.out HO0.out
    rw [hF] at hPb
    unfold dplV at hPb
    refine hPb.mono ?_
    rintro e w8 ⟨v2, rfl, hd8, hh8⟩
    have hq0 : 0 < P.cells.length := by have := HP7.out.ok.sz.n0; unfold Pl.n at this; omega
    simp only at hd8
    obtain ⟨vb, cap, rfl, _⟩ := hd8.cells hq0
    have HP8 := Lib.hid (HP7.out.hold hh8)
    have HD8 := Lib.hid hd8
    have HE8 : Hid (Ext w w8) := Lib.hid hd8.1
    clear hd8 hh8 HP7 HE7 HD7 hPb HB7 b0 b1 b2 b3 hF
    unfold dplV
    simp only
    go_upto_region 8 with (fail)
    have hY := Blk.new w8 28 #[.int .i64 P.rows, .int .i64 P.cols, .slice (some ⟨vb, 0, none⟩) P.cells.length cap, .int .i64 P.cur]
    have hE := Ext_alloc (o := .cells #[.int .i64 P.rows, .int .i64 P.cols, .slice (some ⟨vb, 0, none⟩) P.cells.length cap, .int .i64 P.cur] 28) (Ext_refl w8)
    generalize w8.alloc (.cells #[.int .i64 P.rows, .int .i64 P.cols, .slice (some ⟨vb, 0, none⟩) P.cells.length cap, .int .i64 P.cur] 28) = W9 at *
    generalize w8.heap.size = yb at *
    have HP9 := Lib.hid (HP8.out.ext hE)
    have HD9 := Lib.hid (HD8.out.ext hE)
    have HE9 := Lib.hid (Ext_trans hE HE8.out)
    have y0 := hY.cell 0
    have y1 := hY.cell 1
    have y2 := hY.cell 2
    have y3 := hY.cell 3
    simp at y0 y1 y2 y3
    clear hY hE HP8 HD8 HE8
    go_wp2_with fail
    refine (same16_yes (w0 := w) (c := b) (v := .slice (some ⟨vb, 0, none⟩) P.cells.length cap) _ HP9.out HD9.out).mono ?_
    rintro e9 wz ⟨rfl, hb⟩
    go_wp2_with fail
    go_ret
    exact ⟨rfl, Ext_trans hb HE9.out⟩
  · go_wp2_with fail
    refine (Paint_bad g b p A2 d2 xs.length from_ hh _ HP5.out).mono ?_
    rintro e w7 ⟨rfl, hb⟩
    have HP7 := Lib.hid (HP5.out.ext hb)
    have HE7 := Lib.hid (Ext_trans hb HE5.out)
    have HX7 := Lib.hid (Blk.ext2 HX5.out hb)
    have HB7 := Lib.hid (Blk.ext2 HB5.out hb)
    have HD7 : Hid (DP w w7 b (.slice (some ⟨x, 0, none⟩) p.cells.length p.cells.length) p) := Lib.hid (DP.start HX7.out HE7.out hxw (by omega) hpc)
    have HOKp := Lib.hid HP5.out.ok
    clear hb HP5 HE5 HX5 HB5 HX7
    have hb7 : b < w7.heap.size := HP7.out.clt
    have b0 := HB7.out.cell 0
    have b1 := HB7.out.cell 1
    have b2 := HB7.out.cell 2
    have b3 := HB7.out.cell 3
    simp at b0 b1 b2 b3
    go_wp2_with fail
    have hPb := rPaint_bad p A2 xs.length d2 from_ hh HOKp.out hb7 HD7.out
    unfold dplV at hPb
    refine hPb.mono ?_
    rintro e w8 ⟨rfl, hd8, hh8⟩
    have HP8 := Lib.hid (HP7.out.hold hh8)
    have HD8 := Lib.hid hd8
    have HE8 : Hid (Ext w w8) := Lib.hid hd8.1
    clear hd8 hh8 HP7 HE7 HD7 hPb HB7 b0 b1 b2 b3
    go_upto_region 8 with (fail)
    have hY := Blk.new w8 28 #[.int .i64 p.rows, .int .i64 p.cols, .slice (some ⟨x, 0, none⟩) p.cells.length p.cells.length, .int .i64 p.cur]
    have hE := Ext_alloc (o := .cells #[.int .i64 p.rows, .int .i64 p.cols, .slice (some ⟨x, 0, none⟩) p.cells.length p.cells.length, .int .i64 p.cur] 28) (Ext_refl w8)
    generalize w8.alloc (.cells #[.int .i64 p.rows, .int .i64 p.cols, .slice (some ⟨x, 0, none⟩) p.cells.length p.cells.length, .int .i64 p.cur] 28) = W9 at *
    generalize w8.heap.size = yb at *
    have HP9 := Lib.hid (HP8.out.ext hE)
    have HD9 := Lib.hid (HD8.out.ext hE)
    have HE9 := Lib.hid (Ext_trans hE HE8.out)
    have y0 := hY.cell 0
    have y1 := hY.cell 1
    have y2 := hY.cell 2
    have y3 := hY.cell 3
    simp at y0 y1 y2 y3
    clear hY hE HP8 HD8 HE8
    go_wp2_with fail
    refine (same16_yes (w0 := w) (c := b) (v := .slice (some ⟨x, 0, none⟩) p.cells.length p.cells.length) _ HP9.out HD9.out).mono ?_
    rintro e9 wz ⟨rfl, hb⟩
    go_wp2_with fail
    go_ret
    exact ⟨rfl, Ext_trans hb HE9.out⟩
set_option maxRecDepth 100000 in
theorem PaintPlays_walk {H : Type} (w : World) {base : Nat} (v : Value) (t0 : Handed Try.prog H w 23 v) (k0 : Value.okWide Try.prog w .any base 23 v) (A : Option Addr) (n d : Nat) (t1 : Handed Try.prog H w 24 (.slice A n d))
    (A2 : Option Addr) (n2 d2 : Nat) (t2 : Handed Try.prog H w 59 (.slice A2 n2 d2)) (a3 : Int) (w3 : (Lit.int .i64 a3).wf = true) :
    Calls Try.prog 9 #[v, .slice A n d, .slice A2 n2 d2, .int .i64 a3] w (Ret (.bool true) w) := by
  obtain ⟨r, c, rfl, _, _⟩ := size_arg t0 k0
  obtain ⟨cs, rfl, _, hl, hr, hcs⟩ := cel_rows t1
  obtain ⟨xs, rfl, hd2, ho, hcap⟩ := ord_rows t2
  exact PaintPlays_any r c a3 A A2 d d2 cs xs (fun x hx => (hcap x hx).1) hcs hl w hr ho
end Go.Proofs.Ytmcfckdgolojlaa
