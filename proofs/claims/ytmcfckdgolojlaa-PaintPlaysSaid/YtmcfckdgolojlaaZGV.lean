import Derived.Test.YtmcfckdgolojlaaZGP
import Derived.Test.YtmcfckdgolojlaaZRM
/- The document's do: repeat to address. -/
namespace Go.Proofs.Ytmcfckdgolojlaa
set_option linter.unusedVariables false
set_option linter.unusedSimpArgs false
open Go.RowKit Go.Sort
theorem BX.set_new {w0 w W : World} {c sb ob rb : Nat} {x : OrdV} {q : Pl} {v : Value} {a li co : Int} {ld : Bool} (h : BX w0 w c sb ob rb x q v a li co ld W) {q1 : Pl} {v1 : Value} (hd : DP w0 W c v1 q1) {nb : Nat} {z0 z1 z2 z3 : Value}
    (hB : Blk W nb 28 #[z0, z1, z2, z3]) (hn : w.heap.size ≤ nb) (y0 y1 y2 y3 : Value) :
    BX w0 w c sb ob rb x q v a li co ld ((((W.setCell ⟨nb, 0, none⟩ (y0)).setCell ⟨nb, 1, none⟩ (y1)).setCell ⟨nb, 2, none⟩ (y2)).setCell ⟨nb, 3, none⟩ (y3)) ∧ DP w0 ((((W.setCell ⟨nb, 0, none⟩ (y0)).setCell ⟨nb, 1, none⟩ (y1)).setCell ⟨nb, 2, none⟩ (y2)).setCell ⟨nb, 3, none⟩ (y3)) c v1 q1 ∧ Blk ((((W.setCell ⟨nb, 0, none⟩ (y0)).setCell ⟨nb, 1, none⟩ (y1)).setCell ⟨nb, 2, none⟩ (y2)).setCell ⟨nb, 3, none⟩ (y3)) nb 28 #[y0, y1, y2, y3] := by
  obtain ⟨cs, hs, hr⟩ := h.r
  have n1 : sb ≠ nb := by rintro rfl; exact absurd (Blk.same h.s hB).1 (by decide)
  have n2 : ob ≠ nb := by rintro rfl; exact absurd (Blk.same h.o hB).1 (by decide)
  have n3 : rb ≠ nb := by rintro rfl; exact absurd (Blk.same hr hB).1 (by decide)
  have B1 : Blk (W.setCell ⟨nb, 0, none⟩ (y0)) nb 28 #[y0, z1, z2, z3] := hB.store 0 y0
  have B2 : Blk ((W.setCell ⟨nb, 0, none⟩ (y0)).setCell ⟨nb, 1, none⟩ (y1)) nb 28 #[y0, y1, z2, z3] := B1.store 1 y1
  have B3 : Blk (((W.setCell ⟨nb, 0, none⟩ (y0)).setCell ⟨nb, 1, none⟩ (y1)).setCell ⟨nb, 2, none⟩ (y2)) nb 28 #[y0, y1, y2, z3] := B2.store 2 y2
  have hz : w0.heap.size ≤ nb := Nat.le_trans h.b0 hn
  have D1 := hd.set hB (by decide) hz 0 y0
  have D2 := D1.set B1 (by decide) hz 1 y1
  have D3 := D2.set B2 (by decide) hz 2 y2
  refine ⟨⟨?_, ?_, ⟨cs, hs, ?_⟩, ?_, h.cw, h.b0, h.bs, h.bo, h.br, h.ne⟩, D3.set B3 (by decide) hz 3 y3, B3.store 3 y3⟩
  · exact (((h.s.far n1 _).far n1 _).far n1 _).far n1 _
  · exact (((h.o.far n2 _).far n2 _).far n2 _).far n2 _
  · exact (((hr.far n3 _).far n3 _).far n3 _).far n3 _
  · exact (((h.hh.set nb 0 _ hn).set nb 1 _ hn).set nb 2 _ hn).set nb 3 _ hn
set_option maxRecDepth 100000 in
set_option maxHeartbeats 4000000 in
theorem rDo_repeat_yes {w0 w : World} {c : Nat} {v : Value} (q : Pl) (a li co : Int) (ld : Bool) (x : OrdV) (hk : x.o.k = 60) (hh : 0 ≤ x.o.a ∧ x.o.a < q.n) (hok : q.Ok) (hc : c < w.heap.size) (h : DP w0 w c v q) (ho : OrAt [] w0 x.A x.B x.o) (a0 : 0 ≤ a) (a1 : a < q.n) :
    Calls Try.prog 79 #[stV q v a li co ld, .agg #[.int .u8 x.o.k, .int .i64 x.o.a, .int .u8 x.o.b, .bool x.o.ge, .slice x.A x.o.ps.length x.cA, .slice x.B x.o.da.length x.cB]] w (Do5 w0 c (q.puts (btwN q.n a (btwM q.n a x.o.a)) ⟨x.o.b, x.o.ge, false, li, co⟩) x.o.a li co false 0 w) := by
  have HK := Lib.hid hk
  have HOK := Lib.hid hok
  have HO := Lib.hid ho
  have h0 : w0.heap.size ≤ w.heap.size := h.1.size
  have hn := hok.sz.n1
  have hn0 := hok.sz.n0
  have hqn : q.cells.length ≤ 4096 := by unfold Pl.n at hn; omega
  obtain ⟨vb, cap, rfl, _⟩ := h.cells (by unfold Pl.n at hn0; omega)
  have HD := Lib.hid h
  clear hk hok ho h
  unfold stV
  go_enter Try.func79, Try.ntmps79
  go_upto_region 1 with (fail)
  obtain ⟨hBX, hE⟩ := BX.start hc h0 x q (.slice (some ⟨vb, 0, none⟩) q.cells.length cap) a li co ld
  unfold stZ at hBX hE
  obtain ⟨W1, hW⟩ : ∃ W1, ((w.alloc (.cells #[.int .i64 q.rows, .int .i64 q.cols, .slice (some ⟨vb, 0, none⟩) q.cells.length cap, .int .i64 q.cur, .int .i64 a, .int .u8 li, .int .u8 co, .bool ld] 111)).alloc (.cells #[.int .u8 x.o.k, .int .i64 x.o.a, .int .u8 x.o.b, .bool x.o.ge, .slice x.A x.o.ps.length x.cA, .slice x.B x.o.da.length x.cB] 71)).alloc (.cells #[.int .i64 0, .int .i64 0, .slice none 0 0, .int .i64 0, .int .i64 0, .int .u8 0, .int .u8 0, .bool false] 111) = W1 := ⟨_, rfl⟩
  rw [hW] at hBX hE ⊢
  clear hW
  have HX1 := Lib.hid hBX
  have HD1 := Lib.hid (HD.out.ext hE)
  clear hBX hE HD hc h0
  generalize w.heap.size + 2 = rb at *
  generalize w.heap.size + 1 = ob at *
  generalize w.heap.size = sb at *
  have p0 := HX1.out.c0
  have p1 := HX1.out.c1
  have p2 := HX1.out.c2
  have p3 := HX1.out.c3
  have e1 := HX1.out.e1
  go_wp2_with fail
  refine (rHas (w0 := w0) (c := c) (p := q) (v := .slice (some ⟨vb, 0, none⟩) q.cells.length cap) HD1.out x.o.a).mono ?_
  rintro e w2 ⟨rfl, hb⟩
  have HX2 := Lib.hid (HX1.out.ext hb)
  have HD2 := Lib.hid (HD1.out.ext hb)
  clear hb HX1 HD1 p0 p1 p2 p3 e1
  rw [show q.has x.o.a = true from decide_eq_true hh]
  have e0 := HX2.out.e0
  rw [HK.out] at e0
  have p0 := HX2.out.c0
  have p1 := HX2.out.c1
  have p2 := HX2.out.c2
  have p3 := HX2.out.c3
  have p4 := HX2.out.c4
  have p5 := HX2.out.c5
  have p6 := HX2.out.c6
  have p7 := HX2.out.c7
  have pe1 := HX2.out.e1
  have pe2 := HX2.out.e2
  have pe3 := HX2.out.e3
  have hnv := World.new_ne w2 _ p0
  have hnv2 := World.new_ne w2 _ pe1
  go_upto_region 37 with (fail)
  go_region_held3 (fun w' => w'.cell? ⟨sb, 0, none⟩ = some (.int .i64 q.rows) ∧ w'.cell? ⟨sb, 1, none⟩ = some (.int .i64 q.cols) ∧ w'.cell? ⟨sb, 2, none⟩ = some (.slice (some ⟨vb, 0, none⟩) q.cells.length cap) ∧ w'.cell? ⟨sb, 3, none⟩ = some (.int .i64 q.cur) ∧ w'.cell? ⟨sb, 4, none⟩ = some (.int .i64 a) ∧ w'.cell? ⟨sb, 5, none⟩ = some (.int .u8 li) ∧ w'.cell? ⟨sb, 6, none⟩ = some (.int .u8 co) ∧ w'.cell? ⟨sb, 7, none⟩ = some (.bool ld) ∧ w'.cell? ⟨ob, 1, none⟩ = some (.int .i64 x.o.a) ∧ w'.cell? ⟨ob, 2, none⟩ = some (.int .u8 x.o.b) ∧ w'.cell? ⟨ob, 3, none⟩ = some (.bool x.o.ge)) (first | with_reducible exact ⟨p0, p1, p2, p3, p4, p5, p6, p7, pe1, pe2, pe3⟩ | with_reducible exact ⟨j0, j1, j2, j3, j4, j5, j6, j7, je1, je2, je3⟩ | with_reducible exact ⟨k0, k1, k2, k3, k4, k5, k6, k7, ke1, ke2, ke3⟩ | go_keep) ((first | (go_at_call 103; refine (rChar (w0 := w0) (c := c) (p := q) (v := .slice (some ⟨vb, 0, none⟩) q.cells.length cap) (HD2.out.ext (by first | exact Ext_refl _ | exact Ext_drew (Ext_refl _) | exact Ext_drew (Ext_alloc (Ext_refl _)) | exact Ext_alloc (Ext_drew (Ext_refl _)) | exact Ext_alloc (Ext_refl _))) a li co ld (x.o.b) x.o.ge).mono ?_; rintro e wc ⟨rfl, hb⟩; have HXc := Lib.hid (HX2.out.ext (show Ext w2 wc from Ext_trans hb (by first | exact Ext_refl _ | exact Ext_drew (Ext_refl _) | exact Ext_drew (Ext_alloc (Ext_refl _)) | exact Ext_alloc (Ext_drew (Ext_refl _)) | exact Ext_alloc (Ext_refl _)))); have HDc := Lib.hid (HD2.out.ext (show Ext w2 wc from Ext_trans hb (by first | exact Ext_refl _ | exact Ext_drew (Ext_refl _) | exact Ext_drew (Ext_alloc (Ext_refl _)) | exact Ext_alloc (Ext_drew (Ext_refl _)) | exact Ext_alloc (Ext_refl _)))); (first | (have hC : Blk wc w2.heap.size 28 #[.int .i64 0, .int .i64 0, .slice none 0 0, .int .i64 0] := (by with_reducible exact Blk.ext2 (Blk.drew (Blk.new w2 _ _)) hb)) | skip); clear hb; have j0 := HXc.out.c0; have j1 := HXc.out.c1; have j2 := HXc.out.c2; have j3 := HXc.out.c3; have j4 := HXc.out.c4; have j5 := HXc.out.c5; have j6 := HXc.out.c6; have j7 := HXc.out.c7; have je1 := HXc.out.e1; have je2 := HXc.out.e2; have je3 := HXc.out.e3; have hnc := World.new_ne wc _ j0; have hnc2 := World.new_ne wc _ je1) | (go_at_call 106; refine (rFill (w0 := w0) (c := c) (p := q) (v := .slice (some ⟨vb, 0, none⟩) q.cells.length cap) HOK.out (HXc.out.ext (show Ext wc _ from (by first | exact Ext_refl _ | exact Ext_drew (Ext_refl _) | exact Ext_drew (Ext_alloc (Ext_refl _)) | exact Ext_alloc (Ext_drew (Ext_refl _)) | exact Ext_alloc (Ext_refl _)))).clt (HDc.out.ext (by first | exact Ext_refl _ | exact Ext_drew (Ext_refl _) | exact Ext_drew (Ext_alloc (Ext_refl _)) | exact Ext_alloc (Ext_drew (Ext_refl _)) | exact Ext_alloc (Ext_refl _))) a x.o.a a0 a1 hh.1 hh.2 ⟨x.o.b, x.o.ge, false, li, co⟩).mono ?_; rintro e w3 ⟨mm, v3, rfl, hd3, hh3⟩; obtain ⟨vb3, cap3, rfl, _⟩ := hd3.cells (by rw [(puts_dims _ _ q).2.2.1]; unfold Pl.n at hn0; omega); have HX3 := Lib.hid ((HXc.out.ext (show Ext wc _ from (by first | exact Ext_refl _ | exact Ext_drew (Ext_refl _) | exact Ext_drew (Ext_alloc (Ext_refl _)) | exact Ext_alloc (Ext_drew (Ext_refl _)) | exact Ext_alloc (Ext_refl _)))).hold hh3); have HD3 := Lib.hid hd3; (first | (have hC2 : Blk w3 w2.heap.size 28 #[.int .i64 0, .int .i64 0, .slice none 0 0, .int .i64 0] := (by with_reducible exact Blk.hold hC (by decide) hh3)) | (have hC2 : Blk w3 wc.heap.size 28 #[.int .i64 0, .int .i64 0, .slice none 0 0, .int .i64 0] := (by with_reducible exact Blk.hold (Blk.new wc _ _) (by decide) hh3)) | skip); (first | (have y0 := hC2.cell 0; have y1 := hC2.cell 1; have y2 := hC2.cell 2; have y3 := hC2.cell 3; have f0 := hC2.free 0; have f1 := hC2.free 1; have f2 := hC2.free 2; have f3 := hC2.free 3; simp at y0 y1 y2 y3) | skip); clear hd3 hh3; generalize q.puts (btwN q.n a (btwM q.n a x.o.a)) ⟨x.o.b, x.o.ge, false, li, co⟩ = Q at *; unfold dplV; have k0 := HX3.out.c0; have k1 := HX3.out.c1; have k2 := HX3.out.c2; have k3 := HX3.out.c3; have k4 := HX3.out.c4; have k5 := HX3.out.c5; have k6 := HX3.out.c6; have k7 := HX3.out.c7; have ke1 := HX3.out.e1; have ke2 := HX3.out.e2; have ke3 := HX3.out.e3; have hnw := World.new_ne w3 _ k0; have hnw2 := World.new_ne w3 _ ke1)))
  · rename_i hHeld
    clear hHeld
    have hY : Blk (w3.alloc (.cells #[.int .i64 Q.rows, .int .i64 Q.cols, .slice (some ⟨vb3, 0, none⟩) Q.cells.length cap3, .int .i64 Q.cur] 28)) w3.heap.size 28 #[.int .i64 Q.rows, .int .i64 Q.cols, .slice (some ⟨vb3, 0, none⟩) Q.cells.length cap3, .int .i64 Q.cur] := Blk.new w3 _ _
    have HX4 := Lib.hid (HX3.out.ext (Ext_alloc (o := .cells #[.int .i64 Q.rows, .int .i64 Q.cols, .slice (some ⟨vb3, 0, none⟩) Q.cells.length cap3, .int .i64 Q.cur] 28) (Ext_refl w3)))
    have HD4 := Lib.hid (HD3.out.ext (Ext_alloc (o := .cells #[.int .i64 Q.rows, .int .i64 Q.cols, .slice (some ⟨vb3, 0, none⟩) Q.cells.length cap3, .int .i64 Q.cur] 28) (Ext_refl w3)))
    generalize w3.alloc (.cells #[.int .i64 Q.rows, .int .i64 Q.cols, .slice (some ⟨vb3, 0, none⟩) Q.cells.length cap3, .int .i64 Q.cur] 28) = W4 at *
    generalize w3.heap.size = nb at *
    clear HX3 HD3 k0 k1 k2 k3 k4 k5 k6 k7 ke1 ke2 ke3 p0 p1 p2 p3 p4 p5 p6 p7 pe1 pe2 pe3 j0 j1 j2 j3 j4 j5 j6 j7 je1 je2 je3 e0
    have y0 := hY.cell 0
    have y1 := hY.cell 1
    have y2 := hY.cell 2
    have y3 := hY.cell 3
    simp at y0 y1 y2 y3
    clear hY
    have p0 := HX4.out.c0
    have p1 := HX4.out.c1
    have p2 := HX4.out.c2
    have p3 := HX4.out.c3
    have fp0 := HX4.out.fs 0
    have fp1 := HX4.out.fs 1
    have fp2 := HX4.out.fs 2
    have fp3 := HX4.out.fs 3
    go_upto_region 39 with (fail)
    have F := HX4.out.set4 HD4.out
    generalize ((((W4.setCell ⟨sb, 0, none⟩ (.int .i64 Q.rows)).setCell ⟨sb, 1, none⟩ (.int .i64 Q.cols)).setCell ⟨sb, 2, none⟩ (.slice (some ⟨vb3, 0, none⟩) Q.cells.length cap3)).setCell ⟨sb, 3, none⟩ (.int .i64 Q.cur)) = W5 at F ⊢
    have HX5 := Lib.hid F.1
    have HD5 := Lib.hid F.2
    clear F HX4 HD4 p0 p1 p2 p3 fp0 fp1 fp2 fp3 y0 y1 y2 y3
    have p4 := HX5.out.c4
    have fp4 := HX5.out.fs 4
    have e1 := HX5.out.e1
    go_upto_region 44 with (fail)
    have F := HX5.out.st_at HD5.out x.o.a
    generalize (W5.setCell ⟨sb, 4, none⟩ (.int .i64 x.o.a)) = W6 at F ⊢
    have HX6 := Lib.hid F.1
    have HD6 := Lib.hid F.2
    clear F HX5 HD5 p4 fp4 e1
    have F := HX6.out.st_ld HD6.out false
    have p7 := HX6.out.c7
    have fp7 := HX6.out.fs 7
    go_upto_region 45 with (fail)
    generalize (W6.setCell ⟨sb, 7, none⟩ (.bool false)) = Wl at F ⊢
    have HXl := Lib.hid F.1
    have HDl := Lib.hid F.2
    clear F p7 fp7
    have p0 := HXl.out.c0
    have p1 := HXl.out.c1
    have p2 := HXl.out.c2
    have p3 := HXl.out.c3
    have p4 := HXl.out.c4
    have p5 := HXl.out.c5
    have p6 := HXl.out.c6
    have p7 := HXl.out.c7
    obtain ⟨zr0, y0⟩ := HXl.out.zr 0 (by decide)
    have g0 := HXl.out.fr 0
    obtain ⟨zr1, y1⟩ := HXl.out.zr 1 (by decide)
    have g1 := HXl.out.fr 1
    obtain ⟨zr2, y2⟩ := HXl.out.zr 2 (by decide)
    have g2 := HXl.out.fr 2
    obtain ⟨zr3, y3⟩ := HXl.out.zr 3 (by decide)
    have g3 := HXl.out.fr 3
    obtain ⟨zr4, y4⟩ := HXl.out.zr 4 (by decide)
    have g4 := HXl.out.fr 4
    obtain ⟨zr5, y5⟩ := HXl.out.zr 5 (by decide)
    have g5 := HXl.out.fr 5
    obtain ⟨zr6, y6⟩ := HXl.out.zr 6 (by decide)
    have g6 := HXl.out.fr 6
    obtain ⟨zr7, y7⟩ := HXl.out.zr 7 (by decide)
    have g7 := HXl.out.fr 7
    go_wp2_with fail
    have F := HXl.out.ret HDl.out
    generalize ((((((((Wl.setCell ⟨rb, 0, none⟩ (.int .i64 Q.rows)).setCell ⟨rb, 1, none⟩ (.int .i64 Q.cols)).setCell ⟨rb, 2, none⟩ (.slice (some ⟨vb3, 0, none⟩) Q.cells.length cap3)).setCell ⟨rb, 3, none⟩ (.int .i64 Q.cur)).setCell ⟨rb, 4, none⟩ (.int .i64 x.o.a)).setCell ⟨rb, 5, none⟩ (.int .u8 li)).setCell ⟨rb, 6, none⟩ (.int .u8 co)).setCell ⟨rb, 7, none⟩ (.bool false)) = Wf at F ⊢
    obtain ⟨R8, H8, D8⟩ := F
    have c0 := R8.cell 0
    have c1 := R8.cell 1
    have c2 := R8.cell 2
    have c3 := R8.cell 3
    have c4 := R8.cell 4
    have c5 := R8.cell 5
    have c6 := R8.cell 6
    have c7 := R8.cell 7
    simp at c0 c1 c2 c3 c4 c5 c6 c7
    refine bodyPost_ret (v := .tuple #[.agg #[.int .i64 Q.rows, .int .i64 Q.cols, .slice (some ⟨vb3, 0, none⟩) Q.cells.length cap3, .int .i64 Q.cur, .int .i64 x.o.a, .int .u8 li, .int .u8 co, .bool false], .int .i64 0]) (by simp [results, Try.results79, go_sem, c0, c1, c2, c3, c4, c5, c6, c7]) rfl ?_
    exact ⟨_, rfl, D8, H8⟩
  · rename_i hHeld
    clear hHeld
    obtain ⟨h1, h2, hY⟩ := HX3.out.set_new HD3.out hC2 HXc.out.hh.1 (.int .i64 Q.rows) (.int .i64 Q.cols) (.slice (some ⟨vb3, 0, none⟩) Q.cells.length cap3) (.int .i64 Q.cur)
    generalize ((((w3.setCell ⟨wc.heap.size, 0, none⟩ (.int .i64 Q.rows)).setCell ⟨wc.heap.size, 1, none⟩ (.int .i64 Q.cols)).setCell ⟨wc.heap.size, 2, none⟩ (.slice (some ⟨vb3, 0, none⟩) Q.cells.length cap3)).setCell ⟨wc.heap.size, 3, none⟩ (.int .i64 Q.cur)) = W4 at *
    have HX4 := Lib.hid h1
    have HD4 := Lib.hid h2
    clear h1 h2 y0 y1 y2 y3 f0 f1 f2 f3 hC2
    generalize wc.heap.size = nb at *
    clear HX3 HD3 k0 k1 k2 k3 k4 k5 k6 k7 ke1 ke2 ke3 p0 p1 p2 p3 p4 p5 p6 p7 pe1 pe2 pe3 j0 j1 j2 j3 j4 j5 j6 j7 je1 je2 je3 e0
    have y0 := hY.cell 0
    have y1 := hY.cell 1
    have y2 := hY.cell 2
    have y3 := hY.cell 3
    simp at y0 y1 y2 y3
    clear hY
    have p0 := HX4.out.c0
    have p1 := HX4.out.c1
    have p2 := HX4.out.c2
    have p3 := HX4.out.c3
    have fp0 := HX4.out.fs 0
    have fp1 := HX4.out.fs 1
    have fp2 := HX4.out.fs 2
    have fp3 := HX4.out.fs 3
    go_upto_region 39 with (fail)
    have F := HX4.out.set4 HD4.out
    generalize ((((W4.setCell ⟨sb, 0, none⟩ (.int .i64 Q.rows)).setCell ⟨sb, 1, none⟩ (.int .i64 Q.cols)).setCell ⟨sb, 2, none⟩ (.slice (some ⟨vb3, 0, none⟩) Q.cells.length cap3)).setCell ⟨sb, 3, none⟩ (.int .i64 Q.cur)) = W5 at F ⊢
    have HX5 := Lib.hid F.1
    have HD5 := Lib.hid F.2
    clear F HX4 HD4 p0 p1 p2 p3 fp0 fp1 fp2 fp3 y0 y1 y2 y3
    have p4 := HX5.out.c4
    have fp4 := HX5.out.fs 4
    have e1 := HX5.out.e1
    go_upto_region 44 with (fail)
    have F := HX5.out.st_at HD5.out x.o.a
    generalize (W5.setCell ⟨sb, 4, none⟩ (.int .i64 x.o.a)) = W6 at F ⊢
    have HX6 := Lib.hid F.1
    have HD6 := Lib.hid F.2
    clear F HX5 HD5 p4 fp4 e1
    have F := HX6.out.st_ld HD6.out false
    have p7 := HX6.out.c7
    have fp7 := HX6.out.fs 7
    go_upto_region 45 with (fail)
    generalize (W6.setCell ⟨sb, 7, none⟩ (.bool false)) = Wl at F ⊢
    have HXl := Lib.hid F.1
    have HDl := Lib.hid F.2
    clear F p7 fp7
    have p0 := HXl.out.c0
    have p1 := HXl.out.c1
    have p2 := HXl.out.c2
    have p3 := HXl.out.c3
    have p4 := HXl.out.c4
    have p5 := HXl.out.c5
    have p6 := HXl.out.c6
    have p7 := HXl.out.c7
    obtain ⟨zr0, y0⟩ := HXl.out.zr 0 (by decide)
    have g0 := HXl.out.fr 0
    obtain ⟨zr1, y1⟩ := HXl.out.zr 1 (by decide)
    have g1 := HXl.out.fr 1
    obtain ⟨zr2, y2⟩ := HXl.out.zr 2 (by decide)
    have g2 := HXl.out.fr 2
    obtain ⟨zr3, y3⟩ := HXl.out.zr 3 (by decide)
    have g3 := HXl.out.fr 3
    obtain ⟨zr4, y4⟩ := HXl.out.zr 4 (by decide)
    have g4 := HXl.out.fr 4
    obtain ⟨zr5, y5⟩ := HXl.out.zr 5 (by decide)
    have g5 := HXl.out.fr 5
    obtain ⟨zr6, y6⟩ := HXl.out.zr 6 (by decide)
    have g6 := HXl.out.fr 6
    obtain ⟨zr7, y7⟩ := HXl.out.zr 7 (by decide)
    have g7 := HXl.out.fr 7
    go_wp2_with fail
    have F := HXl.out.ret HDl.out
    generalize ((((((((Wl.setCell ⟨rb, 0, none⟩ (.int .i64 Q.rows)).setCell ⟨rb, 1, none⟩ (.int .i64 Q.cols)).setCell ⟨rb, 2, none⟩ (.slice (some ⟨vb3, 0, none⟩) Q.cells.length cap3)).setCell ⟨rb, 3, none⟩ (.int .i64 Q.cur)).setCell ⟨rb, 4, none⟩ (.int .i64 x.o.a)).setCell ⟨rb, 5, none⟩ (.int .u8 li)).setCell ⟨rb, 6, none⟩ (.int .u8 co)).setCell ⟨rb, 7, none⟩ (.bool false)) = Wf at F ⊢
    obtain ⟨R8, H8, D8⟩ := F
    have c0 := R8.cell 0
    have c1 := R8.cell 1
    have c2 := R8.cell 2
    have c3 := R8.cell 3
    have c4 := R8.cell 4
    have c5 := R8.cell 5
    have c6 := R8.cell 6
    have c7 := R8.cell 7
    simp at c0 c1 c2 c3 c4 c5 c6 c7
    refine bodyPost_ret (v := .tuple #[.agg #[.int .i64 Q.rows, .int .i64 Q.cols, .slice (some ⟨vb3, 0, none⟩) Q.cells.length cap3, .int .i64 Q.cur, .int .i64 x.o.a, .int .u8 li, .int .u8 co, .bool false], .int .i64 0]) (by simp [results, Try.results79, go_sem, c0, c1, c2, c3, c4, c5, c6, c7]) rfl ?_
    exact ⟨_, rfl, D8, H8⟩
  · rename_i hHeld
    clear hHeld
    obtain ⟨h1, h2, hY⟩ := HX3.out.set_new HD3.out hC2 HX2.out.hh.1 (.int .i64 Q.rows) (.int .i64 Q.cols) (.slice (some ⟨vb3, 0, none⟩) Q.cells.length cap3) (.int .i64 Q.cur)
    generalize ((((w3.setCell ⟨w2.heap.size, 0, none⟩ (.int .i64 Q.rows)).setCell ⟨w2.heap.size, 1, none⟩ (.int .i64 Q.cols)).setCell ⟨w2.heap.size, 2, none⟩ (.slice (some ⟨vb3, 0, none⟩) Q.cells.length cap3)).setCell ⟨w2.heap.size, 3, none⟩ (.int .i64 Q.cur)) = W4 at *
    have HX4 := Lib.hid h1
    have HD4 := Lib.hid h2
    clear h1 h2 y0 y1 y2 y3 f0 f1 f2 f3 hC2
    generalize w2.heap.size = nb at *
    clear HX3 HD3 k0 k1 k2 k3 k4 k5 k6 k7 ke1 ke2 ke3 p0 p1 p2 p3 p4 p5 p6 p7 pe1 pe2 pe3 j0 j1 j2 j3 j4 j5 j6 j7 je1 je2 je3 e0
    have y0 := hY.cell 0
    have y1 := hY.cell 1
    have y2 := hY.cell 2
    have y3 := hY.cell 3
    simp at y0 y1 y2 y3
    clear hY
    have p0 := HX4.out.c0
    have p1 := HX4.out.c1
    have p2 := HX4.out.c2
    have p3 := HX4.out.c3
    have fp0 := HX4.out.fs 0
    have fp1 := HX4.out.fs 1
    have fp2 := HX4.out.fs 2
    have fp3 := HX4.out.fs 3
    go_upto_region 39 with (fail)
    have F := HX4.out.set4 HD4.out
    generalize ((((W4.setCell ⟨sb, 0, none⟩ (.int .i64 Q.rows)).setCell ⟨sb, 1, none⟩ (.int .i64 Q.cols)).setCell ⟨sb, 2, none⟩ (.slice (some ⟨vb3, 0, none⟩) Q.cells.length cap3)).setCell ⟨sb, 3, none⟩ (.int .i64 Q.cur)) = W5 at F ⊢
    have HX5 := Lib.hid F.1
    have HD5 := Lib.hid F.2
    clear F HX4 HD4 p0 p1 p2 p3 fp0 fp1 fp2 fp3 y0 y1 y2 y3
    have p4 := HX5.out.c4
    have fp4 := HX5.out.fs 4
    have e1 := HX5.out.e1
    go_upto_region 44 with (fail)
    have F := HX5.out.st_at HD5.out x.o.a
    generalize (W5.setCell ⟨sb, 4, none⟩ (.int .i64 x.o.a)) = W6 at F ⊢
    have HX6 := Lib.hid F.1
    have HD6 := Lib.hid F.2
    clear F HX5 HD5 p4 fp4 e1
    have F := HX6.out.st_ld HD6.out false
    have p7 := HX6.out.c7
    have fp7 := HX6.out.fs 7
    go_upto_region 45 with (fail)
    generalize (W6.setCell ⟨sb, 7, none⟩ (.bool false)) = Wl at F ⊢
    have HXl := Lib.hid F.1
    have HDl := Lib.hid F.2
    clear F p7 fp7
    have p0 := HXl.out.c0
    have p1 := HXl.out.c1
    have p2 := HXl.out.c2
    have p3 := HXl.out.c3
    have p4 := HXl.out.c4
    have p5 := HXl.out.c5
    have p6 := HXl.out.c6
    have p7 := HXl.out.c7
    obtain ⟨zr0, y0⟩ := HXl.out.zr 0 (by decide)
    have g0 := HXl.out.fr 0
    obtain ⟨zr1, y1⟩ := HXl.out.zr 1 (by decide)
    have g1 := HXl.out.fr 1
    obtain ⟨zr2, y2⟩ := HXl.out.zr 2 (by decide)
    have g2 := HXl.out.fr 2
    obtain ⟨zr3, y3⟩ := HXl.out.zr 3 (by decide)
    have g3 := HXl.out.fr 3
    obtain ⟨zr4, y4⟩ := HXl.out.zr 4 (by decide)
    have g4 := HXl.out.fr 4
    obtain ⟨zr5, y5⟩ := HXl.out.zr 5 (by decide)
    have g5 := HXl.out.fr 5
    obtain ⟨zr6, y6⟩ := HXl.out.zr 6 (by decide)
    have g6 := HXl.out.fr 6
    obtain ⟨zr7, y7⟩ := HXl.out.zr 7 (by decide)
    have g7 := HXl.out.fr 7
    go_wp2_with fail
    have F := HXl.out.ret HDl.out
    generalize ((((((((Wl.setCell ⟨rb, 0, none⟩ (.int .i64 Q.rows)).setCell ⟨rb, 1, none⟩ (.int .i64 Q.cols)).setCell ⟨rb, 2, none⟩ (.slice (some ⟨vb3, 0, none⟩) Q.cells.length cap3)).setCell ⟨rb, 3, none⟩ (.int .i64 Q.cur)).setCell ⟨rb, 4, none⟩ (.int .i64 x.o.a)).setCell ⟨rb, 5, none⟩ (.int .u8 li)).setCell ⟨rb, 6, none⟩ (.int .u8 co)).setCell ⟨rb, 7, none⟩ (.bool false)) = Wf at F ⊢
    obtain ⟨R8, H8, D8⟩ := F
    have c0 := R8.cell 0
    have c1 := R8.cell 1
    have c2 := R8.cell 2
    have c3 := R8.cell 3
    have c4 := R8.cell 4
    have c5 := R8.cell 5
    have c6 := R8.cell 6
    have c7 := R8.cell 7
    simp at c0 c1 c2 c3 c4 c5 c6 c7
    refine bodyPost_ret (v := .tuple #[.agg #[.int .i64 Q.rows, .int .i64 Q.cols, .slice (some ⟨vb3, 0, none⟩) Q.cells.length cap3, .int .i64 Q.cur, .int .i64 x.o.a, .int .u8 li, .int .u8 co, .bool false], .int .i64 0]) (by simp [results, Try.results79, go_sem, c0, c1, c2, c3, c4, c5, c6, c7]) rfl ?_
    exact ⟨_, rfl, D8, H8⟩
end Go.Proofs.Ytmcfckdgolojlaa
