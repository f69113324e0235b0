import Derived.Test.YtmcfckdgolojlaaZGP
import Derived.Test.YtmcfckdgolojlaaZRM
/- The document's do: what lays. -/
namespace Go.Proofs.Ytmcfckdgolojlaa
set_option linter.unusedVariables false
set_option linter.unusedSimpArgs false
open Go.RowKit Go.Sort
set_option maxRecDepth 100000 in
set_option maxHeartbeats 4000000 in
theorem rDo_dress {w0 w : World} {c : Nat} {v : Value} (q : Pl) (a li co : Int) (ld : Bool) (x : OrdV) (hk : x.o.k = 40) (z : Cel) (hz : (Cel.mk 0 false false li co).dress x.o.ps = z) (hP : x.o.ps.length ≤ 1000) (hA : x.o.ps.length ≤ x.cA) (hok : q.Ok) (hc : c < w.heap.size) (h : DP w0 w c v q) (ho : OrAt [] w0 x.A x.B x.o) (a0 : 0 ≤ a) (a1 : a < q.n) :
    Calls Try.prog 79 #[stV q v a li co ld, .agg #[.int .u8 x.o.k, .int .i64 x.o.a, .int .u8 x.o.b, .bool x.o.ge, .slice x.A x.o.ps.length x.cA, .slice x.B x.o.da.length x.cB]] w (Do5 w0 c q a z.li z.co false 0 w) := by
  have HK := Lib.hid hk
  have HOK := Lib.hid hok
  have HO := Lib.hid ho
  have h0 : w0.heap.size ≤ w.heap.size := h.1.size
  have hn := hok.sz.n1
  have hn0 := hok.sz.n0
  have hqn : q.cells.length ≤ 4096 := by unfold Pl.n at hn; omega
  obtain ⟨vb, cap, rfl, _⟩ := h.cells (by unfold Pl.n at hn0; omega)
  have HD := Lib.hid h
  clear hk hok ho h
  unfold stV
  go_enter Try.func79, Try.ntmps79
  go_upto_region 1 with (fail)
  obtain ⟨hBX, hE⟩ := BX.start hc h0 x q (.slice (some ⟨vb, 0, none⟩) q.cells.length cap) a li co ld
  unfold stZ at hBX hE
  obtain ⟨W1, hW⟩ : ∃ W1, ((w.alloc (.cells #[.int .i64 q.rows, .int .i64 q.cols, .slice (some ⟨vb, 0, none⟩) q.cells.length cap, .int .i64 q.cur, .int .i64 a, .int .u8 li, .int .u8 co, .bool ld] 111)).alloc (.cells #[.int .u8 x.o.k, .int .i64 x.o.a, .int .u8 x.o.b, .bool x.o.ge, .slice x.A x.o.ps.length x.cA, .slice x.B x.o.da.length x.cB] 71)).alloc (.cells #[.int .i64 0, .int .i64 0, .slice none 0 0, .int .i64 0, .int .i64 0, .int .u8 0, .int .u8 0, .bool false] 111) = W1 := ⟨_, rfl⟩
  rw [hW] at hBX hE ⊢
  clear hW
  have HX1 := Lib.hid hBX
  have HD1 := Lib.hid (HD.out.ext hE)
  clear hBX hE HD hc h0
  generalize w.heap.size + 2 = rb at *
  generalize w.heap.size + 1 = ob at *
  generalize w.heap.size = sb at *
  have p0 := HX1.out.c0
  have p1 := HX1.out.c1
  have p2 := HX1.out.c2
  have p3 := HX1.out.c3
  have e1 := HX1.out.e1
  go_wp2_with fail
  refine (rHas (w0 := w0) (c := c) (p := q) (v := .slice (some ⟨vb, 0, none⟩) q.cells.length cap) HD1.out x.o.a).mono ?_
  rintro e w2 ⟨rfl, hb⟩
  have HX2 := Lib.hid (HX1.out.ext hb)
  have HD2 := Lib.hid (HD1.out.ext hb)
  clear hb HX1 HD1 p0 p1 p2 p3 e1
  have e0 := HX2.out.e0
  rw [HK.out] at e0
  have HZ := Lib.hid hz
  clear hz
  have p5 := HX2.out.c5
  have p6 := HX2.out.c6
  have e4 := HX2.out.e4
  go_wp2_with fail
  refine (rDress (Cel.mk 0 false false li co) x.A x.cA x.o.ps HO.out.pb hP hA _ (Rd_ext HD2.out.1 HO.out.ps)).mono ?_
  rintro e wc ⟨rfl, hb⟩
  rw [HZ.out]
  have HX3 := Lib.hid (HX2.out.ext hb)
  have HD3 := Lib.hid (HD2.out.ext hb)
  clear hb HX2 HD2 p5 p6 e4
  go_upto_region 24 with (fail)
  have hZB := Blk.new wc 38 #[.int .u8 z.b, .bool z.ge, .bool z.st, .int .u8 z.li, .int .u8 z.co]
  have hE := Ext_alloc (o := .cells #[.int .u8 z.b, .bool z.ge, .bool z.st, .int .u8 z.li, .int .u8 z.co] 38) (Ext_refl wc)
  have hzn : wc.heap.size ≠ sb := Nat.ne_of_gt HX3.out.s.lt
  generalize wc.alloc (.cells #[.int .u8 z.b, .bool z.ge, .bool z.st, .int .u8 z.li, .int .u8 z.co] 38) = Wz at *
  generalize wc.heap.size = zb at *
  have HX4 := Lib.hid (HX3.out.ext hE)
  have HD4 := Lib.hid (HD3.out.ext hE)
  clear hE HX3 HD3 e0
  have y3 := hZB.cell 3
  have y4 := hZB.cell 4
  simp at y3 y4
  clear hZB
  have p5 := HX4.out.c5
  have p6 := HX4.out.c6
  have fp5 := HX4.out.fs 5
  have fp6 := HX4.out.fs 6
  go_upto_region 44 with (fail)
  have F1 := HX4.out.st_li HD4.out z.li
  have F2 := F1.1.st_co F1.2 z.co
  generalize ((Wz.setCell ⟨sb, 5, none⟩ (.int .u8 z.li)).setCell ⟨sb, 6, none⟩ (.int .u8 z.co)) = W5 at F2 ⊢
  have HX5 := Lib.hid F2.1
  have HD5 := Lib.hid F2.2
  clear F1 F2 HX4 HD4 y3 y4 hzn p5 p6 fp5 fp6
  have F := HX5.out.st_ld HD5.out false
  have p7 := HX5.out.c7
  have fp7 := HX5.out.fs 7
  go_upto_region 45 with (fail)
  generalize (W5.setCell ⟨sb, 7, none⟩ (.bool false)) = Wl at F ⊢
  have HXl := Lib.hid F.1
  have HDl := Lib.hid F.2
  clear F p7 fp7
  have p0 := HXl.out.c0
  have p1 := HXl.out.c1
  have p2 := HXl.out.c2
  have p3 := HXl.out.c3
  have p4 := HXl.out.c4
  have p5 := HXl.out.c5
  have p6 := HXl.out.c6
  have p7 := HXl.out.c7
  obtain ⟨zr0, y0⟩ := HXl.out.zr 0 (by decide)
  have g0 := HXl.out.fr 0
  obtain ⟨zr1, y1⟩ := HXl.out.zr 1 (by decide)
  have g1 := HXl.out.fr 1
  obtain ⟨zr2, y2⟩ := HXl.out.zr 2 (by decide)
  have g2 := HXl.out.fr 2
  obtain ⟨zr3, y3⟩ := HXl.out.zr 3 (by decide)
  have g3 := HXl.out.fr 3
  obtain ⟨zr4, y4⟩ := HXl.out.zr 4 (by decide)
  have g4 := HXl.out.fr 4
  obtain ⟨zr5, y5⟩ := HXl.out.zr 5 (by decide)
  have g5 := HXl.out.fr 5
  obtain ⟨zr6, y6⟩ := HXl.out.zr 6 (by decide)
  have g6 := HXl.out.fr 6
  obtain ⟨zr7, y7⟩ := HXl.out.zr 7 (by decide)
  have g7 := HXl.out.fr 7
  go_wp2_with fail
  have F := HXl.out.ret HDl.out
  generalize ((((((((Wl.setCell ⟨rb, 0, none⟩ (.int .i64 q.rows)).setCell ⟨rb, 1, none⟩ (.int .i64 q.cols)).setCell ⟨rb, 2, none⟩ (.slice (some ⟨vb, 0, none⟩) q.cells.length cap)).setCell ⟨rb, 3, none⟩ (.int .i64 q.cur)).setCell ⟨rb, 4, none⟩ (.int .i64 a)).setCell ⟨rb, 5, none⟩ (.int .u8 z.li)).setCell ⟨rb, 6, none⟩ (.int .u8 z.co)).setCell ⟨rb, 7, none⟩ (.bool false)) = Wf at F ⊢
  obtain ⟨R8, H8, D8⟩ := F
  have c0 := R8.cell 0
  have c1 := R8.cell 1
  have c2 := R8.cell 2
  have c3 := R8.cell 3
  have c4 := R8.cell 4
  have c5 := R8.cell 5
  have c6 := R8.cell 6
  have c7 := R8.cell 7
  simp at c0 c1 c2 c3 c4 c5 c6 c7
  refine bodyPost_ret (v := .tuple #[.agg #[.int .i64 q.rows, .int .i64 q.cols, .slice (some ⟨vb, 0, none⟩) q.cells.length cap, .int .i64 q.cur, .int .i64 a, .int .u8 z.li, .int .u8 z.co, .bool false], .int .i64 0]) (by simp [results, Try.results79, go_sem, c0, c1, c2, c3, c4, c5, c6, c7]) rfl ?_
  exact ⟨_, rfl, D8, H8⟩
end Go.Proofs.Ytmcfckdgolojlaa
