import Derived.Test.YtmcfckdgolojlaaZGP
/- The document's do: places. -/
namespace Go.Proofs.Ytmcfckdgolojlaa
set_option linter.unusedVariables false
set_option linter.unusedSimpArgs false
open Go.RowKit
set_option maxRecDepth 100000 in
set_option maxHeartbeats 4000000 in
theorem rDo_jump_yes {w0 w : World} {c : Nat} {v : Value} (q : Pl) (a li co : Int) (ld : Bool) (x : OrdV) (hk : x.o.k = 17) (hh : 0 ≤ x.o.a ∧ x.o.a < q.n) (hok : q.Ok) (hc : c < w.heap.size) (h : DP w0 w c v q) (ho : OrAt [] w0 x.A x.B x.o) (a0 : 0 ≤ a) (a1 : a < q.n) :
    Calls Try.prog 79 #[stV q v a li co ld, .agg #[.int .u8 x.o.k, .int .i64 x.o.a, .int .u8 x.o.b, .bool x.o.ge, .slice x.A x.o.ps.length x.cA, .slice x.B x.o.da.length x.cB]] w (Do5 w0 c q x.o.a li co false 0 w) := by
  have HK := Lib.hid hk
  have HOK := Lib.hid hok
  have HO := Lib.hid ho
  have h0 : w0.heap.size ≤ w.heap.size := h.1.size
  have hn := hok.sz.n1
  have hn0 := hok.sz.n0
  have hqn : q.cells.length ≤ 4096 := by unfold Pl.n at hn; omega
  obtain ⟨vb, cap, rfl, _⟩ := h.cells (by unfold Pl.n at hn0; omega)
  have HD := Lib.hid h
  clear hk hok ho h
  unfold stV
  go_enter Try.func79, Try.ntmps79
  go_upto_region 1 with (fail)
  obtain ⟨hBX, hE⟩ := BX.start hc h0 x q (.slice (some ⟨vb, 0, none⟩) q.cells.length cap) a li co ld
  unfold stZ at hBX hE
  obtain ⟨W1, hW⟩ : ∃ W1, ((w.alloc (.cells #[.int .i64 q.rows, .int .i64 q.cols, .slice (some ⟨vb, 0, none⟩) q.cells.length cap, .int .i64 q.cur, .int .i64 a, .int .u8 li, .int .u8 co, .bool ld] 111)).alloc (.cells #[.int .u8 x.o.k, .int .i64 x.o.a, .int .u8 x.o.b, .bool x.o.ge, .slice x.A x.o.ps.length x.cA, .slice x.B x.o.da.length x.cB] 71)).alloc (.cells #[.int .i64 0, .int .i64 0, .slice none 0 0, .int .i64 0, .int .i64 0, .int .u8 0, .int .u8 0, .bool false] 111) = W1 := ⟨_, rfl⟩
  rw [hW] at hBX hE ⊢
  clear hW
  have HX1 := Lib.hid hBX
  have HD1 := Lib.hid (HD.out.ext hE)
  clear hBX hE HD hc h0
  generalize w.heap.size + 2 = rb at *
  generalize w.heap.size + 1 = ob at *
  generalize w.heap.size = sb at *
  have p0 := HX1.out.c0
  have p1 := HX1.out.c1
  have p2 := HX1.out.c2
  have p3 := HX1.out.c3
  have e1 := HX1.out.e1
  go_wp2_with fail
  refine (rHas (w0 := w0) (c := c) (p := q) (v := .slice (some ⟨vb, 0, none⟩) q.cells.length cap) HD1.out x.o.a).mono ?_
  rintro e w2 ⟨rfl, hb⟩
  have HX2 := Lib.hid (HX1.out.ext hb)
  have HD2 := Lib.hid (HD1.out.ext hb)
  clear hb HX1 HD1 p0 p1 p2 p3 e1
  rw [show q.has x.o.a = true from decide_eq_true hh]
  have e0 := HX2.out.e0
  rw [HK.out] at e0
  have p4 := HX2.out.c4
  have fp4 := HX2.out.fs 4
  have e1 := HX2.out.e1
  go_upto_region 44 with (fail)
  have F := HX2.out.st_at HD2.out x.o.a
  generalize (w2.setCell ⟨sb, 4, none⟩ (.int .i64 x.o.a)) = W3 at F ⊢
  have HX3 := Lib.hid F.1
  have HD3 := Lib.hid F.2
  clear F HX2 HD2 e0 e1 p4 fp4
  have F := HX3.out.st_ld HD3.out false
  have p7 := HX3.out.c7
  have fp7 := HX3.out.fs 7
  go_upto_region 45 with (fail)
  generalize (W3.setCell ⟨sb, 7, none⟩ (.bool false)) = Wl at F ⊢
  have HXl := Lib.hid F.1
  have HDl := Lib.hid F.2
  clear F p7 fp7
  have p0 := HXl.out.c0
  have p1 := HXl.out.c1
  have p2 := HXl.out.c2
  have p3 := HXl.out.c3
  have p4 := HXl.out.c4
  have p5 := HXl.out.c5
  have p6 := HXl.out.c6
  have p7 := HXl.out.c7
  obtain ⟨zr0, y0⟩ := HXl.out.zr 0 (by decide)
  have g0 := HXl.out.fr 0
  obtain ⟨zr1, y1⟩ := HXl.out.zr 1 (by decide)
  have g1 := HXl.out.fr 1
  obtain ⟨zr2, y2⟩ := HXl.out.zr 2 (by decide)
  have g2 := HXl.out.fr 2
  obtain ⟨zr3, y3⟩ := HXl.out.zr 3 (by decide)
  have g3 := HXl.out.fr 3
  obtain ⟨zr4, y4⟩ := HXl.out.zr 4 (by decide)
  have g4 := HXl.out.fr 4
  obtain ⟨zr5, y5⟩ := HXl.out.zr 5 (by decide)
  have g5 := HXl.out.fr 5
  obtain ⟨zr6, y6⟩ := HXl.out.zr 6 (by decide)
  have g6 := HXl.out.fr 6
  obtain ⟨zr7, y7⟩ := HXl.out.zr 7 (by decide)
  have g7 := HXl.out.fr 7
  go_wp2_with fail
  have F := HXl.out.ret HDl.out
  generalize ((((((((Wl.setCell ⟨rb, 0, none⟩ (.int .i64 q.rows)).setCell ⟨rb, 1, none⟩ (.int .i64 q.cols)).setCell ⟨rb, 2, none⟩ (.slice (some ⟨vb, 0, none⟩) q.cells.length cap)).setCell ⟨rb, 3, none⟩ (.int .i64 q.cur)).setCell ⟨rb, 4, none⟩ (.int .i64 x.o.a)).setCell ⟨rb, 5, none⟩ (.int .u8 li)).setCell ⟨rb, 6, none⟩ (.int .u8 co)).setCell ⟨rb, 7, none⟩ (.bool false)) = Wf at F ⊢
  obtain ⟨R8, H8, D8⟩ := F
  have c0 := R8.cell 0
  have c1 := R8.cell 1
  have c2 := R8.cell 2
  have c3 := R8.cell 3
  have c4 := R8.cell 4
  have c5 := R8.cell 5
  have c6 := R8.cell 6
  have c7 := R8.cell 7
  simp at c0 c1 c2 c3 c4 c5 c6 c7
  refine bodyPost_ret (v := .tuple #[.agg #[.int .i64 q.rows, .int .i64 q.cols, .slice (some ⟨vb, 0, none⟩) q.cells.length cap, .int .i64 q.cur, .int .i64 x.o.a, .int .u8 li, .int .u8 co, .bool false], .int .i64 0]) (by simp [results, Try.results79, go_sem, c0, c1, c2, c3, c4, c5, c6, c7]) rfl ?_
  exact ⟨_, rfl, D8, H8⟩
set_option maxRecDepth 100000 in
set_option maxHeartbeats 4000000 in
theorem rDo_jump_no {w0 w : World} {c : Nat} {v : Value} (q : Pl) (a li co : Int) (ld : Bool) (x : OrdV) (hk : x.o.k = 17) (hh : ¬ (0 ≤ x.o.a ∧ x.o.a < q.n)) (hok : q.Ok) (hc : c < w.heap.size) (h : DP w0 w c v q) (ho : OrAt [] w0 x.A x.B x.o) (a0 : 0 ≤ a) (a1 : a < q.n) :
    Calls Try.prog 79 #[stV q v a li co ld, .agg #[.int .u8 x.o.k, .int .i64 x.o.a, .int .u8 x.o.b, .bool x.o.ge, .slice x.A x.o.ps.length x.cA, .slice x.B x.o.da.length x.cB]] w (Do5e w0 c v q a li co ld 32 w) := by
  have HK := Lib.hid hk
  have HOK := Lib.hid hok
  have HO := Lib.hid ho
  have h0 : w0.heap.size ≤ w.heap.size := h.1.size
  have hn := hok.sz.n1
  have hn0 := hok.sz.n0
  have hqn : q.cells.length ≤ 4096 := by unfold Pl.n at hn; omega
  obtain ⟨vb, cap, rfl, _⟩ := h.cells (by unfold Pl.n at hn0; omega)
  have HD := Lib.hid h
  clear hk hok ho h
  unfold stV
  go_enter Try.func79, Try.ntmps79
  go_upto_region 1 with (fail)
  obtain ⟨hBX, hE⟩ := BX.start hc h0 x q (.slice (some ⟨vb, 0, none⟩) q.cells.length cap) a li co ld
  unfold stZ at hBX hE
  obtain ⟨W1, hW⟩ : ∃ W1, ((w.alloc (.cells #[.int .i64 q.rows, .int .i64 q.cols, .slice (some ⟨vb, 0, none⟩) q.cells.length cap, .int .i64 q.cur, .int .i64 a, .int .u8 li, .int .u8 co, .bool ld] 111)).alloc (.cells #[.int .u8 x.o.k, .int .i64 x.o.a, .int .u8 x.o.b, .bool x.o.ge, .slice x.A x.o.ps.length x.cA, .slice x.B x.o.da.length x.cB] 71)).alloc (.cells #[.int .i64 0, .int .i64 0, .slice none 0 0, .int .i64 0, .int .i64 0, .int .u8 0, .int .u8 0, .bool false] 111) = W1 := ⟨_, rfl⟩
  rw [hW] at hBX hE ⊢
  clear hW
  have HX1 := Lib.hid hBX
  have HD1 := Lib.hid (HD.out.ext hE)
  clear hBX hE HD hc h0
  generalize w.heap.size + 2 = rb at *
  generalize w.heap.size + 1 = ob at *
  generalize w.heap.size = sb at *
  have p0 := HX1.out.c0
  have p1 := HX1.out.c1
  have p2 := HX1.out.c2
  have p3 := HX1.out.c3
  have e1 := HX1.out.e1
  go_wp2_with fail
  refine (rHas (w0 := w0) (c := c) (p := q) (v := .slice (some ⟨vb, 0, none⟩) q.cells.length cap) HD1.out x.o.a).mono ?_
  rintro e w2 ⟨rfl, hb⟩
  have HX2 := Lib.hid (HX1.out.ext hb)
  have HD2 := Lib.hid (HD1.out.ext hb)
  clear hb HX1 HD1 p0 p1 p2 p3 e1
  rw [show q.has x.o.a = false from decide_eq_false hh]
  have e0 := HX2.out.e0
  rw [HK.out] at e0
  have p0 := HX2.out.c0
  have p1 := HX2.out.c1
  have p2 := HX2.out.c2
  have p3 := HX2.out.c3
  have p4 := HX2.out.c4
  have p5 := HX2.out.c5
  have p6 := HX2.out.c6
  have p7 := HX2.out.c7
  obtain ⟨zr0, y0⟩ := HX2.out.zr 0 (by decide)
  have g0 := HX2.out.fr 0
  obtain ⟨zr1, y1⟩ := HX2.out.zr 1 (by decide)
  have g1 := HX2.out.fr 1
  obtain ⟨zr2, y2⟩ := HX2.out.zr 2 (by decide)
  have g2 := HX2.out.fr 2
  obtain ⟨zr3, y3⟩ := HX2.out.zr 3 (by decide)
  have g3 := HX2.out.fr 3
  obtain ⟨zr4, y4⟩ := HX2.out.zr 4 (by decide)
  have g4 := HX2.out.fr 4
  obtain ⟨zr5, y5⟩ := HX2.out.zr 5 (by decide)
  have g5 := HX2.out.fr 5
  obtain ⟨zr6, y6⟩ := HX2.out.zr 6 (by decide)
  have g6 := HX2.out.fr 6
  obtain ⟨zr7, y7⟩ := HX2.out.zr 7 (by decide)
  have g7 := HX2.out.fr 7
  go_wp2_with fail
  have F := HX2.out.ret HD2.out
  generalize ((((((((w2.setCell ⟨rb, 0, none⟩ (.int .i64 q.rows)).setCell ⟨rb, 1, none⟩ (.int .i64 q.cols)).setCell ⟨rb, 2, none⟩ (.slice (some ⟨vb, 0, none⟩) q.cells.length cap)).setCell ⟨rb, 3, none⟩ (.int .i64 q.cur)).setCell ⟨rb, 4, none⟩ (.int .i64 a)).setCell ⟨rb, 5, none⟩ (.int .u8 li)).setCell ⟨rb, 6, none⟩ (.int .u8 co)).setCell ⟨rb, 7, none⟩ (.bool ld)) = Wf at F ⊢
  obtain ⟨R8, H8, D8⟩ := F
  have c0 := R8.cell 0
  have c1 := R8.cell 1
  have c2 := R8.cell 2
  have c3 := R8.cell 3
  have c4 := R8.cell 4
  have c5 := R8.cell 5
  have c6 := R8.cell 6
  have c7 := R8.cell 7
  simp at c0 c1 c2 c3 c4 c5 c6 c7
  refine bodyPost_ret (v := .tuple #[.agg #[.int .i64 q.rows, .int .i64 q.cols, .slice (some ⟨vb, 0, none⟩) q.cells.length cap, .int .i64 q.cur, .int .i64 a, .int .u8 li, .int .u8 co, .bool ld], .int .i64 32]) (by simp [results, Try.results79, go_sem, c0, c1, c2, c3, c4, c5, c6, c7]) rfl ?_
  exact ⟨rfl, D8, H8⟩
set_option maxRecDepth 100000 in
set_option maxHeartbeats 4000000 in
theorem rDo_wipe_no {w0 w : World} {c : Nat} {v : Value} (q : Pl) (a li co : Int) (ld : Bool) (x : OrdV) (hk : x.o.k = 18) (hh : ¬ (0 ≤ x.o.a ∧ x.o.a < q.n)) (hok : q.Ok) (hc : c < w.heap.size) (h : DP w0 w c v q) (ho : OrAt [] w0 x.A x.B x.o) (a0 : 0 ≤ a) (a1 : a < q.n) :
    Calls Try.prog 79 #[stV q v a li co ld, .agg #[.int .u8 x.o.k, .int .i64 x.o.a, .int .u8 x.o.b, .bool x.o.ge, .slice x.A x.o.ps.length x.cA, .slice x.B x.o.da.length x.cB]] w (Do5e w0 c v q a li co ld 32 w) := by
  have HK := Lib.hid hk
  have HOK := Lib.hid hok
  have HO := Lib.hid ho
  have h0 : w0.heap.size ≤ w.heap.size := h.1.size
  have hn := hok.sz.n1
  have hn0 := hok.sz.n0
  have hqn : q.cells.length ≤ 4096 := by unfold Pl.n at hn; omega
  obtain ⟨vb, cap, rfl, _⟩ := h.cells (by unfold Pl.n at hn0; omega)
  have HD := Lib.hid h
  clear hk hok ho h
  unfold stV
  go_enter Try.func79, Try.ntmps79
  go_upto_region 1 with (fail)
  obtain ⟨hBX, hE⟩ := BX.start hc h0 x q (.slice (some ⟨vb, 0, none⟩) q.cells.length cap) a li co ld
  unfold stZ at hBX hE
  obtain ⟨W1, hW⟩ : ∃ W1, ((w.alloc (.cells #[.int .i64 q.rows, .int .i64 q.cols, .slice (some ⟨vb, 0, none⟩) q.cells.length cap, .int .i64 q.cur, .int .i64 a, .int .u8 li, .int .u8 co, .bool ld] 111)).alloc (.cells #[.int .u8 x.o.k, .int .i64 x.o.a, .int .u8 x.o.b, .bool x.o.ge, .slice x.A x.o.ps.length x.cA, .slice x.B x.o.da.length x.cB] 71)).alloc (.cells #[.int .i64 0, .int .i64 0, .slice none 0 0, .int .i64 0, .int .i64 0, .int .u8 0, .int .u8 0, .bool false] 111) = W1 := ⟨_, rfl⟩
  rw [hW] at hBX hE ⊢
  clear hW
  have HX1 := Lib.hid hBX
  have HD1 := Lib.hid (HD.out.ext hE)
  clear hBX hE HD hc h0
  generalize w.heap.size + 2 = rb at *
  generalize w.heap.size + 1 = ob at *
  generalize w.heap.size = sb at *
  have p0 := HX1.out.c0
  have p1 := HX1.out.c1
  have p2 := HX1.out.c2
  have p3 := HX1.out.c3
  have e1 := HX1.out.e1
  go_wp2_with fail
  refine (rHas (w0 := w0) (c := c) (p := q) (v := .slice (some ⟨vb, 0, none⟩) q.cells.length cap) HD1.out x.o.a).mono ?_
  rintro e w2 ⟨rfl, hb⟩
  have HX2 := Lib.hid (HX1.out.ext hb)
  have HD2 := Lib.hid (HD1.out.ext hb)
  clear hb HX1 HD1 p0 p1 p2 p3 e1
  rw [show q.has x.o.a = false from decide_eq_false hh]
  have e0 := HX2.out.e0
  rw [HK.out] at e0
  have p0 := HX2.out.c0
  have p1 := HX2.out.c1
  have p2 := HX2.out.c2
  have p3 := HX2.out.c3
  have p4 := HX2.out.c4
  have p5 := HX2.out.c5
  have p6 := HX2.out.c6
  have p7 := HX2.out.c7
  obtain ⟨zr0, y0⟩ := HX2.out.zr 0 (by decide)
  have g0 := HX2.out.fr 0
  obtain ⟨zr1, y1⟩ := HX2.out.zr 1 (by decide)
  have g1 := HX2.out.fr 1
  obtain ⟨zr2, y2⟩ := HX2.out.zr 2 (by decide)
  have g2 := HX2.out.fr 2
  obtain ⟨zr3, y3⟩ := HX2.out.zr 3 (by decide)
  have g3 := HX2.out.fr 3
  obtain ⟨zr4, y4⟩ := HX2.out.zr 4 (by decide)
  have g4 := HX2.out.fr 4
  obtain ⟨zr5, y5⟩ := HX2.out.zr 5 (by decide)
  have g5 := HX2.out.fr 5
  obtain ⟨zr6, y6⟩ := HX2.out.zr 6 (by decide)
  have g6 := HX2.out.fr 6
  obtain ⟨zr7, y7⟩ := HX2.out.zr 7 (by decide)
  have g7 := HX2.out.fr 7
  go_wp2_with fail
  have F := HX2.out.ret HD2.out
  generalize ((((((((w2.setCell ⟨rb, 0, none⟩ (.int .i64 q.rows)).setCell ⟨rb, 1, none⟩ (.int .i64 q.cols)).setCell ⟨rb, 2, none⟩ (.slice (some ⟨vb, 0, none⟩) q.cells.length cap)).setCell ⟨rb, 3, none⟩ (.int .i64 q.cur)).setCell ⟨rb, 4, none⟩ (.int .i64 a)).setCell ⟨rb, 5, none⟩ (.int .u8 li)).setCell ⟨rb, 6, none⟩ (.int .u8 co)).setCell ⟨rb, 7, none⟩ (.bool ld)) = Wf at F ⊢
  obtain ⟨R8, H8, D8⟩ := F
  have c0 := R8.cell 0
  have c1 := R8.cell 1
  have c2 := R8.cell 2
  have c3 := R8.cell 3
  have c4 := R8.cell 4
  have c5 := R8.cell 5
  have c6 := R8.cell 6
  have c7 := R8.cell 7
  simp at c0 c1 c2 c3 c4 c5 c6 c7
  refine bodyPost_ret (v := .tuple #[.agg #[.int .i64 q.rows, .int .i64 q.cols, .slice (some ⟨vb, 0, none⟩) q.cells.length cap, .int .i64 q.cur, .int .i64 a, .int .u8 li, .int .u8 co, .bool ld], .int .i64 32]) (by simp [results, Try.results79, go_sem, c0, c1, c2, c3, c4, c5, c6, c7]) rfl ?_
  exact ⟨rfl, D8, H8⟩
set_option maxRecDepth 100000 in
set_option maxHeartbeats 4000000 in
theorem rDo_repeat_no {w0 w : World} {c : Nat} {v : Value} (q : Pl) (a li co : Int) (ld : Bool) (x : OrdV) (hk : x.o.k = 60) (hh : ¬ (0 ≤ x.o.a ∧ x.o.a < q.n)) (hok : q.Ok) (hc : c < w.heap.size) (h : DP w0 w c v q) (ho : OrAt [] w0 x.A x.B x.o) (a0 : 0 ≤ a) (a1 : a < q.n) :
    Calls Try.prog 79 #[stV q v a li co ld, .agg #[.int .u8 x.o.k, .int .i64 x.o.a, .int .u8 x.o.b, .bool x.o.ge, .slice x.A x.o.ps.length x.cA, .slice x.B x.o.da.length x.cB]] w (Do5e w0 c v q a li co ld 32 w) := by
  have HK := Lib.hid hk
  have HOK := Lib.hid hok
  have HO := Lib.hid ho
  have h0 : w0.heap.size ≤ w.heap.size := h.1.size
  have hn := hok.sz.n1
  have hn0 := hok.sz.n0
  have hqn : q.cells.length ≤ 4096 := by unfold Pl.n at hn; omega
  obtain ⟨vb, cap, rfl, _⟩ := h.cells (by unfold Pl.n at hn0; omega)
  have HD := Lib.hid h
  clear hk hok ho h
  unfold stV
  go_enter Try.func79, Try.ntmps79
  go_upto_region 1 with (fail)
  obtain ⟨hBX, hE⟩ := BX.start hc h0 x q (.slice (some ⟨vb, 0, none⟩) q.cells.length cap) a li co ld
  unfold stZ at hBX hE
  obtain ⟨W1, hW⟩ : ∃ W1, ((w.alloc (.cells #[.int .i64 q.rows, .int .i64 q.cols, .slice (some ⟨vb, 0, none⟩) q.cells.length cap, .int .i64 q.cur, .int .i64 a, .int .u8 li, .int .u8 co, .bool ld] 111)).alloc (.cells #[.int .u8 x.o.k, .int .i64 x.o.a, .int .u8 x.o.b, .bool x.o.ge, .slice x.A x.o.ps.length x.cA, .slice x.B x.o.da.length x.cB] 71)).alloc (.cells #[.int .i64 0, .int .i64 0, .slice none 0 0, .int .i64 0, .int .i64 0, .int .u8 0, .int .u8 0, .bool false] 111) = W1 := ⟨_, rfl⟩
  rw [hW] at hBX hE ⊢
  clear hW
  have HX1 := Lib.hid hBX
  have HD1 := Lib.hid (HD.out.ext hE)
  clear hBX hE HD hc h0
  generalize w.heap.size + 2 = rb at *
  generalize w.heap.size + 1 = ob at *
  generalize w.heap.size = sb at *
  have p0 := HX1.out.c0
  have p1 := HX1.out.c1
  have p2 := HX1.out.c2
  have p3 := HX1.out.c3
  have e1 := HX1.out.e1
  go_wp2_with fail
  refine (rHas (w0 := w0) (c := c) (p := q) (v := .slice (some ⟨vb, 0, none⟩) q.cells.length cap) HD1.out x.o.a).mono ?_
  rintro e w2 ⟨rfl, hb⟩
  have HX2 := Lib.hid (HX1.out.ext hb)
  have HD2 := Lib.hid (HD1.out.ext hb)
  clear hb HX1 HD1 p0 p1 p2 p3 e1
  rw [show q.has x.o.a = false from decide_eq_false hh]
  have e0 := HX2.out.e0
  rw [HK.out] at e0
  have p0 := HX2.out.c0
  have p1 := HX2.out.c1
  have p2 := HX2.out.c2
  have p3 := HX2.out.c3
  have p4 := HX2.out.c4
  have p5 := HX2.out.c5
  have p6 := HX2.out.c6
  have p7 := HX2.out.c7
  obtain ⟨zr0, y0⟩ := HX2.out.zr 0 (by decide)
  have g0 := HX2.out.fr 0
  obtain ⟨zr1, y1⟩ := HX2.out.zr 1 (by decide)
  have g1 := HX2.out.fr 1
  obtain ⟨zr2, y2⟩ := HX2.out.zr 2 (by decide)
  have g2 := HX2.out.fr 2
  obtain ⟨zr3, y3⟩ := HX2.out.zr 3 (by decide)
  have g3 := HX2.out.fr 3
  obtain ⟨zr4, y4⟩ := HX2.out.zr 4 (by decide)
  have g4 := HX2.out.fr 4
  obtain ⟨zr5, y5⟩ := HX2.out.zr 5 (by decide)
  have g5 := HX2.out.fr 5
  obtain ⟨zr6, y6⟩ := HX2.out.zr 6 (by decide)
  have g6 := HX2.out.fr 6
  obtain ⟨zr7, y7⟩ := HX2.out.zr 7 (by decide)
  have g7 := HX2.out.fr 7
  go_wp2_with fail
  have F := HX2.out.ret HD2.out
  generalize ((((((((w2.setCell ⟨rb, 0, none⟩ (.int .i64 q.rows)).setCell ⟨rb, 1, none⟩ (.int .i64 q.cols)).setCell ⟨rb, 2, none⟩ (.slice (some ⟨vb, 0, none⟩) q.cells.length cap)).setCell ⟨rb, 3, none⟩ (.int .i64 q.cur)).setCell ⟨rb, 4, none⟩ (.int .i64 a)).setCell ⟨rb, 5, none⟩ (.int .u8 li)).setCell ⟨rb, 6, none⟩ (.int .u8 co)).setCell ⟨rb, 7, none⟩ (.bool ld)) = Wf at F ⊢
  obtain ⟨R8, H8, D8⟩ := F
  have c0 := R8.cell 0
  have c1 := R8.cell 1
  have c2 := R8.cell 2
  have c3 := R8.cell 3
  have c4 := R8.cell 4
  have c5 := R8.cell 5
  have c6 := R8.cell 6
  have c7 := R8.cell 7
  simp at c0 c1 c2 c3 c4 c5 c6 c7
  refine bodyPost_ret (v := .tuple #[.agg #[.int .i64 q.rows, .int .i64 q.cols, .slice (some ⟨vb, 0, none⟩) q.cells.length cap, .int .i64 q.cur, .int .i64 a, .int .u8 li, .int .u8 co, .bool ld], .int .i64 32]) (by simp [results, Try.results79, go_sem, c0, c1, c2, c3, c4, c5, c6, c7]) rfl ?_
  exact ⟨rfl, D8, H8⟩
set_option maxRecDepth 100000 in
set_option maxHeartbeats 4000000 in
theorem rDo_sf {w0 w : World} {c : Nat} {v : Value} (q : Pl) (a li co : Int) (ld : Bool) (x : OrdV) (hk : x.o.k = 29) (hok : q.Ok) (hc : c < w.heap.size) (h : DP w0 w c v q) (ho : OrAt [] w0 x.A x.B x.o) (a0 : 0 ≤ a) (a1 : a < q.n) :
    Calls Try.prog 79 #[stV q v a li co ld, .agg #[.int .u8 x.o.k, .int .i64 x.o.a, .int .u8 x.o.b, .bool x.o.ge, .slice x.A x.o.ps.length x.cA, .slice x.B x.o.da.length x.cB]] w (Do5 w0 c (q.set a ⟨x.o.b % 64, false, true, 0, 0⟩) ((a + 1) % q.n) li co false 0 w) := by
  have HK := Lib.hid hk
  have HOK := Lib.hid hok
  have HO := Lib.hid ho
  have h0 : w0.heap.size ≤ w.heap.size := h.1.size
  have hn := hok.sz.n1
  have hn0 := hok.sz.n0
  have hqn : q.cells.length ≤ 4096 := by unfold Pl.n at hn; omega
  obtain ⟨vb, cap, rfl, _⟩ := h.cells (by unfold Pl.n at hn0; omega)
  have HD := Lib.hid h
  clear hk hok ho h
  unfold stV
  go_enter Try.func79, Try.ntmps79
  go_upto_region 1 with (fail)
  obtain ⟨hBX, hE⟩ := BX.start hc h0 x q (.slice (some ⟨vb, 0, none⟩) q.cells.length cap) a li co ld
  unfold stZ at hBX hE
  obtain ⟨W1, hW⟩ : ∃ W1, ((w.alloc (.cells #[.int .i64 q.rows, .int .i64 q.cols, .slice (some ⟨vb, 0, none⟩) q.cells.length cap, .int .i64 q.cur, .int .i64 a, .int .u8 li, .int .u8 co, .bool ld] 111)).alloc (.cells #[.int .u8 x.o.k, .int .i64 x.o.a, .int .u8 x.o.b, .bool x.o.ge, .slice x.A x.o.ps.length x.cA, .slice x.B x.o.da.length x.cB] 71)).alloc (.cells #[.int .i64 0, .int .i64 0, .slice none 0 0, .int .i64 0, .int .i64 0, .int .u8 0, .int .u8 0, .bool false] 111) = W1 := ⟨_, rfl⟩
  rw [hW] at hBX hE ⊢
  clear hW
  have HX1 := Lib.hid hBX
  have HD1 := Lib.hid (HD.out.ext hE)
  clear hBX hE HD hc h0
  generalize w.heap.size + 2 = rb at *
  generalize w.heap.size + 1 = ob at *
  generalize w.heap.size = sb at *
  have p0 := HX1.out.c0
  have p1 := HX1.out.c1
  have p2 := HX1.out.c2
  have p3 := HX1.out.c3
  have e1 := HX1.out.e1
  go_wp2_with fail
  refine (rHas (w0 := w0) (c := c) (p := q) (v := .slice (some ⟨vb, 0, none⟩) q.cells.length cap) HD1.out x.o.a).mono ?_
  rintro e w2 ⟨rfl, hb⟩
  have HX2 := Lib.hid (HX1.out.ext hb)
  have HD2 := Lib.hid (HD1.out.ext hb)
  clear hb HX1 HD1 p0 p1 p2 p3 e1
  have e0 := HX2.out.e0
  rw [HK.out] at e0
  have p0 := HX2.out.c0
  have p1 := HX2.out.c1
  have p2 := HX2.out.c2
  have p3 := HX2.out.c3
  have p4 := HX2.out.c4
  have p5 := HX2.out.c5
  have p6 := HX2.out.c6
  have p7 := HX2.out.c7
  have e2 := HX2.out.e2
  go_wp2_with fail
  rw [show Int.tmod x.o.b 64 = x.o.b % 64 from Int.tmod_eq_emod_of_nonneg HO.out.bb.1]
  refine (rLay (w0 := w0) (c := c) (p := q) (v := .slice (some ⟨vb, 0, none⟩) q.cells.length cap) hqn HX2.out.clt HD2.out a li co ld a0 a1 (⟨x.o.b % 64, false, true, 0, 0⟩)).mono ?_
  rintro e w3 ⟨v3, rfl, hd3, hh3⟩
  obtain ⟨vb3, cap3, rfl, _⟩ := hd3.cells (by rw [(set_dims q a (⟨x.o.b % 64, false, true, 0, 0⟩)).2.2]; unfold Pl.n at hn0; omega)
  have HX3 := Lib.hid (HX2.out.hold hh3)
  have HD3 := Lib.hid hd3
  clear hd3 hh3
  clear HX2 HD2 p0 p1 p2 p3 p4 p5 p6 p7 e0 e2
  generalize q.set a (⟨x.o.b % 64, false, true, 0, 0⟩) = Q at *
  generalize (a + 1) % q.n = T at *
  unfold stV
  have p0 := HX3.out.c0
  have p1 := HX3.out.c1
  have p2 := HX3.out.c2
  have p3 := HX3.out.c3
  have p4 := HX3.out.c4
  have p5 := HX3.out.c5
  have p6 := HX3.out.c6
  have p7 := HX3.out.c7
  have fp0 := HX3.out.fs 0
  have fp1 := HX3.out.fs 1
  have fp2 := HX3.out.fs 2
  have fp3 := HX3.out.fs 3
  have fp4 := HX3.out.fs 4
  have fp5 := HX3.out.fs 5
  have fp6 := HX3.out.fs 6
  have fp7 := HX3.out.fs 7
  go_upto_region 44 with (fail)
  have F := HX3.out.set8 HD3.out T li co ld
  generalize ((((((((w3.setCell ⟨sb, 0, none⟩ (.int .i64 Q.rows)).setCell ⟨sb, 1, none⟩ (.int .i64 Q.cols)).setCell ⟨sb, 2, none⟩ (.slice (some ⟨vb3, 0, none⟩) Q.cells.length cap3)).setCell ⟨sb, 3, none⟩ (.int .i64 Q.cur)).setCell ⟨sb, 4, none⟩ (.int .i64 T)).setCell ⟨sb, 5, none⟩ (.int .u8 li)).setCell ⟨sb, 6, none⟩ (.int .u8 co)).setCell ⟨sb, 7, none⟩ (.bool ld)) = W4 at F ⊢
  have HX4 := Lib.hid F.1
  have HD4 := Lib.hid F.2
  clear F HX3 HD3 p0 p1 p2 p3 p4 p5 p6 p7 fp0 fp1 fp2 fp3 fp4 fp5 fp6 fp7
  have F := HX4.out.st_ld HD4.out false
  have p7 := HX4.out.c7
  have fp7 := HX4.out.fs 7
  go_upto_region 45 with (fail)
  generalize (W4.setCell ⟨sb, 7, none⟩ (.bool false)) = Wl at F ⊢
  have HXl := Lib.hid F.1
  have HDl := Lib.hid F.2
  clear F p7 fp7
  have p0 := HXl.out.c0
  have p1 := HXl.out.c1
  have p2 := HXl.out.c2
  have p3 := HXl.out.c3
  have p4 := HXl.out.c4
  have p5 := HXl.out.c5
  have p6 := HXl.out.c6
  have p7 := HXl.out.c7
  obtain ⟨zr0, y0⟩ := HXl.out.zr 0 (by decide)
  have g0 := HXl.out.fr 0
  obtain ⟨zr1, y1⟩ := HXl.out.zr 1 (by decide)
  have g1 := HXl.out.fr 1
  obtain ⟨zr2, y2⟩ := HXl.out.zr 2 (by decide)
  have g2 := HXl.out.fr 2
  obtain ⟨zr3, y3⟩ := HXl.out.zr 3 (by decide)
  have g3 := HXl.out.fr 3
  obtain ⟨zr4, y4⟩ := HXl.out.zr 4 (by decide)
  have g4 := HXl.out.fr 4
  obtain ⟨zr5, y5⟩ := HXl.out.zr 5 (by decide)
  have g5 := HXl.out.fr 5
  obtain ⟨zr6, y6⟩ := HXl.out.zr 6 (by decide)
  have g6 := HXl.out.fr 6
  obtain ⟨zr7, y7⟩ := HXl.out.zr 7 (by decide)
  have g7 := HXl.out.fr 7
  go_wp2_with fail
  have F := HXl.out.ret HDl.out
  generalize ((((((((Wl.setCell ⟨rb, 0, none⟩ (.int .i64 Q.rows)).setCell ⟨rb, 1, none⟩ (.int .i64 Q.cols)).setCell ⟨rb, 2, none⟩ (.slice (some ⟨vb3, 0, none⟩) Q.cells.length cap3)).setCell ⟨rb, 3, none⟩ (.int .i64 Q.cur)).setCell ⟨rb, 4, none⟩ (.int .i64 T)).setCell ⟨rb, 5, none⟩ (.int .u8 li)).setCell ⟨rb, 6, none⟩ (.int .u8 co)).setCell ⟨rb, 7, none⟩ (.bool false)) = Wf at F ⊢
  obtain ⟨R8, H8, D8⟩ := F
  have c0 := R8.cell 0
  have c1 := R8.cell 1
  have c2 := R8.cell 2
  have c3 := R8.cell 3
  have c4 := R8.cell 4
  have c5 := R8.cell 5
  have c6 := R8.cell 6
  have c7 := R8.cell 7
  simp at c0 c1 c2 c3 c4 c5 c6 c7
  refine bodyPost_ret (v := .tuple #[.agg #[.int .i64 Q.rows, .int .i64 Q.cols, .slice (some ⟨vb3, 0, none⟩) Q.cells.length cap3, .int .i64 Q.cur, .int .i64 T, .int .u8 li, .int .u8 co, .bool false], .int .i64 0]) (by simp [results, Try.results79, go_sem, c0, c1, c2, c3, c4, c5, c6, c7]) rfl ?_
  exact ⟨_, rfl, D8, H8⟩
set_option maxRecDepth 100000 in
set_option maxHeartbeats 4000000 in
theorem rDo_cursor {w0 w : World} {c : Nat} {v : Value} (q : Pl) (a li co : Int) (ld : Bool) (x : OrdV) (hk : x.o.k = 19) (hok : q.Ok) (hc : c < w.heap.size) (h : DP w0 w c v q) (ho : OrAt [] w0 x.A x.B x.o) (a0 : 0 ≤ a) (a1 : a < q.n) :
    Calls Try.prog 79 #[stV q v a li co ld, .agg #[.int .u8 x.o.k, .int .i64 x.o.a, .int .u8 x.o.b, .bool x.o.ge, .slice x.A x.o.ps.length x.cA, .slice x.B x.o.da.length x.cB]] w (Do5 w0 c { q with cur := a } a li co false 0 w) := by
  have HK := Lib.hid hk
  have HOK := Lib.hid hok
  have HO := Lib.hid ho
  have h0 : w0.heap.size ≤ w.heap.size := h.1.size
  have hn := hok.sz.n1
  have hn0 := hok.sz.n0
  have hqn : q.cells.length ≤ 4096 := by unfold Pl.n at hn; omega
  obtain ⟨vb, cap, rfl, _⟩ := h.cells (by unfold Pl.n at hn0; omega)
  have HD := Lib.hid h
  clear hk hok ho h
  unfold stV
  go_enter Try.func79, Try.ntmps79
  go_upto_region 1 with (fail)
  obtain ⟨hBX, hE⟩ := BX.start hc h0 x q (.slice (some ⟨vb, 0, none⟩) q.cells.length cap) a li co ld
  unfold stZ at hBX hE
  obtain ⟨W1, hW⟩ : ∃ W1, ((w.alloc (.cells #[.int .i64 q.rows, .int .i64 q.cols, .slice (some ⟨vb, 0, none⟩) q.cells.length cap, .int .i64 q.cur, .int .i64 a, .int .u8 li, .int .u8 co, .bool ld] 111)).alloc (.cells #[.int .u8 x.o.k, .int .i64 x.o.a, .int .u8 x.o.b, .bool x.o.ge, .slice x.A x.o.ps.length x.cA, .slice x.B x.o.da.length x.cB] 71)).alloc (.cells #[.int .i64 0, .int .i64 0, .slice none 0 0, .int .i64 0, .int .i64 0, .int .u8 0, .int .u8 0, .bool false] 111) = W1 := ⟨_, rfl⟩
  rw [hW] at hBX hE ⊢
  clear hW
  have HX1 := Lib.hid hBX
  have HD1 := Lib.hid (HD.out.ext hE)
  clear hBX hE HD hc h0
  generalize w.heap.size + 2 = rb at *
  generalize w.heap.size + 1 = ob at *
  generalize w.heap.size = sb at *
  have p0 := HX1.out.c0
  have p1 := HX1.out.c1
  have p2 := HX1.out.c2
  have p3 := HX1.out.c3
  have e1 := HX1.out.e1
  go_wp2_with fail
  refine (rHas (w0 := w0) (c := c) (p := q) (v := .slice (some ⟨vb, 0, none⟩) q.cells.length cap) HD1.out x.o.a).mono ?_
  rintro e w2 ⟨rfl, hb⟩
  have HX2 := Lib.hid (HX1.out.ext hb)
  have HD2 := Lib.hid (HD1.out.ext hb)
  clear hb HX1 HD1 p0 p1 p2 p3 e1
  have e0 := HX2.out.e0
  rw [HK.out] at e0
  have p3 := HX2.out.c3
  have p4 := HX2.out.c4
  have fp3 := HX2.out.fs 3
  go_upto_region 44 with (fail)
  have F := HX2.out.st_cur HD2.out a
  generalize (w2.setCell ⟨sb, 3, none⟩ (.int .i64 a)) = W3 at F ⊢
  generalize ({ q with cur := a } : Pl) = Q at *
  have HX3 := Lib.hid F.1
  have HD3 := Lib.hid F.2
  clear F HX2 HD2 e0 p3 p4 fp3
  have F := HX3.out.st_ld HD3.out false
  have p7 := HX3.out.c7
  have fp7 := HX3.out.fs 7
  go_upto_region 45 with (fail)
  generalize (W3.setCell ⟨sb, 7, none⟩ (.bool false)) = Wl at F ⊢
  have HXl := Lib.hid F.1
  have HDl := Lib.hid F.2
  clear F p7 fp7
  have p0 := HXl.out.c0
  have p1 := HXl.out.c1
  have p2 := HXl.out.c2
  have p3 := HXl.out.c3
  have p4 := HXl.out.c4
  have p5 := HXl.out.c5
  have p6 := HXl.out.c6
  have p7 := HXl.out.c7
  obtain ⟨zr0, y0⟩ := HXl.out.zr 0 (by decide)
  have g0 := HXl.out.fr 0
  obtain ⟨zr1, y1⟩ := HXl.out.zr 1 (by decide)
  have g1 := HXl.out.fr 1
  obtain ⟨zr2, y2⟩ := HXl.out.zr 2 (by decide)
  have g2 := HXl.out.fr 2
  obtain ⟨zr3, y3⟩ := HXl.out.zr 3 (by decide)
  have g3 := HXl.out.fr 3
  obtain ⟨zr4, y4⟩ := HXl.out.zr 4 (by decide)
  have g4 := HXl.out.fr 4
  obtain ⟨zr5, y5⟩ := HXl.out.zr 5 (by decide)
  have g5 := HXl.out.fr 5
  obtain ⟨zr6, y6⟩ := HXl.out.zr 6 (by decide)
  have g6 := HXl.out.fr 6
  obtain ⟨zr7, y7⟩ := HXl.out.zr 7 (by decide)
  have g7 := HXl.out.fr 7
  go_wp2_with fail
  have F := HXl.out.ret HDl.out
  generalize ((((((((Wl.setCell ⟨rb, 0, none⟩ (.int .i64 Q.rows)).setCell ⟨rb, 1, none⟩ (.int .i64 Q.cols)).setCell ⟨rb, 2, none⟩ (.slice (some ⟨vb, 0, none⟩) q.cells.length cap)).setCell ⟨rb, 3, none⟩ (.int .i64 Q.cur)).setCell ⟨rb, 4, none⟩ (.int .i64 a)).setCell ⟨rb, 5, none⟩ (.int .u8 li)).setCell ⟨rb, 6, none⟩ (.int .u8 co)).setCell ⟨rb, 7, none⟩ (.bool false)) = Wf at F ⊢
  obtain ⟨R8, H8, D8⟩ := F
  have c0 := R8.cell 0
  have c1 := R8.cell 1
  have c2 := R8.cell 2
  have c3 := R8.cell 3
  have c4 := R8.cell 4
  have c5 := R8.cell 5
  have c6 := R8.cell 6
  have c7 := R8.cell 7
  simp at c0 c1 c2 c3 c4 c5 c6 c7
  refine bodyPost_ret (v := .tuple #[.agg #[.int .i64 Q.rows, .int .i64 Q.cols, .slice (some ⟨vb, 0, none⟩) q.cells.length cap, .int .i64 Q.cur, .int .i64 a, .int .u8 li, .int .u8 co, .bool false], .int .i64 0]) (by simp [results, Try.results79, go_sem, c0, c1, c2, c3, c4, c5, c6, c7]) rfl ?_
  exact ⟨_, rfl, D8, H8⟩
set_option maxRecDepth 100000 in
set_option maxHeartbeats 4000000 in
theorem rDo_none {w0 w : World} {c : Nat} {v : Value} (q : Pl) (a li co : Int) (ld : Bool) (x : OrdV) (hk : x.o.k = x.o.k) (h0 : x.o.k ≠ 0) (h8 : x.o.k ≠ 8) (h17 : x.o.k ≠ 17) (h29 : x.o.k ≠ 29) (h41 : x.o.k ≠ 41) (h40 : x.o.k ≠ 40) (h44 : x.o.k ≠ 44) (h19 : x.o.k ≠ 19) (h5 : x.o.k ≠ 5) (h60 : x.o.k ≠ 60) (h18 : x.o.k ≠ 18) (hok : q.Ok) (hc : c < w.heap.size) (h : DP w0 w c v q) (ho : OrAt [] w0 x.A x.B x.o) (a0 : 0 ≤ a) (a1 : a < q.n) :
    Calls Try.prog 79 #[stV q v a li co ld, .agg #[.int .u8 x.o.k, .int .i64 x.o.a, .int .u8 x.o.b, .bool x.o.ge, .slice x.A x.o.ps.length x.cA, .slice x.B x.o.da.length x.cB]] w (Do5e w0 c v q a li co ld 31 w) := by
  have HK := Lib.hid hk
  have HOK := Lib.hid hok
  have HO := Lib.hid ho
  have hw0 : w0.heap.size ≤ w.heap.size := h.1.size
  have hn := hok.sz.n1
  have hn0 := hok.sz.n0
  have hqn : q.cells.length ≤ 4096 := by unfold Pl.n at hn; omega
  obtain ⟨vb, cap, rfl, _⟩ := h.cells (by unfold Pl.n at hn0; omega)
  have HD := Lib.hid h
  clear hk hok ho h
  unfold stV
  go_enter Try.func79, Try.ntmps79
  go_upto_region 1 with (fail)
  obtain ⟨hBX, hE⟩ := BX.start hc hw0 x q (.slice (some ⟨vb, 0, none⟩) q.cells.length cap) a li co ld
  unfold stZ at hBX hE
  obtain ⟨W1, hW⟩ : ∃ W1, ((w.alloc (.cells #[.int .i64 q.rows, .int .i64 q.cols, .slice (some ⟨vb, 0, none⟩) q.cells.length cap, .int .i64 q.cur, .int .i64 a, .int .u8 li, .int .u8 co, .bool ld] 111)).alloc (.cells #[.int .u8 x.o.k, .int .i64 x.o.a, .int .u8 x.o.b, .bool x.o.ge, .slice x.A x.o.ps.length x.cA, .slice x.B x.o.da.length x.cB] 71)).alloc (.cells #[.int .i64 0, .int .i64 0, .slice none 0 0, .int .i64 0, .int .i64 0, .int .u8 0, .int .u8 0, .bool false] 111) = W1 := ⟨_, rfl⟩
  rw [hW] at hBX hE ⊢
  clear hW
  have HX1 := Lib.hid hBX
  have HD1 := Lib.hid (HD.out.ext hE)
  clear hBX hE HD hc hw0
  generalize w.heap.size + 2 = rb at *
  generalize w.heap.size + 1 = ob at *
  generalize w.heap.size = sb at *
  have p0 := HX1.out.c0
  have p1 := HX1.out.c1
  have p2 := HX1.out.c2
  have p3 := HX1.out.c3
  have e1 := HX1.out.e1
  go_wp2_with fail
  refine (rHas (w0 := w0) (c := c) (p := q) (v := .slice (some ⟨vb, 0, none⟩) q.cells.length cap) HD1.out x.o.a).mono ?_
  rintro e w2 ⟨rfl, hb⟩
  have HX2 := Lib.hid (HX1.out.ext hb)
  have HD2 := Lib.hid (HD1.out.ext hb)
  clear hb HX1 HD1 p0 p1 p2 p3 e1
  have e0 := HX2.out.e0
  clear HK
  have g0 : (x.o.k == 0) = false := by rw [beq_eq_false_iff_ne]; exact h0
  have g8 : (x.o.k == 8) = false := by rw [beq_eq_false_iff_ne]; exact h8
  have g17 : (x.o.k == 17) = false := by rw [beq_eq_false_iff_ne]; exact h17
  have g29 : (x.o.k == 29) = false := by rw [beq_eq_false_iff_ne]; exact h29
  have g41 : (x.o.k == 41) = false := by rw [beq_eq_false_iff_ne]; exact h41
  have g40 : (x.o.k == 40) = false := by rw [beq_eq_false_iff_ne]; exact h40
  have g44 : (x.o.k == 44) = false := by rw [beq_eq_false_iff_ne]; exact h44
  have g19 : (x.o.k == 19) = false := by rw [beq_eq_false_iff_ne]; exact h19
  have g5 : (x.o.k == 5) = false := by rw [beq_eq_false_iff_ne]; exact h5
  have g60 : (x.o.k == 60) = false := by rw [beq_eq_false_iff_ne]; exact h60
  have g18 : (x.o.k == 18) = false := by rw [beq_eq_false_iff_ne]; exact h18
  have p0 := HX2.out.c0
  have p1 := HX2.out.c1
  have p2 := HX2.out.c2
  have p3 := HX2.out.c3
  have p4 := HX2.out.c4
  have p5 := HX2.out.c5
  have p6 := HX2.out.c6
  have p7 := HX2.out.c7
  obtain ⟨zr0, y0⟩ := HX2.out.zr 0 (by decide)
  have gg0 := HX2.out.fr 0
  obtain ⟨zr1, y1⟩ := HX2.out.zr 1 (by decide)
  have g1 := HX2.out.fr 1
  obtain ⟨zr2, y2⟩ := HX2.out.zr 2 (by decide)
  have g2 := HX2.out.fr 2
  obtain ⟨zr3, y3⟩ := HX2.out.zr 3 (by decide)
  have g3 := HX2.out.fr 3
  obtain ⟨zr4, y4⟩ := HX2.out.zr 4 (by decide)
  have g4 := HX2.out.fr 4
  obtain ⟨zr5, y5⟩ := HX2.out.zr 5 (by decide)
  have gg5 := HX2.out.fr 5
  obtain ⟨zr6, y6⟩ := HX2.out.zr 6 (by decide)
  have g6 := HX2.out.fr 6
  obtain ⟨zr7, y7⟩ := HX2.out.zr 7 (by decide)
  have g7 := HX2.out.fr 7
  go_wp2_with fail
  have F := HX2.out.ret HD2.out
  generalize ((((((((w2.setCell ⟨rb, 0, none⟩ (.int .i64 q.rows)).setCell ⟨rb, 1, none⟩ (.int .i64 q.cols)).setCell ⟨rb, 2, none⟩ (.slice (some ⟨vb, 0, none⟩) q.cells.length cap)).setCell ⟨rb, 3, none⟩ (.int .i64 q.cur)).setCell ⟨rb, 4, none⟩ (.int .i64 a)).setCell ⟨rb, 5, none⟩ (.int .u8 li)).setCell ⟨rb, 6, none⟩ (.int .u8 co)).setCell ⟨rb, 7, none⟩ (.bool ld)) = Wf at F ⊢
  obtain ⟨R8, H8, D8⟩ := F
  have c0 := R8.cell 0
  have c1 := R8.cell 1
  have c2 := R8.cell 2
  have c3 := R8.cell 3
  have c4 := R8.cell 4
  have c5 := R8.cell 5
  have c6 := R8.cell 6
  have c7 := R8.cell 7
  simp at c0 c1 c2 c3 c4 c5 c6 c7
  refine bodyPost_ret (v := .tuple #[.agg #[.int .i64 q.rows, .int .i64 q.cols, .slice (some ⟨vb, 0, none⟩) q.cells.length cap, .int .i64 q.cur, .int .i64 a, .int .u8 li, .int .u8 co, .bool ld], .int .i64 31]) (by simp [results, Try.results79, go_sem, c0, c1, c2, c3, c4, c5, c6, c7]) rfl ?_
  exact ⟨rfl, D8, H8⟩
end Go.Proofs.Ytmcfckdgolojlaa
