import Derived.Test.YtmcfckdgolojlaaZGP
import Derived.Test.YtmcfckdgolojlaaZRM
/- The document's do: what lays. -/
namespace Go.Proofs.Ytmcfckdgolojlaa
set_option linter.unusedVariables false
set_option linter.unusedSimpArgs false
open Go.RowKit Go.Sort
set_option maxRecDepth 100000 in
set_option maxHeartbeats 4000000 in
theorem rDo_special {w0 w : World} {c : Nat} {v : Value} (q : Pl) (a li co : Int) (ld : Bool) (x : OrdV) (hk : x.o.k = 8) (hok : q.Ok) (hc : c < w.heap.size) (h : DP w0 w c v q) (ho : OrAt [] w0 x.A x.B x.o) (a0 : 0 ≤ a) (a1 : a < q.n) :
    Calls Try.prog 79 #[stV q v a li co ld, .agg #[.int .u8 x.o.k, .int .i64 x.o.a, .int .u8 x.o.b, .bool x.o.ge, .slice x.A x.o.ps.length x.cA, .slice x.B x.o.da.length x.cB]] w (Do5 w0 c (q.set a ⟨x.o.b, true, false, li, co⟩) ((a + 1) % q.n) li co true 0 w) := by
  have HK := Lib.hid hk
  have HOK := Lib.hid hok
  have HO := Lib.hid ho
  have h0 : w0.heap.size ≤ w.heap.size := h.1.size
  have hn := hok.sz.n1
  have hn0 := hok.sz.n0
  have hqn : q.cells.length ≤ 4096 := by unfold Pl.n at hn; omega
  obtain ⟨vb, cap, rfl, _⟩ := h.cells (by unfold Pl.n at hn0; omega)
  have HD := Lib.hid h
  clear hk hok ho h
  unfold stV
  go_enter Try.func79, Try.ntmps79
  go_upto_region 1 with (fail)
  obtain ⟨hBX, hE⟩ := BX.start hc h0 x q (.slice (some ⟨vb, 0, none⟩) q.cells.length cap) a li co ld
  unfold stZ at hBX hE
  obtain ⟨W1, hW⟩ : ∃ W1, ((w.alloc (.cells #[.int .i64 q.rows, .int .i64 q.cols, .slice (some ⟨vb, 0, none⟩) q.cells.length cap, .int .i64 q.cur, .int .i64 a, .int .u8 li, .int .u8 co, .bool ld] 111)).alloc (.cells #[.int .u8 x.o.k, .int .i64 x.o.a, .int .u8 x.o.b, .bool x.o.ge, .slice x.A x.o.ps.length x.cA, .slice x.B x.o.da.length x.cB] 71)).alloc (.cells #[.int .i64 0, .int .i64 0, .slice none 0 0, .int .i64 0, .int .i64 0, .int .u8 0, .int .u8 0, .bool false] 111) = W1 := ⟨_, rfl⟩
  rw [hW] at hBX hE ⊢
  clear hW
  have HX1 := Lib.hid hBX
  have HD1 := Lib.hid (HD.out.ext hE)
  clear hBX hE HD hc h0
  generalize w.heap.size + 2 = rb at *
  generalize w.heap.size + 1 = ob at *
  generalize w.heap.size = sb at *
  have p0 := HX1.out.c0
  have p1 := HX1.out.c1
  have p2 := HX1.out.c2
  have p3 := HX1.out.c3
  have e1 := HX1.out.e1
  go_wp2_with fail
  refine (rHas (w0 := w0) (c := c) (p := q) (v := .slice (some ⟨vb, 0, none⟩) q.cells.length cap) HD1.out x.o.a).mono ?_
  rintro e w2 ⟨rfl, hb⟩
  have HX2 := Lib.hid (HX1.out.ext hb)
  have HD2 := Lib.hid (HD1.out.ext hb)
  clear hb HX1 HD1 p0 p1 p2 p3 e1
  have e0 := HX2.out.e0
  rw [HK.out] at e0
  go_wp2_with fail
  have q0 := fun d os => cell_regrown HX2.out.c0 d os
  have q1 := fun d os => cell_regrown HX2.out.c1 d os
  have q2 := fun d os => cell_regrown HX2.out.c2 d os
  have q3 := fun d os => cell_regrown HX2.out.c3 d os
  have q4 := fun d os => cell_regrown HX2.out.c4 d os
  have q5 := fun d os => cell_regrown HX2.out.c5 d os
  have q6 := fun d os => cell_regrown HX2.out.c6 d os
  have q7 := fun d os => cell_regrown HX2.out.c7 d os
  have qe2 := fun d os => cell_regrown HX2.out.e2 d os
  refine wp_region_chain_below 5 (by kernel_rfl) (by kernel_rfl) ?_
  simp only [List.take_succ_cons, List.take_zero, List.drop_succ_cons, List.drop_zero]
  repeat (go_big_quiet_step ((go_at_call 103; exact Calls.regrown_of (rChar (w0 := w0) (c := c) (p := q) (v := .slice (some ⟨vb, 0, none⟩) q.cells.length cap) (HD2.out.ext (below_regrown _ _ _)) a li co ld (x.o.b) true))))
  refine wpQuiet_nil ?_
  intro _ hw'
  obtain ⟨⟨dq, osq⟩, hw''⟩ := hw'
  subst hw''
  have hb : Ext w2 (grow (redrawn w2 dq) osq) := below_regrown w2 dq osq
  have HXc := Lib.hid (HX2.out.ext hb)
  have HDc := Lib.hid (HD2.out.ext hb)
  generalize grow (redrawn w2 dq) osq = wc at *
  clear hb HX2 HD2
  clear q0 q1 q2 q3 q4 q5 q6 q7 qe2 e0
  go_wp2_with fail
  refine (rLay (w0 := w0) (c := c) (p := q) (v := .slice (some ⟨vb, 0, none⟩) q.cells.length cap) hqn HXc.out.clt HDc.out a li co ld a0 a1 (⟨x.o.b, true, false, li, co⟩)).mono ?_
  rintro e w3 ⟨v3, rfl, hd3, hh3⟩
  obtain ⟨vb3, cap3, rfl, _⟩ := hd3.cells (by rw [(set_dims q a (⟨x.o.b, true, false, li, co⟩)).2.2]; unfold Pl.n at hn0; omega)
  have HX3 := Lib.hid (HXc.out.hold hh3)
  have HD3 := Lib.hid hd3
  clear hd3 hh3
  generalize q.set a (⟨x.o.b, true, false, li, co⟩) = Q at *
  generalize (a + 1) % q.n = T at *
  clear HXc HDc
  unfold stV
  have p0 := HX3.out.c0
  have p1 := HX3.out.c1
  have p2 := HX3.out.c2
  have p3 := HX3.out.c3
  have p4 := HX3.out.c4
  have p5 := HX3.out.c5
  have p6 := HX3.out.c6
  have p7 := HX3.out.c7
  have fp0 := HX3.out.fs 0
  have fp1 := HX3.out.fs 1
  have fp2 := HX3.out.fs 2
  have fp3 := HX3.out.fs 3
  have fp4 := HX3.out.fs 4
  have fp5 := HX3.out.fs 5
  have fp6 := HX3.out.fs 6
  have fp7 := HX3.out.fs 7
  go_upto_region 44 with (fail)
  have F := HX3.out.set8 HD3.out T li co ld
  generalize ((((((((w3.setCell ⟨sb, 0, none⟩ (.int .i64 Q.rows)).setCell ⟨sb, 1, none⟩ (.int .i64 Q.cols)).setCell ⟨sb, 2, none⟩ (.slice (some ⟨vb3, 0, none⟩) Q.cells.length cap3)).setCell ⟨sb, 3, none⟩ (.int .i64 Q.cur)).setCell ⟨sb, 4, none⟩ (.int .i64 T)).setCell ⟨sb, 5, none⟩ (.int .u8 li)).setCell ⟨sb, 6, none⟩ (.int .u8 co)).setCell ⟨sb, 7, none⟩ (.bool ld)) = W4 at F ⊢
  have HX4 := Lib.hid F.1
  have HD4 := Lib.hid F.2
  clear F HX3 HD3 p0 p1 p2 p3 p4 p5 p6 p7 fp0 fp1 fp2 fp3 fp4 fp5 fp6 fp7
  have F := HX4.out.st_ld HD4.out true
  have p7 := HX4.out.c7
  have fp7 := HX4.out.fs 7
  go_upto_region 45 with (fail)
  generalize (W4.setCell ⟨sb, 7, none⟩ (.bool true)) = Wl at F ⊢
  have HXl := Lib.hid F.1
  have HDl := Lib.hid F.2
  clear F p7 fp7
  have p0 := HXl.out.c0
  have p1 := HXl.out.c1
  have p2 := HXl.out.c2
  have p3 := HXl.out.c3
  have p4 := HXl.out.c4
  have p5 := HXl.out.c5
  have p6 := HXl.out.c6
  have p7 := HXl.out.c7
  obtain ⟨zr0, y0⟩ := HXl.out.zr 0 (by decide)
  have g0 := HXl.out.fr 0
  obtain ⟨zr1, y1⟩ := HXl.out.zr 1 (by decide)
  have g1 := HXl.out.fr 1
  obtain ⟨zr2, y2⟩ := HXl.out.zr 2 (by decide)
  have g2 := HXl.out.fr 2
  obtain ⟨zr3, y3⟩ := HXl.out.zr 3 (by decide)
  have g3 := HXl.out.fr 3
  obtain ⟨zr4, y4⟩ := HXl.out.zr 4 (by decide)
  have g4 := HXl.out.fr 4
  obtain ⟨zr5, y5⟩ := HXl.out.zr 5 (by decide)
  have g5 := HXl.out.fr 5
  obtain ⟨zr6, y6⟩ := HXl.out.zr 6 (by decide)
  have g6 := HXl.out.fr 6
  obtain ⟨zr7, y7⟩ := HXl.out.zr 7 (by decide)
  have g7 := HXl.out.fr 7
  go_wp2_with fail
  have F := HXl.out.ret HDl.out
  generalize ((((((((Wl.setCell ⟨rb, 0, none⟩ (.int .i64 Q.rows)).setCell ⟨rb, 1, none⟩ (.int .i64 Q.cols)).setCell ⟨rb, 2, none⟩ (.slice (some ⟨vb3, 0, none⟩) Q.cells.length cap3)).setCell ⟨rb, 3, none⟩ (.int .i64 Q.cur)).setCell ⟨rb, 4, none⟩ (.int .i64 T)).setCell ⟨rb, 5, none⟩ (.int .u8 li)).setCell ⟨rb, 6, none⟩ (.int .u8 co)).setCell ⟨rb, 7, none⟩ (.bool true)) = Wf at F ⊢
  obtain ⟨R8, H8, D8⟩ := F
  have c0 := R8.cell 0
  have c1 := R8.cell 1
  have c2 := R8.cell 2
  have c3 := R8.cell 3
  have c4 := R8.cell 4
  have c5 := R8.cell 5
  have c6 := R8.cell 6
  have c7 := R8.cell 7
  simp at c0 c1 c2 c3 c4 c5 c6 c7
  refine bodyPost_ret (v := .tuple #[.agg #[.int .i64 Q.rows, .int .i64 Q.cols, .slice (some ⟨vb3, 0, none⟩) Q.cells.length cap3, .int .i64 Q.cur, .int .i64 T, .int .u8 li, .int .u8 co, .bool true], .int .i64 0]) (by simp [results, Try.results79, go_sem, c0, c1, c2, c3, c4, c5, c6, c7]) rfl ?_
  exact ⟨_, rfl, D8, H8⟩
set_option maxRecDepth 100000 in
set_option maxHeartbeats 4000000 in
theorem rDo_sfe {w0 w : World} {c : Nat} {v : Value} (q : Pl) (a li co : Int) (ld : Bool) (x : OrdV) (hk : x.o.k = 41) (hP : x.o.ps.length ≤ 1000) (hA : x.o.ps.length ≤ x.cA) (hok : q.Ok) (hc : c < w.heap.size) (h : DP w0 w c v q) (ho : OrAt [] w0 x.A x.B x.o) (a0 : 0 ≤ a) (a1 : a < q.n) :
    Calls Try.prog 79 #[stV q v a li co ld, .agg #[.int .u8 x.o.k, .int .i64 x.o.a, .int .u8 x.o.b, .bool x.o.ge, .slice x.A x.o.ps.length x.cA, .slice x.B x.o.da.length x.cB]] w (Do5 w0 c (q.set a ((Cel.mk 0 false true 0 0).dress x.o.ps)) ((a + 1) % q.n) li co false 0 w) := by
  have HK := Lib.hid hk
  have HOK := Lib.hid hok
  have HO := Lib.hid ho
  have h0 : w0.heap.size ≤ w.heap.size := h.1.size
  have hn := hok.sz.n1
  have hn0 := hok.sz.n0
  have hqn : q.cells.length ≤ 4096 := by unfold Pl.n at hn; omega
  obtain ⟨vb, cap, rfl, _⟩ := h.cells (by unfold Pl.n at hn0; omega)
  have HD := Lib.hid h
  clear hk hok ho h
  unfold stV
  go_enter Try.func79, Try.ntmps79
  go_upto_region 1 with (fail)
  obtain ⟨hBX, hE⟩ := BX.start hc h0 x q (.slice (some ⟨vb, 0, none⟩) q.cells.length cap) a li co ld
  unfold stZ at hBX hE
  obtain ⟨W1, hW⟩ : ∃ W1, ((w.alloc (.cells #[.int .i64 q.rows, .int .i64 q.cols, .slice (some ⟨vb, 0, none⟩) q.cells.length cap, .int .i64 q.cur, .int .i64 a, .int .u8 li, .int .u8 co, .bool ld] 111)).alloc (.cells #[.int .u8 x.o.k, .int .i64 x.o.a, .int .u8 x.o.b, .bool x.o.ge, .slice x.A x.o.ps.length x.cA, .slice x.B x.o.da.length x.cB] 71)).alloc (.cells #[.int .i64 0, .int .i64 0, .slice none 0 0, .int .i64 0, .int .i64 0, .int .u8 0, .int .u8 0, .bool false] 111) = W1 := ⟨_, rfl⟩
  rw [hW] at hBX hE ⊢
  clear hW
  have HX1 := Lib.hid hBX
  have HD1 := Lib.hid (HD.out.ext hE)
  clear hBX hE HD hc h0
  generalize w.heap.size + 2 = rb at *
  generalize w.heap.size + 1 = ob at *
  generalize w.heap.size = sb at *
  have p0 := HX1.out.c0
  have p1 := HX1.out.c1
  have p2 := HX1.out.c2
  have p3 := HX1.out.c3
  have e1 := HX1.out.e1
  go_wp2_with fail
  refine (rHas (w0 := w0) (c := c) (p := q) (v := .slice (some ⟨vb, 0, none⟩) q.cells.length cap) HD1.out x.o.a).mono ?_
  rintro e w2 ⟨rfl, hb⟩
  have HX2 := Lib.hid (HX1.out.ext hb)
  have HD2 := Lib.hid (HD1.out.ext hb)
  clear hb HX1 HD1 p0 p1 p2 p3 e1
  have e0 := HX2.out.e0
  rw [HK.out] at e0
  go_wp2_with fail
  have q0 := fun d os => cell_regrown HX2.out.c0 d os
  have q1 := fun d os => cell_regrown HX2.out.c1 d os
  have q2 := fun d os => cell_regrown HX2.out.c2 d os
  have q3 := fun d os => cell_regrown HX2.out.c3 d os
  have q4 := fun d os => cell_regrown HX2.out.c4 d os
  have q5 := fun d os => cell_regrown HX2.out.c5 d os
  have q6 := fun d os => cell_regrown HX2.out.c6 d os
  have q7 := fun d os => cell_regrown HX2.out.c7 d os
  have qe4 := fun d os => cell_regrown HX2.out.e4 d os
  refine wp_region_chain_below 5 (by kernel_rfl) (by kernel_rfl) ?_
  simp only [List.take_succ_cons, List.take_zero, List.drop_succ_cons, List.drop_zero]
  repeat (go_big_quiet_step ((go_at_call 104; exact Calls.regrown_of (rDress (⟨0, false, true, 0, 0⟩) x.A x.cA x.o.ps HO.out.pb hP hA _ (Rd_ext (below_regrown _ _ _) (Rd_ext HD2.out.1 HO.out.ps))))))
  refine wpQuiet_nil ?_
  intro _ hw'
  obtain ⟨⟨dq, osq⟩, hw''⟩ := hw'
  subst hw''
  have hb : Ext w2 (grow (redrawn w2 dq) osq) := below_regrown w2 dq osq
  have HXc := Lib.hid (HX2.out.ext hb)
  have HDc := Lib.hid (HD2.out.ext hb)
  generalize grow (redrawn w2 dq) osq = wc at *
  clear hb HX2 HD2
  clear q0 q1 q2 q3 q4 q5 q6 q7 qe4 e0
  go_wp2_with fail
  refine (rLay (w0 := w0) (c := c) (p := q) (v := .slice (some ⟨vb, 0, none⟩) q.cells.length cap) hqn HXc.out.clt HDc.out a li co ld a0 a1 ((Cel.mk 0 false true 0 0).dress x.o.ps)).mono ?_
  rintro e w3 ⟨v3, rfl, hd3, hh3⟩
  obtain ⟨vb3, cap3, rfl, _⟩ := hd3.cells (by rw [(set_dims q a ((Cel.mk 0 false true 0 0).dress x.o.ps)).2.2]; unfold Pl.n at hn0; omega)
  have HX3 := Lib.hid (HXc.out.hold hh3)
  have HD3 := Lib.hid hd3
  clear hd3 hh3
  generalize q.set a ((Cel.mk 0 false true 0 0).dress x.o.ps) = Q at *
  generalize (a + 1) % q.n = T at *
  clear HXc HDc
  unfold stV
  have p0 := HX3.out.c0
  have p1 := HX3.out.c1
  have p2 := HX3.out.c2
  have p3 := HX3.out.c3
  have p4 := HX3.out.c4
  have p5 := HX3.out.c5
  have p6 := HX3.out.c6
  have p7 := HX3.out.c7
  have fp0 := HX3.out.fs 0
  have fp1 := HX3.out.fs 1
  have fp2 := HX3.out.fs 2
  have fp3 := HX3.out.fs 3
  have fp4 := HX3.out.fs 4
  have fp5 := HX3.out.fs 5
  have fp6 := HX3.out.fs 6
  have fp7 := HX3.out.fs 7
  go_upto_region 44 with (fail)
  have F := HX3.out.set8 HD3.out T li co ld
  generalize ((((((((w3.setCell ⟨sb, 0, none⟩ (.int .i64 Q.rows)).setCell ⟨sb, 1, none⟩ (.int .i64 Q.cols)).setCell ⟨sb, 2, none⟩ (.slice (some ⟨vb3, 0, none⟩) Q.cells.length cap3)).setCell ⟨sb, 3, none⟩ (.int .i64 Q.cur)).setCell ⟨sb, 4, none⟩ (.int .i64 T)).setCell ⟨sb, 5, none⟩ (.int .u8 li)).setCell ⟨sb, 6, none⟩ (.int .u8 co)).setCell ⟨sb, 7, none⟩ (.bool ld)) = W4 at F ⊢
  have HX4 := Lib.hid F.1
  have HD4 := Lib.hid F.2
  clear F HX3 HD3 p0 p1 p2 p3 p4 p5 p6 p7 fp0 fp1 fp2 fp3 fp4 fp5 fp6 fp7
  have F := HX4.out.st_ld HD4.out false
  have p7 := HX4.out.c7
  have fp7 := HX4.out.fs 7
  go_upto_region 45 with (fail)
  generalize (W4.setCell ⟨sb, 7, none⟩ (.bool false)) = Wl at F ⊢
  have HXl := Lib.hid F.1
  have HDl := Lib.hid F.2
  clear F p7 fp7
  have p0 := HXl.out.c0
  have p1 := HXl.out.c1
  have p2 := HXl.out.c2
  have p3 := HXl.out.c3
  have p4 := HXl.out.c4
  have p5 := HXl.out.c5
  have p6 := HXl.out.c6
  have p7 := HXl.out.c7
  obtain ⟨zr0, y0⟩ := HXl.out.zr 0 (by decide)
  have g0 := HXl.out.fr 0
  obtain ⟨zr1, y1⟩ := HXl.out.zr 1 (by decide)
  have g1 := HXl.out.fr 1
  obtain ⟨zr2, y2⟩ := HXl.out.zr 2 (by decide)
  have g2 := HXl.out.fr 2
  obtain ⟨zr3, y3⟩ := HXl.out.zr 3 (by decide)
  have g3 := HXl.out.fr 3
  obtain ⟨zr4, y4⟩ := HXl.out.zr 4 (by decide)
  have g4 := HXl.out.fr 4
  obtain ⟨zr5, y5⟩ := HXl.out.zr 5 (by decide)
  have g5 := HXl.out.fr 5
  obtain ⟨zr6, y6⟩ := HXl.out.zr 6 (by decide)
  have g6 := HXl.out.fr 6
  obtain ⟨zr7, y7⟩ := HXl.out.zr 7 (by decide)
  have g7 := HXl.out.fr 7
  go_wp2_with fail
  have F := HXl.out.ret HDl.out
  generalize ((((((((Wl.setCell ⟨rb, 0, none⟩ (.int .i64 Q.rows)).setCell ⟨rb, 1, none⟩ (.int .i64 Q.cols)).setCell ⟨rb, 2, none⟩ (.slice (some ⟨vb3, 0, none⟩) Q.cells.length cap3)).setCell ⟨rb, 3, none⟩ (.int .i64 Q.cur)).setCell ⟨rb, 4, none⟩ (.int .i64 T)).setCell ⟨rb, 5, none⟩ (.int .u8 li)).setCell ⟨rb, 6, none⟩ (.int .u8 co)).setCell ⟨rb, 7, none⟩ (.bool false)) = Wf at F ⊢
  obtain ⟨R8, H8, D8⟩ := F
  have c0 := R8.cell 0
  have c1 := R8.cell 1
  have c2 := R8.cell 2
  have c3 := R8.cell 3
  have c4 := R8.cell 4
  have c5 := R8.cell 5
  have c6 := R8.cell 6
  have c7 := R8.cell 7
  simp at c0 c1 c2 c3 c4 c5 c6 c7
  refine bodyPost_ret (v := .tuple #[.agg #[.int .i64 Q.rows, .int .i64 Q.cols, .slice (some ⟨vb3, 0, none⟩) Q.cells.length cap3, .int .i64 Q.cur, .int .i64 T, .int .u8 li, .int .u8 co, .bool false], .int .i64 0]) (by simp [results, Try.results79, go_sem, c0, c1, c2, c3, c4, c5, c6, c7]) rfl ?_
  exact ⟨_, rfl, D8, H8⟩
set_option maxRecDepth 100000 in
set_option maxHeartbeats 4000000 in
theorem rDo_modify_no {w0 w : World} {c : Nat} {v : Value} (q : Pl) (a li co : Int) (ld : Bool) (x : OrdV) (hk : x.o.k = 44) (hs : (q.at a).st = false) (hok : q.Ok) (hc : c < w.heap.size) (h : DP w0 w c v q) (ho : OrAt [] w0 x.A x.B x.o) (a0 : 0 ≤ a) (a1 : a < q.n) :
    Calls Try.prog 79 #[stV q v a li co ld, .agg #[.int .u8 x.o.k, .int .i64 x.o.a, .int .u8 x.o.b, .bool x.o.ge, .slice x.A x.o.ps.length x.cA, .slice x.B x.o.da.length x.cB]] w (Do5e w0 c v q a li co ld 31 w) := by
  have HK := Lib.hid hk
  have HOK := Lib.hid hok
  have HO := Lib.hid ho
  have h0 : w0.heap.size ≤ w.heap.size := h.1.size
  have hn := hok.sz.n1
  have hn0 := hok.sz.n0
  have hqn : q.cells.length ≤ 4096 := by unfold Pl.n at hn; omega
  obtain ⟨vb, cap, rfl, _⟩ := h.cells (by unfold Pl.n at hn0; omega)
  have HD := Lib.hid h
  clear hk hok ho h
  unfold stV
  go_enter Try.func79, Try.ntmps79
  go_upto_region 1 with (fail)
  obtain ⟨hBX, hE⟩ := BX.start hc h0 x q (.slice (some ⟨vb, 0, none⟩) q.cells.length cap) a li co ld
  unfold stZ at hBX hE
  obtain ⟨W1, hW⟩ : ∃ W1, ((w.alloc (.cells #[.int .i64 q.rows, .int .i64 q.cols, .slice (some ⟨vb, 0, none⟩) q.cells.length cap, .int .i64 q.cur, .int .i64 a, .int .u8 li, .int .u8 co, .bool ld] 111)).alloc (.cells #[.int .u8 x.o.k, .int .i64 x.o.a, .int .u8 x.o.b, .bool x.o.ge, .slice x.A x.o.ps.length x.cA, .slice x.B x.o.da.length x.cB] 71)).alloc (.cells #[.int .i64 0, .int .i64 0, .slice none 0 0, .int .i64 0, .int .i64 0, .int .u8 0, .int .u8 0, .bool false] 111) = W1 := ⟨_, rfl⟩
  rw [hW] at hBX hE ⊢
  clear hW
  have HX1 := Lib.hid hBX
  have HD1 := Lib.hid (HD.out.ext hE)
  clear hBX hE HD hc h0
  generalize w.heap.size + 2 = rb at *
  generalize w.heap.size + 1 = ob at *
  generalize w.heap.size = sb at *
  have p0 := HX1.out.c0
  have p1 := HX1.out.c1
  have p2 := HX1.out.c2
  have p3 := HX1.out.c3
  have e1 := HX1.out.e1
  go_wp2_with fail
  refine (rHas (w0 := w0) (c := c) (p := q) (v := .slice (some ⟨vb, 0, none⟩) q.cells.length cap) HD1.out x.o.a).mono ?_
  rintro e w2 ⟨rfl, hb⟩
  have HX2 := Lib.hid (HX1.out.ext hb)
  have HD2 := Lib.hid (HD1.out.ext hb)
  clear hb HX1 HD1 p0 p1 p2 p3 e1
  have e0 := HX2.out.e0
  rw [HK.out] at e0
  have p0 := HX2.out.c0
  have p1 := HX2.out.c1
  have p2 := HX2.out.c2
  have p3 := HX2.out.c3
  have p4 := HX2.out.c4
  have p5 := HX2.out.c5
  have p6 := HX2.out.c6
  have p7 := HX2.out.c7
  obtain ⟨zr0, y0⟩ := HX2.out.zr 0 (by decide)
  have g0 := HX2.out.fr 0
  obtain ⟨zr1, y1⟩ := HX2.out.zr 1 (by decide)
  have g1 := HX2.out.fr 1
  obtain ⟨zr2, y2⟩ := HX2.out.zr 2 (by decide)
  have g2 := HX2.out.fr 2
  obtain ⟨zr3, y3⟩ := HX2.out.zr 3 (by decide)
  have g3 := HX2.out.fr 3
  obtain ⟨zr4, y4⟩ := HX2.out.zr 4 (by decide)
  have g4 := HX2.out.fr 4
  obtain ⟨zr5, y5⟩ := HX2.out.zr 5 (by decide)
  have g5 := HX2.out.fr 5
  obtain ⟨zr6, y6⟩ := HX2.out.zr 6 (by decide)
  have g6 := HX2.out.fr 6
  obtain ⟨zr7, y7⟩ := HX2.out.zr 7 (by decide)
  have g7 := HX2.out.fr 7
  obtain ⟨kn, hkn⟩ := Int.eq_ofNat_of_zero_le a0
  have hkl : kn < q.cells.length := by unfold Pl.n at a1; omega
  have hat : q.at a = q.cells[kn] := by unfold Pl.at; rw [if_pos ⟨a0, a1⟩, hkn]; simp [hkl]
  rw [hat] at hs
  obtain ⟨vbx, capx, ev, hcell⟩ := HD2.out.cells (by omega)
  injection ev with ev1 _ ev2
  injection ev1 with ev1
  injection ev1 with ev1 _ _
  subst ev1
  subst ev2
  have d0 := hcell kn hkl 0 _ rfl
  have d1 := hcell kn hkl 1 _ rfl
  have d2 := hcell kn hkl 2 _ rfl
  have d3 := hcell kn hkl 3 _ rfl
  have d4 := hcell kn hkl 4 _ rfl
  simp only [Nat.add_zero] at d0
  rw [hs] at d2
  clear hcell
  subst hkn
  go_wp2_with fail
  have F := HX2.out.ret HD2.out
  generalize ((((((((w2.setCell ⟨rb, 0, none⟩ (.int .i64 q.rows)).setCell ⟨rb, 1, none⟩ (.int .i64 q.cols)).setCell ⟨rb, 2, none⟩ (.slice (some ⟨vb, 0, none⟩) q.cells.length cap)).setCell ⟨rb, 3, none⟩ (.int .i64 q.cur)).setCell ⟨rb, 4, none⟩ (.int .i64 (kn : Int))).setCell ⟨rb, 5, none⟩ (.int .u8 li)).setCell ⟨rb, 6, none⟩ (.int .u8 co)).setCell ⟨rb, 7, none⟩ (.bool ld)) = Wf at F ⊢
  obtain ⟨R8, H8, D8⟩ := F
  have c0 := R8.cell 0
  have c1 := R8.cell 1
  have c2 := R8.cell 2
  have c3 := R8.cell 3
  have c4 := R8.cell 4
  have c5 := R8.cell 5
  have c6 := R8.cell 6
  have c7 := R8.cell 7
  simp at c0 c1 c2 c3 c4 c5 c6 c7
  refine bodyPost_ret (v := .tuple #[.agg #[.int .i64 q.rows, .int .i64 q.cols, .slice (some ⟨vb, 0, none⟩) q.cells.length cap, .int .i64 q.cur, .int .i64 (kn : Int), .int .u8 li, .int .u8 co, .bool ld], .int .i64 31]) (by simp [results, Try.results79, go_sem, c0, c1, c2, c3, c4, c5, c6, c7]) rfl ?_
  exact ⟨rfl, D8, H8⟩
theorem rDress_st (y z : Cel) (hs : y.st = true) (A : Option Addr) (n : Nat) (ps : List Pr) (hz : y.dress ps = z) (hp : ∀ x ∈ ps, 0 ≤ x.v ∧ x.v < 256) (hl : ps.length ≤ 1000) (hn : ps.length ≤ n) (w : World) (hr : Rd w 2 A ps.length (ps.flatMap Pr.enc)) :
    Calls Try.prog 104 #[.agg #[.int .u8 y.b, .bool y.ge, .bool true, .int .u8 y.li, .int .u8 y.co], .slice A ps.length n] w (Ret (.agg #[.int .u8 z.b, .bool z.ge, .bool z.st, .int .u8 z.li, .int .u8 z.co]) w) := by
  have h := rDress y A n ps hp hl hn w hr
  rw [hz, hs] at h
  exact h
set_option maxRecDepth 100000 in
set_option maxHeartbeats 4000000 in
theorem rDo_modify_yes {w0 w : World} {c : Nat} {v : Value} (q : Pl) (a li co : Int) (ld : Bool) (x : OrdV) (hk : x.o.k = 44) (hs : (q.at a).st = true) (z : Cel) (hz : (q.at a).dress x.o.ps = z) (hP : x.o.ps.length ≤ 1000) (hA : x.o.ps.length ≤ x.cA) (hok : q.Ok) (hc : c < w.heap.size) (h : DP w0 w c v q) (ho : OrAt [] w0 x.A x.B x.o) (a0 : 0 ≤ a) (a1 : a < q.n) :
    Calls Try.prog 79 #[stV q v a li co ld, .agg #[.int .u8 x.o.k, .int .i64 x.o.a, .int .u8 x.o.b, .bool x.o.ge, .slice x.A x.o.ps.length x.cA, .slice x.B x.o.da.length x.cB]] w (Do5 w0 c (q.set a z) ((a + 1) % q.n) li co false 0 w) := by
  have HK := Lib.hid hk
  have HOK := Lib.hid hok
  have HO := Lib.hid ho
  have h0 : w0.heap.size ≤ w.heap.size := h.1.size
  have hn := hok.sz.n1
  have hn0 := hok.sz.n0
  have hqn : q.cells.length ≤ 4096 := by unfold Pl.n at hn; omega
  obtain ⟨vb, cap, rfl, _⟩ := h.cells (by unfold Pl.n at hn0; omega)
  have HD := Lib.hid h
  clear hk hok ho h
  unfold stV
  go_enter Try.func79, Try.ntmps79
  go_upto_region 1 with (fail)
  obtain ⟨hBX, hE⟩ := BX.start hc h0 x q (.slice (some ⟨vb, 0, none⟩) q.cells.length cap) a li co ld
  unfold stZ at hBX hE
  obtain ⟨W1, hW⟩ : ∃ W1, ((w.alloc (.cells #[.int .i64 q.rows, .int .i64 q.cols, .slice (some ⟨vb, 0, none⟩) q.cells.length cap, .int .i64 q.cur, .int .i64 a, .int .u8 li, .int .u8 co, .bool ld] 111)).alloc (.cells #[.int .u8 x.o.k, .int .i64 x.o.a, .int .u8 x.o.b, .bool x.o.ge, .slice x.A x.o.ps.length x.cA, .slice x.B x.o.da.length x.cB] 71)).alloc (.cells #[.int .i64 0, .int .i64 0, .slice none 0 0, .int .i64 0, .int .i64 0, .int .u8 0, .int .u8 0, .bool false] 111) = W1 := ⟨_, rfl⟩
  rw [hW] at hBX hE ⊢
  clear hW
  have HX1 := Lib.hid hBX
  have HD1 := Lib.hid (HD.out.ext hE)
  clear hBX hE HD hc h0
  generalize w.heap.size + 2 = rb at *
  generalize w.heap.size + 1 = ob at *
  generalize w.heap.size = sb at *
  have p0 := HX1.out.c0
  have p1 := HX1.out.c1
  have p2 := HX1.out.c2
  have p3 := HX1.out.c3
  have e1 := HX1.out.e1
  go_wp2_with fail
  refine (rHas (w0 := w0) (c := c) (p := q) (v := .slice (some ⟨vb, 0, none⟩) q.cells.length cap) HD1.out x.o.a).mono ?_
  rintro e w2 ⟨rfl, hb⟩
  have HX2 := Lib.hid (HX1.out.ext hb)
  have HD2 := Lib.hid (HD1.out.ext hb)
  clear hb HX1 HD1 p0 p1 p2 p3 e1
  have e0 := HX2.out.e0
  rw [HK.out] at e0
  have p1 := HX2.out.c1
  have p2 := HX2.out.c2
  have p4 := HX2.out.c4
  obtain ⟨kn, hkn⟩ := Int.eq_ofNat_of_zero_le a0
  have hkl : kn < q.cells.length := by unfold Pl.n at a1; omega
  have hat : q.at a = q.cells[kn] := by unfold Pl.at; rw [if_pos ⟨a0, a1⟩, hkn]; simp [hkl]
  rw [hat] at hs hz
  obtain ⟨vbx, capx, ev, hcell⟩ := HD2.out.cells (by omega)
  injection ev with ev1 _ ev2
  injection ev1 with ev1
  injection ev1 with ev1 _ _
  subst ev1
  subst ev2
  have d0 := hcell kn hkl 0 _ rfl
  have d1 := hcell kn hkl 1 _ rfl
  have d2 := hcell kn hkl 2 _ rfl
  have d3 := hcell kn hkl 3 _ rfl
  have d4 := hcell kn hkl 4 _ rfl
  simp only [Nat.add_zero] at d0
  rw [hs] at d2
  clear hcell
  subst hkn
  clear hat
  have HS := Lib.hid hs
  have HZ := Lib.hid hz
  clear hs hz
  generalize q.cells[kn] = y at *
  go_upto_region 29 with (fail)
  have q0 := fun d os => cell_regrown HX2.out.c0 d os
  have q1 := fun d os => cell_regrown HX2.out.c1 d os
  have q2 := fun d os => cell_regrown HX2.out.c2 d os
  have q3 := fun d os => cell_regrown HX2.out.c3 d os
  have q4 := fun d os => cell_regrown HX2.out.c4 d os
  have q5 := fun d os => cell_regrown HX2.out.c5 d os
  have q6 := fun d os => cell_regrown HX2.out.c6 d os
  have q7 := fun d os => cell_regrown HX2.out.c7 d os
  have qe4 := fun d os => cell_regrown HX2.out.e4 d os
  have qd0 := fun d os => cell_regrown d0 d os
  have qd1 := fun d os => cell_regrown d1 d os
  have qd2 := fun d os => cell_regrown d2 d os
  have qd3 := fun d os => cell_regrown d3 d os
  have qd4 := fun d os => cell_regrown d4 d os
  clear d0 d1 d2 d3 d4 p1 p2 p4
  refine wp_region_chain_below 11 (by kernel_rfl) (by kernel_rfl) ?_
  simp only [List.take_succ_cons, List.take_zero, List.drop_succ_cons, List.drop_zero]
  repeat (go_big_quiet_step ((go_at_call 104; exact Calls.regrown_of (rDress_st y z HS.out x.A x.cA x.o.ps HZ.out HO.out.pb hP hA _ (Rd_ext (below_regrown _ _ _) (Rd_ext HD2.out.1 HO.out.ps))))))
  refine wpQuiet_nil ?_
  intro _ hw'
  obtain ⟨⟨dq, osq⟩, hw''⟩ := hw'
  subst hw''
  have hb : Ext w2 (grow (redrawn w2 dq) osq) := below_regrown w2 dq osq
  have HXc := Lib.hid (HX2.out.ext hb)
  have HDc := Lib.hid (HD2.out.ext hb)
  generalize grow (redrawn w2 dq) osq = wc at *
  clear hb HX2 HD2
  clear q0 q1 q2 q3 q4 q5 q6 q7 qe4 qd0 qd1 qd2 qd3 qd4 e0
  go_wp2_with fail
  refine (rLay (w0 := w0) (c := c) (p := q) (v := .slice (some ⟨vb, 0, none⟩) q.cells.length cap) hqn HXc.out.clt HDc.out (kn : Int) li co ld a0 a1 (z)).mono ?_
  rintro e w3 ⟨v3, rfl, hd3, hh3⟩
  obtain ⟨vb3, cap3, rfl, _⟩ := hd3.cells (by rw [(set_dims q (kn : Int) z).2.2]; unfold Pl.n at hn0; omega)
  have HX3 := Lib.hid (HXc.out.hold hh3)
  have HD3 := Lib.hid hd3
  clear hd3 hh3
  generalize q.set (kn : Int) z = Q at *
  generalize ((kn : Int) + 1) % q.n = T at *
  clear HXc HDc
  unfold stV
  have p0 := HX3.out.c0
  have p1 := HX3.out.c1
  have p2 := HX3.out.c2
  have p3 := HX3.out.c3
  have p4 := HX3.out.c4
  have p5 := HX3.out.c5
  have p6 := HX3.out.c6
  have p7 := HX3.out.c7
  have fp0 := HX3.out.fs 0
  have fp1 := HX3.out.fs 1
  have fp2 := HX3.out.fs 2
  have fp3 := HX3.out.fs 3
  have fp4 := HX3.out.fs 4
  have fp5 := HX3.out.fs 5
  have fp6 := HX3.out.fs 6
  have fp7 := HX3.out.fs 7
  go_upto_region 44 with (fail)
  have F := HX3.out.set8 HD3.out T li co ld
  generalize ((((((((w3.setCell ⟨sb, 0, none⟩ (.int .i64 Q.rows)).setCell ⟨sb, 1, none⟩ (.int .i64 Q.cols)).setCell ⟨sb, 2, none⟩ (.slice (some ⟨vb3, 0, none⟩) Q.cells.length cap3)).setCell ⟨sb, 3, none⟩ (.int .i64 Q.cur)).setCell ⟨sb, 4, none⟩ (.int .i64 T)).setCell ⟨sb, 5, none⟩ (.int .u8 li)).setCell ⟨sb, 6, none⟩ (.int .u8 co)).setCell ⟨sb, 7, none⟩ (.bool ld)) = W4 at F ⊢
  have HX4 := Lib.hid F.1
  have HD4 := Lib.hid F.2
  clear F HX3 HD3 p0 p1 p2 p3 p4 p5 p6 p7 fp0 fp1 fp2 fp3 fp4 fp5 fp6 fp7
  have F := HX4.out.st_ld HD4.out false
  have p7 := HX4.out.c7
  have fp7 := HX4.out.fs 7
  go_upto_region 45 with (fail)
  generalize (W4.setCell ⟨sb, 7, none⟩ (.bool false)) = Wl at F ⊢
  have HXl := Lib.hid F.1
  have HDl := Lib.hid F.2
  clear F p7 fp7
  have p0 := HXl.out.c0
  have p1 := HXl.out.c1
  have p2 := HXl.out.c2
  have p3 := HXl.out.c3
  have p4 := HXl.out.c4
  have p5 := HXl.out.c5
  have p6 := HXl.out.c6
  have p7 := HXl.out.c7
  obtain ⟨zr0, y0⟩ := HXl.out.zr 0 (by decide)
  have g0 := HXl.out.fr 0
  obtain ⟨zr1, y1⟩ := HXl.out.zr 1 (by decide)
  have g1 := HXl.out.fr 1
  obtain ⟨zr2, y2⟩ := HXl.out.zr 2 (by decide)
  have g2 := HXl.out.fr 2
  obtain ⟨zr3, y3⟩ := HXl.out.zr 3 (by decide)
  have g3 := HXl.out.fr 3
  obtain ⟨zr4, y4⟩ := HXl.out.zr 4 (by decide)
  have g4 := HXl.out.fr 4
  obtain ⟨zr5, y5⟩ := HXl.out.zr 5 (by decide)
  have g5 := HXl.out.fr 5
  obtain ⟨zr6, y6⟩ := HXl.out.zr 6 (by decide)
  have g6 := HXl.out.fr 6
  obtain ⟨zr7, y7⟩ := HXl.out.zr 7 (by decide)
  have g7 := HXl.out.fr 7
  go_wp2_with fail
  have F := HXl.out.ret HDl.out
  generalize ((((((((Wl.setCell ⟨rb, 0, none⟩ (.int .i64 Q.rows)).setCell ⟨rb, 1, none⟩ (.int .i64 Q.cols)).setCell ⟨rb, 2, none⟩ (.slice (some ⟨vb3, 0, none⟩) Q.cells.length cap3)).setCell ⟨rb, 3, none⟩ (.int .i64 Q.cur)).setCell ⟨rb, 4, none⟩ (.int .i64 T)).setCell ⟨rb, 5, none⟩ (.int .u8 li)).setCell ⟨rb, 6, none⟩ (.int .u8 co)).setCell ⟨rb, 7, none⟩ (.bool false)) = Wf at F ⊢
  obtain ⟨R8, H8, D8⟩ := F
  have c0 := R8.cell 0
  have c1 := R8.cell 1
  have c2 := R8.cell 2
  have c3 := R8.cell 3
  have c4 := R8.cell 4
  have c5 := R8.cell 5
  have c6 := R8.cell 6
  have c7 := R8.cell 7
  simp at c0 c1 c2 c3 c4 c5 c6 c7
  refine bodyPost_ret (v := .tuple #[.agg #[.int .i64 Q.rows, .int .i64 Q.cols, .slice (some ⟨vb3, 0, none⟩) Q.cells.length cap3, .int .i64 Q.cur, .int .i64 T, .int .u8 li, .int .u8 co, .bool false], .int .i64 0]) (by simp [results, Try.results79, go_sem, c0, c1, c2, c3, c4, c5, c6, c7]) rfl ?_
  exact ⟨_, rfl, D8, H8⟩
end Go.Proofs.Ytmcfckdgolojlaa
