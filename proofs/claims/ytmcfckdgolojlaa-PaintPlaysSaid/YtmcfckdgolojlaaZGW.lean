import Derived.Test.YtmcfckdgolojlaaZGP
import Derived.Test.YtmcfckdgolojlaaZRM
/- The document's do: data. -/
namespace Go.Proofs.Ytmcfckdgolojlaa
set_option linter.unusedVariables false
set_option linter.unusedSimpArgs false
open Go.RowKit Go.Sort
set_option maxRecDepth 100000 in
set_option maxHeartbeats 4000000 in
theorem rDo_data {w0 w : World} {c : Nat} {v : Value} (q : Pl) (a li co : Int) (ld : Bool) (x : OrdV) (hk : x.o.k = 0) (lk : Cel) (hli : lk.li = li) (hco : lk.co = co) (LB : Bool) (hLB : decide (0 < x.o.da.length) = LB) (B : Br) (hB : (Br.mk q a lk ld).data x.o.da = B) (hok : q.Ok) (hc : c < w.heap.size) (h : DP w0 w c v q) (ho : OrAt [] w0 x.A x.B x.o) (a0 : 0 ≤ a) (a1 : a < q.n) :
    Calls Try.prog 79 #[stV q v a li co ld, .agg #[.int .u8 x.o.k, .int .i64 x.o.a, .int .u8 x.o.b, .bool x.o.ge, .slice x.A x.o.ps.length x.cA, .slice x.B x.o.da.length x.cB]] w (Do5 w0 c B.p B.at_ li co LB 0 w) := by
  have HK := Lib.hid hk
  have HOK := Lib.hid hok
  have HO := Lib.hid ho
  have h0 : w0.heap.size ≤ w.heap.size := h.1.size
  have hn := hok.sz.n1
  have hn0 := hok.sz.n0
  have hqn : q.cells.length ≤ 4096 := by unfold Pl.n at hn; omega
  obtain ⟨vb, cap, rfl, _⟩ := h.cells (by unfold Pl.n at hn0; omega)
  have HD := Lib.hid h
  clear hk hok ho h
  unfold stV
  go_enter Try.func79, Try.ntmps79
  go_upto_region 1 with (fail)
  obtain ⟨hBX, hE⟩ := BX.start hc h0 x q (.slice (some ⟨vb, 0, none⟩) q.cells.length cap) a li co ld
  unfold stZ at hBX hE
  obtain ⟨W1, hW⟩ : ∃ W1, ((w.alloc (.cells #[.int .i64 q.rows, .int .i64 q.cols, .slice (some ⟨vb, 0, none⟩) q.cells.length cap, .int .i64 q.cur, .int .i64 a, .int .u8 li, .int .u8 co, .bool ld] 111)).alloc (.cells #[.int .u8 x.o.k, .int .i64 x.o.a, .int .u8 x.o.b, .bool x.o.ge, .slice x.A x.o.ps.length x.cA, .slice x.B x.o.da.length x.cB] 71)).alloc (.cells #[.int .i64 0, .int .i64 0, .slice none 0 0, .int .i64 0, .int .i64 0, .int .u8 0, .int .u8 0, .bool false] 111) = W1 := ⟨_, rfl⟩
  rw [hW] at hBX hE ⊢
  clear hW
  have HX1 := Lib.hid hBX
  have HD1 := Lib.hid (HD.out.ext hE)
  clear hBX hE HD hc h0
  generalize w.heap.size + 2 = rb at *
  generalize w.heap.size + 1 = ob at *
  generalize w.heap.size = sb at *
  have p0 := HX1.out.c0
  have p1 := HX1.out.c1
  have p2 := HX1.out.c2
  have p3 := HX1.out.c3
  have e1 := HX1.out.e1
  go_wp2_with fail
  refine (rHas (w0 := w0) (c := c) (p := q) (v := .slice (some ⟨vb, 0, none⟩) q.cells.length cap) HD1.out x.o.a).mono ?_
  rintro e w2 ⟨rfl, hb⟩
  have HX2 := Lib.hid (HX1.out.ext hb)
  have HD2 := Lib.hid (HD1.out.ext hb)
  clear hb HX1 HD1 p0 p1 p2 p3 e1
  have e0 := HX2.out.e0
  rw [HK.out] at e0
  have HB := Lib.hid hB
  have HLI := Lib.hid hli
  have HCO := Lib.hid hco
  have HLB := Lib.hid hLB
  have HDL := Lib.hid HO.out.dl
  clear hB hli hco hLB
  go_wp2_with fail
  go_loopw [6, 8] (fun v6 v8 wr => ∃ (k : Nat) (Q : Pl) (A : Int) (v : Value), k ≤ x.o.da.length ∧ v8 = .int .i64 k ∧ v6 = .bool (decide (0 < k)) ∧ 0 ≤ A ∧ A < Q.n ∧ Hid (Q.cells.length = q.cells.length) ∧ Hid ((Br.mk Q A lk ld).data (x.o.da.drop k) = B) ∧ Hid (BX w0 w c sb ob rb x Q v A li co ld wr) ∧ Hid (DP w0 wr c v Q)) (fun _ v8 _ => x.o.da.length - (intOf v8).toNat)
  case atStart => exact ⟨0, q, a, _, by omega, rfl, rfl, a0, a1, Lib.hid rfl, HB, HX2, HD2⟩
  case round =>
    clear HB HX2 HD2 e0
    have hn0' : 0 < q.cells.length := by unfold Pl.n at hn0; omega
    have HQC := Lib.hid hqn
    clear hqn hn hn0 a0 a1
    obtain ⟨k, Q, A, v, hk, rfl, rfl, a0, a1, hQl, HB, HX2, HD2⟩ := hrel
    have hqn : Q.cells.length ≤ 4096 := by rw [hQl.out]; exact HQC.out
    have hn0 : 1 ≤ Q.n := by have := hQl.out; unfold Pl.n; omega
    obtain ⟨vb2, cap2, rfl, _⟩ := HD2.out.cells (by have := hQl.out; omega)
    by_cases hlt : k < x.o.da.length
    · obtain ⟨db, dof, y, eB, hy, d0⟩ := (Rd_ext HD2.out.1 HO.out.da).at1 hlt
      rw [u8s_get, List.getElem?_eq_getElem hlt, Option.map_some, Option.some.injEq] at hy
      subst hy
      have hr := HB.out
      rw [List.drop_eq_getElem_cons hlt] at hr
      have HR : Hid ((Br.mk (Q.set A ⟨x.o.da[k], false, false, li, co⟩) ((A + 1) % Q.n) lk ld).data (x.o.da.drop (k + 1)) = B) := Lib.hid (by rw [← HLI.out, ← HCO.out]; exact hr)
      have hL : k + 1 < 9223372036854775808 := by have := HDL.out; unfold maxLen at this; omega
      have e5 := HX2.out.e5
      rw [eB] at e5
      clear hr HB eB
      generalize x.o.da[k] = y at *
      go_wp2_with fail
      have q0 := fun d os => cell_regrown HX2.out.c0 d os
      have q1 := fun d os => cell_regrown HX2.out.c1 d os
      have q2 := fun d os => cell_regrown HX2.out.c2 d os
      have q3 := fun d os => cell_regrown HX2.out.c3 d os
      have q4 := fun d os => cell_regrown HX2.out.c4 d os
      have q5 := fun d os => cell_regrown HX2.out.c5 d os
      have q6 := fun d os => cell_regrown HX2.out.c6 d os
      have q7 := fun d os => cell_regrown HX2.out.c7 d os
      have qe5 := fun d os => cell_regrown e5 d os
      have qd0 := fun d os => cell_regrown d0 d os
      clear e5 d0
      refine wp_region_chain_below 8 (by kernel_rfl) (by kernel_rfl) ?_
      simp only [List.take_succ_cons, List.take_zero, List.drop_succ_cons, List.drop_zero]
      repeat (go_big_quiet_step ((go_at_call 103; exact Calls.regrown_of (rChar (w0 := w0) (c := c) (p := Q) (v := .slice (some ⟨vb2, 0, none⟩) Q.cells.length cap2) (HD2.out.ext (below_regrown _ _ _)) A li co ld (y) false))))
      refine wpQuiet_nil ?_
      intro _ hw'
      obtain ⟨⟨dq, osq⟩, hw''⟩ := hw'
      subst hw''
      have hb : Ext wr (grow (redrawn wr dq) osq) := below_regrown wr dq osq
      have HXc := Lib.hid (HX2.out.ext hb)
      have HDc := Lib.hid (HD2.out.ext hb)
      generalize grow (redrawn wr dq) osq = wc at *
      clear hb HX2 HD2
      clear q0 q1 q2 q3 q4 q5 q6 q7 qe5 qd0
      go_wp2_with fail
      refine (rLay (w0 := w0) (c := c) (p := Q) (v := .slice (some ⟨vb2, 0, none⟩) Q.cells.length cap2) hqn HXc.out.clt HDc.out A li co ld a0 a1 (⟨y, false, false, li, co⟩)).mono ?_
      rintro e w3 ⟨v3, rfl, hd3, hh3⟩
      obtain ⟨vb3, cap3, rfl, _⟩ := hd3.cells (by rw [(set_dims Q A (⟨y, false, false, li, co⟩)).2.2]; unfold Pl.n at hn0; omega)
      have HX3 := Lib.hid (HXc.out.hold hh3)
      have HD3 := Lib.hid hd3
      clear hd3 hh3
      have hS : Hid ((Q.set A ⟨y, false, false, li, co⟩).cells.length = q.cells.length) := Lib.hid ((set_dims _ _ _).2.2.trans hQl.out)
      have hT := mod_bd (a := A + 1) hn0
      have hSn : (Q.set A ⟨y, false, false, li, co⟩).n = Q.n := set_n _ _ _
      generalize (A + 1) % Q.n = T at *
      rw [← hSn] at hT
      generalize Q.set A ⟨y, false, false, li, co⟩ = Q' at *
      clear HXc HDc
      unfold stV
      have p0 := HX3.out.c0
      have p1 := HX3.out.c1
      have p2 := HX3.out.c2
      have p3 := HX3.out.c3
      have p4 := HX3.out.c4
      have p5 := HX3.out.c5
      have p6 := HX3.out.c6
      have p7 := HX3.out.c7
      have fp0 := HX3.out.fs 0
      have fp1 := HX3.out.fs 1
      have fp2 := HX3.out.fs 2
      have fp3 := HX3.out.fs 3
      have fp4 := HX3.out.fs 4
      have fp5 := HX3.out.fs 5
      have fp6 := HX3.out.fs 6
      have fp7 := HX3.out.fs 7
      go_upto_region 10 with (fail)
      have F := HX3.out.set8 HD3.out T li co ld
      generalize ((((((((w3.setCell ⟨sb, 0, none⟩ (.int .i64 Q'.rows)).setCell ⟨sb, 1, none⟩ (.int .i64 Q'.cols)).setCell ⟨sb, 2, none⟩ (.slice (some ⟨vb3, 0, none⟩) Q'.cells.length cap3)).setCell ⟨sb, 3, none⟩ (.int .i64 Q'.cur)).setCell ⟨sb, 4, none⟩ (.int .i64 T)).setCell ⟨sb, 5, none⟩ (.int .u8 li)).setCell ⟨sb, 6, none⟩ (.int .u8 co)).setCell ⟨sb, 7, none⟩ (.bool ld)) = W4 at F ⊢
      have HX4 := Lib.hid F.1
      have HD4 := Lib.hid F.2
      clear F HX3 HD3 p0 p1 p2 p3 p4 p5 p6 p7 fp0 fp1 fp2 fp3 fp4 fp5 fp6 fp7
      go_wp2_with fail
      go_roundw
      case rel => exact ⟨k + 1, Q', T, _, by omega, by go_num, by simp, hT.1, hT.2, hS, HR, HX4, HD4⟩
      case measure => simp [intOf]; omega
    · have hkk : k = x.o.da.length := by omega
      have hr := HB.out
      rw [List.drop_eq_nil_of_le (by omega)] at hr
      have hu : decide (0 < k) = LB := by rw [hkk]; exact HLB.out
      rw [hu]
      have hr2 : Br.mk Q A lk ld = B := hr
      subst hr2
      clear hr hkk hu HB HLB
      have e5 := HX2.out.e5
      go_upto_region 44 with (fail)
      clear e5
      have F := HX2.out.st_ld HD2.out LB
      have p7 := HX2.out.c7
      have fp7 := HX2.out.fs 7
      go_upto_region 45 with (fail)
      generalize (wr.setCell ⟨sb, 7, none⟩ (.bool LB)) = Wl at F ⊢
      have HXl := Lib.hid F.1
      have HDl := Lib.hid F.2
      clear F p7 fp7
      have p0 := HXl.out.c0
      have p1 := HXl.out.c1
      have p2 := HXl.out.c2
      have p3 := HXl.out.c3
      have p4 := HXl.out.c4
      have p5 := HXl.out.c5
      have p6 := HXl.out.c6
      have p7 := HXl.out.c7
      obtain ⟨zr0, y0⟩ := HXl.out.zr 0 (by decide)
      have g0 := HXl.out.fr 0
      obtain ⟨zr1, y1⟩ := HXl.out.zr 1 (by decide)
      have g1 := HXl.out.fr 1
      obtain ⟨zr2, y2⟩ := HXl.out.zr 2 (by decide)
      have g2 := HXl.out.fr 2
      obtain ⟨zr3, y3⟩ := HXl.out.zr 3 (by decide)
      have g3 := HXl.out.fr 3
      obtain ⟨zr4, y4⟩ := HXl.out.zr 4 (by decide)
      have g4 := HXl.out.fr 4
      obtain ⟨zr5, y5⟩ := HXl.out.zr 5 (by decide)
      have g5 := HXl.out.fr 5
      obtain ⟨zr6, y6⟩ := HXl.out.zr 6 (by decide)
      have g6 := HXl.out.fr 6
      obtain ⟨zr7, y7⟩ := HXl.out.zr 7 (by decide)
      have g7 := HXl.out.fr 7
      go_wp2_with fail
      have F := HXl.out.ret HDl.out
      generalize ((((((((Wl.setCell ⟨rb, 0, none⟩ (.int .i64 Q.rows)).setCell ⟨rb, 1, none⟩ (.int .i64 Q.cols)).setCell ⟨rb, 2, none⟩ (.slice (some ⟨vb2, 0, none⟩) Q.cells.length cap2)).setCell ⟨rb, 3, none⟩ (.int .i64 Q.cur)).setCell ⟨rb, 4, none⟩ (.int .i64 A)).setCell ⟨rb, 5, none⟩ (.int .u8 li)).setCell ⟨rb, 6, none⟩ (.int .u8 co)).setCell ⟨rb, 7, none⟩ (.bool LB)) = Wf at F ⊢
      obtain ⟨R8, H8, D8⟩ := F
      have c0 := R8.cell 0
      have c1 := R8.cell 1
      have c2 := R8.cell 2
      have c3 := R8.cell 3
      have c4 := R8.cell 4
      have c5 := R8.cell 5
      have c6 := R8.cell 6
      have c7 := R8.cell 7
      simp at c0 c1 c2 c3 c4 c5 c6 c7
      refine bodyPost_ret (v := .tuple #[.agg #[.int .i64 Q.rows, .int .i64 Q.cols, .slice (some ⟨vb2, 0, none⟩) Q.cells.length cap2, .int .i64 Q.cur, .int .i64 A, .int .u8 li, .int .u8 co, .bool LB], .int .i64 0]) (by simp [results, Try.results79, go_sem, c0, c1, c2, c3, c4, c5, c6, c7]) rfl ?_
      exact ⟨_, rfl, D8, H8⟩
end Go.Proofs.Ytmcfckdgolojlaa
