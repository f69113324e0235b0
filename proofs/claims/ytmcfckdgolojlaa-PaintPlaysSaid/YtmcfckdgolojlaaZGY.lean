import Derived.Test.YtmcfckdgolojlaaZGX
/- The document's Paint. -/
namespace Go.Proofs.Ytmcfckdgolojlaa
set_option linter.unusedVariables false
set_option linter.unusedSimpArgs false
open Go.RowKit Go.Sort
/-- the boxes of ref16.Paint: the state, the result -/
structure PX (w0 w : World) (c sb rb : Nat) (b : Br) (v : Value) (W : World) : Prop where
  s : Blk W sb 111 #[.int .i64 b.p.rows, .int .i64 b.p.cols, v, .int .i64 b.p.cur, .int .i64 b.at_, .int .u8 b.look.li, .int .u8 b.look.co, .bool b.laid]
  r : ∃ z0 z1 z2 z3, Blk W rb 28 #[z0, z1, z2, z3]
  hh : Holds c w W
  cw : c < w.heap.size
  b0 : w0.heap.size ≤ w.heap.size
  bs : w.heap.size ≤ sb
  br : w.heap.size ≤ rb
section
variable {w0 w W : World} {c sb rb : Nat} {b : Br} {v : Value}
theorem PX.clt (h : PX w0 w c sb rb b v W) : c < W.heap.size := Nat.lt_of_lt_of_le h.cw h.hh.1
theorem PX.hold {W' : World} (h : PX w0 w c sb rb b v W) (k : Holds c W W') : PX w0 w c sb rb b v W' := by
  obtain ⟨z0, z1, z2, z3, hr⟩ := h.r
  exact ⟨h.s.hold (by decide) k, ⟨z0, z1, z2, z3, hr.hold (by decide) k⟩, h.hh.trans k, h.cw, h.b0, h.bs, h.br⟩
theorem PX.ext {W' : World} (h : PX w0 w c sb rb b v W) (k : Ext W W') : PX w0 w c sb rb b v W' := h.hold (Holds.of_ext k)
theorem PX.rs (h : PX w0 w c sb rb b v W) : rb ≠ sb := by
  obtain ⟨z0, z1, z2, z3, hr⟩ := h.r
  rintro rfl
  exact absurd (Blk.same h.s hr).1 (by decide)
/-- another state is stored -/
theorem PX.set8 (h : PX w0 w c sb rb b v W) {q : Pl} {v1 : Value} (hd : DP w0 W c v1 q) (B : Br) (v2 : Value) :
    PX w0 w c sb rb B v2 ((((((((W.setCell ⟨sb, 0, none⟩ (.int .i64 B.p.rows)).setCell ⟨sb, 1, none⟩ (.int .i64 B.p.cols)).setCell ⟨sb, 2, none⟩ (v2)).setCell ⟨sb, 3, none⟩ (.int .i64 B.p.cur)).setCell ⟨sb, 4, none⟩ (.int .i64 B.at_)).setCell ⟨sb, 5, none⟩ (.int .u8 B.look.li)).setCell ⟨sb, 6, none⟩ (.int .u8 B.look.co)).setCell ⟨sb, 7, none⟩ (.bool B.laid)) ∧ DP w0 ((((((((W.setCell ⟨sb, 0, none⟩ (.int .i64 B.p.rows)).setCell ⟨sb, 1, none⟩ (.int .i64 B.p.cols)).setCell ⟨sb, 2, none⟩ (v2)).setCell ⟨sb, 3, none⟩ (.int .i64 B.p.cur)).setCell ⟨sb, 4, none⟩ (.int .i64 B.at_)).setCell ⟨sb, 5, none⟩ (.int .u8 B.look.li)).setCell ⟨sb, 6, none⟩ (.int .u8 B.look.co)).setCell ⟨sb, 7, none⟩ (.bool B.laid)) c v1 q := by
  obtain ⟨z0, z1, z2, z3, hr⟩ := h.r
  have hz : w0.heap.size ≤ sb := Nat.le_trans h.b0 h.bs
  have hrs := h.rs
  refine ⟨⟨h.s.all8 _ _ _ _ _ _ _ _, ⟨z0, z1, z2, z3, ?_⟩, ?_, h.cw, h.b0, h.bs, h.br⟩, hd.all8 h.s hz _ _ _ _ _ _ _ _⟩
  · exact (((((((hr.far hrs _).far hrs _).far hrs _).far hrs _).far hrs _).far hrs _).far hrs _).far hrs _
  · exact (((((((h.hh.set sb 0 _ h.bs).set sb 1 _ h.bs).set sb 2 _ h.bs).set sb 3 _ h.bs).set sb 4 _ h.bs).set sb 5 _ h.bs).set sb 6 _ h.bs).set sb 7 _ h.bs
/-- a state is stored into another box -/
theorem PX.new8 (h : PX w0 w c sb rb b v W) {q : Pl} {v1 : Value} (hd : DP w0 W c v1 q) {nb : Nat} {x0 x1 x2 x3 x4 x5 x6 x7 : Value} (hB : Blk W nb 111 #[x0, x1, x2, x3, x4, x5, x6, x7]) (hn : w.heap.size ≤ nb) (hne : sb ≠ nb) (B : Br) (v2 : Value) :
    PX w0 w c sb rb b v ((((((((W.setCell ⟨nb, 0, none⟩ (.int .i64 B.p.rows)).setCell ⟨nb, 1, none⟩ (.int .i64 B.p.cols)).setCell ⟨nb, 2, none⟩ (v2)).setCell ⟨nb, 3, none⟩ (.int .i64 B.p.cur)).setCell ⟨nb, 4, none⟩ (.int .i64 B.at_)).setCell ⟨nb, 5, none⟩ (.int .u8 B.look.li)).setCell ⟨nb, 6, none⟩ (.int .u8 B.look.co)).setCell ⟨nb, 7, none⟩ (.bool B.laid)) ∧ DP w0 ((((((((W.setCell ⟨nb, 0, none⟩ (.int .i64 B.p.rows)).setCell ⟨nb, 1, none⟩ (.int .i64 B.p.cols)).setCell ⟨nb, 2, none⟩ (v2)).setCell ⟨nb, 3, none⟩ (.int .i64 B.p.cur)).setCell ⟨nb, 4, none⟩ (.int .i64 B.at_)).setCell ⟨nb, 5, none⟩ (.int .u8 B.look.li)).setCell ⟨nb, 6, none⟩ (.int .u8 B.look.co)).setCell ⟨nb, 7, none⟩ (.bool B.laid)) c v1 q ∧ Blk ((((((((W.setCell ⟨nb, 0, none⟩ (.int .i64 B.p.rows)).setCell ⟨nb, 1, none⟩ (.int .i64 B.p.cols)).setCell ⟨nb, 2, none⟩ (v2)).setCell ⟨nb, 3, none⟩ (.int .i64 B.p.cur)).setCell ⟨nb, 4, none⟩ (.int .i64 B.at_)).setCell ⟨nb, 5, none⟩ (.int .u8 B.look.li)).setCell ⟨nb, 6, none⟩ (.int .u8 B.look.co)).setCell ⟨nb, 7, none⟩ (.bool B.laid)) nb 111 #[.int .i64 B.p.rows, .int .i64 B.p.cols, v2, .int .i64 B.p.cur, .int .i64 B.at_, .int .u8 B.look.li, .int .u8 B.look.co, .bool B.laid] := by
  obtain ⟨z0, z1, z2, z3, hr⟩ := h.r
  have hz : w0.heap.size ≤ nb := Nat.le_trans h.b0 hn
  have hrs : rb ≠ nb := by
    rintro rfl
    exact absurd (Blk.same hB hr).1 (by decide)
  refine ⟨⟨?_, ⟨z0, z1, z2, z3, ?_⟩, ?_, h.cw, h.b0, h.bs, h.br⟩, hd.all8 hB hz _ _ _ _ _ _ _ _, hB.all8 _ _ _ _ _ _ _ _⟩
  · exact (((((((h.s.far hne _).far hne _).far hne _).far hne _).far hne _).far hne _).far hne _).far hne _
  · exact (((((((hr.far hrs _).far hrs _).far hrs _).far hrs _).far hrs _).far hrs _).far hrs _).far hrs _
  · exact (((((((h.hh.set nb 0 _ hn).set nb 1 _ hn).set nb 2 _ hn).set nb 3 _ hn).set nb 4 _ hn).set nb 5 _ hn).set nb 6 _ hn).set nb 7 _ hn
/-- the result is stored -/
theorem PX.ret (h : PX w0 w c sb rb b v W) (hd : DP w0 W c v b.p) :
    Blk ((((W.setCell ⟨rb, 0, none⟩ (.int .i64 b.p.rows)).setCell ⟨rb, 1, none⟩ (.int .i64 b.p.cols)).setCell ⟨rb, 2, none⟩ (v)).setCell ⟨rb, 3, none⟩ (.int .i64 b.p.cur)) rb 28 #[.int .i64 b.p.rows, .int .i64 b.p.cols, v, .int .i64 b.p.cur] ∧ Holds c w ((((W.setCell ⟨rb, 0, none⟩ (.int .i64 b.p.rows)).setCell ⟨rb, 1, none⟩ (.int .i64 b.p.cols)).setCell ⟨rb, 2, none⟩ (v)).setCell ⟨rb, 3, none⟩ (.int .i64 b.p.cur)) ∧ DP w0 ((((W.setCell ⟨rb, 0, none⟩ (.int .i64 b.p.rows)).setCell ⟨rb, 1, none⟩ (.int .i64 b.p.cols)).setCell ⟨rb, 2, none⟩ (v)).setCell ⟨rb, 3, none⟩ (.int .i64 b.p.cur)) c v b.p := by
  obtain ⟨z0, z1, z2, z3, hr⟩ := h.r
  have hz : w0.heap.size ≤ rb := Nat.le_trans h.b0 h.br
  have B1 : Blk (W.setCell ⟨rb, 0, none⟩ (.int .i64 b.p.rows)) rb 28 #[.int .i64 b.p.rows, z1, z2, z3] := hr.store 0 _
  have B2 : Blk ((W.setCell ⟨rb, 0, none⟩ (.int .i64 b.p.rows)).setCell ⟨rb, 1, none⟩ (.int .i64 b.p.cols)) rb 28 #[.int .i64 b.p.rows, .int .i64 b.p.cols, z2, z3] := B1.store 1 _
  have B3 : Blk (((W.setCell ⟨rb, 0, none⟩ (.int .i64 b.p.rows)).setCell ⟨rb, 1, none⟩ (.int .i64 b.p.cols)).setCell ⟨rb, 2, none⟩ (v)) rb 28 #[.int .i64 b.p.rows, .int .i64 b.p.cols, v, z3] := B2.store 2 _
  exact ⟨B3.store 3 _, (((h.hh.set rb 0 _ h.br).set rb 1 _ h.br).set rb 2 _ h.br).set rb 3 _ h.br, (((hd.set hr (by decide) hz 0 _).set B1 (by decide) hz 1 _).set B2 (by decide) hz 2 _).set B3 (by decide) hz 3 _⟩
end
theorem rDo_yes {w0 w : World} {c : Nat} {v : Value} (b : Br) (x : OrdV) (B : Br) (hB : b.do x.o = (B, 0)) (hP : x.o.ps.length ≤ 1000 ∧ x.o.ps.length ≤ x.cA) (hb : b.Ok) (hc : c < w.heap.size) (h : DP w0 w c v b.p) (ho : OrAt [] w0 x.A x.B x.o) :
    Calls Try.prog 79 #[stV b.p v b.at_ b.look.li b.look.co b.laid, .agg #[.int .u8 x.o.k, .int .i64 x.o.a, .int .u8 x.o.b, .bool x.o.ge, .slice x.A x.o.ps.length x.cA, .slice x.B x.o.da.length x.cB]] w (Do5 w0 c B.p B.at_ B.look.li B.look.co B.laid 0 w) :=
  (rDo_any b x hP.1 hP.2 hb hc h ho).mono (fun e w' k => by
    unfold DoQ at k
    rw [hB] at k
    rcases k with ⟨_, k⟩ | ⟨k, _⟩
    · exact k
    · exact absurd rfl k)
theorem rDo_no {w0 w : World} {c : Nat} {v : Value} (b : Br) (x : OrdV) (B : Br) (e0 : Int) (he : e0 ≠ 0) (hB : b.do x.o = (B, e0)) (hP : x.o.ps.length ≤ 1000 ∧ x.o.ps.length ≤ x.cA) (hb : b.Ok) (hc : c < w.heap.size) (h : DP w0 w c v b.p) (ho : OrAt [] w0 x.A x.B x.o) :
    Calls Try.prog 79 #[stV b.p v b.at_ b.look.li b.look.co b.laid, .agg #[.int .u8 x.o.k, .int .i64 x.o.a, .int .u8 x.o.b, .bool x.o.ge, .slice x.A x.o.ps.length x.cA, .slice x.B x.o.da.length x.cB]] w (Do5e w0 c v b.p b.at_ b.look.li b.look.co b.laid e0 w) :=
  (rDo_any b x hP.1 hP.2 hb hc h ho).mono (fun e w' k => by
    unfold DoQ at k
    rw [hB] at k
    rcases k with ⟨k, _⟩ | ⟨_, k⟩
    · exact absurd k he
    · exact k)
/-- what Paint hands back -/
def PtQ (w0 : World) (c : Nat) (F : Br × Nat × Int) (w : World) (e : Ending) (w' : World) : Prop := ∃ v2, e = .returned (.tuple #[dplV F.1.p v2, .int .i64 F.1.at_, .int .i64 F.2.1, .int .i64 F.2.2]) ∧ DP w0 w' c v2 F.1.p ∧ Holds c w w'

set_option maxRecDepth 100000 in
set_option maxHeartbeats 4000000 in
theorem rPaint_any {w0 w : World} {c : Nat} {v : Value} (p : Pl) (A : Option Addr) (d : Nat) (xs : List OrdV) (from_ : Int) (hPX : ∀ x ∈ xs, x.o.ps.length ≤ 1000 ∧ x.o.ps.length ≤ x.cA) (hf : 0 ≤ from_ ∧ from_ < p.n) (hok : p.Ok) (hc : c < w.heap.size) (h : DP w0 w c v p) (ho : OsAt [] w0 A xs) :
    Calls Try.prog 47 #[dplV p v, .slice A xs.length d, .int .i64 from_] w (PtQ w0 c ((Br.at0 p from_).run (xs.map OrdV.o)) w) := by
  have HPA := Lib.hid hPX
  have HO := Lib.hid ho
  have HOK := Lib.hid (show (Br.at0 p from_).Ok from ⟨hok, hf.1, hf.2⟩)
  have h0 : w0.heap.size ≤ w.heap.size := h.1.size
  have hn0 := hok.sz.n0
  have hhas : p.has from_ = true := decide_eq_true hf
  obtain ⟨vb, cap, rfl, _⟩ := h.cells (by unfold Pl.n at hn0; omega)
  have HD := Lib.hid h
  obtain ⟨F, hF⟩ : ∃ F, (Br.at0 p from_).run (xs.map OrdV.o) = F := ⟨_, rfl⟩
  rw [hF]
  have HF := Lib.hid hF
  clear hPX hok ho h hf hF
  unfold dplV
  go_enter Try.func47, Try.ntmps47
  go_upto_region 1 with (fail)
  have hPB : Blk ((w.alloc (.cells #[.int .i64 p.rows, .int .i64 p.cols, .slice (some ⟨vb, 0, none⟩) p.cells.length cap, .int .i64 p.cur] 28)).alloc (.cells #[.int .i64 0, .int .i64 0, .slice none 0 0, .int .i64 0] 28)) w.heap.size 28 #[.int .i64 p.rows, .int .i64 p.cols, .slice (some ⟨vb, 0, none⟩) p.cells.length cap, .int .i64 p.cur] := (Blk.new w _ _).alloc _
  have hRB := Blk.new (w.alloc (.cells #[.int .i64 p.rows, .int .i64 p.cols, .slice (some ⟨vb, 0, none⟩) p.cells.length cap, .int .i64 p.cur] 28)) 28 #[.int .i64 0, .int .i64 0, .slice none 0 0, .int .i64 0]
  rw [World.size_alloc] at hRB
  have hE : Ext w ((w.alloc (.cells #[.int .i64 p.rows, .int .i64 p.cols, .slice (some ⟨vb, 0, none⟩) p.cells.length cap, .int .i64 p.cur] 28)).alloc (.cells #[.int .i64 0, .int .i64 0, .slice none 0 0, .int .i64 0] 28)) := Ext_alloc (Ext_alloc (Ext_refl w))
  obtain ⟨W1, hW⟩ : ∃ W1, (w.alloc (.cells #[.int .i64 p.rows, .int .i64 p.cols, .slice (some ⟨vb, 0, none⟩) p.cells.length cap, .int .i64 p.cur] 28)).alloc (.cells #[.int .i64 0, .int .i64 0, .slice none 0 0, .int .i64 0] 28) = W1 := ⟨_, rfl⟩
  rw [hW] at hPB hRB hE ⊢
  obtain ⟨rb, hrb⟩ : ∃ rb, w.heap.size + 1 = rb := ⟨_, rfl⟩
  obtain ⟨pb, hpb⟩ : ∃ pb, w.heap.size = pb := ⟨_, rfl⟩
  have hwr : w.heap.size ≤ rb := by omega
  rw [hrb] at hRB ⊢
  rw [hpb] at hPB ⊢
  have HE := Lib.hid hE
  have HD1 := Lib.hid (HD.out.ext hE)
  clear hW hE HD hrb hpb
  have p0 := hPB.cell 0
  have p1 := hPB.cell 1
  have p2 := hPB.cell 2
  have p3 := hPB.cell 3
  simp at p0 p1 p2 p3
  go_wp2_with fail
  refine (rHas (w0 := w0) (c := c) (p := p) (v := .slice (some ⟨vb, 0, none⟩) p.cells.length cap) HD1.out from_).mono ?_
  rintro e w2 ⟨rfl, hb⟩
  rw [hhas]
  have hPB2 := Blk.ext2 hPB hb
  have hRB2 := Blk.ext2 hRB hb
  have HE2 := Lib.hid (Ext_trans hb HE.out)
  have HD2 := Lib.hid (HD1.out.ext hb)
  clear hb hPB hRB HE HD1 p0 p1 p2 p3
  have p0 := hPB2.cell 0
  have p1 := hPB2.cell 1
  have p2 := hPB2.cell 2
  have p3 := hPB2.cell 3
  simp at p0 p1 p2 p3
  clear hPB2
  go_upto_region 4 with (fail)
  have hSB := Blk.new w2 111 #[.int .i64 (Br.at0 p from_).p.rows, .int .i64 (Br.at0 p from_).p.cols, .slice (some ⟨vb, 0, none⟩) p.cells.length cap, .int .i64 (Br.at0 p from_).p.cur, .int .i64 (Br.at0 p from_).at_, .int .u8 (Br.at0 p from_).look.li, .int .u8 (Br.at0 p from_).look.co, .bool (Br.at0 p from_).laid]
  have hE3 := Ext_alloc (o := .cells #[.int .i64 (Br.at0 p from_).p.rows, .int .i64 (Br.at0 p from_).p.cols, .slice (some ⟨vb, 0, none⟩) p.cells.length cap, .int .i64 (Br.at0 p from_).p.cur, .int .i64 (Br.at0 p from_).at_, .int .u8 (Br.at0 p from_).look.li, .int .u8 (Br.at0 p from_).look.co, .bool (Br.at0 p from_).laid] 111) (Ext_refl w2)
  have hws : w.heap.size ≤ w2.heap.size := HE2.out.size
  have hX : PX w0 w c w2.heap.size rb (Br.at0 p from_) (.slice (some ⟨vb, 0, none⟩) p.cells.length cap) (w2.alloc (.cells #[.int .i64 (Br.at0 p from_).p.rows, .int .i64 (Br.at0 p from_).p.cols, .slice (some ⟨vb, 0, none⟩) p.cells.length cap, .int .i64 (Br.at0 p from_).p.cur, .int .i64 (Br.at0 p from_).at_, .int .u8 (Br.at0 p from_).look.li, .int .u8 (Br.at0 p from_).look.co, .bool (Br.at0 p from_).laid] 111)) :=
    ⟨hSB, ⟨_, _, _, _, hRB2.alloc _⟩, Holds.of_ext (Ext_trans hE3 HE2.out), hc, h0, hws, hwr⟩
  have HD3 := Lib.hid (HD2.out.ext hE3)
  unfold Br.at0 Cel.zero at hX HD3
  simp only at hX HD3
  obtain ⟨W3, hW3⟩ : ∃ W3, w2.alloc (.cells #[.int .i64 (Br.at0 p from_).p.rows, .int .i64 (Br.at0 p from_).p.cols, .slice (some ⟨vb, 0, none⟩) p.cells.length cap, .int .i64 (Br.at0 p from_).p.cur, .int .i64 (Br.at0 p from_).at_, .int .u8 (Br.at0 p from_).look.li, .int .u8 (Br.at0 p from_).look.co, .bool (Br.at0 p from_).laid] 111) = W3 := ⟨_, rfl⟩
  unfold Br.at0 Cel.zero at hW3
  simp only at hW3
  rw [hW3] at hX HD3 ⊢
  obtain ⟨sb, hsb⟩ : ∃ sb, w2.heap.size = sb := ⟨_, rfl⟩
  have hX3 := hX
  rw [hsb] at hX3 ⊢
  have HX3 : Hid (PX w0 w c sb rb ⟨p, from_, Cel.zero, false⟩ (.slice (some ⟨vb, 0, none⟩) p.cells.length cap) W3) := Lib.hid hX3
  have HF0 : Hid (F = (((Br.at0 p from_).run ((xs.map OrdV.o).drop 0)).1, 0 + ((Br.at0 p from_).run ((xs.map OrdV.o).drop 0)).2.1, ((Br.at0 p from_).run ((xs.map OrdV.o).drop 0)).2.2)) := Lib.hid (by rw [List.drop_zero, HF.out, Nat.zero_add])
  clear HF hX hX3 hSB hE3 hW3 hRB2 HE2 HD2 p0 p1 p2 p3 hws hwr hsb hhas
  go_wp2_with fail
  go_loopw [11, 12, 13] (fun v11 _ _ wr => ∃ (k : Nat) (b : Br) (v : Value), k ≤ xs.length ∧ v11 = .int .i64 k ∧ Hid b.Ok ∧ Hid (PX w0 w c sb rb b v wr) ∧ Hid (DP w0 wr c v b.p) ∧ Hid (F = ((b.run ((xs.map OrdV.o).drop k)).1, k + (b.run ((xs.map OrdV.o).drop k)).2.1, (b.run ((xs.map OrdV.o).drop k)).2.2))) (fun v11 _ _ _ => xs.length - (intOf v11).toNat)
  case atStart => exact ⟨0, Br.at0 p from_, _, by omega, rfl, HOK, HX3, HD3, HF0⟩
  case round =>
    clear HOK HX3 HD3 HF0
    obtain ⟨k, b, v, hk, rfl, HOK, HX, HD, HF⟩ := hrel
    have hbl : 0 < b.p.cells.length := by have := HOK.out.p.sz.n0; unfold Pl.n at this; omega
    obtain ⟨vb, cap, rfl, _⟩ := HD.out.cells hbl
    by_cases hlt : k < xs.length
    · obtain ⟨ob, ro, eA, _⟩ := (Rd_ext HD.out.1 HO.out.row).elem OrdV.enc OrdV.len hlt (List.getElem?_eq_getElem hlt)
      have HROW0 := Lib.hid (fun (W : World) (hx : Ext w0 W) => (Rd_ext hx HO.out.row).elem OrdV.enc OrdV.len hlt (List.getElem?_eq_getElem hlt))
      have HROW1 : Hid (∀ W, Ext w0 W → ∀ j u, (xs[k].enc)[j]? = some u → W.cell? ⟨ob, ro + k * 6 + j, none⟩ = some u) := Lib.hid (fun W hx j u hu => by
        obtain ⟨b2, o2, e2, h2⟩ := HROW0.out W hx
        rw [eA] at e2
        cases e2
        exact h2 j u hu)
      have hdr : (xs.map OrdV.o).drop k = (xs[k]).o :: (xs.map OrdV.o).drop (k + 1) := by
        rw [List.drop_eq_getElem_cons (by simpa using hlt), List.getElem_map]
      have HOX := Lib.hid (HO.out.each _ (List.getElem_mem hlt))
      have HPX := Lib.hid (HPA.out _ (List.getElem_mem hlt))
      have hr := HF.out
      rw [hdr] at hr
      unfold Br.run at hr
      have hL : k + 1 < 9223372036854775808 := by have := HO.out.ln; unfold maxLen at this; omega
      clear HROW0
      generalize xs[k] = x at *
      obtain ⟨B, e0, hB⟩ : ∃ B e0, b.do x.o = (B, e0) := ⟨_, _, rfl⟩
      have HBO := Lib.hid (HOK.out.do x.o HOX.out.bb HOX.out.pb HOX.out.db)
      rw [hB] at hr HBO
      have HROW : Hid (∀ W, Ext w0 W → ∀ j u, (x.enc)[j]? = some u → W.cell? ⟨ob, ro + k * 6 + j, none⟩ = some u) := HROW1
      clear hdr HF HROW1
      subst eA
      by_cases he : e0 = 0
      · subst he
        rw [if_pos rfl] at hr
        have HR : Hid (F = ((B.run ((xs.map OrdV.o).drop (k + 1))).1, k + 1 + (B.run ((xs.map OrdV.o).drop (k + 1))).2.1, (B.run ((xs.map OrdV.o).drop (k + 1))).2.2)) := Lib.hid (hr.trans (by congr 1; congr 1; simp only; omega))
        have HBB := Lib.hid hB
        have hBl : 0 < B.p.cells.length := by have := HBO.out.p.sz.n0; unfold Pl.n at this; simp only at this; omega
        clear hr hB
        go_wp2_with fail
        have p0 : wr.cell? ⟨sb, 0, none⟩ = some (.int .i64 b.p.rows) := HX.out.s.cell 0
        have p1 : wr.cell? ⟨sb, 1, none⟩ = some (.int .i64 b.p.cols) := HX.out.s.cell 1
        have p2 : wr.cell? ⟨sb, 2, none⟩ = some (.slice (some ⟨vb, 0, none⟩) b.p.cells.length cap) := HX.out.s.cell 2
        have p3 : wr.cell? ⟨sb, 3, none⟩ = some (.int .i64 b.p.cur) := HX.out.s.cell 3
        have p4 : wr.cell? ⟨sb, 4, none⟩ = some (.int .i64 b.at_) := HX.out.s.cell 4
        have p5 : wr.cell? ⟨sb, 5, none⟩ = some (.int .u8 b.look.li) := HX.out.s.cell 5
        have p6 : wr.cell? ⟨sb, 6, none⟩ = some (.int .u8 b.look.co) := HX.out.s.cell 6
        have p7 : wr.cell? ⟨sb, 7, none⟩ = some (.bool b.laid) := HX.out.s.cell 7
        have pd0 : wr.cell? ⟨ob, ro + k * 6, none⟩ = some (.int .u8 x.o.k) := HROW.out wr HD.out.1 0 _ rfl
        have pd1 : wr.cell? ⟨ob, ro + k * 6 + 1, none⟩ = some (.int .i64 x.o.a) := HROW.out wr HD.out.1 1 _ rfl
        have pd2 : wr.cell? ⟨ob, ro + k * 6 + 2, none⟩ = some (.int .u8 x.o.b) := HROW.out wr HD.out.1 2 _ rfl
        have pd3 : wr.cell? ⟨ob, ro + k * 6 + 3, none⟩ = some (.bool x.o.ge) := HROW.out wr HD.out.1 3 _ rfl
        have pd4 : wr.cell? ⟨ob, ro + k * 6 + 4, none⟩ = some (.slice x.A x.o.ps.length x.cA) := HROW.out wr HD.out.1 4 _ rfl
        have pd5 : wr.cell? ⟨ob, ro + k * 6 + 5, none⟩ = some (.slice x.B x.o.da.length x.cB) := HROW.out wr HD.out.1 5 _ rfl
        have hnv := World.new_ne wr _ p0
        have hnv2 := World.new_ne wr _ pd0
        go_region_held3 (fun w' => w'.cell? ⟨sb, 0, none⟩ = some (.int .i64 b.p.rows) ∧ w'.cell? ⟨sb, 1, none⟩ = some (.int .i64 b.p.cols) ∧ w'.cell? ⟨sb, 2, none⟩ = some (.slice (some ⟨vb, 0, none⟩) b.p.cells.length cap) ∧ w'.cell? ⟨sb, 3, none⟩ = some (.int .i64 b.p.cur) ∧ w'.cell? ⟨sb, 4, none⟩ = some (.int .i64 b.at_) ∧ w'.cell? ⟨sb, 5, none⟩ = some (.int .u8 b.look.li) ∧ w'.cell? ⟨sb, 6, none⟩ = some (.int .u8 b.look.co) ∧ w'.cell? ⟨sb, 7, none⟩ = some (.bool b.laid) ∧ w'.cell? ⟨ob, ro + k * 6, none⟩ = some (.int .u8 x.o.k) ∧ w'.cell? ⟨ob, ro + k * 6 + 1, none⟩ = some (.int .i64 x.o.a) ∧ w'.cell? ⟨ob, ro + k * 6 + 2, none⟩ = some (.int .u8 x.o.b) ∧ w'.cell? ⟨ob, ro + k * 6 + 3, none⟩ = some (.bool x.o.ge) ∧ w'.cell? ⟨ob, ro + k * 6 + 4, none⟩ = some (.slice x.A x.o.ps.length x.cA) ∧ w'.cell? ⟨ob, ro + k * 6 + 5, none⟩ = some (.slice x.B x.o.da.length x.cB)) (first | with_reducible exact ⟨p0, p1, p2, p3, p4, p5, p6, p7, pd0, pd1, pd2, pd3, pd4, pd5⟩ | with_reducible exact ⟨k0, k1, k2, k3, k4, k5, k6, k7, kd0, kd1, kd2, kd3, kd4, kd5⟩ | go_keep) ((first | (go_at_call 79; refine (rDo_yes (w0 := w0) (c := c) (v := .slice (some ⟨vb, 0, none⟩) b.p.cells.length cap) b x B HBB.out HPX.out HOK.out (HX.out.ext (show Ext wr _ from (by first | exact Ext_refl _ | exact Ext_drew (Ext_refl _) | exact Ext_drew (Ext_alloc (Ext_refl _)) | exact Ext_alloc (Ext_drew (Ext_refl _)) | exact Ext_alloc (Ext_refl _)))).clt (HD.out.ext (by first | exact Ext_refl _ | exact Ext_drew (Ext_refl _) | exact Ext_drew (Ext_alloc (Ext_refl _)) | exact Ext_alloc (Ext_drew (Ext_refl _)) | exact Ext_alloc (Ext_refl _))) HOX.out).mono ?_; rintro e wc ⟨v3, rfl, hd3, hh3⟩; obtain ⟨vb3, cap3, rfl, _⟩ := hd3.cells hBl; have HXc := Lib.hid ((HX.out.ext (show Ext wr _ from (by first | exact Ext_refl _ | exact Ext_drew (Ext_refl _) | exact Ext_drew (Ext_alloc (Ext_refl _)) | exact Ext_alloc (Ext_drew (Ext_refl _)) | exact Ext_alloc (Ext_refl _)))).hold hh3); have HDc := Lib.hid hd3; (first | (have hC : Blk wc wr.heap.size 111 #[.int .i64 0, .int .i64 0, .slice none 0 0, .int .i64 0, .int .i64 0, .int .u8 0, .int .u8 0, .bool false] := (by with_reducible exact Blk.hold (Blk.drew (Blk.new wr _ _)) (by decide) hh3)) | (have hC : Blk wc wr.heap.size 111 #[.int .i64 0, .int .i64 0, .slice none 0 0, .int .i64 0, .int .i64 0, .int .u8 0, .int .u8 0, .bool false] := (by with_reducible exact Blk.hold (Blk.new wr _ _) (by decide) hh3)) | skip); (first | (have y0 := hC.cell 0; have f0 := hC.free 0; have y1 := hC.cell 1; have f1 := hC.free 1; have y2 := hC.cell 2; have f2 := hC.free 2; have y3 := hC.cell 3; have f3 := hC.free 3; have y4 := hC.cell 4; have f4 := hC.free 4; have y5 := hC.cell 5; have f5 := hC.free 5; have y6 := hC.cell 6; have f6 := hC.free 6; have y7 := hC.cell 7; have f7 := hC.free 7; simp at y0 y1 y2 y3 y4 y5 y6 y7) | skip); clear hd3 hh3; unfold stV; have k0 : wc.cell? ⟨sb, 0, none⟩ = some (.int .i64 b.p.rows) := HXc.out.s.cell 0; have k1 : wc.cell? ⟨sb, 1, none⟩ = some (.int .i64 b.p.cols) := HXc.out.s.cell 1; have k2 : wc.cell? ⟨sb, 2, none⟩ = some (.slice (some ⟨vb, 0, none⟩) b.p.cells.length cap) := HXc.out.s.cell 2; have k3 : wc.cell? ⟨sb, 3, none⟩ = some (.int .i64 b.p.cur) := HXc.out.s.cell 3; have k4 : wc.cell? ⟨sb, 4, none⟩ = some (.int .i64 b.at_) := HXc.out.s.cell 4; have k5 : wc.cell? ⟨sb, 5, none⟩ = some (.int .u8 b.look.li) := HXc.out.s.cell 5; have k6 : wc.cell? ⟨sb, 6, none⟩ = some (.int .u8 b.look.co) := HXc.out.s.cell 6; have k7 : wc.cell? ⟨sb, 7, none⟩ = some (.bool b.laid) := HXc.out.s.cell 7; have kd0 : wc.cell? ⟨ob, ro + k * 6, none⟩ = some (.int .u8 x.o.k) := HROW.out wc HDc.out.1 0 _ rfl; have kd1 : wc.cell? ⟨ob, ro + k * 6 + 1, none⟩ = some (.int .i64 x.o.a) := HROW.out wc HDc.out.1 1 _ rfl; have kd2 : wc.cell? ⟨ob, ro + k * 6 + 2, none⟩ = some (.int .u8 x.o.b) := HROW.out wc HDc.out.1 2 _ rfl; have kd3 : wc.cell? ⟨ob, ro + k * 6 + 3, none⟩ = some (.bool x.o.ge) := HROW.out wc HDc.out.1 3 _ rfl; have kd4 : wc.cell? ⟨ob, ro + k * 6 + 4, none⟩ = some (.slice x.A x.o.ps.length x.cA) := HROW.out wc HDc.out.1 4 _ rfl; have kd5 : wc.cell? ⟨ob, ro + k * 6 + 5, none⟩ = some (.slice x.B x.o.da.length x.cB) := HROW.out wc HDc.out.1 5 _ rfl; have hnw := World.new_ne wc _ k0; have hnw2 := World.new_ne wc _ kd0)))
        · rename_i hHeld
          clear hHeld
          have hY : Blk (wc.alloc (.cells #[.int .i64 B.p.rows, .int .i64 B.p.cols, .slice (some ⟨vb3, 0, none⟩) B.p.cells.length cap3, .int .i64 B.p.cur, .int .i64 B.at_, .int .u8 B.look.li, .int .u8 B.look.co, .bool B.laid] 111)) wc.heap.size 111 #[.int .i64 B.p.rows, .int .i64 B.p.cols, .slice (some ⟨vb3, 0, none⟩) B.p.cells.length cap3, .int .i64 B.p.cur, .int .i64 B.at_, .int .u8 B.look.li, .int .u8 B.look.co, .bool B.laid] := Blk.new wc _ _
          have HX4 := Lib.hid (HXc.out.ext (Ext_alloc (o := .cells #[.int .i64 B.p.rows, .int .i64 B.p.cols, .slice (some ⟨vb3, 0, none⟩) B.p.cells.length cap3, .int .i64 B.p.cur, .int .i64 B.at_, .int .u8 B.look.li, .int .u8 B.look.co, .bool B.laid] 111) (Ext_refl wc)))
          have HD4 := Lib.hid (HDc.out.ext (Ext_alloc (o := .cells #[.int .i64 B.p.rows, .int .i64 B.p.cols, .slice (some ⟨vb3, 0, none⟩) B.p.cells.length cap3, .int .i64 B.p.cur, .int .i64 B.at_, .int .u8 B.look.li, .int .u8 B.look.co, .bool B.laid] 111) (Ext_refl wc)))
          generalize wc.alloc (.cells #[.int .i64 B.p.rows, .int .i64 B.p.cols, .slice (some ⟨vb3, 0, none⟩) B.p.cells.length cap3, .int .i64 B.p.cur, .int .i64 B.at_, .int .u8 B.look.li, .int .u8 B.look.co, .bool B.laid] 111) = W4 at *
          generalize wc.heap.size = nb at *
          clear HXc HDc HX HD k0 k1 k2 k3 k4 k5 k6 k7 kd0 kd1 kd2 kd3 kd4 kd5 hnw hnw2 hnv hnv2 p0 p1 p2 p3 p4 p5 p6 p7 pd0 pd1 pd2 pd3 pd4 pd5
          have y0 := hY.cell 0
          have y1 := hY.cell 1
          have y2 := hY.cell 2
          have y3 := hY.cell 3
          have y4 := hY.cell 4
          have y5 := hY.cell 5
          have y6 := hY.cell 6
          have y7 := hY.cell 7
          simp at y0 y1 y2 y3 y4 y5 y6 y7
          clear hY
          have p0 : W4.cell? ⟨sb, 0, none⟩ = some (.int .i64 b.p.rows) := HX4.out.s.cell 0
          have p1 : W4.cell? ⟨sb, 1, none⟩ = some (.int .i64 b.p.cols) := HX4.out.s.cell 1
          have p2 : W4.cell? ⟨sb, 2, none⟩ = some (.slice (some ⟨vb, 0, none⟩) b.p.cells.length cap) := HX4.out.s.cell 2
          have p3 : W4.cell? ⟨sb, 3, none⟩ = some (.int .i64 b.p.cur) := HX4.out.s.cell 3
          have p4 : W4.cell? ⟨sb, 4, none⟩ = some (.int .i64 b.at_) := HX4.out.s.cell 4
          have p5 : W4.cell? ⟨sb, 5, none⟩ = some (.int .u8 b.look.li) := HX4.out.s.cell 5
          have p6 : W4.cell? ⟨sb, 6, none⟩ = some (.int .u8 b.look.co) := HX4.out.s.cell 6
          have p7 : W4.cell? ⟨sb, 7, none⟩ = some (.bool b.laid) := HX4.out.s.cell 7
          have fp0 := HX4.out.s.free 0
          have fp1 := HX4.out.s.free 1
          have fp2 := HX4.out.s.free 2
          have fp3 := HX4.out.s.free 3
          have fp4 := HX4.out.s.free 4
          have fp5 := HX4.out.s.free 5
          have fp6 := HX4.out.s.free 6
          have fp7 := HX4.out.s.free 7
          go_upto_region 6 with (fail)
          have F5 := HX4.out.set8 HD4.out B (.slice (some ⟨vb3, 0, none⟩) B.p.cells.length cap3)
          generalize ((((((((W4.setCell ⟨sb, 0, none⟩ (.int .i64 B.p.rows)).setCell ⟨sb, 1, none⟩ (.int .i64 B.p.cols)).setCell ⟨sb, 2, none⟩ (.slice (some ⟨vb3, 0, none⟩) B.p.cells.length cap3)).setCell ⟨sb, 3, none⟩ (.int .i64 B.p.cur)).setCell ⟨sb, 4, none⟩ (.int .i64 B.at_)).setCell ⟨sb, 5, none⟩ (.int .u8 B.look.li)).setCell ⟨sb, 6, none⟩ (.int .u8 B.look.co)).setCell ⟨sb, 7, none⟩ (.bool B.laid)) = W5 at F5 ⊢
          have HX5 := Lib.hid F5.1
          have HD5 := Lib.hid F5.2
          clear F5 HX4 HD4 y0 y1 y2 y3 y4 y5 y6 y7 p0 fp0 p1 fp1 p2 fp2 p3 fp3 p4 fp4 p5 fp5 p6 fp6 p7 fp7
          go_wp2_with fail
          go_roundw
          case rel => exact ⟨k + 1, B, _, by omega, by go_num, HBO, HX5, HD5, HR⟩
          case measure => simp [intOf]; omega
        · rename_i hHeld
          clear hHeld
          obtain ⟨h1, h2, hY⟩ := HXc.out.new8 HDc.out hC HX.out.hh.1 (Nat.ne_of_lt HX.out.s.lt) B (.slice (some ⟨vb3, 0, none⟩) B.p.cells.length cap3)
          generalize ((((((((wc.setCell ⟨wr.heap.size, 0, none⟩ (.int .i64 B.p.rows)).setCell ⟨wr.heap.size, 1, none⟩ (.int .i64 B.p.cols)).setCell ⟨wr.heap.size, 2, none⟩ (.slice (some ⟨vb3, 0, none⟩) B.p.cells.length cap3)).setCell ⟨wr.heap.size, 3, none⟩ (.int .i64 B.p.cur)).setCell ⟨wr.heap.size, 4, none⟩ (.int .i64 B.at_)).setCell ⟨wr.heap.size, 5, none⟩ (.int .u8 B.look.li)).setCell ⟨wr.heap.size, 6, none⟩ (.int .u8 B.look.co)).setCell ⟨wr.heap.size, 7, none⟩ (.bool B.laid)) = W4 at *
          have HX4 := Lib.hid h1
          have HD4 := Lib.hid h2
          clear h1 h2 y0 y1 y2 y3 y4 y5 y6 y7 f0 f1 f2 f3 f4 f5 f6 f7 hC
          generalize wr.heap.size = nb at *
          clear HXc HDc HX HD k0 k1 k2 k3 k4 k5 k6 k7 kd0 kd1 kd2 kd3 kd4 kd5 hnw hnw2 hnv hnv2 p0 p1 p2 p3 p4 p5 p6 p7 pd0 pd1 pd2 pd3 pd4 pd5
          have y0 := hY.cell 0
          have y1 := hY.cell 1
          have y2 := hY.cell 2
          have y3 := hY.cell 3
          have y4 := hY.cell 4
          have y5 := hY.cell 5
          have y6 := hY.cell 6
          have y7 := hY.cell 7
          simp at y0 y1 y2 y3 y4 y5 y6 y7
          clear hY
          have p0 : W4.cell? ⟨sb, 0, none⟩ = some (.int .i64 b.p.rows) := HX4.out.s.cell 0
          have p1 : W4.cell? ⟨sb, 1, none⟩ = some (.int .i64 b.p.cols) := HX4.out.s.cell 1
          have p2 : W4.cell? ⟨sb, 2, none⟩ = some (.slice (some ⟨vb, 0, none⟩) b.p.cells.length cap) := HX4.out.s.cell 2
          have p3 : W4.cell? ⟨sb, 3, none⟩ = some (.int .i64 b.p.cur) := HX4.out.s.cell 3
          have p4 : W4.cell? ⟨sb, 4, none⟩ = some (.int .i64 b.at_) := HX4.out.s.cell 4
          have p5 : W4.cell? ⟨sb, 5, none⟩ = some (.int .u8 b.look.li) := HX4.out.s.cell 5
          have p6 : W4.cell? ⟨sb, 6, none⟩ = some (.int .u8 b.look.co) := HX4.out.s.cell 6
          have p7 : W4.cell? ⟨sb, 7, none⟩ = some (.bool b.laid) := HX4.out.s.cell 7
          have fp0 := HX4.out.s.free 0
          have fp1 := HX4.out.s.free 1
          have fp2 := HX4.out.s.free 2
          have fp3 := HX4.out.s.free 3
          have fp4 := HX4.out.s.free 4
          have fp5 := HX4.out.s.free 5
          have fp6 := HX4.out.s.free 6
          have fp7 := HX4.out.s.free 7
          go_upto_region 6 with (fail)
          have F5 := HX4.out.set8 HD4.out B (.slice (some ⟨vb3, 0, none⟩) B.p.cells.length cap3)
          generalize ((((((((W4.setCell ⟨sb, 0, none⟩ (.int .i64 B.p.rows)).setCell ⟨sb, 1, none⟩ (.int .i64 B.p.cols)).setCell ⟨sb, 2, none⟩ (.slice (some ⟨vb3, 0, none⟩) B.p.cells.length cap3)).setCell ⟨sb, 3, none⟩ (.int .i64 B.p.cur)).setCell ⟨sb, 4, none⟩ (.int .i64 B.at_)).setCell ⟨sb, 5, none⟩ (.int .u8 B.look.li)).setCell ⟨sb, 6, none⟩ (.int .u8 B.look.co)).setCell ⟨sb, 7, none⟩ (.bool B.laid)) = W5 at F5 ⊢
          have HX5 := Lib.hid F5.1
          have HD5 := Lib.hid F5.2
          clear F5 HX4 HD4 y0 y1 y2 y3 y4 y5 y6 y7 p0 fp0 p1 fp1 p2 fp2 p3 fp3 p4 fp4 p5 fp5 p6 fp6 p7 fp7
          go_wp2_with fail
          go_roundw
          case rel => exact ⟨k + 1, B, _, by omega, by go_num, HBO, HX5, HD5, HR⟩
          case measure => simp [intOf]; omega
      · rw [if_neg he] at hr
        have he2 : (e0 != 0) = true := by rw [bne_iff_ne]; exact he
        have HE := Lib.hid (do_err b x.o (by rw [hB]; exact he))
        rw [hB] at HE
        have HBB := Lib.hid hB
        have HRR := Lib.hid hr
        clear hr hB
        go_wp2_with fail
        have p0 : wr.cell? ⟨sb, 0, none⟩ = some (.int .i64 b.p.rows) := HX.out.s.cell 0
        have p1 : wr.cell? ⟨sb, 1, none⟩ = some (.int .i64 b.p.cols) := HX.out.s.cell 1
        have p2 : wr.cell? ⟨sb, 2, none⟩ = some (.slice (some ⟨vb, 0, none⟩) b.p.cells.length cap) := HX.out.s.cell 2
        have p3 : wr.cell? ⟨sb, 3, none⟩ = some (.int .i64 b.p.cur) := HX.out.s.cell 3
        have p4 : wr.cell? ⟨sb, 4, none⟩ = some (.int .i64 b.at_) := HX.out.s.cell 4
        have p5 : wr.cell? ⟨sb, 5, none⟩ = some (.int .u8 b.look.li) := HX.out.s.cell 5
        have p6 : wr.cell? ⟨sb, 6, none⟩ = some (.int .u8 b.look.co) := HX.out.s.cell 6
        have p7 : wr.cell? ⟨sb, 7, none⟩ = some (.bool b.laid) := HX.out.s.cell 7
        have pd0 : wr.cell? ⟨ob, ro + k * 6, none⟩ = some (.int .u8 x.o.k) := HROW.out wr HD.out.1 0 _ rfl
        have pd1 : wr.cell? ⟨ob, ro + k * 6 + 1, none⟩ = some (.int .i64 x.o.a) := HROW.out wr HD.out.1 1 _ rfl
        have pd2 : wr.cell? ⟨ob, ro + k * 6 + 2, none⟩ = some (.int .u8 x.o.b) := HROW.out wr HD.out.1 2 _ rfl
        have pd3 : wr.cell? ⟨ob, ro + k * 6 + 3, none⟩ = some (.bool x.o.ge) := HROW.out wr HD.out.1 3 _ rfl
        have pd4 : wr.cell? ⟨ob, ro + k * 6 + 4, none⟩ = some (.slice x.A x.o.ps.length x.cA) := HROW.out wr HD.out.1 4 _ rfl
        have pd5 : wr.cell? ⟨ob, ro + k * 6 + 5, none⟩ = some (.slice x.B x.o.da.length x.cB) := HROW.out wr HD.out.1 5 _ rfl
        have hnv := World.new_ne wr _ p0
        have hnv2 := World.new_ne wr _ pd0
        go_region_held3 (fun w' => w'.cell? ⟨sb, 0, none⟩ = some (.int .i64 b.p.rows) ∧ w'.cell? ⟨sb, 1, none⟩ = some (.int .i64 b.p.cols) ∧ w'.cell? ⟨sb, 2, none⟩ = some (.slice (some ⟨vb, 0, none⟩) b.p.cells.length cap) ∧ w'.cell? ⟨sb, 3, none⟩ = some (.int .i64 b.p.cur) ∧ w'.cell? ⟨sb, 4, none⟩ = some (.int .i64 b.at_) ∧ w'.cell? ⟨sb, 5, none⟩ = some (.int .u8 b.look.li) ∧ w'.cell? ⟨sb, 6, none⟩ = some (.int .u8 b.look.co) ∧ w'.cell? ⟨sb, 7, none⟩ = some (.bool b.laid) ∧ w'.cell? ⟨ob, ro + k * 6, none⟩ = some (.int .u8 x.o.k) ∧ w'.cell? ⟨ob, ro + k * 6 + 1, none⟩ = some (.int .i64 x.o.a) ∧ w'.cell? ⟨ob, ro + k * 6 + 2, none⟩ = some (.int .u8 x.o.b) ∧ w'.cell? ⟨ob, ro + k * 6 + 3, none⟩ = some (.bool x.o.ge) ∧ w'.cell? ⟨ob, ro + k * 6 + 4, none⟩ = some (.slice x.A x.o.ps.length x.cA) ∧ w'.cell? ⟨ob, ro + k * 6 + 5, none⟩ = some (.slice x.B x.o.da.length x.cB)) (first | with_reducible exact ⟨p0, p1, p2, p3, p4, p5, p6, p7, pd0, pd1, pd2, pd3, pd4, pd5⟩ | with_reducible exact ⟨k0, k1, k2, k3, k4, k5, k6, k7, kd0, kd1, kd2, kd3, kd4, kd5⟩ | go_keep) ((first | (go_at_call 79; refine (rDo_no (w0 := w0) (c := c) (v := .slice (some ⟨vb, 0, none⟩) b.p.cells.length cap) b x B e0 he HBB.out HPX.out HOK.out (HX.out.ext (show Ext wr _ from (by first | exact Ext_refl _ | exact Ext_drew (Ext_refl _) | exact Ext_drew (Ext_alloc (Ext_refl _)) | exact Ext_alloc (Ext_drew (Ext_refl _)) | exact Ext_alloc (Ext_refl _)))).clt (HD.out.ext (by first | exact Ext_refl _ | exact Ext_drew (Ext_refl _) | exact Ext_drew (Ext_alloc (Ext_refl _)) | exact Ext_alloc (Ext_drew (Ext_refl _)) | exact Ext_alloc (Ext_refl _))) HOX.out).mono ?_; rintro e wc ⟨rfl, hd3, hh3⟩; have HXc := Lib.hid ((HX.out.ext (show Ext wr _ from (by first | exact Ext_refl _ | exact Ext_drew (Ext_refl _) | exact Ext_drew (Ext_alloc (Ext_refl _)) | exact Ext_alloc (Ext_drew (Ext_refl _)) | exact Ext_alloc (Ext_refl _)))).hold hh3); have HDc := Lib.hid hd3; (first | (have hC : Blk wc wr.heap.size 111 #[.int .i64 0, .int .i64 0, .slice none 0 0, .int .i64 0, .int .i64 0, .int .u8 0, .int .u8 0, .bool false] := (by with_reducible exact Blk.hold (Blk.drew (Blk.new wr _ _)) (by decide) hh3)) | (have hC : Blk wc wr.heap.size 111 #[.int .i64 0, .int .i64 0, .slice none 0 0, .int .i64 0, .int .i64 0, .int .u8 0, .int .u8 0, .bool false] := (by with_reducible exact Blk.hold (Blk.new wr _ _) (by decide) hh3)) | skip); (first | (have y0 := hC.cell 0; have f0 := hC.free 0; have y1 := hC.cell 1; have f1 := hC.free 1; have y2 := hC.cell 2; have f2 := hC.free 2; have y3 := hC.cell 3; have f3 := hC.free 3; have y4 := hC.cell 4; have f4 := hC.free 4; have y5 := hC.cell 5; have f5 := hC.free 5; have y6 := hC.cell 6; have f6 := hC.free 6; have y7 := hC.cell 7; have f7 := hC.free 7; simp at y0 y1 y2 y3 y4 y5 y6 y7) | skip); clear hd3 hh3; unfold stV; have k0 : wc.cell? ⟨sb, 0, none⟩ = some (.int .i64 b.p.rows) := HXc.out.s.cell 0; have k1 : wc.cell? ⟨sb, 1, none⟩ = some (.int .i64 b.p.cols) := HXc.out.s.cell 1; have k2 : wc.cell? ⟨sb, 2, none⟩ = some (.slice (some ⟨vb, 0, none⟩) b.p.cells.length cap) := HXc.out.s.cell 2; have k3 : wc.cell? ⟨sb, 3, none⟩ = some (.int .i64 b.p.cur) := HXc.out.s.cell 3; have k4 : wc.cell? ⟨sb, 4, none⟩ = some (.int .i64 b.at_) := HXc.out.s.cell 4; have k5 : wc.cell? ⟨sb, 5, none⟩ = some (.int .u8 b.look.li) := HXc.out.s.cell 5; have k6 : wc.cell? ⟨sb, 6, none⟩ = some (.int .u8 b.look.co) := HXc.out.s.cell 6; have k7 : wc.cell? ⟨sb, 7, none⟩ = some (.bool b.laid) := HXc.out.s.cell 7; have kd0 : wc.cell? ⟨ob, ro + k * 6, none⟩ = some (.int .u8 x.o.k) := HROW.out wc HDc.out.1 0 _ rfl; have kd1 : wc.cell? ⟨ob, ro + k * 6 + 1, none⟩ = some (.int .i64 x.o.a) := HROW.out wc HDc.out.1 1 _ rfl; have kd2 : wc.cell? ⟨ob, ro + k * 6 + 2, none⟩ = some (.int .u8 x.o.b) := HROW.out wc HDc.out.1 2 _ rfl; have kd3 : wc.cell? ⟨ob, ro + k * 6 + 3, none⟩ = some (.bool x.o.ge) := HROW.out wc HDc.out.1 3 _ rfl; have kd4 : wc.cell? ⟨ob, ro + k * 6 + 4, none⟩ = some (.slice x.A x.o.ps.length x.cA) := HROW.out wc HDc.out.1 4 _ rfl; have kd5 : wc.cell? ⟨ob, ro + k * 6 + 5, none⟩ = some (.slice x.B x.o.da.length x.cB) := HROW.out wc HDc.out.1 5 _ rfl; have hnw := World.new_ne wc _ k0; have hnw2 := World.new_ne wc _ kd0)))
        · rename_i hHeld
          clear hHeld
          have hY : Blk (wc.alloc (.cells #[.int .i64 b.p.rows, .int .i64 b.p.cols, .slice (some ⟨vb, 0, none⟩) b.p.cells.length cap, .int .i64 b.p.cur, .int .i64 b.at_, .int .u8 b.look.li, .int .u8 b.look.co, .bool b.laid] 111)) wc.heap.size 111 #[.int .i64 b.p.rows, .int .i64 b.p.cols, .slice (some ⟨vb, 0, none⟩) b.p.cells.length cap, .int .i64 b.p.cur, .int .i64 b.at_, .int .u8 b.look.li, .int .u8 b.look.co, .bool b.laid] := Blk.new wc _ _
          have HX4 := Lib.hid (HXc.out.ext (Ext_alloc (o := .cells #[.int .i64 b.p.rows, .int .i64 b.p.cols, .slice (some ⟨vb, 0, none⟩) b.p.cells.length cap, .int .i64 b.p.cur, .int .i64 b.at_, .int .u8 b.look.li, .int .u8 b.look.co, .bool b.laid] 111) (Ext_refl wc)))
          have HD4 := Lib.hid (HDc.out.ext (Ext_alloc (o := .cells #[.int .i64 b.p.rows, .int .i64 b.p.cols, .slice (some ⟨vb, 0, none⟩) b.p.cells.length cap, .int .i64 b.p.cur, .int .i64 b.at_, .int .u8 b.look.li, .int .u8 b.look.co, .bool b.laid] 111) (Ext_refl wc)))
          generalize wc.alloc (.cells #[.int .i64 b.p.rows, .int .i64 b.p.cols, .slice (some ⟨vb, 0, none⟩) b.p.cells.length cap, .int .i64 b.p.cur, .int .i64 b.at_, .int .u8 b.look.li, .int .u8 b.look.co, .bool b.laid] 111) = W4 at *
          generalize wc.heap.size = nb at *
          clear HXc HDc HX HD k0 k1 k2 k3 k4 k5 k6 k7 kd0 kd1 kd2 kd3 kd4 kd5 hnw hnw2 hnv hnv2 p0 p1 p2 p3 p4 p5 p6 p7 pd0 pd1 pd2 pd3 pd4 pd5
          clear hY
          have p0 : W4.cell? ⟨sb, 0, none⟩ = some (.int .i64 b.p.rows) := HX4.out.s.cell 0
          have p1 : W4.cell? ⟨sb, 1, none⟩ = some (.int .i64 b.p.cols) := HX4.out.s.cell 1
          have p2 : W4.cell? ⟨sb, 2, none⟩ = some (.slice (some ⟨vb, 0, none⟩) b.p.cells.length cap) := HX4.out.s.cell 2
          have p3 : W4.cell? ⟨sb, 3, none⟩ = some (.int .i64 b.p.cur) := HX4.out.s.cell 3
          have p4 : W4.cell? ⟨sb, 4, none⟩ = some (.int .i64 b.at_) := HX4.out.s.cell 4
          have hrs := HX4.out.rs
          obtain ⟨z0, z1, z2, z3, hr4⟩ := HX4.out.r
          have r0 := hr4.cell 0
          have fr0 := hr4.free 0
          have r1 := hr4.cell 1
          have fr1 := hr4.free 1
          have r2 := hr4.cell 2
          have fr2 := hr4.free 2
          have r3 := hr4.cell 3
          have fr3 := hr4.free 3
          simp at r0 r1 r2 r3
          clear hr4
          go_wp2_with fail
          go_region_held3 (fun w' => w'.cell? ⟨sb, 0, none⟩ = some (.int .i64 b.p.rows) ∧ w'.cell? ⟨sb, 1, none⟩ = some (.int .i64 b.p.cols) ∧ w'.cell? ⟨sb, 2, none⟩ = some (.slice (some ⟨vb, 0, none⟩) b.p.cells.length cap) ∧ w'.cell? ⟨sb, 3, none⟩ = some (.int .i64 b.p.cur) ∧ w'.cell? ⟨sb, 4, none⟩ = some (.int .i64 b.at_)) (first | with_reducible exact ⟨p0, p1, p2, p3, p4⟩ | go_keep) (fail)
          rename_i hHeld
          clear hHeld
          have F5 := HX4.out.ret HD4.out
          generalize ((((W4.setCell ⟨rb, 0, none⟩ (.int .i64 b.p.rows)).setCell ⟨rb, 1, none⟩ (.int .i64 b.p.cols)).setCell ⟨rb, 2, none⟩ (.slice (some ⟨vb, 0, none⟩) b.p.cells.length cap)).setCell ⟨rb, 3, none⟩ (.int .i64 b.p.cur)) = Wf at F5 ⊢
          obtain ⟨R8, H8, D8⟩ := F5
          have c0 := R8.cell 0
          have c1 := R8.cell 1
          have c2 := R8.cell 2
          have c3 := R8.cell 3
          simp at c0 c1 c2 c3
          go_wp2_with fail
          refine bodyPost_ret (v := .tuple #[.agg #[.int .i64 b.p.rows, .int .i64 b.p.cols, .slice (some ⟨vb, 0, none⟩) b.p.cells.length cap, .int .i64 b.p.cur], .int .i64 b.at_, .int .i64 k, .int .i64 e0]) (by simp [results, Try.results47, go_sem, c0, c1, c2, c3]) rfl ?_
          rw [HRR.out]
          exact ⟨_, by show _ = Ending.returned (.tuple #[dplV B.p _, .int .i64 B.at_, _, _]); rw [HE.out.1, HE.out.2]; rfl, by show DP w0 Wf.drew c _ B.p; rw [HE.out.1]; exact D8.ext (Ext_drew (Ext_refl _)), H8.trans (Holds.of_ext (Ext_drew (Ext_refl _)))⟩
        · rename_i hHeld
          clear hHeld
          obtain ⟨h1, h2, hY⟩ := HXc.out.new8 HDc.out hC HX.out.hh.1 (Nat.ne_of_lt HX.out.s.lt) b (.slice (some ⟨vb, 0, none⟩) b.p.cells.length cap)
          generalize ((((((((wc.setCell ⟨wr.heap.size, 0, none⟩ (.int .i64 b.p.rows)).setCell ⟨wr.heap.size, 1, none⟩ (.int .i64 b.p.cols)).setCell ⟨wr.heap.size, 2, none⟩ (.slice (some ⟨vb, 0, none⟩) b.p.cells.length cap)).setCell ⟨wr.heap.size, 3, none⟩ (.int .i64 b.p.cur)).setCell ⟨wr.heap.size, 4, none⟩ (.int .i64 b.at_)).setCell ⟨wr.heap.size, 5, none⟩ (.int .u8 b.look.li)).setCell ⟨wr.heap.size, 6, none⟩ (.int .u8 b.look.co)).setCell ⟨wr.heap.size, 7, none⟩ (.bool b.laid)) = W4 at *
          have HX4 := Lib.hid h1
          have HD4 := Lib.hid h2
          clear h1 h2 y0 y1 y2 y3 y4 y5 y6 y7 f0 f1 f2 f3 f4 f5 f6 f7 hC
          generalize wr.heap.size = nb at *
          clear HXc HDc HX HD k0 k1 k2 k3 k4 k5 k6 k7 kd0 kd1 kd2 kd3 kd4 kd5 hnw hnw2 hnv hnv2 p0 p1 p2 p3 p4 p5 p6 p7 pd0 pd1 pd2 pd3 pd4 pd5
          clear hY
          have p0 : W4.cell? ⟨sb, 0, none⟩ = some (.int .i64 b.p.rows) := HX4.out.s.cell 0
          have p1 : W4.cell? ⟨sb, 1, none⟩ = some (.int .i64 b.p.cols) := HX4.out.s.cell 1
          have p2 : W4.cell? ⟨sb, 2, none⟩ = some (.slice (some ⟨vb, 0, none⟩) b.p.cells.length cap) := HX4.out.s.cell 2
          have p3 : W4.cell? ⟨sb, 3, none⟩ = some (.int .i64 b.p.cur) := HX4.out.s.cell 3
          have p4 : W4.cell? ⟨sb, 4, none⟩ = some (.int .i64 b.at_) := HX4.out.s.cell 4
          have hrs := HX4.out.rs
          obtain ⟨z0, z1, z2, z3, hr4⟩ := HX4.out.r
          have r0 := hr4.cell 0
          have fr0 := hr4.free 0
          have r1 := hr4.cell 1
          have fr1 := hr4.free 1
          have r2 := hr4.cell 2
          have fr2 := hr4.free 2
          have r3 := hr4.cell 3
          have fr3 := hr4.free 3
          simp at r0 r1 r2 r3
          clear hr4
          go_wp2_with fail
          go_region_held3 (fun w' => w'.cell? ⟨sb, 0, none⟩ = some (.int .i64 b.p.rows) ∧ w'.cell? ⟨sb, 1, none⟩ = some (.int .i64 b.p.cols) ∧ w'.cell? ⟨sb, 2, none⟩ = some (.slice (some ⟨vb, 0, none⟩) b.p.cells.length cap) ∧ w'.cell? ⟨sb, 3, none⟩ = some (.int .i64 b.p.cur) ∧ w'.cell? ⟨sb, 4, none⟩ = some (.int .i64 b.at_)) (first | with_reducible exact ⟨p0, p1, p2, p3, p4⟩ | go_keep) (fail)
          rename_i hHeld
          clear hHeld
          have F5 := HX4.out.ret HD4.out
          generalize ((((W4.setCell ⟨rb, 0, none⟩ (.int .i64 b.p.rows)).setCell ⟨rb, 1, none⟩ (.int .i64 b.p.cols)).setCell ⟨rb, 2, none⟩ (.slice (some ⟨vb, 0, none⟩) b.p.cells.length cap)).setCell ⟨rb, 3, none⟩ (.int .i64 b.p.cur)) = Wf at F5 ⊢
          obtain ⟨R8, H8, D8⟩ := F5
          have c0 := R8.cell 0
          have c1 := R8.cell 1
          have c2 := R8.cell 2
          have c3 := R8.cell 3
          simp at c0 c1 c2 c3
          go_wp2_with fail
          refine bodyPost_ret (v := .tuple #[.agg #[.int .i64 b.p.rows, .int .i64 b.p.cols, .slice (some ⟨vb, 0, none⟩) b.p.cells.length cap, .int .i64 b.p.cur], .int .i64 b.at_, .int .i64 k, .int .i64 e0]) (by simp [results, Try.results47, go_sem, c0, c1, c2, c3]) rfl ?_
          rw [HRR.out]
          exact ⟨_, by show _ = Ending.returned (.tuple #[dplV B.p _, .int .i64 B.at_, _, _]); rw [HE.out.1, HE.out.2]; rfl, by show DP w0 Wf.drew c _ B.p; rw [HE.out.1]; exact D8.ext (Ext_drew (Ext_refl _)), H8.trans (Holds.of_ext (Ext_drew (Ext_refl _)))⟩
    · have hkk : k = xs.length := by omega
      have hr := HF.out
      rw [List.drop_eq_nil_of_le (by simp; omega)] at hr
      unfold Br.run at hr
      have HRR := Lib.hid hr
      clear hr HF
      have p0 : wr.cell? ⟨sb, 0, none⟩ = some (.int .i64 b.p.rows) := HX.out.s.cell 0
      have p1 : wr.cell? ⟨sb, 1, none⟩ = some (.int .i64 b.p.cols) := HX.out.s.cell 1
      have p2 : wr.cell? ⟨sb, 2, none⟩ = some (.slice (some ⟨vb, 0, none⟩) b.p.cells.length cap) := HX.out.s.cell 2
      have p3 : wr.cell? ⟨sb, 3, none⟩ = some (.int .i64 b.p.cur) := HX.out.s.cell 3
      have p4 : wr.cell? ⟨sb, 4, none⟩ = some (.int .i64 b.at_) := HX.out.s.cell 4
      have hrs := HX.out.rs
      obtain ⟨z0, z1, z2, z3, hr4⟩ := HX.out.r
      have r0 := hr4.cell 0
      have fr0 := hr4.free 0
      have r1 := hr4.cell 1
      have fr1 := hr4.free 1
      have r2 := hr4.cell 2
      have fr2 := hr4.free 2
      have r3 := hr4.cell 3
      have fr3 := hr4.free 3
      simp at r0 r1 r2 r3
      clear hr4
      go_wp2_with fail
      go_region_held3 (fun w' => w'.cell? ⟨sb, 0, none⟩ = some (.int .i64 b.p.rows) ∧ w'.cell? ⟨sb, 1, none⟩ = some (.int .i64 b.p.cols) ∧ w'.cell? ⟨sb, 2, none⟩ = some (.slice (some ⟨vb, 0, none⟩) b.p.cells.length cap) ∧ w'.cell? ⟨sb, 3, none⟩ = some (.int .i64 b.p.cur) ∧ w'.cell? ⟨sb, 4, none⟩ = some (.int .i64 b.at_)) (first | with_reducible exact ⟨p0, p1, p2, p3, p4⟩ | go_keep) (fail)
      rename_i hHeld
      clear hHeld
      have F5 := HX.out.ret HD.out
      generalize ((((wr.setCell ⟨rb, 0, none⟩ (.int .i64 b.p.rows)).setCell ⟨rb, 1, none⟩ (.int .i64 b.p.cols)).setCell ⟨rb, 2, none⟩ (.slice (some ⟨vb, 0, none⟩) b.p.cells.length cap)).setCell ⟨rb, 3, none⟩ (.int .i64 b.p.cur)) = Wf at F5 ⊢
      obtain ⟨R8, H8, D8⟩ := F5
      have c0 := R8.cell 0
      have c1 := R8.cell 1
      have c2 := R8.cell 2
      have c3 := R8.cell 3
      simp at c0 c1 c2 c3
      go_wp2_with fail
      refine bodyPost_ret (v := .tuple #[.agg #[.int .i64 b.p.rows, .int .i64 b.p.cols, .slice (some ⟨vb, 0, none⟩) b.p.cells.length cap, .int .i64 b.p.cur], .int .i64 b.at_, .int .i64 xs.length, .int .i64 0]) (by simp [results, Try.results47, go_sem, c0, c1, c2, c3]) rfl ?_
      rw [HRR.out]
      exact ⟨_, by show _ = Ending.returned (.tuple #[dplV b.p _, .int .i64 b.at_, .int .i64 ((k + 0 : Nat) : Int), .int .i64 0]); rw [hkk]; rfl, D8.ext (Ext_drew (Ext_refl _)), H8.trans (Holds.of_ext (Ext_drew (Ext_refl _)))⟩
end Go.Proofs.Ytmcfckdgolojlaa
