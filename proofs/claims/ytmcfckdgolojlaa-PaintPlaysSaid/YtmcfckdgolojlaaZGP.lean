import Derived.Test.YtmcfckdgolojlaaZGO
/- The boxes of the document's do. -/
namespace Go.Proofs.Ytmcfckdgolojlaa
set_option linter.unusedVariables false
set_option linter.unusedSimpArgs false
open Go.RowKit
theorem Blk.all8 {W : World} {b : Nat} {t : TypeId} {x0 x1 x2 x3 x4 x5 x6 x7 : Value} (h : Blk W b t #[x0, x1, x2, x3, x4, x5, x6, x7]) (y0 y1 y2 y3 y4 y5 y6 y7 : Value) :
    Blk ((((((((W.setCell ⟨b, 0, none⟩ (y0)).setCell ⟨b, 1, none⟩ (y1)).setCell ⟨b, 2, none⟩ (y2)).setCell ⟨b, 3, none⟩ (y3)).setCell ⟨b, 4, none⟩ (y4)).setCell ⟨b, 5, none⟩ (y5)).setCell ⟨b, 6, none⟩ (y6)).setCell ⟨b, 7, none⟩ (y7)) b t #[y0, y1, y2, y3, y4, y5, y6, y7] := by
  have h0 : Blk (W.setCell ⟨b, 0, none⟩ (y0)) b t #[y0, x1, x2, x3, x4, x5, x6, x7] := h.store 0 y0
  have h1 : Blk ((W.setCell ⟨b, 0, none⟩ (y0)).setCell ⟨b, 1, none⟩ (y1)) b t #[y0, y1, x2, x3, x4, x5, x6, x7] := h0.store 1 y1
  have h2 : Blk (((W.setCell ⟨b, 0, none⟩ (y0)).setCell ⟨b, 1, none⟩ (y1)).setCell ⟨b, 2, none⟩ (y2)) b t #[y0, y1, y2, x3, x4, x5, x6, x7] := h1.store 2 y2
  have h3 : Blk ((((W.setCell ⟨b, 0, none⟩ (y0)).setCell ⟨b, 1, none⟩ (y1)).setCell ⟨b, 2, none⟩ (y2)).setCell ⟨b, 3, none⟩ (y3)) b t #[y0, y1, y2, y3, x4, x5, x6, x7] := h2.store 3 y3
  have h4 : Blk (((((W.setCell ⟨b, 0, none⟩ (y0)).setCell ⟨b, 1, none⟩ (y1)).setCell ⟨b, 2, none⟩ (y2)).setCell ⟨b, 3, none⟩ (y3)).setCell ⟨b, 4, none⟩ (y4)) b t #[y0, y1, y2, y3, y4, x5, x6, x7] := h3.store 4 y4
  have h5 : Blk ((((((W.setCell ⟨b, 0, none⟩ (y0)).setCell ⟨b, 1, none⟩ (y1)).setCell ⟨b, 2, none⟩ (y2)).setCell ⟨b, 3, none⟩ (y3)).setCell ⟨b, 4, none⟩ (y4)).setCell ⟨b, 5, none⟩ (y5)) b t #[y0, y1, y2, y3, y4, y5, x6, x7] := h4.store 5 y5
  have h6 : Blk (((((((W.setCell ⟨b, 0, none⟩ (y0)).setCell ⟨b, 1, none⟩ (y1)).setCell ⟨b, 2, none⟩ (y2)).setCell ⟨b, 3, none⟩ (y3)).setCell ⟨b, 4, none⟩ (y4)).setCell ⟨b, 5, none⟩ (y5)).setCell ⟨b, 6, none⟩ (y6)) b t #[y0, y1, y2, y3, y4, y5, y6, x7] := h5.store 6 y6
  exact h6.store 7 y7
/-- the plane and what stays, behind eight stores into one block -/
theorem DP.all8 {w0 W : World} {c b : Nat} {v : Value} {q : Pl} {cs : Array Value} (hd : DP w0 W c v q) (hB : Blk W b 111 cs) (hz : w0.heap.size ≤ b) (y0 y1 y2 y3 y4 y5 y6 y7 : Value) :
    DP w0 ((((((((W.setCell ⟨b, 0, none⟩ (y0)).setCell ⟨b, 1, none⟩ (y1)).setCell ⟨b, 2, none⟩ (y2)).setCell ⟨b, 3, none⟩ (y3)).setCell ⟨b, 4, none⟩ (y4)).setCell ⟨b, 5, none⟩ (y5)).setCell ⟨b, 6, none⟩ (y6)).setCell ⟨b, 7, none⟩ (y7)) c v q := by
  have B1 := hB.store 0 y0
  have B2 := B1.store 1 y1
  have B3 := B2.store 2 y2
  have B4 := B3.store 3 y3
  have B5 := B4.store 4 y4
  have B6 := B5.store 5 y5
  have B7 := B6.store 6 y6
  have D0 := hd.set hB (by decide) hz 0 y0
  have D1 := D0.set B1 (by decide) hz 1 y1
  have D2 := D1.set B2 (by decide) hz 2 y2
  have D3 := D2.set B3 (by decide) hz 3 y3
  have D4 := D3.set B4 (by decide) hz 4 y4
  have D5 := D4.set B5 (by decide) hz 5 y5
  have D6 := D5.set B6 (by decide) hz 6 y6
  exact D6.set B7 (by decide) hz 7 y7
/-- the boxes of ref16.Do: the state, the order, the result -/
structure BX (w0 w : World) (c sb ob rb : Nat) (x : OrdV) (q : Pl) (v : Value) (a li co : Int) (ld : Bool) (W : World) : Prop where
  s : Blk W sb 111 #[.int .i64 q.rows, .int .i64 q.cols, v, .int .i64 q.cur, .int .i64 a, .int .u8 li, .int .u8 co, .bool ld]
  o : Blk W ob 71 #[.int .u8 x.o.k, .int .i64 x.o.a, .int .u8 x.o.b, .bool x.o.ge, .slice x.A x.o.ps.length x.cA, .slice x.B x.o.da.length x.cB]
  r : ∃ cs, cs.size = 8 ∧ Blk W rb 111 cs
  hh : Holds c w W
  cw : c < w.heap.size
  b0 : w0.heap.size ≤ w.heap.size
  bs : w.heap.size ≤ sb
  bo : w.heap.size ≤ ob
  br : w.heap.size ≤ rb
  ne : sb ≠ rb
section
variable {w0 w W : World} {c sb ob rb : Nat} {x : OrdV} {q : Pl} {v : Value} {a li co : Int} {ld : Bool}
theorem BX.c0 (h : BX w0 w c sb ob rb x q v a li co ld W) : W.cell? ⟨sb, 0, none⟩ = some (.int .i64 q.rows) := h.s.cell 0
theorem BX.c1 (h : BX w0 w c sb ob rb x q v a li co ld W) : W.cell? ⟨sb, 1, none⟩ = some (.int .i64 q.cols) := h.s.cell 1
theorem BX.c2 (h : BX w0 w c sb ob rb x q v a li co ld W) : W.cell? ⟨sb, 2, none⟩ = some (v) := h.s.cell 2
theorem BX.c3 (h : BX w0 w c sb ob rb x q v a li co ld W) : W.cell? ⟨sb, 3, none⟩ = some (.int .i64 q.cur) := h.s.cell 3
theorem BX.c4 (h : BX w0 w c sb ob rb x q v a li co ld W) : W.cell? ⟨sb, 4, none⟩ = some (.int .i64 a) := h.s.cell 4
theorem BX.c5 (h : BX w0 w c sb ob rb x q v a li co ld W) : W.cell? ⟨sb, 5, none⟩ = some (.int .u8 li) := h.s.cell 5
theorem BX.c6 (h : BX w0 w c sb ob rb x q v a li co ld W) : W.cell? ⟨sb, 6, none⟩ = some (.int .u8 co) := h.s.cell 6
theorem BX.c7 (h : BX w0 w c sb ob rb x q v a li co ld W) : W.cell? ⟨sb, 7, none⟩ = some (.bool ld) := h.s.cell 7
theorem BX.e0 (h : BX w0 w c sb ob rb x q v a li co ld W) : W.cell? ⟨ob, 0, none⟩ = some (.int .u8 x.o.k) := h.o.cell 0
theorem BX.e1 (h : BX w0 w c sb ob rb x q v a li co ld W) : W.cell? ⟨ob, 1, none⟩ = some (.int .i64 x.o.a) := h.o.cell 1
theorem BX.e2 (h : BX w0 w c sb ob rb x q v a li co ld W) : W.cell? ⟨ob, 2, none⟩ = some (.int .u8 x.o.b) := h.o.cell 2
theorem BX.e3 (h : BX w0 w c sb ob rb x q v a li co ld W) : W.cell? ⟨ob, 3, none⟩ = some (.bool x.o.ge) := h.o.cell 3
theorem BX.e4 (h : BX w0 w c sb ob rb x q v a li co ld W) : W.cell? ⟨ob, 4, none⟩ = some (.slice x.A x.o.ps.length x.cA) := h.o.cell 4
theorem BX.e5 (h : BX w0 w c sb ob rb x q v a li co ld W) : W.cell? ⟨ob, 5, none⟩ = some (.slice x.B x.o.da.length x.cB) := h.o.cell 5
theorem BX.fs (h : BX w0 w c sb ob rb x q v a li co ld W) (i : Nat) : W.frozen? ⟨sb, i, none⟩ = false := h.s.free i
theorem BX.fr (h : BX w0 w c sb ob rb x q v a li co ld W) (i : Nat) : W.frozen? ⟨rb, i, none⟩ = false := by obtain ⟨cs, _, hr⟩ := h.r; exact hr.free i
theorem BX.zr (h : BX w0 w c sb ob rb x q v a li co ld W) (i : Nat) (hi : i < 8) : ∃ u, W.cell? ⟨rb, i, none⟩ = some u := by
  obtain ⟨cs, hs, hr⟩ := h.r
  exact ⟨cs[i], (hr.cell i).trans (Array.getElem?_eq_getElem (by omega))⟩
theorem BX.so (h : BX w0 w c sb ob rb x q v a li co ld W) : ob ≠ sb := by
  rintro rfl
  exact absurd (Blk.same h.o h.s).1 (by decide)
theorem BX.ro (h : BX w0 w c sb ob rb x q v a li co ld W) : ob ≠ rb := by
  rintro rfl
  obtain ⟨cs, hs, hr⟩ := h.r
  exact absurd (Blk.same h.o hr).1 (by decide)
theorem BX.clt (h : BX w0 w c sb ob rb x q v a li co ld W) : c < W.heap.size := Nat.lt_of_lt_of_le h.cw h.hh.1
theorem BX.hold {W' : World} (h : BX w0 w c sb ob rb x q v a li co ld W) (k : Holds c W W') : BX w0 w c sb ob rb x q v a li co ld W' := by
  obtain ⟨cs, hs, hr⟩ := h.r
  exact ⟨h.s.hold (by decide) k, h.o.hold (by decide) k, ⟨cs, hs, hr.hold (by decide) k⟩, h.hh.trans k, h.cw, h.b0, h.bs, h.bo, h.br, h.ne⟩
theorem BX.ext {W' : World} (h : BX w0 w c sb ob rb x q v a li co ld W) (k : Ext W W') : BX w0 w c sb ob rb x q v a li co ld W' := h.hold (Holds.of_ext k)
/-- a store into the state's box: the blocks that stay -/
theorem BX.sstore {q1 : Pl} {v1 : Value} (h : BX w0 w c sb ob rb x q v a li co ld W) (hd : DP w0 W c v1 q1) {q2 : Pl} {v2 : Value} {a2 li2 co2 : Int} {ld2 : Bool} (i : Nat) (u : Value)
    (he : (#[.int .i64 q.rows, .int .i64 q.cols, v, .int .i64 q.cur, .int .i64 a, .int .u8 li, .int .u8 co, .bool ld] : Array Value).setIfInBounds i u = #[.int .i64 q2.rows, .int .i64 q2.cols, v2, .int .i64 q2.cur, .int .i64 a2, .int .u8 li2, .int .u8 co2, .bool ld2]) : BX w0 w c sb ob rb x q2 v2 a2 li2 co2 ld2 (W.setCell ⟨sb, i, none⟩ u) ∧ DP w0 (W.setCell ⟨sb, i, none⟩ u) c v1 q1 := by
  obtain ⟨cs, hs, hr⟩ := h.r
  exact ⟨⟨he ▸ h.s.store i u, h.o.far h.so _, ⟨cs, hs, hr.far (fun e => h.ne e.symm) _⟩, h.hh.set sb i u h.bs, h.cw, h.b0, h.bs, h.bo, h.br, h.ne⟩, hd.set h.s (by decide) (Nat.le_trans h.b0 h.bs) i u⟩
theorem BX.st_at (h : BX w0 w c sb ob rb x q v a li co ld W) (hd : DP w0 W c v q) (a2 : Int) : BX w0 w c sb ob rb x q v a2 li co ld (W.setCell ⟨sb, 4, none⟩ (.int .i64 a2)) ∧ DP w0 (W.setCell ⟨sb, 4, none⟩ (.int .i64 a2)) c v q := h.sstore hd 4 _ rfl
theorem BX.st_li (h : BX w0 w c sb ob rb x q v a li co ld W) (hd : DP w0 W c v q) (a2 : Int) : BX w0 w c sb ob rb x q v a a2 co ld (W.setCell ⟨sb, 5, none⟩ (.int .u8 a2)) ∧ DP w0 (W.setCell ⟨sb, 5, none⟩ (.int .u8 a2)) c v q := h.sstore hd 5 _ rfl
theorem BX.st_co (h : BX w0 w c sb ob rb x q v a li co ld W) (hd : DP w0 W c v q) (a2 : Int) : BX w0 w c sb ob rb x q v a li a2 ld (W.setCell ⟨sb, 6, none⟩ (.int .u8 a2)) ∧ DP w0 (W.setCell ⟨sb, 6, none⟩ (.int .u8 a2)) c v q := h.sstore hd 6 _ rfl
theorem BX.st_ld (h : BX w0 w c sb ob rb x q v a li co ld W) (hd : DP w0 W c v q) (y : Bool) : BX w0 w c sb ob rb x q v a li co y (W.setCell ⟨sb, 7, none⟩ (.bool y)) ∧ DP w0 (W.setCell ⟨sb, 7, none⟩ (.bool y)) c v q := h.sstore hd 7 _ rfl
theorem BX.st_cur (h : BX w0 w c sb ob rb x q v a li co ld W) (hd : DP w0 W c v q) (a2 : Int) : BX w0 w c sb ob rb x { q with cur := a2 } v a li co ld (W.setCell ⟨sb, 3, none⟩ (.int .i64 a2)) ∧ DP w0 (W.setCell ⟨sb, 3, none⟩ (.int .i64 a2)) c v { q with cur := a2 } := ⟨(h.sstore hd (q2 := { q with cur := a2 }) 3 _ rfl).1, (h.sstore hd (q2 := { q with cur := a2 }) (v2 := v) (a2 := a) (li2 := li) (co2 := co) (ld2 := ld) 3 (.int .i64 a2) rfl).2⟩
/-- the state as a whole is stored -/
theorem BX.set8 (h : BX w0 w c sb ob rb x q v a li co ld W) {q2 : Pl} {v2 : Value} (hd : DP w0 W c v2 q2) (a2 li2 co2 : Int) (ld2 : Bool) :
    BX w0 w c sb ob rb x q2 v2 a2 li2 co2 ld2 ((((((((W.setCell ⟨sb, 0, none⟩ (.int .i64 q2.rows)).setCell ⟨sb, 1, none⟩ (.int .i64 q2.cols)).setCell ⟨sb, 2, none⟩ (v2)).setCell ⟨sb, 3, none⟩ (.int .i64 q2.cur)).setCell ⟨sb, 4, none⟩ (.int .i64 a2)).setCell ⟨sb, 5, none⟩ (.int .u8 li2)).setCell ⟨sb, 6, none⟩ (.int .u8 co2)).setCell ⟨sb, 7, none⟩ (.bool ld2)) ∧ DP w0 ((((((((W.setCell ⟨sb, 0, none⟩ (.int .i64 q2.rows)).setCell ⟨sb, 1, none⟩ (.int .i64 q2.cols)).setCell ⟨sb, 2, none⟩ (v2)).setCell ⟨sb, 3, none⟩ (.int .i64 q2.cur)).setCell ⟨sb, 4, none⟩ (.int .i64 a2)).setCell ⟨sb, 5, none⟩ (.int .u8 li2)).setCell ⟨sb, 6, none⟩ (.int .u8 co2)).setCell ⟨sb, 7, none⟩ (.bool ld2)) c v2 q2 := by
  obtain ⟨cs, hs, hr⟩ := h.r
  have hz : w0.heap.size ≤ sb := Nat.le_trans h.b0 h.bs
  have hrs : rb ≠ sb := fun e => h.ne e.symm
  refine ⟨⟨?_, ?_, ⟨cs, hs, ?_⟩, ?_, h.cw, h.b0, h.bs, h.bo, h.br, h.ne⟩, ?_⟩
  · exact h.s.all8 _ _ _ _ _ _ _ _
  · exact (((((((h.o.far h.so _).far h.so _).far h.so _).far h.so _).far h.so _).far h.so _).far h.so _).far h.so _
  · exact (((((((hr.far hrs _).far hrs _).far hrs _).far hrs _).far hrs _).far hrs _).far hrs _).far hrs _
  · exact (((((((h.hh.set sb 0 _ h.bs).set sb 1 _ h.bs).set sb 2 _ h.bs).set sb 3 _ h.bs).set sb 4 _ h.bs).set sb 5 _ h.bs).set sb 6 _ h.bs).set sb 7 _ h.bs
  · exact hd.all8 h.s hz _ _ _ _ _ _ _ _
/-- the plane alone is stored -/
theorem BX.set4 (h : BX w0 w c sb ob rb x q v a li co ld W) {q2 : Pl} {v2 : Value} (hd : DP w0 W c v2 q2) :
    BX w0 w c sb ob rb x q2 v2 a li co ld ((((W.setCell ⟨sb, 0, none⟩ (.int .i64 q2.rows)).setCell ⟨sb, 1, none⟩ (.int .i64 q2.cols)).setCell ⟨sb, 2, none⟩ (v2)).setCell ⟨sb, 3, none⟩ (.int .i64 q2.cur)) ∧ DP w0 ((((W.setCell ⟨sb, 0, none⟩ (.int .i64 q2.rows)).setCell ⟨sb, 1, none⟩ (.int .i64 q2.cols)).setCell ⟨sb, 2, none⟩ (v2)).setCell ⟨sb, 3, none⟩ (.int .i64 q2.cur)) c v2 q2 := by
  obtain ⟨cs, hs, hr⟩ := h.r
  have hz : w0.heap.size ≤ sb := Nat.le_trans h.b0 h.bs
  have hrs : rb ≠ sb := fun e => h.ne e.symm
  refine ⟨⟨?_, ?_, ⟨cs, hs, ?_⟩, ?_, h.cw, h.b0, h.bs, h.bo, h.br, h.ne⟩, ?_⟩
  · exact (((h.s.store 0 _).store 1 _).store 2 _).store 3 _
  · exact (((h.o.far h.so _).far h.so _).far h.so _).far h.so _
  · exact (((hr.far hrs _).far hrs _).far hrs _).far hrs _
  · exact (((h.hh.set sb 0 _ h.bs).set sb 1 _ h.bs).set sb 2 _ h.bs).set sb 3 _ h.bs
  · have B0 := h.s
    have B1 := B0.store 0 (.int .i64 q2.rows)
    have B2 := B1.store 1 (.int .i64 q2.cols)
    have B3 := B2.store 2 v2
    exact (((hd.set B0 (by decide) hz 0 _).set B1 (by decide) hz 1 _).set B2 (by decide) hz 2 _).set B3 (by decide) hz 3 _
/-- what Do hands back -/
def Do5 (w0 : World) (c : Nat) (q : Pl) (a li co : Int) (ld : Bool) (e0 : Int) (w : World) (e : Ending) (w' : World) : Prop := ∃ v2, e = .returned (.tuple #[stV q v2 a li co ld, .int .i64 e0]) ∧ DP w0 w' c v2 q ∧ Holds c w w'
def Do5e (w0 : World) (c : Nat) (v : Value) (q : Pl) (a li co : Int) (ld : Bool) (e0 : Int) (w : World) (e : Ending) (w' : World) : Prop := e = .returned (.tuple #[stV q v a li co ld, .int .i64 e0]) ∧ DP w0 w' c v q ∧ Holds c w w'
/-- the result is stored -/
theorem BX.ret (h : BX w0 w c sb ob rb x q v a li co ld W) (hd : DP w0 W c v q) :
    Blk ((((((((W.setCell ⟨rb, 0, none⟩ (.int .i64 q.rows)).setCell ⟨rb, 1, none⟩ (.int .i64 q.cols)).setCell ⟨rb, 2, none⟩ (v)).setCell ⟨rb, 3, none⟩ (.int .i64 q.cur)).setCell ⟨rb, 4, none⟩ (.int .i64 a)).setCell ⟨rb, 5, none⟩ (.int .u8 li)).setCell ⟨rb, 6, none⟩ (.int .u8 co)).setCell ⟨rb, 7, none⟩ (.bool ld)) rb 111 #[.int .i64 q.rows, .int .i64 q.cols, v, .int .i64 q.cur, .int .i64 a, .int .u8 li, .int .u8 co, .bool ld] ∧ Holds c w ((((((((W.setCell ⟨rb, 0, none⟩ (.int .i64 q.rows)).setCell ⟨rb, 1, none⟩ (.int .i64 q.cols)).setCell ⟨rb, 2, none⟩ (v)).setCell ⟨rb, 3, none⟩ (.int .i64 q.cur)).setCell ⟨rb, 4, none⟩ (.int .i64 a)).setCell ⟨rb, 5, none⟩ (.int .u8 li)).setCell ⟨rb, 6, none⟩ (.int .u8 co)).setCell ⟨rb, 7, none⟩ (.bool ld)) ∧ DP w0 ((((((((W.setCell ⟨rb, 0, none⟩ (.int .i64 q.rows)).setCell ⟨rb, 1, none⟩ (.int .i64 q.cols)).setCell ⟨rb, 2, none⟩ (v)).setCell ⟨rb, 3, none⟩ (.int .i64 q.cur)).setCell ⟨rb, 4, none⟩ (.int .i64 a)).setCell ⟨rb, 5, none⟩ (.int .u8 li)).setCell ⟨rb, 6, none⟩ (.int .u8 co)).setCell ⟨rb, 7, none⟩ (.bool ld)) c v q := by
  obtain ⟨cs, hs, hr⟩ := h.r
  have hz : w0.heap.size ≤ rb := Nat.le_trans h.b0 h.br
  refine ⟨?_, ?_, ?_⟩
  · obtain ⟨l⟩ := cs
    obtain ⟨x0, x1, x2, x3, x4, x5, x6, x7, rfl⟩ : ∃ x0 x1 x2 x3 x4 x5 x6 x7, l = [x0, x1, x2, x3, x4, x5, x6, x7] := by
      match l, hs with
      | [a, b, c, d, e, f, g, h], _ => exact ⟨a, b, c, d, e, f, g, h, rfl⟩
    exact Blk.all8 hr _ _ _ _ _ _ _ _
  · exact (((((((h.hh.set rb 0 _ h.br).set rb 1 _ h.br).set rb 2 _ h.br).set rb 3 _ h.br).set rb 4 _ h.br).set rb 5 _ h.br).set rb 6 _ h.br).set rb 7 _ h.br
  · exact hd.all8 hr hz _ _ _ _ _ _ _ _
end
theorem BX.start {w0 w : World} {c : Nat} (hc : c < w.heap.size) (h0 : w0.heap.size ≤ w.heap.size) (x : OrdV) (q : Pl) (v : Value) (a li co : Int) (ld : Bool) :
    BX w0 w c w.heap.size (w.heap.size + 1) (w.heap.size + 2) x q v a li co ld (((w.alloc (.cells #[.int .i64 q.rows, .int .i64 q.cols, v, .int .i64 q.cur, .int .i64 a, .int .u8 li, .int .u8 co, .bool ld] 111)).alloc (.cells #[.int .u8 x.o.k, .int .i64 x.o.a, .int .u8 x.o.b, .bool x.o.ge, .slice x.A x.o.ps.length x.cA, .slice x.B x.o.da.length x.cB] 71)).alloc (.cells stZ 111)) ∧ Ext w (((w.alloc (.cells #[.int .i64 q.rows, .int .i64 q.cols, v, .int .i64 q.cur, .int .i64 a, .int .u8 li, .int .u8 co, .bool ld] 111)).alloc (.cells #[.int .u8 x.o.k, .int .i64 x.o.a, .int .u8 x.o.b, .bool x.o.ge, .slice x.A x.o.ps.length x.cA, .slice x.B x.o.da.length x.cB] 71)).alloc (.cells stZ 111)) := by
  have hE : Ext w (((w.alloc (.cells #[.int .i64 q.rows, .int .i64 q.cols, v, .int .i64 q.cur, .int .i64 a, .int .u8 li, .int .u8 co, .bool ld] 111)).alloc (.cells #[.int .u8 x.o.k, .int .i64 x.o.a, .int .u8 x.o.b, .bool x.o.ge, .slice x.A x.o.ps.length x.cA, .slice x.B x.o.da.length x.cB] 71)).alloc (.cells stZ 111)) := Ext_alloc (Ext_alloc (Ext_alloc (Ext_refl w)))
  refine ⟨⟨((Blk.new w _ _).alloc _).alloc _, ?_, ⟨stZ, rfl, ?_⟩, Holds.of_ext hE, hc, h0, Nat.le_refl _, by omega, by omega, by omega⟩, hE⟩
  · have := Blk.new (w.alloc (.cells #[.int .i64 q.rows, .int .i64 q.cols, v, .int .i64 q.cur, .int .i64 a, .int .u8 li, .int .u8 co, .bool ld] 111)) 71 #[.int .u8 x.o.k, .int .i64 x.o.a, .int .u8 x.o.b, .bool x.o.ge, .slice x.A x.o.ps.length x.cA, .slice x.B x.o.da.length x.cB]
    rw [World.size_alloc] at this
    exact this.alloc _
  · have := Blk.new ((w.alloc (.cells #[.int .i64 q.rows, .int .i64 q.cols, v, .int .i64 q.cur, .int .i64 a, .int .u8 li, .int .u8 co, .bool ld] 111)).alloc (.cells #[.int .u8 x.o.k, .int .i64 x.o.a, .int .u8 x.o.b, .bool x.o.ge, .slice x.A x.o.ps.length x.cA, .slice x.B x.o.da.length x.cB] 71)) 111 stZ
    rw [World.size_alloc, World.size_alloc] at this
    exact this
end Go.Proofs.Ytmcfckdgolojlaa
