import Derived.Test.YtmcfckdgolojlaaZGY
/- The document's plane of made; Paint from no place; same. -/
namespace Go.Proofs.Ytmcfckdgolojlaa
set_option linter.unusedVariables false
set_option linter.unusedSimpArgs false
open Go.RowKit Go.Sort
open Go.Proofs.YtmcfckdgolojlaaW.PrintWords Go.Proofs.YtmcfckdgolojlaaW.PrintLast Go.Proofs.YtmcfckdgolojlaaW.PrintMore
open PPaintPlays
theorem sl_reps (l : List Cel) (w : World) (B : Nat) (P : Nat → Prop) : Reps (k38.M w B P) k38.sz (l.map toS) (l.flatMap Cel.enc) := by
  refine ⟨by rw [flat_length Cel.enc 5 Cel.len, List.length_map]; rfl, fun j s hs => ?_⟩
  rw [List.getElem?_map] at hs
  obtain ⟨x, hx, rfl⟩ : ∃ x, l[j]? = some x ∧ toS x = s := by simpa [Option.map_eq_some_iff] using hs
  have hc : ((l.flatMap Cel.enc).drop (j * k38.sz)).take k38.sz = x.enc := by
    refine List.ext_getElem? (fun i => ?_)
    rw [List.getElem?_take]
    show (if i < 5 then ((l.flatMap Cel.enc).drop (j * 5))[i]? else none) = _
    by_cases hi : i < 5
    · rw [if_pos hi, List.getElem?_drop, flat_get Cel.enc 5 Cel.len l j i hi, hx]
      rfl
    · rw [if_neg hi, List.getElem?_eq_none (by rw [Cel.len]; omega)]
  rw [hc]
  exact k38_mkM w B P (toS x)
theorem DP.start {w0 W : World} {c xb : Nat} {p : Pl} (h : Blk W xb 38 (cellRow p.cells)) (hx : Ext w0 W) (hb : w0.heap.size ≤ xb) (hc : xb ≠ c) (hn : p.cells.length ≤ 4096) : DP w0 W c (.slice (some ⟨xb, 0, none⟩) p.cells.length p.cells.length) p := by
  have hl : p.sl.length = p.cells.length := sl_len
  refine ⟨hx, fun k => k = xb, ⟨fun k hk => ?_, p.cells.flatMap Cel.enc, ?_, ?_⟩, fun e => hc e.symm, fun k hk => ?_⟩
  · simp [Value.ownBlock] at hk
    exact hk.symm
  · rw [hl]
    refine ⟨by rw [flat_length Cel.enc 5 Cel.len]; rfl, .inr ⟨xb, p.cells.length, cellRow p.cells, rfl, hb, h, Nat.le_refl _, ?_, ?_, ?_⟩⟩
    · unfold maxLen; omega
    · show (p.cells.flatMap Cel.enc).toArray.size = _
      rw [List.size_toArray, flat_length Cel.enc 5 Cel.len]
      rfl
    · show ((p.cells.flatMap Cel.enc).toArray.toList).take _ = _
      rw [List.take_of_length_le (by rw [flat_length Cel.enc 5 Cel.len]; exact Nat.le_refl _)]
  · exact sl_reps p.cells W _ _
  · subst hk
    exact ⟨_, h⟩
set_option maxRecDepth 100000 in
set_option maxHeartbeats 4000000 in
theorem rPaint_bad {w0 w : World} {c : Nat} {v : Value} (p : Pl) (A : Option Addr) (n d : Nat) (from_ : Int) (hf : ¬ (0 ≤ from_ ∧ from_ < p.n)) (hok : p.Ok) (hc : c < w.heap.size) (h : DP w0 w c v p) :
    Calls Try.prog 47 #[dplV p v, .slice A n d, .int .i64 from_] w (fun e w' => e = .returned (.tuple #[dplV p v, .int .i64 0, .int .i64 0, .int .i64 32]) ∧ DP w0 w' c v p ∧ Holds c w w') := by
  have h0 : w0.heap.size ≤ w.heap.size := h.1.size
  have hn0 := hok.sz.n0
  have hhas : p.has from_ = false := decide_eq_false hf
  obtain ⟨vb, cap, rfl, _⟩ := h.cells (by unfold Pl.n at hn0; omega)
  have HD := Lib.hid h
  clear hok h hf
  unfold dplV
  go_enter Try.func47, Try.ntmps47
  go_upto_region 1 with (fail)
  have hPB : Blk ((w.alloc (.cells #[.int .i64 p.rows, .int .i64 p.cols, .slice (some ⟨vb, 0, none⟩) p.cells.length cap, .int .i64 p.cur] 28)).alloc (.cells #[.int .i64 0, .int .i64 0, .slice none 0 0, .int .i64 0] 28)) w.heap.size 28 #[.int .i64 p.rows, .int .i64 p.cols, .slice (some ⟨vb, 0, none⟩) p.cells.length cap, .int .i64 p.cur] := (Blk.new w _ _).alloc _
  have hRB := Blk.new (w.alloc (.cells #[.int .i64 p.rows, .int .i64 p.cols, .slice (some ⟨vb, 0, none⟩) p.cells.length cap, .int .i64 p.cur] 28)) 28 #[.int .i64 0, .int .i64 0, .slice none 0 0, .int .i64 0]
  rw [World.size_alloc] at hRB
  have hE : Ext w ((w.alloc (.cells #[.int .i64 p.rows, .int .i64 p.cols, .slice (some ⟨vb, 0, none⟩) p.cells.length cap, .int .i64 p.cur] 28)).alloc (.cells #[.int .i64 0, .int .i64 0, .slice none 0 0, .int .i64 0] 28)) := Ext_alloc (Ext_alloc (Ext_refl w))
  obtain ⟨W1, hW⟩ : ∃ W1, (w.alloc (.cells #[.int .i64 p.rows, .int .i64 p.cols, .slice (some ⟨vb, 0, none⟩) p.cells.length cap, .int .i64 p.cur] 28)).alloc (.cells #[.int .i64 0, .int .i64 0, .slice none 0 0, .int .i64 0] 28) = W1 := ⟨_, rfl⟩
  rw [hW] at hPB hRB hE ⊢
  obtain ⟨rb, hrb⟩ : ∃ rb, w.heap.size + 1 = rb := ⟨_, rfl⟩
  obtain ⟨pb, hpb⟩ : ∃ pb, w.heap.size = pb := ⟨_, rfl⟩
  have hwr : w.heap.size ≤ rb := by omega
  have hpr : pb ≠ rb := by omega
  rw [hrb] at hRB ⊢
  rw [hpb] at hPB ⊢
  have HE := Lib.hid hE
  have HD1 := Lib.hid (HD.out.ext hE)
  clear hW hE HD hrb hpb
  have p0 := hPB.cell 0
  have p1 := hPB.cell 1
  have p2 := hPB.cell 2
  have p3 := hPB.cell 3
  simp at p0 p1 p2 p3
  go_wp2_with fail
  refine (rHas (w0 := w0) (c := c) (p := p) (v := .slice (some ⟨vb, 0, none⟩) p.cells.length cap) HD1.out from_).mono ?_
  rintro e w2 ⟨rfl, hb⟩
  rw [hhas]
  have hPB2 := Blk.ext2 hPB hb
  have hRB2 := Blk.ext2 hRB hb
  have HE2 := Lib.hid (Ext_trans hb HE.out)
  have HD2 := Lib.hid (HD1.out.ext hb)
  clear hb hPB hRB HE HD1 p0 p1 p2 p3
  have p0 := hPB2.cell 0
  have p1 := hPB2.cell 1
  have p2 := hPB2.cell 2
  have p3 := hPB2.cell 3
  have r0 := hRB2.cell 0
  have r1 := hRB2.cell 1
  have r2 := hRB2.cell 2
  have r3 := hRB2.cell 3
  have f0 := hRB2.free 0
  have f1 := hRB2.free 1
  have f2 := hRB2.free 2
  have f3 := hRB2.free 3
  simp at p0 p1 p2 p3 r0 r1 r2 r3
  have hz : w0.heap.size ≤ rb := Nat.le_trans h0 hwr
  have R1 := hRB2.store 0 (.int .i64 p.rows)
  have R2 := R1.store 1 (.int .i64 p.cols)
  have R3 := R2.store 2 (.slice (some ⟨vb, 0, none⟩) p.cells.length cap)
  have R4 := R3.store 3 (.int .i64 p.cur)
  have D4 := (((HD2.out.set hRB2 (by decide) hz 0 (.int .i64 p.rows)).set R1 (by decide) hz 1 (.int .i64 p.cols)).set R2 (by decide) hz 2 (.slice (some ⟨vb, 0, none⟩) p.cells.length cap)).set R3 (by decide) hz 3 (.int .i64 p.cur)
  have H4 := ((((Holds.of_ext (c := c) HE2.out).set rb 0 (.int .i64 p.rows) hwr).set rb 1 (.int .i64 p.cols) hwr).set rb 2 (.slice (some ⟨vb, 0, none⟩) p.cells.length cap) hwr).set rb 3 (.int .i64 p.cur) hwr
  clear hPB2 hRB2 R1 R2 R3
  go_wp2_with fail
  generalize ((((w2.setCell ⟨rb, 0, none⟩ (.int .i64 p.rows)).setCell ⟨rb, 1, none⟩ (.int .i64 p.cols)).setCell ⟨rb, 2, none⟩ (.slice (some ⟨vb, 0, none⟩) p.cells.length cap)).setCell ⟨rb, 3, none⟩ (.int .i64 p.cur)) = Wf at D4 H4 R4 ⊢
  have c0 := R4.cell 0
  have c1 := R4.cell 1
  have c2 := R4.cell 2
  have c3 := R4.cell 3
  simp at c0 c1 c2 c3
  refine bodyPost_ret (v := .tuple #[.agg #[.int .i64 p.rows, .int .i64 p.cols, .slice (some ⟨vb, 0, none⟩) p.cells.length cap, .int .i64 p.cur], .int .i64 0, .int .i64 0, .int .i64 32]) (by simp [results, Try.results47, go_sem, c0, c1, c2, c3]) rfl ?_
  exact ⟨rfl, D4, H4⟩
set_option maxRecDepth 100000 in
set_option maxHeartbeats 4000000 in
theorem same16_yes {w0 w : World} {g b c : Nat} {v : Value} (q : Pl) (hP : PlAt w g b q) (h : DP w0 w c v q) :
    Calls Try.prog 48 #[.pointer (some ⟨g, 0, none⟩), dplV q v] w (Ret (.bool true) w) := by
  have hn0 := hP.ok.sz.n0
  have hn1 := hP.ok.sz.n1
  have hql : 0 < q.cells.length := by unfold Pl.n at hn0; omega
  have hq4 : q.cells.length ≤ 4096 := by unfold Pl.n at hn1; omega
  obtain ⟨vb, cap, rfl, _⟩ := h.cells hql
  have HD := Lib.hid h
  have HP0 := Lib.hid hP
  clear h hP
  unfold dplV
  go_enter Try.func48, Try.ntmps48
  go_upto_region 1 with (fail)
  have hBX := Blk.new w 28 #[.int .i64 q.rows, .int .i64 q.cols, .slice (some ⟨vb, 0, none⟩) q.cells.length cap, .int .i64 q.cur]
  have hE := Ext_alloc (o := .cells #[.int .i64 q.rows, .int .i64 q.cols, .slice (some ⟨vb, 0, none⟩) q.cells.length cap, .int .i64 q.cur] 28) (Ext_refl w)
  obtain ⟨W1, hW⟩ : ∃ W1, w.alloc (.cells #[.int .i64 q.rows, .int .i64 q.cols, .slice (some ⟨vb, 0, none⟩) q.cells.length cap, .int .i64 q.cur] 28) = W1 := ⟨_, rfl⟩
  rw [hW] at hBX hE ⊢
  obtain ⟨bx, hbx⟩ : ∃ bx, w.heap.size = bx := ⟨_, rfl⟩
  rw [hbx] at hBX ⊢
  clear hW hbx
  have HB := Lib.hid hBX
  have HP1 := Lib.hid (HP0.out.ext hE)
  have HD1 := Lib.hid (HD.out.ext hE)
  have HE := Lib.hid hE
  have b1 := hBX.cell 2
  simp at b1
  have b2 := hBX.cell 3
  simp at b2
  clear hBX hE HP0 HD
  go_wp2_with fail
  go_loopw [5, 9] (fun _ v9 wr => ∃ k : Nat, k ≤ q.cells.length ∧ v9 = .int .i64 k ∧ Hid (Blk wr bx 28 #[.int .i64 q.rows, .int .i64 q.cols, .slice (some ⟨vb, 0, none⟩) q.cells.length cap, .int .i64 q.cur]) ∧ Hid (PlAt wr g b q) ∧ Hid (DP w0 wr c (.slice (some ⟨vb, 0, none⟩) q.cells.length cap) q) ∧ Hid (Ext w wr)) (fun _ v9 _ => q.cells.length - (intOf v9).toNat)
  case atStart => exact ⟨0, by omega, rfl, HB, HP1, HD1, HE⟩
  case round =>
    clear HB HP1 HD1 HE b1 b2
    obtain ⟨k, hk, rfl, HB, HP, HD, HE⟩ := hrel
    have b1 := HB.out.cell 2
    have b2 := HB.out.cell 3
    have hbl := HB.out.lt
    simp at b1 b2
    by_cases hlt : k < q.cells.length
    · obtain ⟨vbx, capx, ev, hcell⟩ := HD.out.cells hql
      injection ev with ev1 _ ev2
      injection ev1 with ev1
      injection ev1 with ev1 _ _
      subst ev1
      subst ev2
      have hat : q.at (k : Int) = q.cells[k] := by unfold Pl.at; rw [if_pos ⟨by omega, by unfold Pl.n; omega⟩]; simp [hlt]
      have d0 := hcell k hlt 0 _ rfl
      have d1 := hcell k hlt 1 _ rfl
      have d2 := hcell k hlt 2 _ rfl
      have d3 := hcell k hlt 3 _ rfl
      have d4 := hcell k hlt 4 _ rfl
      simp only [Nat.add_zero] at d0
      have hvl := block_lt_of_cell d0
      clear hcell
      generalize q.cells[k] = y at *
      have HY := Lib.hid hat
      clear hat
      go_upto_region 4 with (fail)
      go_region_held3 (fun w' => w'.cell? ⟨bx, 2, none⟩ = some (.slice (some ⟨vb, 0, none⟩) q.cells.length cap) ∧ w'.cell? ⟨vb, k * 5, none⟩ = some (.int .u8 y.b) ∧ w'.cell? ⟨vb, k * 5 + 1, none⟩ = some (.bool y.ge) ∧ w'.cell? ⟨vb, k * 5 + 2, none⟩ = some (.bool y.st) ∧ w'.cell? ⟨vb, k * 5 + 3, none⟩ = some (.int .u8 y.li) ∧ w'.cell? ⟨vb, k * 5 + 4, none⟩ = some (.int .u8 y.co)) (first | with_reducible exact ⟨b1, d0, d1, d2, d3, d4⟩ | with_reducible exact ⟨j1, k0, k1, k2, k3, k4⟩ | go_keep) ((first | (go_at_call 21; refine (At_eqB HY.out _ (HP.out.ext (by first | exact Ext_refl _ | exact Ext_drew (Ext_refl _)))).mono ?_; rintro e wc ⟨rfl, hb⟩; have HE2 := Lib.hid (show Ext wr wc from Ext_trans hb (by first | exact Ext_refl _ | exact Ext_drew (Ext_refl _))); clear hb; have j1 := (cell_ext HE2.out hbl).trans b1; have k0 := (cell_ext HE2.out hvl).trans d0; have k1 := (cell_ext HE2.out hvl).trans d1; have k2 := (cell_ext HE2.out hvl).trans d2; have k3 := (cell_ext HE2.out hvl).trans d3; have k4 := (cell_ext HE2.out hvl).trans d4)))
      rename_i hHeld
      clear hHeld j1 k0 k1 k2 k3 k4 b1 b2 d0 d1 d2 d3 d4
      have HB2 := Lib.hid (Blk.ext2 HB.out HE2.out)
      have HP2 := Lib.hid (HP.out.ext HE2.out)
      have HD2 := Lib.hid (HD.out.ext HE2.out)
      have HE3 := Lib.hid (Ext_trans HE2.out HE.out)
      go_wp2_with fail
      go_roundw
      case rel => exact ⟨k + 1, by omega, by go_num, HB2, HP2, HD2, HE3⟩
      case measure => simp [intOf]; omega
    · have hkk : k = q.cells.length := by omega
      subst hkk
      have hd1 : decide (q.n = (q.cells.length : Int)) = true := decide_eq_true rfl
      have hd2 : (q.n == (q.cells.length : Int)) = true := beq_iff_eq.2 rfl
      go_wp2_with fail
      go_region_held3 (fun w' => w'.cell? ⟨bx, 2, none⟩ = some (.slice (some ⟨vb, 0, none⟩) q.cells.length cap) ∧ w'.cell? ⟨bx, 3, none⟩ = some (.int .i64 q.cur)) (first | with_reducible exact ⟨b1, b2⟩ | with_reducible exact ⟨j1, j2⟩ | with_reducible exact ⟨m1, m2⟩ | go_keep) ((first | (go_at_call 18; refine (LenQ_any g b q _ (HP.out.ext (by first | exact Ext_refl _ | exact Ext_drew (Ext_refl _)))).mono ?_; rintro e wc ⟨rfl, hw⟩; have HE2 := Lib.hid (show Ext wr wc from (by rw [hw]; exact (by first | exact Ext_refl _ | exact Ext_drew (Ext_refl _)))); clear hw; have j1 := (cell_ext HE2.out hbl).trans b1; have j2 := (cell_ext HE2.out hbl).trans b2) | (go_at_call 19; refine (Cursor_any g b q _ (HP.out.ext (by first | exact Ext_refl _ | exact Ext_drew (Ext_refl _) | exact HE2.out | exact Ext_drew HE2.out))).mono ?_; rintro e wc ⟨rfl, hb⟩; have HE3 := Lib.hid (show Ext wr wc from Ext_trans hb (by first | exact Ext_refl _ | exact Ext_drew (Ext_refl _) | exact HE2.out | exact Ext_drew HE2.out)); clear hb; have m1 := (cell_ext HE3.out hbl).trans b1; have m2 := (cell_ext HE3.out hbl).trans b2)))
      rename_i hHeld
      clear hHeld
      go_wp2_with fail
      go_ret
      exact ⟨rfl, Ext_trans (Ext_trans HE3.out (Ext_refl wr)) HE.out⟩
end Go.Proofs.Ytmcfckdgolojlaa
