import Derived.Test.YtmcfckdgolojlaaZGN
/- The document's tab, walked. -/
namespace Go.Proofs.Ytmcfckdgolojlaa
set_option linter.unusedVariables false
set_option linter.unusedSimpArgs false
open Go.RowKit
open Go.Proofs.YtmcfckdgolojlaaW.PrintWords Go.Proofs.YtmcfckdgolojlaaW.PrintLast Go.Proofs.YtmcfckdgolojlaaW.PrintMore
open PPaintPlays
theorem Blk.hold {w w' : World} {b c : Nat} {t : TypeId} {cs : Array Value} (h : Blk w b t cs) (ht : t ≠ 38) (hh : Holds c w w') : Blk w' b t cs :=
  (hh.2 b h.lt (.inr fun cells e => by
    have := Blk.same (show Blk w b 38 cells from e) h
    exact ht this.1.symm)).trans h
theorem Holds.set {c : Nat} {w w1 : World} (h : Holds c w w1) (b i : Nat) (u : Value) (hb : w.heap.size ≤ b) : Holds c w (w1.setCell ⟨b, i, none⟩ u) :=
  ⟨by simpa using h.1, fun k hk hc => (Below.heap_setCell w1 ⟨b, i, none⟩ u k (show k ≠ b by omega)).trans (h.2 k hk hc)⟩
theorem DP.set {w0 w : World} {c : Nat} {v : Value} {q : Pl} (h : DP w0 w c v q) {b : Nat} {t : TypeId} {cs : Array Value} (hB : Blk w b t cs) (ht : t ≠ 38) (hb : w0.heap.size ≤ b) (i : Nat) (u : Value) : DP w0 (w.setCell ⟨b, i, none⟩ u) c v q := by
  obtain ⟨h1, P, h2, h3, h4⟩ := h
  have hne : ∀ k, P k → k ≠ b := fun k hk e => by
    obtain ⟨cells, e2⟩ := h4 k hk
    subst e
    exact ht (Blk.same (show Blk w k 38 cells from e2) hB).1.symm
  exact ⟨Ext_set h1 hb, P, Kd.R_far h2 hne u, h3, fun k hk => by
    obtain ⟨cells, e2⟩ := h4 k hk
    exact ⟨cells, (Below.heap_setCell w ⟨b, i, none⟩ u k (hne k hk)).trans e2⟩⟩
def stR (q : Pl) (v : Value) (at_ li co : Int) (ld : Bool) : Array Value := #[.int .i64 q.rows, .int .i64 q.cols, v, .int .i64 q.cur, .int .i64 at_, .int .u8 li, .int .u8 co, .bool ld]
def stZ : Array Value := #[.int .i64 0, .int .i64 0, .slice none 0 0, .int .i64 0, .int .i64 0, .int .u8 0, .int .u8 0, .bool false]
/-- what tab leaves, and where -/
def Pl.tabP (p : Pl) (i : Int) (ld : Bool) : Pl := if ld then p.restK i (p.n - i).toNat else p
set_option maxRecDepth 100000 in
set_option maxHeartbeats 4000000 in
theorem rTab0 {w0 w : World} {c : Nat} {v : Value} {Q : Pl} (hok : Q.Ok) (hc : c < w.heap.size) (h : DP w0 w c v Q) (i li co : Int) (i0 : 0 ≤ i) (i1 : i < Q.n) :
    Calls Try.prog 105 #[stV Q v i li co false] w (DTo w0 c (fun v2 => stV (Q.tabP i false) v2 ((Q.tabP i false).tabK i (Q.n - i).toNat) li co false) (Q.tabP i false) w) := by
  have HD := Lib.hid h
  have HOK := Lib.hid hok
  have h0 : w0.heap.size ≤ w.heap.size := h.1.size
  have hn := hok.sz.n1
  obtain ⟨vb2, cap2, rfl, hcell⟩ := h.cells (by have := hok.sz.n0; unfold Pl.n at this; omega)
  have HCL := Lib.hid hcell
  clear h hok hcell
  unfold stV
  go_enter Try.func105, Try.ntmps105
  go_upto_region 1 with (fail)
  have hB1 : Blk ((w.alloc (.cells #[.int .i64 Q.rows, .int .i64 Q.cols, .slice (some ⟨vb2, 0, none⟩) Q.cells.length cap2, .int .i64 Q.cur, .int .i64 i, .int .u8 li, .int .u8 co, .bool false] 111)).alloc (.cells #[.int .i64 0, .int .i64 0, .slice none 0 0, .int .i64 0, .int .i64 0, .int .u8 0, .int .u8 0, .bool false] 111)) w.heap.size 111 (stR Q (.slice (some ⟨vb2, 0, none⟩) Q.cells.length cap2) i li co false) := (Blk.new w 111 #[.int .i64 Q.rows, .int .i64 Q.cols, .slice (some ⟨vb2, 0, none⟩) Q.cells.length cap2, .int .i64 Q.cur, .int .i64 i, .int .u8 li, .int .u8 co, .bool false]).alloc _
  have hB2 : Blk ((w.alloc (.cells #[.int .i64 Q.rows, .int .i64 Q.cols, .slice (some ⟨vb2, 0, none⟩) Q.cells.length cap2, .int .i64 Q.cur, .int .i64 i, .int .u8 li, .int .u8 co, .bool false] 111)).alloc (.cells #[.int .i64 0, .int .i64 0, .slice none 0 0, .int .i64 0, .int .i64 0, .int .u8 0, .int .u8 0, .bool false] 111)) (w.heap.size + 1) 111 stZ := by
    have := Blk.new (w.alloc (.cells #[.int .i64 Q.rows, .int .i64 Q.cols, .slice (some ⟨vb2, 0, none⟩) Q.cells.length cap2, .int .i64 Q.cur, .int .i64 i, .int .u8 li, .int .u8 co, .bool false] 111)) 111 #[.int .i64 0, .int .i64 0, .slice none 0 0, .int .i64 0, .int .i64 0, .int .u8 0, .int .u8 0, .bool false]
    rw [World.size_alloc] at this
    exact this
  have hE : Ext w ((w.alloc (.cells #[.int .i64 Q.rows, .int .i64 Q.cols, .slice (some ⟨vb2, 0, none⟩) Q.cells.length cap2, .int .i64 Q.cur, .int .i64 i, .int .u8 li, .int .u8 co, .bool false] 111)).alloc (.cells #[.int .i64 0, .int .i64 0, .slice none 0 0, .int .i64 0, .int .i64 0, .int .u8 0, .int .u8 0, .bool false] 111)) := Ext_alloc (Ext_alloc (Ext_refl w))
  obtain ⟨W1, hW⟩ : ∃ W1, (w.alloc (.cells #[.int .i64 Q.rows, .int .i64 Q.cols, .slice (some ⟨vb2, 0, none⟩) Q.cells.length cap2, .int .i64 Q.cur, .int .i64 i, .int .u8 li, .int .u8 co, .bool false] 111)).alloc (.cells #[.int .i64 0, .int .i64 0, .slice none 0 0, .int .i64 0, .int .i64 0, .int .u8 0, .int .u8 0, .bool false] 111) = W1 := ⟨_, rfl⟩
  rw [hW] at hB1 hB2 hE ⊢
  clear hW
  have HD1 := Lib.hid (HD.out.ext hE)
  have HH1 := Lib.hid (Holds.of_ext (c := c) hE)
  have HB1 := Lib.hid hB1
  have HB2 := Lib.hid hB2
  obtain ⟨sb, hsb⟩ : ∃ sb, w.heap.size = sb := ⟨_, rfl⟩
  have hrb : w.heap.size ≤ sb + 1 := by omega
  have hws : w.heap.size ≤ sb := by omega
  rw [hsb] at HB1 HB2 ⊢
  clear hB1 hB2 hE HD hsb
  have hqn : (Q.cells.length : Int) = Q.n := rfl
  have HTP2 := Lib.hid (show Q.tabP i false = Q by unfold Pl.tabP; rw [if_neg (by simp)])
  have HD := HD1
  have HH := HH1
  clear HD1 HH1 HCL
  have s2 := HB1.out.cell 2
  have s7 := HB1.out.cell 7
  simp [stR] at s2 s7
  have s4 := HB1.out.cell 4
  simp [stR] at s4
  obtain ⟨T, hT⟩ : ∃ T, Q.tabK i (Q.n - i).toNat = T := ⟨_, rfl⟩
  have HT0 := Lib.hid hT
  clear hT
  go_wp2_with fail
  go_loopw [60, 5] (fun _ v5 wr => ∃ a : Int, v5 = .int .i64 a ∧ 0 ≤ a ∧ a ≤ Q.n ∧ Hid (Q.tabK a (Q.n - a).toNat = T) ∧ Hid (Blk wr sb 111 (stR Q (.slice (some ⟨vb2, 0, none⟩) Q.cells.length cap2) i li co false)) ∧ Hid (Blk wr (sb + 1) 111 stZ) ∧ Hid (DP w0 wr c (.slice (some ⟨vb2, 0, none⟩) Q.cells.length cap2) Q) ∧ Hid (Holds c w wr)) (fun _ v _ => (Q.n - intOf v).toNat)
  case atStart => exact ⟨i, rfl, i0, by omega, HT0, HB1, HB2, HD, HH⟩
  case round =>
    obtain ⟨a, rfl, a0, a1, HT, HB1, HB2, HD, HH⟩ := hrel
    obtain ⟨k, rfl⟩ := Int.eq_ofNat_of_zero_le a0
    obtain ⟨vb4, cap4, e4, hcell⟩ := HD.out.cells (by have := HOK.out.sz.n0; unfold Pl.n at this; omega)
    injection e4 with e5 e5' e6
    cases e5
    clear e5'
    subst e6
    have hcap : (0 : Nat) = 0 := rfl
    have h4 : w0.heap.size ≤ sb := by omega
    have h5 : w0.heap.size ≤ sb + 1 := by omega
    have s0 := HB1.out.cell 0
    have s1 := HB1.out.cell 1
    have s2 := HB1.out.cell 2
    have s3 := HB1.out.cell 3
    have s4 := HB1.out.cell 4
    have s5 := HB1.out.cell 5
    have s6 := HB1.out.cell 6
    have s7 := HB1.out.cell 7
    simp [stR] at s0 s1 s2 s3 s4 s5 s6 s7
    have f4 := HB1.out.free 4
    have z0 := HB2.out.cell 0
    have g0 := HB2.out.free 0
    have z1 := HB2.out.cell 1
    have g1 := HB2.out.free 1
    have z2 := HB2.out.cell 2
    have g2 := HB2.out.free 2
    have z3 := HB2.out.cell 3
    have g3 := HB2.out.free 3
    have z4 := HB2.out.cell 4
    have g4 := HB2.out.free 4
    have z5 := HB2.out.cell 5
    have g5 := HB2.out.free 5
    have z6 := HB2.out.cell 6
    have g6 := HB2.out.free 6
    have z7 := HB2.out.cell 7
    have g7 := HB2.out.free 7
    simp [stZ] at z0 z1 z2 z3 z4 z5 z6 z7
    by_cases hlt : (k : Int) < Q.n
    · have hk : k < Q.cells.length := by omega
      have hqk : (k : Int) < (Q.cells.length : Int) := by omega
      skip
      have d0 := hcell k hk 0 _ rfl
      have d2 := hcell k hk 2 _ rfl
      have hat : Q.at (k : Int) = Q.cells[k] := by unfold Pl.at; rw [if_pos ⟨by omega, by exact hlt⟩]; simp [hk]
      have hyb := HOK.out.by_ _ (List.getElem_mem hk)
      have hr := HT.out
      rw [show (Q.n - (k : Int)).toNat = (Q.n - ((k : Int) + 1)).toNat + 1 by omega] at hr
      unfold Pl.tabK Pl.st at hr
      rw [if_pos hlt, hat] at hr
      simp only [Nat.add_zero] at d0
      clear hcell hat
      generalize Q.cells[k] = y at *
      cases hs : y.st
      · rw [hs] at hr d2
        have HR := Lib.hid (show Q.tabK ((k : Int) + 1) (Q.n - ((k : Int) + 1)).toNat = T by simpa using hr)
        clear hr
        go_wp2_with fail
        go_roundw
        case rel => exact ⟨(k : Int) + 1, by go_num, by omega, by omega, HR, HB1, HB2, HD, HH⟩
        case measure => simp [intOf]; omega
      · rw [hs] at hr d2
        obtain ⟨pr, hpr⟩ : ∃ pr, bitB y.b 32 = pr := ⟨_, rfl⟩
        have hbv := (bitV_B y.b hyb).1
        rw [hpr] at hr hbv
        go_wp2_with fail
        refine (RBit32_any y.b hyb _).mono ?_
        rintro e w5 ⟨rfl, hb⟩
        rw [hbv]
        have HD5 := Lib.hid (HD.out.ext hb)
        have HB15 := Lib.hid (Blk.ext2 HB1.out hb)
        have HB25 := Lib.hid (Blk.ext2 HB2.out hb)
        have HH5 := Lib.hid (HH.out.trans (Holds.of_ext hb))
        clear hb HD HB1 HB2 HH s0 s1 s2 s3 s4 s5 s6 s7 f4 z0 z1 z2 z3 z4 z5 z6 z7 g0 g1 g2 g3 g4 g5 g6 g7 d0 d2 hpr hbv
        cases pr
        · have hT2 : ((k : Int) + 1) % Q.n = T := (by simpa using hr)
          have s0 := HB15.out.cell 0
          have s1 := HB15.out.cell 1
          have s2 := HB15.out.cell 2
          have s3 := HB15.out.cell 3
          have s4 := HB15.out.cell 4
          have s5 := HB15.out.cell 5
          have s6 := HB15.out.cell 6
          have s7 := HB15.out.cell 7
          simp [stR] at s0 s1 s2 s3 s4 s5 s6 s7
          have f4 := HB15.out.free 4
          have z0 := HB25.out.cell 0
          have g0 := HB25.out.free 0
          have z1 := HB25.out.cell 1
          have g1 := HB25.out.free 1
          have z2 := HB25.out.cell 2
          have g2 := HB25.out.free 2
          have z3 := HB25.out.cell 3
          have g3 := HB25.out.free 3
          have z4 := HB25.out.cell 4
          have g4 := HB25.out.free 4
          have z5 := HB25.out.cell 5
          have g5 := HB25.out.free 5
          have z6 := HB25.out.cell 6
          have g6 := HB25.out.free 6
          have z7 := HB25.out.cell 7
          have g7 := HB25.out.free 7
          simp [stZ] at z0 z1 z2 z3 z4 z5 z6 z7
          have hpc : (Q.cells.length : Int) ≠ 0 := by omega
          have D0 := HD5.out.set HB15.out (by decide) h4 4 (.int .i64 T)
          have R0 := (HB25.out.far (p := ⟨sb, 4, none⟩) (by simp) (.int .i64 T))
          have D1 := D0.set R0 (by decide) h5 0 (.int .i64 Q.rows)
          have R1 := R0.store 0 (.int .i64 Q.rows)
          have D2 := D1.set R1 (by decide) h5 1 (.int .i64 Q.cols)
          have R2 := R1.store 1 (.int .i64 Q.cols)
          have D3 := D2.set R2 (by decide) h5 2 (.slice (some ⟨vb2, 0, none⟩) Q.cells.length cap2)
          have R3 := R2.store 2 (.slice (some ⟨vb2, 0, none⟩) Q.cells.length cap2)
          have D4 := D3.set R3 (by decide) h5 3 (.int .i64 Q.cur)
          have R4 := R3.store 3 (.int .i64 Q.cur)
          have D5 := D4.set R4 (by decide) h5 4 (.int .i64 T)
          have R5 := R4.store 4 (.int .i64 T)
          have D6 := D5.set R5 (by decide) h5 5 (.int .u8 li)
          have R6 := R5.store 5 (.int .u8 li)
          have D7 := D6.set R6 (by decide) h5 6 (.int .u8 co)
          have R7 := R6.store 6 (.int .u8 co)
          have D8 := D7.set R7 (by decide) h5 7 (.bool false)
          have R8 := R7.store 7 (.bool false)
          have H8 := (((((((((HH5.out.set sb 4 (.int .i64 T) hws).set (sb + 1) 0 (.int .i64 Q.rows) hrb).set (sb + 1) 1 (.int .i64 Q.cols) hrb).set (sb + 1) 2 (.slice (some ⟨vb2, 0, none⟩) Q.cells.length cap2) hrb).set (sb + 1) 3 (.int .i64 Q.cur) hrb).set (sb + 1) 4 (.int .i64 T) hrb).set (sb + 1) 5 (.int .u8 li) hrb).set (sb + 1) 6 (.int .u8 co) hrb).set (sb + 1) 7 (.bool false) hrb)
          clear D0 R0 D1 R1 D2 R2 D3 R3 D4 R4 D5 R5 D6 R6 D7 R7
          go_wp2_with fail
          generalize (((((((((w5.setCell ⟨sb, 4, none⟩ (.int .i64 T)).setCell ⟨sb + 1, 0, none⟩ (.int .i64 Q.rows)).setCell ⟨sb + 1, 1, none⟩ (.int .i64 Q.cols)).setCell ⟨sb + 1, 2, none⟩ (.slice (some ⟨vb2, 0, none⟩) Q.cells.length cap2)).setCell ⟨sb + 1, 3, none⟩ (.int .i64 Q.cur)).setCell ⟨sb + 1, 4, none⟩ (.int .i64 T)).setCell ⟨sb + 1, 5, none⟩ (.int .u8 li)).setCell ⟨sb + 1, 6, none⟩ (.int .u8 co)).setCell ⟨sb + 1, 7, none⟩ (.bool false)) = Wf at D8 R8 H8 ⊢
          have c0 := R8.cell 0
          have c1 := R8.cell 1
          have c2 := R8.cell 2
          have c3 := R8.cell 3
          have c4 := R8.cell 4
          have c5 := R8.cell 5
          have c6 := R8.cell 6
          have c7 := R8.cell 7
          simp [stZ] at c0 c1 c2 c3 c4 c5 c6 c7
          refine bodyPost_ret (v := .agg #[.int .i64 Q.rows, .int .i64 Q.cols, .slice (some ⟨vb2, 0, none⟩) Q.cells.length cap2, .int .i64 Q.cur, .int .i64 T, .int .u8 li, .int .u8 co, .bool false]) (by simp [results, Try.results105, go_sem, c0, c1, c2, c3, c4, c5, c6, c7]) rfl ?_
          exact ⟨_, by rw [HTP2.out, HT0.out], by rw [HTP2.out]; exact D8, H8⟩
        · have HR := Lib.hid (show Q.tabK ((k : Int) + 1) (Q.n - ((k : Int) + 1)).toNat = T by simpa using hr)
          clear hr
          go_wp2_with fail
          go_roundw
          case rel => exact ⟨(k : Int) + 1, by go_num, by omega, by omega, HR, HB15, HB25, HD5, HH5⟩
          case measure => simp [intOf]; omega
    · have hT2 : (0 : Int) = T := by
        have hr := HT.out
        rw [show (Q.n - (k : Int)).toNat = 0 by omega] at hr
        unfold Pl.tabK at hr
        exact hr
      skip
      have D0 := HD.out.set HB1.out (by decide) h4 4 (.int .i64 T)
      have R0 := (HB2.out.far (p := ⟨sb, 4, none⟩) (by simp) (.int .i64 T))
      have D1 := D0.set R0 (by decide) h5 0 (.int .i64 Q.rows)
      have R1 := R0.store 0 (.int .i64 Q.rows)
      have D2 := D1.set R1 (by decide) h5 1 (.int .i64 Q.cols)
      have R2 := R1.store 1 (.int .i64 Q.cols)
      have D3 := D2.set R2 (by decide) h5 2 (.slice (some ⟨vb2, 0, none⟩) Q.cells.length cap2)
      have R3 := R2.store 2 (.slice (some ⟨vb2, 0, none⟩) Q.cells.length cap2)
      have D4 := D3.set R3 (by decide) h5 3 (.int .i64 Q.cur)
      have R4 := R3.store 3 (.int .i64 Q.cur)
      have D5 := D4.set R4 (by decide) h5 4 (.int .i64 T)
      have R5 := R4.store 4 (.int .i64 T)
      have D6 := D5.set R5 (by decide) h5 5 (.int .u8 li)
      have R6 := R5.store 5 (.int .u8 li)
      have D7 := D6.set R6 (by decide) h5 6 (.int .u8 co)
      have R7 := R6.store 6 (.int .u8 co)
      have D8 := D7.set R7 (by decide) h5 7 (.bool false)
      have R8 := R7.store 7 (.bool false)
      have H8 := (((((((((HH.out.set sb 4 (.int .i64 T) hws).set (sb + 1) 0 (.int .i64 Q.rows) hrb).set (sb + 1) 1 (.int .i64 Q.cols) hrb).set (sb + 1) 2 (.slice (some ⟨vb2, 0, none⟩) Q.cells.length cap2) hrb).set (sb + 1) 3 (.int .i64 Q.cur) hrb).set (sb + 1) 4 (.int .i64 T) hrb).set (sb + 1) 5 (.int .u8 li) hrb).set (sb + 1) 6 (.int .u8 co) hrb).set (sb + 1) 7 (.bool false) hrb)
      clear D0 R0 D1 R1 D2 R2 D3 R3 D4 R4 D5 R5 D6 R6 D7 R7
      go_wp2_with fail
      generalize (((((((((wr.setCell ⟨sb, 4, none⟩ (.int .i64 T)).setCell ⟨sb + 1, 0, none⟩ (.int .i64 Q.rows)).setCell ⟨sb + 1, 1, none⟩ (.int .i64 Q.cols)).setCell ⟨sb + 1, 2, none⟩ (.slice (some ⟨vb2, 0, none⟩) Q.cells.length cap2)).setCell ⟨sb + 1, 3, none⟩ (.int .i64 Q.cur)).setCell ⟨sb + 1, 4, none⟩ (.int .i64 T)).setCell ⟨sb + 1, 5, none⟩ (.int .u8 li)).setCell ⟨sb + 1, 6, none⟩ (.int .u8 co)).setCell ⟨sb + 1, 7, none⟩ (.bool false)) = Wf at D8 R8 H8 ⊢
      have c0 := R8.cell 0
      have c1 := R8.cell 1
      have c2 := R8.cell 2
      have c3 := R8.cell 3
      have c4 := R8.cell 4
      have c5 := R8.cell 5
      have c6 := R8.cell 6
      have c7 := R8.cell 7
      simp [stZ] at c0 c1 c2 c3 c4 c5 c6 c7
      refine bodyPost_ret (v := .agg #[.int .i64 Q.rows, .int .i64 Q.cols, .slice (some ⟨vb2, 0, none⟩) Q.cells.length cap2, .int .i64 Q.cur, .int .i64 T, .int .u8 li, .int .u8 co, .bool false]) (by simp [results, Try.results105, go_sem, c0, c1, c2, c3, c4, c5, c6, c7]) rfl ?_
      exact ⟨_, by rw [HTP2.out, HT0.out], by rw [HTP2.out]; exact D8, H8⟩
set_option maxRecDepth 100000 in
set_option maxHeartbeats 4000000 in
theorem rTab1 {w0 w : World} {c : Nat} {v : Value} {p : Pl} (hok : p.Ok) (hc : c < w.heap.size) (h : DP w0 w c v p) (i li co : Int) (i0 : 0 ≤ i) (i1 : i < p.n) :
    Calls Try.prog 105 #[stV p v i li co true] w (DTo w0 c (fun v2 => stV (p.tabP i true) v2 ((p.tabP i true).tabK i (p.n - i).toNat) li co true) (p.tabP i true) w) := by
  have HD := Lib.hid h
  have HOK := Lib.hid hok
  have h0 : w0.heap.size ≤ w.heap.size := h.1.size
  have hn := hok.sz.n1
  obtain ⟨vb, cap, rfl, hcell⟩ := h.cells (by have := hok.sz.n0; unfold Pl.n at this; omega)
  have HCL := Lib.hid hcell
  clear h hok hcell
  unfold stV
  go_enter Try.func105, Try.ntmps105
  go_upto_region 1 with (fail)
  have hB1 : Blk ((w.alloc (.cells #[.int .i64 p.rows, .int .i64 p.cols, .slice (some ⟨vb, 0, none⟩) p.cells.length cap, .int .i64 p.cur, .int .i64 i, .int .u8 li, .int .u8 co, .bool true] 111)).alloc (.cells #[.int .i64 0, .int .i64 0, .slice none 0 0, .int .i64 0, .int .i64 0, .int .u8 0, .int .u8 0, .bool false] 111)) w.heap.size 111 (stR p (.slice (some ⟨vb, 0, none⟩) p.cells.length cap) i li co true) := (Blk.new w 111 #[.int .i64 p.rows, .int .i64 p.cols, .slice (some ⟨vb, 0, none⟩) p.cells.length cap, .int .i64 p.cur, .int .i64 i, .int .u8 li, .int .u8 co, .bool true]).alloc _
  have hB2 : Blk ((w.alloc (.cells #[.int .i64 p.rows, .int .i64 p.cols, .slice (some ⟨vb, 0, none⟩) p.cells.length cap, .int .i64 p.cur, .int .i64 i, .int .u8 li, .int .u8 co, .bool true] 111)).alloc (.cells #[.int .i64 0, .int .i64 0, .slice none 0 0, .int .i64 0, .int .i64 0, .int .u8 0, .int .u8 0, .bool false] 111)) (w.heap.size + 1) 111 stZ := by
    have := Blk.new (w.alloc (.cells #[.int .i64 p.rows, .int .i64 p.cols, .slice (some ⟨vb, 0, none⟩) p.cells.length cap, .int .i64 p.cur, .int .i64 i, .int .u8 li, .int .u8 co, .bool true] 111)) 111 #[.int .i64 0, .int .i64 0, .slice none 0 0, .int .i64 0, .int .i64 0, .int .u8 0, .int .u8 0, .bool false]
    rw [World.size_alloc] at this
    exact this
  have hE : Ext w ((w.alloc (.cells #[.int .i64 p.rows, .int .i64 p.cols, .slice (some ⟨vb, 0, none⟩) p.cells.length cap, .int .i64 p.cur, .int .i64 i, .int .u8 li, .int .u8 co, .bool true] 111)).alloc (.cells #[.int .i64 0, .int .i64 0, .slice none 0 0, .int .i64 0, .int .i64 0, .int .u8 0, .int .u8 0, .bool false] 111)) := Ext_alloc (Ext_alloc (Ext_refl w))
  obtain ⟨W1, hW⟩ : ∃ W1, (w.alloc (.cells #[.int .i64 p.rows, .int .i64 p.cols, .slice (some ⟨vb, 0, none⟩) p.cells.length cap, .int .i64 p.cur, .int .i64 i, .int .u8 li, .int .u8 co, .bool true] 111)).alloc (.cells #[.int .i64 0, .int .i64 0, .slice none 0 0, .int .i64 0, .int .i64 0, .int .u8 0, .int .u8 0, .bool false] 111) = W1 := ⟨_, rfl⟩
  rw [hW] at hB1 hB2 hE ⊢
  clear hW
  have HD1 := Lib.hid (HD.out.ext hE)
  have HH1 := Lib.hid (Holds.of_ext (c := c) hE)
  have HB1 := Lib.hid hB1
  have HB2 := Lib.hid hB2
  obtain ⟨sb, hsb⟩ : ∃ sb, w.heap.size = sb := ⟨_, rfl⟩
  have hrb : w.heap.size ≤ sb + 1 := by omega
  have hws : w.heap.size ≤ sb := by omega
  rw [hsb] at HB1 HB2 ⊢
  clear hB1 hB2 hE HD hsb
  have s2 := HB1.out.cell 2
  have s4 := HB1.out.cell 4
  have s7 := HB1.out.cell 7
  simp [stR] at s2 s4 s7
  · obtain ⟨F, hF⟩ : ∃ F, p.restK i (p.n - i).toNat = F := ⟨_, rfl⟩
    have HF := Lib.hid hF
    have HTP := Lib.hid (show p.tabP i true = F by unfold Pl.tabP; rw [if_pos rfl, hF])
    clear hF HCL
    go_wp2_with fail
    go_loopw [4] (fun v4 wr => ∃ (a : Int) (Q : Pl) (v2 : Value), v4 = .int .i64 a ∧ 0 ≤ a ∧ a ≤ p.n ∧ Q.n = p.n ∧ Hid Q.Ok ∧ Hid (Q.restK a (p.n - a).toNat = F) ∧ Hid (Blk wr sb 111 (stR Q v2 i li co true)) ∧ Hid (Blk wr (sb + 1) 111 stZ) ∧ Hid (DP w0 wr c v2 Q) ∧ Hid (Holds c w wr)) (fun v _ => (p.n - intOf v).toNat)
    case atStart => exact ⟨i, p, _, rfl, i0, by omega, rfl, HOK, HF, HB1, HB2, HD1, HH1⟩
    case round =>
      clear HOK HF HB1 HB2 HD1 HH1 s2 s4 s7
      obtain ⟨a, Q, v2, rfl, a0, a1, hq, HOK, HF, HB1, HB2, HD, HH⟩ := hrel
      have hqn : (Q.cells.length : Int) = p.n := by rw [← hq]; rfl
      obtain ⟨k, rfl⟩ := Int.eq_ofNat_of_zero_le a0
      obtain ⟨vb2, cap2, rfl, hcell⟩ := HD.out.cells (by have := HOK.out.sz.n0; unfold Pl.n at this; omega)
      have s2 := HB1.out.cell 2
      have s0 := HB1.out.cell 0
      have s1 := HB1.out.cell 1
      have s3 := HB1.out.cell 3
      have f0 := HB1.out.free 0
      have f1 := HB1.out.free 1
      have f2 := HB1.out.free 2
      have f3 := HB1.out.free 3
      simp [stR] at s0 s1 s2 s3
      by_cases hlt : (k : Int) < p.n
      · have hk : k < Q.cells.length := by omega
        have d2 := hcell k hk 2 _ rfl
        have hst : Q.st (k : Int) = (Q.cells[k]).st := by unfold Pl.st Pl.at; rw [if_pos ⟨by omega, by rw [hq]; exact hlt⟩]; simp [hk]
        have hr := HF.out
        rw [show (p.n - (k : Int)).toNat = (p.n - ((k : Int) + 1)).toNat + 1 by omega] at hr
        unfold Pl.restK at hr
        rw [hq, hst] at hr
        clear hcell hst
        generalize (Q.cells[k]).st = st at *
        have hqk : (k : Int) < (Q.cells.length : Int) := by omega
        have hpk : (k : Int) < (p.cells.length : Int) := hlt
        cases st
        · rw [if_pos ⟨hlt, rfl⟩] at hr
          have HR := Lib.hid hr
          clear hr
          have hcw : c < wr.heap.size := Nat.lt_of_lt_of_le hc HH.out.1
          go_wp2_with fail
          refine (rSet (w0 := w0) (c := c) (p := Q) (v := .slice (some ⟨vb2, 0, none⟩) Q.cells.length cap2) (by omega) hcw HD.out (k : Int) Cel.zero).mono ?_
          rintro e w4 ⟨v3, rfl, hd3, hh3⟩
          obtain ⟨q1, q2, q3⟩ := set_same3 Q (k : Int) Cel.zero
          obtain ⟨vb3, cap3, rfl, _⟩ := hd3.cells (by rw [(set_dims Q (k : Int) Cel.zero).2.2]; omega)
          rw [(set_dims Q (k : Int) Cel.zero).2.2] at hd3 ⊢
          have B4 := HB1.out.hold (by decide) hh3
          have B5 := HB2.out.hold (by decide) hh3
          have g0 := B4.free 0
          have g1 := B4.free 1
          have g2 := B4.free 2
          have g3 := B4.free 3
          have t0 := B4.cell 0
          have t1 := B4.cell 1
          have t2 := B4.cell 2
          have t3 := B4.cell 3
          simp [stR] at t0 t1 t2 t3
          unfold dplV
          rw [q1, q2, q3]
          have h4 : w0.heap.size ≤ sb := by omega
          have D1 := hd3.set B4 (by decide) h4 0 (.int .i64 Q.rows)
          have D2 := D1.set (B4.store 0 _) (by decide) h4 1 (.int .i64 Q.cols)
          have D3 := D2.set ((B4.store 0 _).store 1 _) (by decide) h4 2 (.slice (some ⟨vb3, 0, none⟩) Q.cells.length cap3)
          have D4 := Lib.hid (D3.set (((B4.store 0 _).store 1 _).store 2 _) (by decide) h4 3 (.int .i64 Q.cur))
          have B6 := Lib.hid ((((B4.store 0 (.int .i64 Q.rows)).store 1 (.int .i64 Q.cols)).store 2 (.slice (some ⟨vb3, 0, none⟩) Q.cells.length cap3)).store 3 (.int .i64 Q.cur))
          have B7 := Lib.hid ((((B5.far (p := ⟨sb, 0, none⟩) (by simp) (.int .i64 Q.rows)).far (p := ⟨sb, 1, none⟩) (by simp) (.int .i64 Q.cols)).far (p := ⟨sb, 2, none⟩) (by simp) (.slice (some ⟨vb3, 0, none⟩) Q.cells.length cap3)).far (p := ⟨sb, 3, none⟩) (by simp) (.int .i64 Q.cur))
          have H7 := Lib.hid (((((HH.out.trans hh3).set sb 0 (.int .i64 Q.rows) hws).set sb 1 (.int .i64 Q.cols) hws).set sb 2 (.slice (some ⟨vb3, 0, none⟩) Q.cells.length cap3) hws).set sb 3 (.int .i64 Q.cur) hws)
          have HOK2 := Lib.hid (ok_set HOK.out (k : Int) Cel.zero (by decide))
          have hqn2 : (Q.set (k : Int) Cel.zero).n = p.n := (set_n _ _ _).trans hq
          clear hd3 hh3 B4 B5 D1 D2 D3 HB1 HB2 HD HH HOK HF d2
          go_wp2_with fail
          go_roundw
          case rel => exact ⟨(k : Int) + 1, Q.set (k : Int) Cel.zero, _, by go_num, by omega, by omega, hqn2, HOK2, HR, by unfold stR; rw [q1, q2, q3]; exact B6, B7, D4, H7⟩
          case measure => simp [intOf]; omega
        · rw [if_neg (by simp)] at hr
          have HTP2 := Lib.hid (show p.tabP i true = Q by rw [HTP.out]; exact hr.symm)
          clear hr HF
          have s4 := HB1.out.cell 4
          simp [stR] at s4
          obtain ⟨T, hT⟩ : ∃ T, Q.tabK i (p.n - i).toNat = T := ⟨_, rfl⟩
          have HT0 := Lib.hid hT
          clear hT
          go_wp2_with fail
          go_loopw [60, 5] (fun _ v5 wr => ∃ a : Int, v5 = .int .i64 a ∧ 0 ≤ a ∧ a ≤ p.n ∧ Hid (Q.tabK a (p.n - a).toNat = T) ∧ Hid (Blk wr sb 111 (stR Q (.slice (some ⟨vb2, 0, none⟩) Q.cells.length cap2) i li co true)) ∧ Hid (Blk wr (sb + 1) 111 stZ) ∧ Hid (DP w0 wr c (.slice (some ⟨vb2, 0, none⟩) Q.cells.length cap2) Q) ∧ Hid (Holds c w wr)) (fun _ v _ => (p.n - intOf v).toNat)
          case atStart => exact ⟨i, rfl, i0, by omega, HT0, HB1, HB2, HD, HH⟩
          case round =>
            obtain ⟨a, rfl, a0, a1, HT, HB1, HB2, HD, HH⟩ := hrel
            obtain ⟨k, rfl⟩ := Int.eq_ofNat_of_zero_le a0
            obtain ⟨vb4, cap4, e4, hcell⟩ := HD.out.cells (by have := HOK.out.sz.n0; unfold Pl.n at this; omega)
            injection e4 with e5 e5' e6
            cases e5
            clear e5'
            subst e6
            have hcap : (0 : Nat) = 0 := rfl
            have h4 : w0.heap.size ≤ sb := by omega
            have h5 : w0.heap.size ≤ sb + 1 := by omega
            have s0 := HB1.out.cell 0
            have s1 := HB1.out.cell 1
            have s2 := HB1.out.cell 2
            have s3 := HB1.out.cell 3
            have s4 := HB1.out.cell 4
            have s5 := HB1.out.cell 5
            have s6 := HB1.out.cell 6
            have s7 := HB1.out.cell 7
            simp [stR] at s0 s1 s2 s3 s4 s5 s6 s7
            have f4 := HB1.out.free 4
            have z0 := HB2.out.cell 0
            have g0 := HB2.out.free 0
            have z1 := HB2.out.cell 1
            have g1 := HB2.out.free 1
            have z2 := HB2.out.cell 2
            have g2 := HB2.out.free 2
            have z3 := HB2.out.cell 3
            have g3 := HB2.out.free 3
            have z4 := HB2.out.cell 4
            have g4 := HB2.out.free 4
            have z5 := HB2.out.cell 5
            have g5 := HB2.out.free 5
            have z6 := HB2.out.cell 6
            have g6 := HB2.out.free 6
            have z7 := HB2.out.cell 7
            have g7 := HB2.out.free 7
            simp [stZ] at z0 z1 z2 z3 z4 z5 z6 z7
            by_cases hlt : (k : Int) < p.n
            · have hk : k < Q.cells.length := by omega
              have hqk : (k : Int) < (Q.cells.length : Int) := by omega
              have hpk : (k : Int) < (p.cells.length : Int) := hlt
              have d0 := hcell k hk 0 _ rfl
              have d2 := hcell k hk 2 _ rfl
              have hat : Q.at (k : Int) = Q.cells[k] := by unfold Pl.at; rw [if_pos ⟨by omega, by rw [hq]; exact hlt⟩]; simp [hk]
              have hyb := HOK.out.by_ _ (List.getElem_mem hk)
              have hr := HT.out
              rw [show (p.n - (k : Int)).toNat = (p.n - ((k : Int) + 1)).toNat + 1 by omega] at hr
              unfold Pl.tabK Pl.st at hr
              rw [hq, if_pos hlt, hat] at hr
              simp only [Nat.add_zero] at d0
              clear hcell hat
              generalize Q.cells[k] = y at *
              cases hs : y.st
              · rw [hs] at hr d2
                have HR := Lib.hid (show Q.tabK ((k : Int) + 1) (p.n - ((k : Int) + 1)).toNat = T by simpa using hr)
                clear hr
                go_wp2_with fail
                go_roundw
                case rel => exact ⟨(k : Int) + 1, by go_num, by omega, by omega, HR, HB1, HB2, HD, HH⟩
                case measure => simp [intOf]; omega
              · rw [hs] at hr d2
                obtain ⟨pr, hpr⟩ : ∃ pr, bitB y.b 32 = pr := ⟨_, rfl⟩
                have hbv := (bitV_B y.b hyb).1
                rw [hpr] at hr hbv
                go_wp2_with fail
                refine (RBit32_any y.b hyb _).mono ?_
                rintro e w5 ⟨rfl, hb⟩
                rw [hbv]
                have HD5 := Lib.hid (HD.out.ext hb)
                have HB15 := Lib.hid (Blk.ext2 HB1.out hb)
                have HB25 := Lib.hid (Blk.ext2 HB2.out hb)
                have HH5 := Lib.hid (HH.out.trans (Holds.of_ext hb))
                clear hb HD HB1 HB2 HH s0 s1 s2 s3 s4 s5 s6 s7 f4 z0 z1 z2 z3 z4 z5 z6 z7 g0 g1 g2 g3 g4 g5 g6 g7 d0 d2 hpr hbv
                cases pr
                · have hT2 : ((k : Int) + 1) % (p.cells.length : Int) = T := (show ((k : Int) + 1) % p.n = T by simpa using hr)
                  have s0 := HB15.out.cell 0
                  have s1 := HB15.out.cell 1
                  have s2 := HB15.out.cell 2
                  have s3 := HB15.out.cell 3
                  have s4 := HB15.out.cell 4
                  have s5 := HB15.out.cell 5
                  have s6 := HB15.out.cell 6
                  have s7 := HB15.out.cell 7
                  simp [stR] at s0 s1 s2 s3 s4 s5 s6 s7
                  have f4 := HB15.out.free 4
                  have z0 := HB25.out.cell 0
                  have g0 := HB25.out.free 0
                  have z1 := HB25.out.cell 1
                  have g1 := HB25.out.free 1
                  have z2 := HB25.out.cell 2
                  have g2 := HB25.out.free 2
                  have z3 := HB25.out.cell 3
                  have g3 := HB25.out.free 3
                  have z4 := HB25.out.cell 4
                  have g4 := HB25.out.free 4
                  have z5 := HB25.out.cell 5
                  have g5 := HB25.out.free 5
                  have z6 := HB25.out.cell 6
                  have g6 := HB25.out.free 6
                  have z7 := HB25.out.cell 7
                  have g7 := HB25.out.free 7
                  simp [stZ] at z0 z1 z2 z3 z4 z5 z6 z7
                  have hpc : (p.cells.length : Int) ≠ 0 := by omega
                  have D0 := HD5.out.set HB15.out (by decide) h4 4 (.int .i64 T)
                  have R0 := (HB25.out.far (p := ⟨sb, 4, none⟩) (by simp) (.int .i64 T))
                  have D1 := D0.set R0 (by decide) h5 0 (.int .i64 Q.rows)
                  have R1 := R0.store 0 (.int .i64 Q.rows)
                  have D2 := D1.set R1 (by decide) h5 1 (.int .i64 Q.cols)
                  have R2 := R1.store 1 (.int .i64 Q.cols)
                  have D3 := D2.set R2 (by decide) h5 2 (.slice (some ⟨vb2, 0, none⟩) Q.cells.length cap2)
                  have R3 := R2.store 2 (.slice (some ⟨vb2, 0, none⟩) Q.cells.length cap2)
                  have D4 := D3.set R3 (by decide) h5 3 (.int .i64 Q.cur)
                  have R4 := R3.store 3 (.int .i64 Q.cur)
                  have D5 := D4.set R4 (by decide) h5 4 (.int .i64 T)
                  have R5 := R4.store 4 (.int .i64 T)
                  have D6 := D5.set R5 (by decide) h5 5 (.int .u8 li)
                  have R6 := R5.store 5 (.int .u8 li)
                  have D7 := D6.set R6 (by decide) h5 6 (.int .u8 co)
                  have R7 := R6.store 6 (.int .u8 co)
                  have D8 := D7.set R7 (by decide) h5 7 (.bool true)
                  have R8 := R7.store 7 (.bool true)
                  have H8 := (((((((((HH5.out.set sb 4 (.int .i64 T) hws).set (sb + 1) 0 (.int .i64 Q.rows) hrb).set (sb + 1) 1 (.int .i64 Q.cols) hrb).set (sb + 1) 2 (.slice (some ⟨vb2, 0, none⟩) Q.cells.length cap2) hrb).set (sb + 1) 3 (.int .i64 Q.cur) hrb).set (sb + 1) 4 (.int .i64 T) hrb).set (sb + 1) 5 (.int .u8 li) hrb).set (sb + 1) 6 (.int .u8 co) hrb).set (sb + 1) 7 (.bool true) hrb)
                  clear D0 R0 D1 R1 D2 R2 D3 R3 D4 R4 D5 R5 D6 R6 D7 R7
                  go_wp2_with fail
                  generalize (((((((((w5.setCell ⟨sb, 4, none⟩ (.int .i64 T)).setCell ⟨sb + 1, 0, none⟩ (.int .i64 Q.rows)).setCell ⟨sb + 1, 1, none⟩ (.int .i64 Q.cols)).setCell ⟨sb + 1, 2, none⟩ (.slice (some ⟨vb2, 0, none⟩) Q.cells.length cap2)).setCell ⟨sb + 1, 3, none⟩ (.int .i64 Q.cur)).setCell ⟨sb + 1, 4, none⟩ (.int .i64 T)).setCell ⟨sb + 1, 5, none⟩ (.int .u8 li)).setCell ⟨sb + 1, 6, none⟩ (.int .u8 co)).setCell ⟨sb + 1, 7, none⟩ (.bool true)) = Wf at D8 R8 H8 ⊢
                  have c0 := R8.cell 0
                  have c1 := R8.cell 1
                  have c2 := R8.cell 2
                  have c3 := R8.cell 3
                  have c4 := R8.cell 4
                  have c5 := R8.cell 5
                  have c6 := R8.cell 6
                  have c7 := R8.cell 7
                  simp [stZ] at c0 c1 c2 c3 c4 c5 c6 c7
                  refine bodyPost_ret (v := .agg #[.int .i64 Q.rows, .int .i64 Q.cols, .slice (some ⟨vb2, 0, none⟩) Q.cells.length cap2, .int .i64 Q.cur, .int .i64 T, .int .u8 li, .int .u8 co, .bool true]) (by simp [results, Try.results105, go_sem, c0, c1, c2, c3, c4, c5, c6, c7]) rfl ?_
                  exact ⟨_, by rw [HTP2.out, HT0.out], by rw [HTP2.out]; exact D8, H8⟩
                · have HR := Lib.hid (show Q.tabK ((k : Int) + 1) (p.n - ((k : Int) + 1)).toNat = T by simpa using hr)
                  clear hr
                  go_wp2_with fail
                  go_roundw
                  case rel => exact ⟨(k : Int) + 1, by go_num, by omega, by omega, HR, HB15, HB25, HD5, HH5⟩
                  case measure => simp [intOf]; omega
            · have hT2 : (0 : Int) = T := by
                have hr := HT.out
                rw [show (p.n - (k : Int)).toNat = 0 by omega] at hr
                unfold Pl.tabK at hr
                exact hr
              have hpk : ¬ (k : Int) < (p.cells.length : Int) := hlt
              have D0 := HD.out.set HB1.out (by decide) h4 4 (.int .i64 T)
              have R0 := (HB2.out.far (p := ⟨sb, 4, none⟩) (by simp) (.int .i64 T))
              have D1 := D0.set R0 (by decide) h5 0 (.int .i64 Q.rows)
              have R1 := R0.store 0 (.int .i64 Q.rows)
              have D2 := D1.set R1 (by decide) h5 1 (.int .i64 Q.cols)
              have R2 := R1.store 1 (.int .i64 Q.cols)
              have D3 := D2.set R2 (by decide) h5 2 (.slice (some ⟨vb2, 0, none⟩) Q.cells.length cap2)
              have R3 := R2.store 2 (.slice (some ⟨vb2, 0, none⟩) Q.cells.length cap2)
              have D4 := D3.set R3 (by decide) h5 3 (.int .i64 Q.cur)
              have R4 := R3.store 3 (.int .i64 Q.cur)
              have D5 := D4.set R4 (by decide) h5 4 (.int .i64 T)
              have R5 := R4.store 4 (.int .i64 T)
              have D6 := D5.set R5 (by decide) h5 5 (.int .u8 li)
              have R6 := R5.store 5 (.int .u8 li)
              have D7 := D6.set R6 (by decide) h5 6 (.int .u8 co)
              have R7 := R6.store 6 (.int .u8 co)
              have D8 := D7.set R7 (by decide) h5 7 (.bool true)
              have R8 := R7.store 7 (.bool true)
              have H8 := (((((((((HH.out.set sb 4 (.int .i64 T) hws).set (sb + 1) 0 (.int .i64 Q.rows) hrb).set (sb + 1) 1 (.int .i64 Q.cols) hrb).set (sb + 1) 2 (.slice (some ⟨vb2, 0, none⟩) Q.cells.length cap2) hrb).set (sb + 1) 3 (.int .i64 Q.cur) hrb).set (sb + 1) 4 (.int .i64 T) hrb).set (sb + 1) 5 (.int .u8 li) hrb).set (sb + 1) 6 (.int .u8 co) hrb).set (sb + 1) 7 (.bool true) hrb)
              clear D0 R0 D1 R1 D2 R2 D3 R3 D4 R4 D5 R5 D6 R6 D7 R7
              go_wp2_with fail
              generalize (((((((((wr.setCell ⟨sb, 4, none⟩ (.int .i64 T)).setCell ⟨sb + 1, 0, none⟩ (.int .i64 Q.rows)).setCell ⟨sb + 1, 1, none⟩ (.int .i64 Q.cols)).setCell ⟨sb + 1, 2, none⟩ (.slice (some ⟨vb2, 0, none⟩) Q.cells.length cap2)).setCell ⟨sb + 1, 3, none⟩ (.int .i64 Q.cur)).setCell ⟨sb + 1, 4, none⟩ (.int .i64 T)).setCell ⟨sb + 1, 5, none⟩ (.int .u8 li)).setCell ⟨sb + 1, 6, none⟩ (.int .u8 co)).setCell ⟨sb + 1, 7, none⟩ (.bool true)) = Wf at D8 R8 H8 ⊢
              have c0 := R8.cell 0
              have c1 := R8.cell 1
              have c2 := R8.cell 2
              have c3 := R8.cell 3
              have c4 := R8.cell 4
              have c5 := R8.cell 5
              have c6 := R8.cell 6
              have c7 := R8.cell 7
              simp [stZ] at c0 c1 c2 c3 c4 c5 c6 c7
              refine bodyPost_ret (v := .agg #[.int .i64 Q.rows, .int .i64 Q.cols, .slice (some ⟨vb2, 0, none⟩) Q.cells.length cap2, .int .i64 Q.cur, .int .i64 T, .int .u8 li, .int .u8 co, .bool true]) (by simp [results, Try.results105, go_sem, c0, c1, c2, c3, c4, c5, c6, c7]) rfl ?_
              exact ⟨_, by rw [HTP2.out, HT0.out], by rw [HTP2.out]; exact D8, H8⟩
      · have hr := HF.out
        rw [show (p.n - (k : Int)).toNat = 0 by omega] at hr
        unfold Pl.restK at hr
        have HTP2 := Lib.hid (show p.tabP i true = Q by rw [HTP.out]; exact hr.symm)
        have hpk : ¬ (k : Int) < (p.cells.length : Int) := hlt
        clear hr HF hcell
        have s4 := HB1.out.cell 4
        simp [stR] at s4
        obtain ⟨T, hT⟩ : ∃ T, Q.tabK i (p.n - i).toNat = T := ⟨_, rfl⟩
        have HT0 := Lib.hid hT
        clear hT
        go_wp2_with fail
        go_loopw [60, 5] (fun _ v5 wr => ∃ a : Int, v5 = .int .i64 a ∧ 0 ≤ a ∧ a ≤ p.n ∧ Hid (Q.tabK a (p.n - a).toNat = T) ∧ Hid (Blk wr sb 111 (stR Q (.slice (some ⟨vb2, 0, none⟩) Q.cells.length cap2) i li co true)) ∧ Hid (Blk wr (sb + 1) 111 stZ) ∧ Hid (DP w0 wr c (.slice (some ⟨vb2, 0, none⟩) Q.cells.length cap2) Q) ∧ Hid (Holds c w wr)) (fun _ v _ => (p.n - intOf v).toNat)
        case atStart => exact ⟨i, rfl, i0, by omega, HT0, HB1, HB2, HD, HH⟩
        case round =>
          obtain ⟨a, rfl, a0, a1, HT, HB1, HB2, HD, HH⟩ := hrel
          obtain ⟨k, rfl⟩ := Int.eq_ofNat_of_zero_le a0
          obtain ⟨vb4, cap4, e4, hcell⟩ := HD.out.cells (by have := HOK.out.sz.n0; unfold Pl.n at this; omega)
          injection e4 with e5 e5' e6
          cases e5
          clear e5'
          subst e6
          have hcap : (0 : Nat) = 0 := rfl
          have h4 : w0.heap.size ≤ sb := by omega
          have h5 : w0.heap.size ≤ sb + 1 := by omega
          have s0 := HB1.out.cell 0
          have s1 := HB1.out.cell 1
          have s2 := HB1.out.cell 2
          have s3 := HB1.out.cell 3
          have s4 := HB1.out.cell 4
          have s5 := HB1.out.cell 5
          have s6 := HB1.out.cell 6
          have s7 := HB1.out.cell 7
          simp [stR] at s0 s1 s2 s3 s4 s5 s6 s7
          have f4 := HB1.out.free 4
          have z0 := HB2.out.cell 0
          have g0 := HB2.out.free 0
          have z1 := HB2.out.cell 1
          have g1 := HB2.out.free 1
          have z2 := HB2.out.cell 2
          have g2 := HB2.out.free 2
          have z3 := HB2.out.cell 3
          have g3 := HB2.out.free 3
          have z4 := HB2.out.cell 4
          have g4 := HB2.out.free 4
          have z5 := HB2.out.cell 5
          have g5 := HB2.out.free 5
          have z6 := HB2.out.cell 6
          have g6 := HB2.out.free 6
          have z7 := HB2.out.cell 7
          have g7 := HB2.out.free 7
          simp [stZ] at z0 z1 z2 z3 z4 z5 z6 z7
          by_cases hlt : (k : Int) < p.n
          · have hk : k < Q.cells.length := by omega
            have hqk : (k : Int) < (Q.cells.length : Int) := by omega
            have hpk : (k : Int) < (p.cells.length : Int) := hlt
            have d0 := hcell k hk 0 _ rfl
            have d2 := hcell k hk 2 _ rfl
            have hat : Q.at (k : Int) = Q.cells[k] := by unfold Pl.at; rw [if_pos ⟨by omega, by rw [hq]; exact hlt⟩]; simp [hk]
            have hyb := HOK.out.by_ _ (List.getElem_mem hk)
            have hr := HT.out
            rw [show (p.n - (k : Int)).toNat = (p.n - ((k : Int) + 1)).toNat + 1 by omega] at hr
            unfold Pl.tabK Pl.st at hr
            rw [hq, if_pos hlt, hat] at hr
            simp only [Nat.add_zero] at d0
            clear hcell hat
            generalize Q.cells[k] = y at *
            cases hs : y.st
            · rw [hs] at hr d2
              have HR := Lib.hid (show Q.tabK ((k : Int) + 1) (p.n - ((k : Int) + 1)).toNat = T by simpa using hr)
              clear hr
              go_wp2_with fail
              go_roundw
              case rel => exact ⟨(k : Int) + 1, by go_num, by omega, by omega, HR, HB1, HB2, HD, HH⟩
              case measure => simp [intOf]; omega
            · rw [hs] at hr d2
              obtain ⟨pr, hpr⟩ : ∃ pr, bitB y.b 32 = pr := ⟨_, rfl⟩
              have hbv := (bitV_B y.b hyb).1
              rw [hpr] at hr hbv
              go_wp2_with fail
              refine (RBit32_any y.b hyb _).mono ?_
              rintro e w5 ⟨rfl, hb⟩
              rw [hbv]
              have HD5 := Lib.hid (HD.out.ext hb)
              have HB15 := Lib.hid (Blk.ext2 HB1.out hb)
              have HB25 := Lib.hid (Blk.ext2 HB2.out hb)
              have HH5 := Lib.hid (HH.out.trans (Holds.of_ext hb))
              clear hb HD HB1 HB2 HH s0 s1 s2 s3 s4 s5 s6 s7 f4 z0 z1 z2 z3 z4 z5 z6 z7 g0 g1 g2 g3 g4 g5 g6 g7 d0 d2 hpr hbv
              cases pr
              · have hT2 : ((k : Int) + 1) % (p.cells.length : Int) = T := (show ((k : Int) + 1) % p.n = T by simpa using hr)
                have s0 := HB15.out.cell 0
                have s1 := HB15.out.cell 1
                have s2 := HB15.out.cell 2
                have s3 := HB15.out.cell 3
                have s4 := HB15.out.cell 4
                have s5 := HB15.out.cell 5
                have s6 := HB15.out.cell 6
                have s7 := HB15.out.cell 7
                simp [stR] at s0 s1 s2 s3 s4 s5 s6 s7
                have f4 := HB15.out.free 4
                have z0 := HB25.out.cell 0
                have g0 := HB25.out.free 0
                have z1 := HB25.out.cell 1
                have g1 := HB25.out.free 1
                have z2 := HB25.out.cell 2
                have g2 := HB25.out.free 2
                have z3 := HB25.out.cell 3
                have g3 := HB25.out.free 3
                have z4 := HB25.out.cell 4
                have g4 := HB25.out.free 4
                have z5 := HB25.out.cell 5
                have g5 := HB25.out.free 5
                have z6 := HB25.out.cell 6
                have g6 := HB25.out.free 6
                have z7 := HB25.out.cell 7
                have g7 := HB25.out.free 7
                simp [stZ] at z0 z1 z2 z3 z4 z5 z6 z7
                have hpc : (p.cells.length : Int) ≠ 0 := by omega
                have D0 := HD5.out.set HB15.out (by decide) h4 4 (.int .i64 T)
                have R0 := (HB25.out.far (p := ⟨sb, 4, none⟩) (by simp) (.int .i64 T))
                have D1 := D0.set R0 (by decide) h5 0 (.int .i64 Q.rows)
                have R1 := R0.store 0 (.int .i64 Q.rows)
                have D2 := D1.set R1 (by decide) h5 1 (.int .i64 Q.cols)
                have R2 := R1.store 1 (.int .i64 Q.cols)
                have D3 := D2.set R2 (by decide) h5 2 (.slice (some ⟨vb2, 0, none⟩) Q.cells.length cap2)
                have R3 := R2.store 2 (.slice (some ⟨vb2, 0, none⟩) Q.cells.length cap2)
                have D4 := D3.set R3 (by decide) h5 3 (.int .i64 Q.cur)
                have R4 := R3.store 3 (.int .i64 Q.cur)
                have D5 := D4.set R4 (by decide) h5 4 (.int .i64 T)
                have R5 := R4.store 4 (.int .i64 T)
                have D6 := D5.set R5 (by decide) h5 5 (.int .u8 li)
                have R6 := R5.store 5 (.int .u8 li)
                have D7 := D6.set R6 (by decide) h5 6 (.int .u8 co)
                have R7 := R6.store 6 (.int .u8 co)
                have D8 := D7.set R7 (by decide) h5 7 (.bool true)
                have R8 := R7.store 7 (.bool true)
                have H8 := (((((((((HH5.out.set sb 4 (.int .i64 T) hws).set (sb + 1) 0 (.int .i64 Q.rows) hrb).set (sb + 1) 1 (.int .i64 Q.cols) hrb).set (sb + 1) 2 (.slice (some ⟨vb2, 0, none⟩) Q.cells.length cap2) hrb).set (sb + 1) 3 (.int .i64 Q.cur) hrb).set (sb + 1) 4 (.int .i64 T) hrb).set (sb + 1) 5 (.int .u8 li) hrb).set (sb + 1) 6 (.int .u8 co) hrb).set (sb + 1) 7 (.bool true) hrb)
                clear D0 R0 D1 R1 D2 R2 D3 R3 D4 R4 D5 R5 D6 R6 D7 R7
                go_wp2_with fail
                generalize (((((((((w5.setCell ⟨sb, 4, none⟩ (.int .i64 T)).setCell ⟨sb + 1, 0, none⟩ (.int .i64 Q.rows)).setCell ⟨sb + 1, 1, none⟩ (.int .i64 Q.cols)).setCell ⟨sb + 1, 2, none⟩ (.slice (some ⟨vb2, 0, none⟩) Q.cells.length cap2)).setCell ⟨sb + 1, 3, none⟩ (.int .i64 Q.cur)).setCell ⟨sb + 1, 4, none⟩ (.int .i64 T)).setCell ⟨sb + 1, 5, none⟩ (.int .u8 li)).setCell ⟨sb + 1, 6, none⟩ (.int .u8 co)).setCell ⟨sb + 1, 7, none⟩ (.bool true)) = Wf at D8 R8 H8 ⊢
                have c0 := R8.cell 0
                have c1 := R8.cell 1
                have c2 := R8.cell 2
                have c3 := R8.cell 3
                have c4 := R8.cell 4
                have c5 := R8.cell 5
                have c6 := R8.cell 6
                have c7 := R8.cell 7
                simp [stZ] at c0 c1 c2 c3 c4 c5 c6 c7
                refine bodyPost_ret (v := .agg #[.int .i64 Q.rows, .int .i64 Q.cols, .slice (some ⟨vb2, 0, none⟩) Q.cells.length cap2, .int .i64 Q.cur, .int .i64 T, .int .u8 li, .int .u8 co, .bool true]) (by simp [results, Try.results105, go_sem, c0, c1, c2, c3, c4, c5, c6, c7]) rfl ?_
                exact ⟨_, by rw [HTP2.out, HT0.out], by rw [HTP2.out]; exact D8, H8⟩
              · have HR := Lib.hid (show Q.tabK ((k : Int) + 1) (p.n - ((k : Int) + 1)).toNat = T by simpa using hr)
                clear hr
                go_wp2_with fail
                go_roundw
                case rel => exact ⟨(k : Int) + 1, by go_num, by omega, by omega, HR, HB15, HB25, HD5, HH5⟩
                case measure => simp [intOf]; omega
          · have hT2 : (0 : Int) = T := by
              have hr := HT.out
              rw [show (p.n - (k : Int)).toNat = 0 by omega] at hr
              unfold Pl.tabK at hr
              exact hr
            have hpk : ¬ (k : Int) < (p.cells.length : Int) := hlt
            have D0 := HD.out.set HB1.out (by decide) h4 4 (.int .i64 T)
            have R0 := (HB2.out.far (p := ⟨sb, 4, none⟩) (by simp) (.int .i64 T))
            have D1 := D0.set R0 (by decide) h5 0 (.int .i64 Q.rows)
            have R1 := R0.store 0 (.int .i64 Q.rows)
            have D2 := D1.set R1 (by decide) h5 1 (.int .i64 Q.cols)
            have R2 := R1.store 1 (.int .i64 Q.cols)
            have D3 := D2.set R2 (by decide) h5 2 (.slice (some ⟨vb2, 0, none⟩) Q.cells.length cap2)
            have R3 := R2.store 2 (.slice (some ⟨vb2, 0, none⟩) Q.cells.length cap2)
            have D4 := D3.set R3 (by decide) h5 3 (.int .i64 Q.cur)
            have R4 := R3.store 3 (.int .i64 Q.cur)
            have D5 := D4.set R4 (by decide) h5 4 (.int .i64 T)
            have R5 := R4.store 4 (.int .i64 T)
            have D6 := D5.set R5 (by decide) h5 5 (.int .u8 li)
            have R6 := R5.store 5 (.int .u8 li)
            have D7 := D6.set R6 (by decide) h5 6 (.int .u8 co)
            have R7 := R6.store 6 (.int .u8 co)
            have D8 := D7.set R7 (by decide) h5 7 (.bool true)
            have R8 := R7.store 7 (.bool true)
            have H8 := (((((((((HH.out.set sb 4 (.int .i64 T) hws).set (sb + 1) 0 (.int .i64 Q.rows) hrb).set (sb + 1) 1 (.int .i64 Q.cols) hrb).set (sb + 1) 2 (.slice (some ⟨vb2, 0, none⟩) Q.cells.length cap2) hrb).set (sb + 1) 3 (.int .i64 Q.cur) hrb).set (sb + 1) 4 (.int .i64 T) hrb).set (sb + 1) 5 (.int .u8 li) hrb).set (sb + 1) 6 (.int .u8 co) hrb).set (sb + 1) 7 (.bool true) hrb)
            clear D0 R0 D1 R1 D2 R2 D3 R3 D4 R4 D5 R5 D6 R6 D7 R7
            go_wp2_with fail
            generalize (((((((((wr.setCell ⟨sb, 4, none⟩ (.int .i64 T)).setCell ⟨sb + 1, 0, none⟩ (.int .i64 Q.rows)).setCell ⟨sb + 1, 1, none⟩ (.int .i64 Q.cols)).setCell ⟨sb + 1, 2, none⟩ (.slice (some ⟨vb2, 0, none⟩) Q.cells.length cap2)).setCell ⟨sb + 1, 3, none⟩ (.int .i64 Q.cur)).setCell ⟨sb + 1, 4, none⟩ (.int .i64 T)).setCell ⟨sb + 1, 5, none⟩ (.int .u8 li)).setCell ⟨sb + 1, 6, none⟩ (.int .u8 co)).setCell ⟨sb + 1, 7, none⟩ (.bool true)) = Wf at D8 R8 H8 ⊢
            have c0 := R8.cell 0
            have c1 := R8.cell 1
            have c2 := R8.cell 2
            have c3 := R8.cell 3
            have c4 := R8.cell 4
            have c5 := R8.cell 5
            have c6 := R8.cell 6
            have c7 := R8.cell 7
            simp [stZ] at c0 c1 c2 c3 c4 c5 c6 c7
            refine bodyPost_ret (v := .agg #[.int .i64 Q.rows, .int .i64 Q.cols, .slice (some ⟨vb2, 0, none⟩) Q.cells.length cap2, .int .i64 Q.cur, .int .i64 T, .int .u8 li, .int .u8 co, .bool true]) (by simp [results, Try.results105, go_sem, c0, c1, c2, c3, c4, c5, c6, c7]) rfl ?_
            exact ⟨_, by rw [HTP2.out, HT0.out], by rw [HTP2.out]; exact D8, H8⟩
theorem rTab {w0 w : World} {c : Nat} {v : Value} {p : Pl} (hok : p.Ok) (hc : c < w.heap.size) (h : DP w0 w c v p) (i li co : Int) (ld : Bool) (i0 : 0 ≤ i) (i1 : i < p.n) :
    Calls Try.prog 105 #[stV p v i li co ld] w (DTo w0 c (fun v2 => stV (p.tabP i ld) v2 ((p.tabP i ld).tabK i (p.n - i).toNat) li co ld) (p.tabP i ld) w) := by
  cases ld
  · exact rTab0 hok hc h i li co i0 i1
  · exact rTab1 hok hc h i li co i0 i1
end Go.Proofs.Ytmcfckdgolojlaa
