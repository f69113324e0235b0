import Derived.Test.YtmcfckdgolojlaaZG8
/- Chapter 16: do. -/
namespace Go.Proofs.Ytmcfckdgolojlaa
set_option linter.unusedVariables false
set_option linter.unusedSimpArgs false
open Go.RowKit
set_option maxRecDepth 100000 in
set_option maxHeartbeats 4000000 in
theorem do_data (u g c : Nat) (b : Br) (A B : Option Addr) (cA cB : Nat) (o : Ord) (hk : o.k = 0) (w : World) (h : BrAt w u g c b) (ho : OrAt [u, g, c] w A B o) : Calls Try.prog 77 #[.pointer (some ⟨u, 0, none⟩), .agg #[.int .u8 o.k, .int .i64 o.a, .int .u8 o.b, .bool o.ge, .slice A o.ps.length cA, .slice B o.da.length cB]] w (Ret1 (.int .i64 0) (BrTo u g c { b.data o.da with laid := decide (0 < o.da.length) } w)) := by
  have hF := data_any u g c b A B cA cB o
  rw [hk] at hF
  have HF := Lib.hid hF
  have HK := Lib.hid hk
  clear hF hk
  have HB := Lib.hid h
  have HO := Lib.hid ho
  clear h ho
  go_enter Try.func77, Try.ntmps77
  go_upto_region 1 with (fail)
  have hE := Ext_alloc (o := .cells #[.int .u8 o.k, .int .i64 o.a, .int .u8 o.b, .bool o.ge, .slice A o.ps.length cA, .slice B o.da.length cB] 71) (Ext_refl w)
  have hB := Blk.new w 71 #[.int .u8 o.k, .int .i64 o.a, .int .u8 o.b, .bool o.ge, .slice A o.ps.length cA, .slice B o.da.length cB]
  generalize w.alloc (.cells #[.int .u8 o.k, .int .i64 o.a, .int .u8 o.b, .bool o.ge, .slice A o.ps.length cA, .slice B o.da.length cB] 71) = W1 at *
  have H1 := Lib.hid (HB.out.ext hE)
  have HO1 := Lib.hid (HO.out.ext hE)
  have HE := Lib.hid hE
  clear HB HO hE
  generalize w.heap.size = bx at *
  have z0 := hB.cell 0
  have z1 := hB.cell 1
  have z2 := hB.cell 2
  have z3 := hB.cell 3
  have z4 := hB.cell 4
  have z5 := hB.cell 5
  have k0 := H1.out.obj.cell 0
  have k1 := H1.out.obj.cell 1
  have k2 := H1.out.obj.cell 2
  have k3 := H1.out.obj.cell 3
  have k4 := H1.out.obj.cell 4
  have k5 := H1.out.obj.cell 5
  have k6 := H1.out.obj.cell 6
  have k7 := H1.out.obj.cell 7
  simp [Br.row] at z0 z1 z2 z3 z4 z5 k0 k1 k2 k3 k4 k5 k6 k7
  rw [HK.out] at z0
  have hbx := H1.out.box hB
  clear k0 k1 k2 k3 k4 k5 k6 k7
  have HC1 := Lib.hid (Chg.of_ext HE.out [u, g, c])
  by_cases hd : 0 < o.da.length
  · have hd2 : decide ((0 : Int) < (o.da.length : Int)) = true := decide_eq_true (by omega)
    have hd3 : (0 : Int) < (o.da.length : Int) := by omega
    go_wp2_with fail
    refine (HF.out _ H1.out HO1.out).mono ?_
    rintro e w2 ⟨rfl, hb2, hc2⟩
    have z0 := (Chg.cellB (i := 0) hc2 hbx hB.lt).trans z0
    have z5 := (Chg.cellB (i := 5) hc2 hbx hB.lt).trans z5
    have H2 := Lib.hid hb2
    have HC2 := Lib.hid (HC1.out.trans hc2)
    clear hb2 hc2 H1 HO1 HC1
    have k7 := H2.out.obj.cell 7
    have f7 := H2.out.obj.free 7
    simp [Br.row] at k7
    go_wp2_with fail
    go_ret
    exact ⟨rfl, (by rw [decide_eq_true hd]; exact H2.out.store_laid _), HC2.out.set u 7 _ (.inl (by simp))⟩
  · have hd2 : decide ((0 : Int) < (o.da.length : Int)) = false := decide_eq_false (by omega)
    have hd3 : ¬ (0 : Int) < (o.da.length : Int) := by omega
    go_wp2_with fail
    refine (HF.out _ H1.out HO1.out).mono ?_
    rintro e w2 ⟨rfl, hb2, hc2⟩
    have z0 := (Chg.cellB (i := 0) hc2 hbx hB.lt).trans z0
    have z5 := (Chg.cellB (i := 5) hc2 hbx hB.lt).trans z5
    have H2 := Lib.hid hb2
    have HC2 := Lib.hid (HC1.out.trans hc2)
    clear hb2 hc2 H1 HO1 HC1
    have k7 := H2.out.obj.cell 7
    have f7 := H2.out.obj.free 7
    simp [Br.row] at k7
    go_wp2_with fail
    go_ret
    exact ⟨rfl, (by rw [decide_eq_false hd]; exact H2.out.store_laid _), HC2.out.set u 7 _ (.inl (by simp))⟩
set_option maxRecDepth 100000 in
set_option maxHeartbeats 4000000 in
theorem do_special (u g c : Nat) (b : Br) (A B : Option Addr) (cA cB : Nat) (o : Ord) (hk : o.k = 8) (w : World) (h : BrAt w u g c b) (ho : OrAt [u, g, c] w A B o) : Calls Try.prog 77 #[.pointer (some ⟨u, 0, none⟩), .agg #[.int .u8 o.k, .int .i64 o.a, .int .u8 o.b, .bool o.ge, .slice A o.ps.length cA, .slice B o.da.length cB]] w (Ret1 (.int .i64 0) (BrTo u g c { b.lay (b.char o.b true) with laid := true } w)) := by
  have hF := special_any u g c b A B cA cB o
  rw [hk] at hF
  have HF := Lib.hid hF
  have HK := Lib.hid hk
  clear hF hk
  have HB := Lib.hid h
  have HO := Lib.hid ho
  clear h ho
  go_enter Try.func77, Try.ntmps77
  go_upto_region 1 with (fail)
  have hE := Ext_alloc (o := .cells #[.int .u8 o.k, .int .i64 o.a, .int .u8 o.b, .bool o.ge, .slice A o.ps.length cA, .slice B o.da.length cB] 71) (Ext_refl w)
  have hB := Blk.new w 71 #[.int .u8 o.k, .int .i64 o.a, .int .u8 o.b, .bool o.ge, .slice A o.ps.length cA, .slice B o.da.length cB]
  generalize w.alloc (.cells #[.int .u8 o.k, .int .i64 o.a, .int .u8 o.b, .bool o.ge, .slice A o.ps.length cA, .slice B o.da.length cB] 71) = W1 at *
  have H1 := Lib.hid (HB.out.ext hE)
  have HO1 := Lib.hid (HO.out.ext hE)
  have HE := Lib.hid hE
  clear HB HO hE
  generalize w.heap.size = bx at *
  have z0 := hB.cell 0
  have z1 := hB.cell 1
  have z2 := hB.cell 2
  have z3 := hB.cell 3
  have z4 := hB.cell 4
  have z5 := hB.cell 5
  have k0 := H1.out.obj.cell 0
  have k1 := H1.out.obj.cell 1
  have k2 := H1.out.obj.cell 2
  have k3 := H1.out.obj.cell 3
  have k4 := H1.out.obj.cell 4
  have k5 := H1.out.obj.cell 5
  have k6 := H1.out.obj.cell 6
  have k7 := H1.out.obj.cell 7
  simp [Br.row] at z0 z1 z2 z3 z4 z5 k0 k1 k2 k3 k4 k5 k6 k7
  rw [HK.out] at z0
  have hbx := H1.out.box hB
  clear k0 k1 k2 k3 k4 k5 k6 k7
  have HC1 := Lib.hid (Chg.of_ext HE.out [u, g, c])
  go_wp2_with fail
  refine (HF.out _ H1.out HO1.out).mono ?_
  rintro e w2 ⟨rfl, hb2, hc2⟩
  have z0 := (Chg.cellB (i := 0) hc2 hbx hB.lt).trans z0
  have z5 := (Chg.cellB (i := 5) hc2 hbx hB.lt).trans z5
  have H2 := Lib.hid hb2
  have HC2 := Lib.hid (HC1.out.trans hc2)
  clear hb2 hc2 H1 HO1 HC1
  have k7 := H2.out.obj.cell 7
  have f7 := H2.out.obj.free 7
  simp [Br.row] at k7
  go_wp2_with fail
  go_ret
  exact ⟨rfl, H2.out.store_laid _, HC2.out.set u 7 _ (.inl (by simp))⟩
set_option maxRecDepth 100000 in
set_option maxHeartbeats 4000000 in
theorem do_jump_yes (u g c : Nat) (b : Br) (A B : Option Addr) (cA cB : Nat) (o : Ord) (hk : o.k = 17) (hh : 0 ≤ o.a ∧ o.a < b.p.n) (w : World) (h : BrAt w u g c b) (ho : OrAt [u, g, c] w A B o) : Calls Try.prog 77 #[.pointer (some ⟨u, 0, none⟩), .agg #[.int .u8 o.k, .int .i64 o.a, .int .u8 o.b, .bool o.ge, .slice A o.ps.length cA, .slice B o.da.length cB]] w (Ret1 (.int .i64 0) (BrTo u g c { { b with at_ := o.a } with laid := false } w)) := by
  have hF := jump_yes u g c b A B cA cB o hh
  rw [hk] at hF
  have HF := Lib.hid hF
  have HK := Lib.hid hk
  clear hF hk
  have HB := Lib.hid h
  have HO := Lib.hid ho
  clear h ho
  go_enter Try.func77, Try.ntmps77
  go_upto_region 1 with (fail)
  have hE := Ext_alloc (o := .cells #[.int .u8 o.k, .int .i64 o.a, .int .u8 o.b, .bool o.ge, .slice A o.ps.length cA, .slice B o.da.length cB] 71) (Ext_refl w)
  have hB := Blk.new w 71 #[.int .u8 o.k, .int .i64 o.a, .int .u8 o.b, .bool o.ge, .slice A o.ps.length cA, .slice B o.da.length cB]
  generalize w.alloc (.cells #[.int .u8 o.k, .int .i64 o.a, .int .u8 o.b, .bool o.ge, .slice A o.ps.length cA, .slice B o.da.length cB] 71) = W1 at *
  have H1 := Lib.hid (HB.out.ext hE)
  have HO1 := Lib.hid (HO.out.ext hE)
  have HE := Lib.hid hE
  clear HB HO hE
  generalize w.heap.size = bx at *
  have z0 := hB.cell 0
  have z1 := hB.cell 1
  have z2 := hB.cell 2
  have z3 := hB.cell 3
  have z4 := hB.cell 4
  have z5 := hB.cell 5
  have k0 := H1.out.obj.cell 0
  have k1 := H1.out.obj.cell 1
  have k2 := H1.out.obj.cell 2
  have k3 := H1.out.obj.cell 3
  have k4 := H1.out.obj.cell 4
  have k5 := H1.out.obj.cell 5
  have k6 := H1.out.obj.cell 6
  have k7 := H1.out.obj.cell 7
  simp [Br.row] at z0 z1 z2 z3 z4 z5 k0 k1 k2 k3 k4 k5 k6 k7
  rw [HK.out] at z0
  have hbx := H1.out.box hB
  clear k0 k1 k2 k3 k4 k5 k6 k7
  have HC1 := Lib.hid (Chg.of_ext HE.out [u, g, c])
  go_wp2_with fail
  refine (HF.out _ H1.out HO1.out).mono ?_
  rintro e w2 ⟨rfl, hb2, hc2⟩
  have z0 := (Chg.cellB (i := 0) hc2 hbx hB.lt).trans z0
  have z5 := (Chg.cellB (i := 5) hc2 hbx hB.lt).trans z5
  have H2 := Lib.hid hb2
  have HC2 := Lib.hid (HC1.out.trans hc2)
  clear hb2 hc2 H1 HO1 HC1
  have k7 := H2.out.obj.cell 7
  have f7 := H2.out.obj.free 7
  simp [Br.row] at k7
  go_wp2_with fail
  go_ret
  exact ⟨rfl, H2.out.store_laid _, HC2.out.set u 7 _ (.inl (by simp))⟩
set_option maxRecDepth 100000 in
set_option maxHeartbeats 4000000 in
theorem do_jump_no (u g c : Nat) (b : Br) (A B : Option Addr) (cA cB : Nat) (o : Ord) (hk : o.k = 17) (hh : ¬ (0 ≤ o.a ∧ o.a < b.p.n)) (w : World) (h : BrAt w u g c b) (ho : OrAt [u, g, c] w A B o) : Calls Try.prog 77 #[.pointer (some ⟨u, 0, none⟩), .agg #[.int .u8 o.k, .int .i64 o.a, .int .u8 o.b, .bool o.ge, .slice A o.ps.length cA, .slice B o.da.length cB]] w (Ret1 (.int .i64 32) (BrTo u g c { b with laid := false } w)) := by
  have hF := jump_no u g c b A B cA cB o hh
  rw [hk] at hF
  have HF := Lib.hid hF
  have HK := Lib.hid hk
  clear hF hk
  have HB := Lib.hid h
  have HO := Lib.hid ho
  clear h ho
  go_enter Try.func77, Try.ntmps77
  go_upto_region 1 with (fail)
  have hE := Ext_alloc (o := .cells #[.int .u8 o.k, .int .i64 o.a, .int .u8 o.b, .bool o.ge, .slice A o.ps.length cA, .slice B o.da.length cB] 71) (Ext_refl w)
  have hB := Blk.new w 71 #[.int .u8 o.k, .int .i64 o.a, .int .u8 o.b, .bool o.ge, .slice A o.ps.length cA, .slice B o.da.length cB]
  generalize w.alloc (.cells #[.int .u8 o.k, .int .i64 o.a, .int .u8 o.b, .bool o.ge, .slice A o.ps.length cA, .slice B o.da.length cB] 71) = W1 at *
  have H1 := Lib.hid (HB.out.ext hE)
  have HO1 := Lib.hid (HO.out.ext hE)
  have HE := Lib.hid hE
  clear HB HO hE
  generalize w.heap.size = bx at *
  have z0 := hB.cell 0
  have z1 := hB.cell 1
  have z2 := hB.cell 2
  have z3 := hB.cell 3
  have z4 := hB.cell 4
  have z5 := hB.cell 5
  have k0 := H1.out.obj.cell 0
  have k1 := H1.out.obj.cell 1
  have k2 := H1.out.obj.cell 2
  have k3 := H1.out.obj.cell 3
  have k4 := H1.out.obj.cell 4
  have k5 := H1.out.obj.cell 5
  have k6 := H1.out.obj.cell 6
  have k7 := H1.out.obj.cell 7
  simp [Br.row] at z0 z1 z2 z3 z4 z5 k0 k1 k2 k3 k4 k5 k6 k7
  rw [HK.out] at z0
  have hbx := H1.out.box hB
  clear k0 k1 k2 k3 k4 k5 k6 k7
  have HC1 := Lib.hid (Chg.of_ext HE.out [u, g, c])
  go_wp2_with fail
  refine (HF.out _ H1.out HO1.out).mono ?_
  rintro e w2 ⟨rfl, hb2, hc2⟩
  have z0 := (Chg.cellB (i := 0) hc2 hbx hB.lt).trans z0
  have z5 := (Chg.cellB (i := 5) hc2 hbx hB.lt).trans z5
  have H2 := Lib.hid hb2
  have HC2 := Lib.hid (HC1.out.trans hc2)
  clear hb2 hc2 H1 HO1 HC1
  have k7 := H2.out.obj.cell 7
  have f7 := H2.out.obj.free 7
  simp [Br.row] at k7
  go_wp2_with fail
  go_ret
  exact ⟨rfl, H2.out.store_laid _, HC2.out.set u 7 _ (.inl (by simp))⟩
set_option maxRecDepth 100000 in
set_option maxHeartbeats 4000000 in
theorem do_sf (u g c : Nat) (b : Br) (A B : Option Addr) (cA cB : Nat) (o : Ord) (hk : o.k = 29) (w : World) (h : BrAt w u g c b) (ho : OrAt [u, g, c] w A B o) : Calls Try.prog 77 #[.pointer (some ⟨u, 0, none⟩), .agg #[.int .u8 o.k, .int .i64 o.a, .int .u8 o.b, .bool o.ge, .slice A o.ps.length cA, .slice B o.da.length cB]] w (Ret1 (.int .i64 0) (BrTo u g c { b.lay o.attr with laid := false } w)) := by
  have hF := start_sf u g c b A B cA cB o hk
  rw [hk] at hF
  have HF := Lib.hid hF
  have HK := Lib.hid hk
  clear hF hk
  have HB := Lib.hid h
  have HO := Lib.hid ho
  clear h ho
  go_enter Try.func77, Try.ntmps77
  go_upto_region 1 with (fail)
  have hE := Ext_alloc (o := .cells #[.int .u8 o.k, .int .i64 o.a, .int .u8 o.b, .bool o.ge, .slice A o.ps.length cA, .slice B o.da.length cB] 71) (Ext_refl w)
  have hB := Blk.new w 71 #[.int .u8 o.k, .int .i64 o.a, .int .u8 o.b, .bool o.ge, .slice A o.ps.length cA, .slice B o.da.length cB]
  generalize w.alloc (.cells #[.int .u8 o.k, .int .i64 o.a, .int .u8 o.b, .bool o.ge, .slice A o.ps.length cA, .slice B o.da.length cB] 71) = W1 at *
  have H1 := Lib.hid (HB.out.ext hE)
  have HO1 := Lib.hid (HO.out.ext hE)
  have HE := Lib.hid hE
  clear HB HO hE
  generalize w.heap.size = bx at *
  have z0 := hB.cell 0
  have z1 := hB.cell 1
  have z2 := hB.cell 2
  have z3 := hB.cell 3
  have z4 := hB.cell 4
  have z5 := hB.cell 5
  have k0 := H1.out.obj.cell 0
  have k1 := H1.out.obj.cell 1
  have k2 := H1.out.obj.cell 2
  have k3 := H1.out.obj.cell 3
  have k4 := H1.out.obj.cell 4
  have k5 := H1.out.obj.cell 5
  have k6 := H1.out.obj.cell 6
  have k7 := H1.out.obj.cell 7
  simp [Br.row] at z0 z1 z2 z3 z4 z5 k0 k1 k2 k3 k4 k5 k6 k7
  rw [HK.out] at z0
  have hbx := H1.out.box hB
  clear k0 k1 k2 k3 k4 k5 k6 k7
  have HC1 := Lib.hid (Chg.of_ext HE.out [u, g, c])
  go_wp2_with fail
  refine (HF.out _ H1.out HO1.out).mono ?_
  rintro e w2 ⟨rfl, hb2, hc2⟩
  have z0 := (Chg.cellB (i := 0) hc2 hbx hB.lt).trans z0
  have z5 := (Chg.cellB (i := 5) hc2 hbx hB.lt).trans z5
  have H2 := Lib.hid hb2
  have HC2 := Lib.hid (HC1.out.trans hc2)
  clear hb2 hc2 H1 HO1 HC1
  have k7 := H2.out.obj.cell 7
  have f7 := H2.out.obj.free 7
  simp [Br.row] at k7
  go_wp2_with fail
  go_ret
  exact ⟨rfl, H2.out.store_laid _, HC2.out.set u 7 _ (.inl (by simp))⟩
set_option maxRecDepth 100000 in
set_option maxHeartbeats 4000000 in
theorem do_sfe (u g c : Nat) (b : Br) (A B : Option Addr) (cA cB : Nat) (o : Ord) (hk : o.k = 41) (w : World) (h : BrAt w u g c b) (ho : OrAt [u, g, c] w A B o) : Calls Try.prog 77 #[.pointer (some ⟨u, 0, none⟩), .agg #[.int .u8 o.k, .int .i64 o.a, .int .u8 o.b, .bool o.ge, .slice A o.ps.length cA, .slice B o.da.length cB]] w (Ret1 (.int .i64 0) (BrTo u g c { b.lay o.attr with laid := false } w)) := by
  have hF := start_sfe u g c b A B cA cB o (by omega)
  rw [hk] at hF
  have HF := Lib.hid hF
  have HK := Lib.hid hk
  clear hF hk
  have HB := Lib.hid h
  have HO := Lib.hid ho
  clear h ho
  go_enter Try.func77, Try.ntmps77
  go_upto_region 1 with (fail)
  have hE := Ext_alloc (o := .cells #[.int .u8 o.k, .int .i64 o.a, .int .u8 o.b, .bool o.ge, .slice A o.ps.length cA, .slice B o.da.length cB] 71) (Ext_refl w)
  have hB := Blk.new w 71 #[.int .u8 o.k, .int .i64 o.a, .int .u8 o.b, .bool o.ge, .slice A o.ps.length cA, .slice B o.da.length cB]
  generalize w.alloc (.cells #[.int .u8 o.k, .int .i64 o.a, .int .u8 o.b, .bool o.ge, .slice A o.ps.length cA, .slice B o.da.length cB] 71) = W1 at *
  have H1 := Lib.hid (HB.out.ext hE)
  have HO1 := Lib.hid (HO.out.ext hE)
  have HE := Lib.hid hE
  clear HB HO hE
  generalize w.heap.size = bx at *
  have z0 := hB.cell 0
  have z1 := hB.cell 1
  have z2 := hB.cell 2
  have z3 := hB.cell 3
  have z4 := hB.cell 4
  have z5 := hB.cell 5
  have k0 := H1.out.obj.cell 0
  have k1 := H1.out.obj.cell 1
  have k2 := H1.out.obj.cell 2
  have k3 := H1.out.obj.cell 3
  have k4 := H1.out.obj.cell 4
  have k5 := H1.out.obj.cell 5
  have k6 := H1.out.obj.cell 6
  have k7 := H1.out.obj.cell 7
  simp [Br.row] at z0 z1 z2 z3 z4 z5 k0 k1 k2 k3 k4 k5 k6 k7
  rw [HK.out] at z0
  have hbx := H1.out.box hB
  clear k0 k1 k2 k3 k4 k5 k6 k7
  have HC1 := Lib.hid (Chg.of_ext HE.out [u, g, c])
  go_wp2_with fail
  refine (HF.out _ H1.out HO1.out).mono ?_
  rintro e w2 ⟨rfl, hb2, hc2⟩
  have z0 := (Chg.cellB (i := 0) hc2 hbx hB.lt).trans z0
  have z5 := (Chg.cellB (i := 5) hc2 hbx hB.lt).trans z5
  have H2 := Lib.hid hb2
  have HC2 := Lib.hid (HC1.out.trans hc2)
  clear hb2 hc2 H1 HO1 HC1
  have k7 := H2.out.obj.cell 7
  have f7 := H2.out.obj.free 7
  simp [Br.row] at k7
  go_wp2_with fail
  go_ret
  exact ⟨rfl, H2.out.store_laid _, HC2.out.set u 7 _ (.inl (by simp))⟩
set_option maxRecDepth 100000 in
set_option maxHeartbeats 4000000 in
theorem do_dress (u g c : Nat) (b : Br) (A B : Option Addr) (cA cB : Nat) (o : Ord) (hk : o.k = 40) (w : World) (h : BrAt w u g c b) (ho : OrAt [u, g, c] w A B o) : Calls Try.prog 77 #[.pointer (some ⟨u, 0, none⟩), .agg #[.int .u8 o.k, .int .i64 o.a, .int .u8 o.b, .bool o.ge, .slice A o.ps.length cA, .slice B o.da.length cB]] w (Ret1 (.int .i64 0) (BrTo u g c { { b with look := b.look.dress o.ps } with laid := false } w)) := by
  have hF := dress_any u g c b A B cA cB o
  rw [hk] at hF
  have HF := Lib.hid hF
  have HK := Lib.hid hk
  clear hF hk
  have HB := Lib.hid h
  have HO := Lib.hid ho
  clear h ho
  go_enter Try.func77, Try.ntmps77
  go_upto_region 1 with (fail)
  have hE := Ext_alloc (o := .cells #[.int .u8 o.k, .int .i64 o.a, .int .u8 o.b, .bool o.ge, .slice A o.ps.length cA, .slice B o.da.length cB] 71) (Ext_refl w)
  have hB := Blk.new w 71 #[.int .u8 o.k, .int .i64 o.a, .int .u8 o.b, .bool o.ge, .slice A o.ps.length cA, .slice B o.da.length cB]
  generalize w.alloc (.cells #[.int .u8 o.k, .int .i64 o.a, .int .u8 o.b, .bool o.ge, .slice A o.ps.length cA, .slice B o.da.length cB] 71) = W1 at *
  have H1 := Lib.hid (HB.out.ext hE)
  have HO1 := Lib.hid (HO.out.ext hE)
  have HE := Lib.hid hE
  clear HB HO hE
  generalize w.heap.size = bx at *
  have z0 := hB.cell 0
  have z1 := hB.cell 1
  have z2 := hB.cell 2
  have z3 := hB.cell 3
  have z4 := hB.cell 4
  have z5 := hB.cell 5
  have k0 := H1.out.obj.cell 0
  have k1 := H1.out.obj.cell 1
  have k2 := H1.out.obj.cell 2
  have k3 := H1.out.obj.cell 3
  have k4 := H1.out.obj.cell 4
  have k5 := H1.out.obj.cell 5
  have k6 := H1.out.obj.cell 6
  have k7 := H1.out.obj.cell 7
  simp [Br.row] at z0 z1 z2 z3 z4 z5 k0 k1 k2 k3 k4 k5 k6 k7
  rw [HK.out] at z0
  have hbx := H1.out.box hB
  clear k0 k1 k2 k3 k4 k5 k6 k7
  have HC1 := Lib.hid (Chg.of_ext HE.out [u, g, c])
  go_wp2_with fail
  refine (HF.out _ H1.out HO1.out).mono ?_
  rintro e w2 ⟨rfl, hb2, hc2⟩
  have z0 := (Chg.cellB (i := 0) hc2 hbx hB.lt).trans z0
  have z5 := (Chg.cellB (i := 5) hc2 hbx hB.lt).trans z5
  have H2 := Lib.hid hb2
  have HC2 := Lib.hid (HC1.out.trans hc2)
  clear hb2 hc2 H1 HO1 HC1
  have k7 := H2.out.obj.cell 7
  have f7 := H2.out.obj.free 7
  simp [Br.row] at k7
  go_wp2_with fail
  go_ret
  exact ⟨rfl, H2.out.store_laid _, HC2.out.set u 7 _ (.inl (by simp))⟩
set_option maxRecDepth 100000 in
set_option maxHeartbeats 4000000 in
theorem do_modify_yes (u g c : Nat) (b : Br) (A B : Option Addr) (cA cB : Nat) (o : Ord) (hk : o.k = 44) (hs : (b.p.at b.at_).st = true) (w : World) (h : BrAt w u g c b) (ho : OrAt [u, g, c] w A B o) : Calls Try.prog 77 #[.pointer (some ⟨u, 0, none⟩), .agg #[.int .u8 o.k, .int .i64 o.a, .int .u8 o.b, .bool o.ge, .slice A o.ps.length cA, .slice B o.da.length cB]] w (Ret1 (.int .i64 0) (BrTo u g c { b.lay ((b.p.at b.at_).dress o.ps) with laid := false } w)) := by
  have hF := modify_yes u g c b A B cA cB o hs
  rw [hk] at hF
  have HF := Lib.hid hF
  have HK := Lib.hid hk
  clear hF hk
  have HB := Lib.hid h
  have HO := Lib.hid ho
  clear h ho
  go_enter Try.func77, Try.ntmps77
  go_upto_region 1 with (fail)
  have hE := Ext_alloc (o := .cells #[.int .u8 o.k, .int .i64 o.a, .int .u8 o.b, .bool o.ge, .slice A o.ps.length cA, .slice B o.da.length cB] 71) (Ext_refl w)
  have hB := Blk.new w 71 #[.int .u8 o.k, .int .i64 o.a, .int .u8 o.b, .bool o.ge, .slice A o.ps.length cA, .slice B o.da.length cB]
  generalize w.alloc (.cells #[.int .u8 o.k, .int .i64 o.a, .int .u8 o.b, .bool o.ge, .slice A o.ps.length cA, .slice B o.da.length cB] 71) = W1 at *
  have H1 := Lib.hid (HB.out.ext hE)
  have HO1 := Lib.hid (HO.out.ext hE)
  have HE := Lib.hid hE
  clear HB HO hE
  generalize w.heap.size = bx at *
  have z0 := hB.cell 0
  have z1 := hB.cell 1
  have z2 := hB.cell 2
  have z3 := hB.cell 3
  have z4 := hB.cell 4
  have z5 := hB.cell 5
  have k0 := H1.out.obj.cell 0
  have k1 := H1.out.obj.cell 1
  have k2 := H1.out.obj.cell 2
  have k3 := H1.out.obj.cell 3
  have k4 := H1.out.obj.cell 4
  have k5 := H1.out.obj.cell 5
  have k6 := H1.out.obj.cell 6
  have k7 := H1.out.obj.cell 7
  simp [Br.row] at z0 z1 z2 z3 z4 z5 k0 k1 k2 k3 k4 k5 k6 k7
  rw [HK.out] at z0
  have hbx := H1.out.box hB
  clear k0 k1 k2 k3 k4 k5 k6 k7
  have HC1 := Lib.hid (Chg.of_ext HE.out [u, g, c])
  go_wp2_with fail
  refine (HF.out _ H1.out HO1.out).mono ?_
  rintro e w2 ⟨rfl, hb2, hc2⟩
  have z0 := (Chg.cellB (i := 0) hc2 hbx hB.lt).trans z0
  have z5 := (Chg.cellB (i := 5) hc2 hbx hB.lt).trans z5
  have H2 := Lib.hid hb2
  have HC2 := Lib.hid (HC1.out.trans hc2)
  clear hb2 hc2 H1 HO1 HC1
  have k7 := H2.out.obj.cell 7
  have f7 := H2.out.obj.free 7
  simp [Br.row] at k7
  go_wp2_with fail
  go_ret
  exact ⟨rfl, H2.out.store_laid _, HC2.out.set u 7 _ (.inl (by simp))⟩
set_option maxRecDepth 100000 in
set_option maxHeartbeats 4000000 in
theorem do_modify_no (u g c : Nat) (b : Br) (A B : Option Addr) (cA cB : Nat) (o : Ord) (hk : o.k = 44) (hs : (b.p.at b.at_).st = false) (w : World) (h : BrAt w u g c b) (ho : OrAt [u, g, c] w A B o) : Calls Try.prog 77 #[.pointer (some ⟨u, 0, none⟩), .agg #[.int .u8 o.k, .int .i64 o.a, .int .u8 o.b, .bool o.ge, .slice A o.ps.length cA, .slice B o.da.length cB]] w (Ret1 (.int .i64 31) (BrTo u g c { b with laid := false } w)) := by
  have hF := modify_no u g c b A B cA cB o hs
  rw [hk] at hF
  have HF := Lib.hid hF
  have HK := Lib.hid hk
  clear hF hk
  have HB := Lib.hid h
  have HO := Lib.hid ho
  clear h ho
  go_enter Try.func77, Try.ntmps77
  go_upto_region 1 with (fail)
  have hE := Ext_alloc (o := .cells #[.int .u8 o.k, .int .i64 o.a, .int .u8 o.b, .bool o.ge, .slice A o.ps.length cA, .slice B o.da.length cB] 71) (Ext_refl w)
  have hB := Blk.new w 71 #[.int .u8 o.k, .int .i64 o.a, .int .u8 o.b, .bool o.ge, .slice A o.ps.length cA, .slice B o.da.length cB]
  generalize w.alloc (.cells #[.int .u8 o.k, .int .i64 o.a, .int .u8 o.b, .bool o.ge, .slice A o.ps.length cA, .slice B o.da.length cB] 71) = W1 at *
  have H1 := Lib.hid (HB.out.ext hE)
  have HO1 := Lib.hid (HO.out.ext hE)
  have HE := Lib.hid hE
  clear HB HO hE
  generalize w.heap.size = bx at *
  have z0 := hB.cell 0
  have z1 := hB.cell 1
  have z2 := hB.cell 2
  have z3 := hB.cell 3
  have z4 := hB.cell 4
  have z5 := hB.cell 5
  have k0 := H1.out.obj.cell 0
  have k1 := H1.out.obj.cell 1
  have k2 := H1.out.obj.cell 2
  have k3 := H1.out.obj.cell 3
  have k4 := H1.out.obj.cell 4
  have k5 := H1.out.obj.cell 5
  have k6 := H1.out.obj.cell 6
  have k7 := H1.out.obj.cell 7
  simp [Br.row] at z0 z1 z2 z3 z4 z5 k0 k1 k2 k3 k4 k5 k6 k7
  rw [HK.out] at z0
  have hbx := H1.out.box hB
  clear k0 k1 k2 k3 k4 k5 k6 k7
  have HC1 := Lib.hid (Chg.of_ext HE.out [u, g, c])
  go_wp2_with fail
  refine (HF.out _ H1.out HO1.out).mono ?_
  rintro e w2 ⟨rfl, hb2, hc2⟩
  have z0 := (Chg.cellB (i := 0) hc2 hbx hB.lt).trans z0
  have z5 := (Chg.cellB (i := 5) hc2 hbx hB.lt).trans z5
  have H2 := Lib.hid hb2
  have HC2 := Lib.hid (HC1.out.trans hc2)
  clear hb2 hc2 H1 HO1 HC1
  have k7 := H2.out.obj.cell 7
  have f7 := H2.out.obj.free 7
  simp [Br.row] at k7
  go_wp2_with fail
  go_ret
  exact ⟨rfl, H2.out.store_laid _, HC2.out.set u 7 _ (.inl (by simp))⟩
set_option maxRecDepth 100000 in
set_option maxHeartbeats 4000000 in
theorem do_cursor (u g c : Nat) (b : Br) (A B : Option Addr) (cA cB : Nat) (o : Ord) (hk : o.k = 19) (w : World) (h : BrAt w u g c b) (ho : OrAt [u, g, c] w A B o) : Calls Try.prog 77 #[.pointer (some ⟨u, 0, none⟩), .agg #[.int .u8 o.k, .int .i64 o.a, .int .u8 o.b, .bool o.ge, .slice A o.ps.length cA, .slice B o.da.length cB]] w (Ret1 (.int .i64 0) (BrTo u g c { { b with p := b.p.point b.at_ } with laid := false } w)) := by
  have hF := cursor_any u g c b A B cA cB o
  rw [hk] at hF
  have HF := Lib.hid hF
  have HK := Lib.hid hk
  clear hF hk
  have HB := Lib.hid h
  have HO := Lib.hid ho
  clear h ho
  go_enter Try.func77, Try.ntmps77
  go_upto_region 1 with (fail)
  have hE := Ext_alloc (o := .cells #[.int .u8 o.k, .int .i64 o.a, .int .u8 o.b, .bool o.ge, .slice A o.ps.length cA, .slice B o.da.length cB] 71) (Ext_refl w)
  have hB := Blk.new w 71 #[.int .u8 o.k, .int .i64 o.a, .int .u8 o.b, .bool o.ge, .slice A o.ps.length cA, .slice B o.da.length cB]
  generalize w.alloc (.cells #[.int .u8 o.k, .int .i64 o.a, .int .u8 o.b, .bool o.ge, .slice A o.ps.length cA, .slice B o.da.length cB] 71) = W1 at *
  have H1 := Lib.hid (HB.out.ext hE)
  have HO1 := Lib.hid (HO.out.ext hE)
  have HE := Lib.hid hE
  clear HB HO hE
  generalize w.heap.size = bx at *
  have z0 := hB.cell 0
  have z1 := hB.cell 1
  have z2 := hB.cell 2
  have z3 := hB.cell 3
  have z4 := hB.cell 4
  have z5 := hB.cell 5
  have k0 := H1.out.obj.cell 0
  have k1 := H1.out.obj.cell 1
  have k2 := H1.out.obj.cell 2
  have k3 := H1.out.obj.cell 3
  have k4 := H1.out.obj.cell 4
  have k5 := H1.out.obj.cell 5
  have k6 := H1.out.obj.cell 6
  have k7 := H1.out.obj.cell 7
  simp [Br.row] at z0 z1 z2 z3 z4 z5 k0 k1 k2 k3 k4 k5 k6 k7
  rw [HK.out] at z0
  have hbx := H1.out.box hB
  clear k0 k1 k2 k3 k4 k5 k6 k7
  have HC1 := Lib.hid (Chg.of_ext HE.out [u, g, c])
  go_wp2_with fail
  refine (HF.out _ H1.out HO1.out).mono ?_
  rintro e w2 ⟨rfl, hb2, hc2⟩
  have z0 := (Chg.cellB (i := 0) hc2 hbx hB.lt).trans z0
  have z5 := (Chg.cellB (i := 5) hc2 hbx hB.lt).trans z5
  have H2 := Lib.hid hb2
  have HC2 := Lib.hid (HC1.out.trans hc2)
  clear hb2 hc2 H1 HO1 HC1
  have k7 := H2.out.obj.cell 7
  have f7 := H2.out.obj.free 7
  simp [Br.row] at k7
  go_wp2_with fail
  go_ret
  exact ⟨rfl, H2.out.store_laid _, HC2.out.set u 7 _ (.inl (by simp))⟩
set_option maxRecDepth 100000 in
set_option maxHeartbeats 4000000 in
theorem do_tab (u g c : Nat) (b : Br) (A B : Option Addr) (cA cB : Nat) (o : Ord) (hk : o.k = 5) (w : World) (h : BrAt w u g c b) (ho : OrAt [u, g, c] w A B o) : Calls Try.prog 77 #[.pointer (some ⟨u, 0, none⟩), .agg #[.int .u8 o.k, .int .i64 o.a, .int .u8 o.b, .bool o.ge, .slice A o.ps.length cA, .slice B o.da.length cB]] w (Ret1 (.int .i64 0) (BrTo u g c { b.tab with laid := false } w)) := by
  have hF := tab_any u g c b A B cA cB o
  rw [hk] at hF
  have HF := Lib.hid hF
  have HK := Lib.hid hk
  clear hF hk
  have HB := Lib.hid h
  have HO := Lib.hid ho
  clear h ho
  go_enter Try.func77, Try.ntmps77
  go_upto_region 1 with (fail)
  have hE := Ext_alloc (o := .cells #[.int .u8 o.k, .int .i64 o.a, .int .u8 o.b, .bool o.ge, .slice A o.ps.length cA, .slice B o.da.length cB] 71) (Ext_refl w)
  have hB := Blk.new w 71 #[.int .u8 o.k, .int .i64 o.a, .int .u8 o.b, .bool o.ge, .slice A o.ps.length cA, .slice B o.da.length cB]
  generalize w.alloc (.cells #[.int .u8 o.k, .int .i64 o.a, .int .u8 o.b, .bool o.ge, .slice A o.ps.length cA, .slice B o.da.length cB] 71) = W1 at *
  have H1 := Lib.hid (HB.out.ext hE)
  have HO1 := Lib.hid (HO.out.ext hE)
  have HE := Lib.hid hE
  clear HB HO hE
  generalize w.heap.size = bx at *
  have z0 := hB.cell 0
  have z1 := hB.cell 1
  have z2 := hB.cell 2
  have z3 := hB.cell 3
  have z4 := hB.cell 4
  have z5 := hB.cell 5
  have k0 := H1.out.obj.cell 0
  have k1 := H1.out.obj.cell 1
  have k2 := H1.out.obj.cell 2
  have k3 := H1.out.obj.cell 3
  have k4 := H1.out.obj.cell 4
  have k5 := H1.out.obj.cell 5
  have k6 := H1.out.obj.cell 6
  have k7 := H1.out.obj.cell 7
  simp [Br.row] at z0 z1 z2 z3 z4 z5 k0 k1 k2 k3 k4 k5 k6 k7
  rw [HK.out] at z0
  have hbx := H1.out.box hB
  clear k0 k1 k2 k3 k4 k5 k6 k7
  have HC1 := Lib.hid (Chg.of_ext HE.out [u, g, c])
  go_wp2_with fail
  refine (HF.out _ H1.out HO1.out).mono ?_
  rintro e w2 ⟨rfl, hb2, hc2⟩
  have z0 := (Chg.cellB (i := 0) hc2 hbx hB.lt).trans z0
  have z5 := (Chg.cellB (i := 5) hc2 hbx hB.lt).trans z5
  have H2 := Lib.hid hb2
  have HC2 := Lib.hid (HC1.out.trans hc2)
  clear hb2 hc2 H1 HO1 HC1
  have k7 := H2.out.obj.cell 7
  have f7 := H2.out.obj.free 7
  simp [Br.row] at k7
  go_wp2_with fail
  go_ret
  exact ⟨rfl, H2.out.store_laid _, HC2.out.set u 7 _ (.inl (by simp))⟩
set_option maxRecDepth 100000 in
set_option maxHeartbeats 4000000 in
theorem do_repeat_yes (u g c : Nat) (b : Br) (A B : Option Addr) (cA cB : Nat) (o : Ord) (hk : o.k = 60) (hh : 0 ≤ o.a ∧ o.a < b.p.n) (w : World) (h : BrAt w u g c b) (ho : OrAt [u, g, c] w A B o) : Calls Try.prog 77 #[.pointer (some ⟨u, 0, none⟩), .agg #[.int .u8 o.k, .int .i64 o.a, .int .u8 o.b, .bool o.ge, .slice A o.ps.length cA, .slice B o.da.length cB]] w (Ret1 (.int .i64 0) (BrTo u g c { b.fill o with laid := false } w)) := by
  have hF := repeat_yes u g c b A B cA cB o hh
  rw [hk] at hF
  have HF := Lib.hid hF
  have HK := Lib.hid hk
  clear hF hk
  have HB := Lib.hid h
  have HO := Lib.hid ho
  clear h ho
  go_enter Try.func77, Try.ntmps77
  go_upto_region 1 with (fail)
  have hE := Ext_alloc (o := .cells #[.int .u8 o.k, .int .i64 o.a, .int .u8 o.b, .bool o.ge, .slice A o.ps.length cA, .slice B o.da.length cB] 71) (Ext_refl w)
  have hB := Blk.new w 71 #[.int .u8 o.k, .int .i64 o.a, .int .u8 o.b, .bool o.ge, .slice A o.ps.length cA, .slice B o.da.length cB]
  generalize w.alloc (.cells #[.int .u8 o.k, .int .i64 o.a, .int .u8 o.b, .bool o.ge, .slice A o.ps.length cA, .slice B o.da.length cB] 71) = W1 at *
  have H1 := Lib.hid (HB.out.ext hE)
  have HO1 := Lib.hid (HO.out.ext hE)
  have HE := Lib.hid hE
  clear HB HO hE
  generalize w.heap.size = bx at *
  have z0 := hB.cell 0
  have z1 := hB.cell 1
  have z2 := hB.cell 2
  have z3 := hB.cell 3
  have z4 := hB.cell 4
  have z5 := hB.cell 5
  have k0 := H1.out.obj.cell 0
  have k1 := H1.out.obj.cell 1
  have k2 := H1.out.obj.cell 2
  have k3 := H1.out.obj.cell 3
  have k4 := H1.out.obj.cell 4
  have k5 := H1.out.obj.cell 5
  have k6 := H1.out.obj.cell 6
  have k7 := H1.out.obj.cell 7
  simp [Br.row] at z0 z1 z2 z3 z4 z5 k0 k1 k2 k3 k4 k5 k6 k7
  rw [HK.out] at z0
  have hbx := H1.out.box hB
  clear k0 k1 k2 k3 k4 k5 k6 k7
  have HC1 := Lib.hid (Chg.of_ext HE.out [u, g, c])
  go_wp2_with fail
  refine (HF.out _ H1.out HO1.out).mono ?_
  rintro e w2 ⟨rfl, hb2, hc2⟩
  have z0 := (Chg.cellB (i := 0) hc2 hbx hB.lt).trans z0
  have z5 := (Chg.cellB (i := 5) hc2 hbx hB.lt).trans z5
  have H2 := Lib.hid hb2
  have HC2 := Lib.hid (HC1.out.trans hc2)
  clear hb2 hc2 H1 HO1 HC1
  have k7 := H2.out.obj.cell 7
  have f7 := H2.out.obj.free 7
  simp [Br.row] at k7
  go_wp2_with fail
  go_ret
  exact ⟨rfl, H2.out.store_laid _, HC2.out.set u 7 _ (.inl (by simp))⟩
set_option maxRecDepth 100000 in
set_option maxHeartbeats 4000000 in
theorem do_repeat_no (u g c : Nat) (b : Br) (A B : Option Addr) (cA cB : Nat) (o : Ord) (hk : o.k = 60) (hh : ¬ (0 ≤ o.a ∧ o.a < b.p.n)) (w : World) (h : BrAt w u g c b) (ho : OrAt [u, g, c] w A B o) : Calls Try.prog 77 #[.pointer (some ⟨u, 0, none⟩), .agg #[.int .u8 o.k, .int .i64 o.a, .int .u8 o.b, .bool o.ge, .slice A o.ps.length cA, .slice B o.da.length cB]] w (Ret1 (.int .i64 32) (BrTo u g c { b with laid := false } w)) := by
  have hF := repeat_no u g c b A B cA cB o hh
  rw [hk] at hF
  have HF := Lib.hid hF
  have HK := Lib.hid hk
  clear hF hk
  have HB := Lib.hid h
  have HO := Lib.hid ho
  clear h ho
  go_enter Try.func77, Try.ntmps77
  go_upto_region 1 with (fail)
  have hE := Ext_alloc (o := .cells #[.int .u8 o.k, .int .i64 o.a, .int .u8 o.b, .bool o.ge, .slice A o.ps.length cA, .slice B o.da.length cB] 71) (Ext_refl w)
  have hB := Blk.new w 71 #[.int .u8 o.k, .int .i64 o.a, .int .u8 o.b, .bool o.ge, .slice A o.ps.length cA, .slice B o.da.length cB]
  generalize w.alloc (.cells #[.int .u8 o.k, .int .i64 o.a, .int .u8 o.b, .bool o.ge, .slice A o.ps.length cA, .slice B o.da.length cB] 71) = W1 at *
  have H1 := Lib.hid (HB.out.ext hE)
  have HO1 := Lib.hid (HO.out.ext hE)
  have HE := Lib.hid hE
  clear HB HO hE
  generalize w.heap.size = bx at *
  have z0 := hB.cell 0
  have z1 := hB.cell 1
  have z2 := hB.cell 2
  have z3 := hB.cell 3
  have z4 := hB.cell 4
  have z5 := hB.cell 5
  have k0 := H1.out.obj.cell 0
  have k1 := H1.out.obj.cell 1
  have k2 := H1.out.obj.cell 2
  have k3 := H1.out.obj.cell 3
  have k4 := H1.out.obj.cell 4
  have k5 := H1.out.obj.cell 5
  have k6 := H1.out.obj.cell 6
  have k7 := H1.out.obj.cell 7
  simp [Br.row] at z0 z1 z2 z3 z4 z5 k0 k1 k2 k3 k4 k5 k6 k7
  rw [HK.out] at z0
  have hbx := H1.out.box hB
  clear k0 k1 k2 k3 k4 k5 k6 k7
  have HC1 := Lib.hid (Chg.of_ext HE.out [u, g, c])
  go_wp2_with fail
  refine (HF.out _ H1.out HO1.out).mono ?_
  rintro e w2 ⟨rfl, hb2, hc2⟩
  have z0 := (Chg.cellB (i := 0) hc2 hbx hB.lt).trans z0
  have z5 := (Chg.cellB (i := 5) hc2 hbx hB.lt).trans z5
  have H2 := Lib.hid hb2
  have HC2 := Lib.hid (HC1.out.trans hc2)
  clear hb2 hc2 H1 HO1 HC1
  have k7 := H2.out.obj.cell 7
  have f7 := H2.out.obj.free 7
  simp [Br.row] at k7
  go_wp2_with fail
  go_ret
  exact ⟨rfl, H2.out.store_laid _, HC2.out.set u 7 _ (.inl (by simp))⟩
set_option maxRecDepth 100000 in
set_option maxHeartbeats 4000000 in
theorem do_wipe_yes (u g c : Nat) (b : Br) (A B : Option Addr) (cA cB : Nat) (o : Ord) (hk : o.k = 18) (hh : 0 ≤ o.a ∧ o.a < b.p.n) (w : World) (h : BrAt w u g c b) (ho : OrAt [u, g, c] w A B o) : Calls Try.prog 77 #[.pointer (some ⟨u, 0, none⟩), .agg #[.int .u8 o.k, .int .i64 o.a, .int .u8 o.b, .bool o.ge, .slice A o.ps.length cA, .slice B o.da.length cB]] w (Ret1 (.int .i64 0) (BrTo u g c { b.wipe o with laid := false } w)) := by
  have hF := wipe_yes u g c b A B cA cB o hh
  rw [hk] at hF
  have HF := Lib.hid hF
  have HK := Lib.hid hk
  clear hF hk
  have HB := Lib.hid h
  have HO := Lib.hid ho
  clear h ho
  go_enter Try.func77, Try.ntmps77
  go_upto_region 1 with (fail)
  have hE := Ext_alloc (o := .cells #[.int .u8 o.k, .int .i64 o.a, .int .u8 o.b, .bool o.ge, .slice A o.ps.length cA, .slice B o.da.length cB] 71) (Ext_refl w)
  have hB := Blk.new w 71 #[.int .u8 o.k, .int .i64 o.a, .int .u8 o.b, .bool o.ge, .slice A o.ps.length cA, .slice B o.da.length cB]
  generalize w.alloc (.cells #[.int .u8 o.k, .int .i64 o.a, .int .u8 o.b, .bool o.ge, .slice A o.ps.length cA, .slice B o.da.length cB] 71) = W1 at *
  have H1 := Lib.hid (HB.out.ext hE)
  have HO1 := Lib.hid (HO.out.ext hE)
  have HE := Lib.hid hE
  clear HB HO hE
  generalize w.heap.size = bx at *
  have z0 := hB.cell 0
  have z1 := hB.cell 1
  have z2 := hB.cell 2
  have z3 := hB.cell 3
  have z4 := hB.cell 4
  have z5 := hB.cell 5
  have k0 := H1.out.obj.cell 0
  have k1 := H1.out.obj.cell 1
  have k2 := H1.out.obj.cell 2
  have k3 := H1.out.obj.cell 3
  have k4 := H1.out.obj.cell 4
  have k5 := H1.out.obj.cell 5
  have k6 := H1.out.obj.cell 6
  have k7 := H1.out.obj.cell 7
  simp [Br.row] at z0 z1 z2 z3 z4 z5 k0 k1 k2 k3 k4 k5 k6 k7
  rw [HK.out] at z0
  have hbx := H1.out.box hB
  clear k0 k1 k2 k3 k4 k5 k6 k7
  have HC1 := Lib.hid (Chg.of_ext HE.out [u, g, c])
  go_wp2_with fail
  refine (HF.out _ H1.out HO1.out).mono ?_
  rintro e w2 ⟨rfl, hb2, hc2⟩
  have z0 := (Chg.cellB (i := 0) hc2 hbx hB.lt).trans z0
  have z5 := (Chg.cellB (i := 5) hc2 hbx hB.lt).trans z5
  have H2 := Lib.hid hb2
  have HC2 := Lib.hid (HC1.out.trans hc2)
  clear hb2 hc2 H1 HO1 HC1
  have k7 := H2.out.obj.cell 7
  have f7 := H2.out.obj.free 7
  simp [Br.row] at k7
  go_wp2_with fail
  go_ret
  exact ⟨rfl, H2.out.store_laid _, HC2.out.set u 7 _ (.inl (by simp))⟩
set_option maxRecDepth 100000 in
set_option maxHeartbeats 4000000 in
theorem do_wipe_no (u g c : Nat) (b : Br) (A B : Option Addr) (cA cB : Nat) (o : Ord) (hk : o.k = 18) (hh : ¬ (0 ≤ o.a ∧ o.a < b.p.n)) (w : World) (h : BrAt w u g c b) (ho : OrAt [u, g, c] w A B o) : Calls Try.prog 77 #[.pointer (some ⟨u, 0, none⟩), .agg #[.int .u8 o.k, .int .i64 o.a, .int .u8 o.b, .bool o.ge, .slice A o.ps.length cA, .slice B o.da.length cB]] w (Ret1 (.int .i64 32) (BrTo u g c { b with laid := false } w)) := by
  have hF := wipe_no u g c b A B cA cB o hh
  rw [hk] at hF
  have HF := Lib.hid hF
  have HK := Lib.hid hk
  clear hF hk
  have HB := Lib.hid h
  have HO := Lib.hid ho
  clear h ho
  go_enter Try.func77, Try.ntmps77
  go_upto_region 1 with (fail)
  have hE := Ext_alloc (o := .cells #[.int .u8 o.k, .int .i64 o.a, .int .u8 o.b, .bool o.ge, .slice A o.ps.length cA, .slice B o.da.length cB] 71) (Ext_refl w)
  have hB := Blk.new w 71 #[.int .u8 o.k, .int .i64 o.a, .int .u8 o.b, .bool o.ge, .slice A o.ps.length cA, .slice B o.da.length cB]
  generalize w.alloc (.cells #[.int .u8 o.k, .int .i64 o.a, .int .u8 o.b, .bool o.ge, .slice A o.ps.length cA, .slice B o.da.length cB] 71) = W1 at *
  have H1 := Lib.hid (HB.out.ext hE)
  have HO1 := Lib.hid (HO.out.ext hE)
  have HE := Lib.hid hE
  clear HB HO hE
  generalize w.heap.size = bx at *
  have z0 := hB.cell 0
  have z1 := hB.cell 1
  have z2 := hB.cell 2
  have z3 := hB.cell 3
  have z4 := hB.cell 4
  have z5 := hB.cell 5
  have k0 := H1.out.obj.cell 0
  have k1 := H1.out.obj.cell 1
  have k2 := H1.out.obj.cell 2
  have k3 := H1.out.obj.cell 3
  have k4 := H1.out.obj.cell 4
  have k5 := H1.out.obj.cell 5
  have k6 := H1.out.obj.cell 6
  have k7 := H1.out.obj.cell 7
  simp [Br.row] at z0 z1 z2 z3 z4 z5 k0 k1 k2 k3 k4 k5 k6 k7
  rw [HK.out] at z0
  have hbx := H1.out.box hB
  clear k0 k1 k2 k3 k4 k5 k6 k7
  have HC1 := Lib.hid (Chg.of_ext HE.out [u, g, c])
  go_wp2_with fail
  refine (HF.out _ H1.out HO1.out).mono ?_
  rintro e w2 ⟨rfl, hb2, hc2⟩
  have z0 := (Chg.cellB (i := 0) hc2 hbx hB.lt).trans z0
  have z5 := (Chg.cellB (i := 5) hc2 hbx hB.lt).trans z5
  have H2 := Lib.hid hb2
  have HC2 := Lib.hid (HC1.out.trans hc2)
  clear hb2 hc2 H1 HO1 HC1
  have k7 := H2.out.obj.cell 7
  have f7 := H2.out.obj.free 7
  simp [Br.row] at k7
  go_wp2_with fail
  go_ret
  exact ⟨rfl, H2.out.store_laid _, HC2.out.set u 7 _ (.inl (by simp))⟩
set_option maxRecDepth 100000 in
set_option maxHeartbeats 4000000 in
theorem do_none (u g c : Nat) (b : Br) (A B : Option Addr) (cA cB : Nat) (o : Ord) (h0 : o.k ≠ 0) (h8 : o.k ≠ 8) (h17 : o.k ≠ 17) (h29 : o.k ≠ 29) (h41 : o.k ≠ 41) (h40 : o.k ≠ 40) (h44 : o.k ≠ 44) (h19 : o.k ≠ 19) (h5 : o.k ≠ 5) (h60 : o.k ≠ 60) (h18 : o.k ≠ 18) (w : World) (h : BrAt w u g c b) (ho : OrAt [u, g, c] w A B o) : Calls Try.prog 77 #[.pointer (some ⟨u, 0, none⟩), .agg #[.int .u8 o.k, .int .i64 o.a, .int .u8 o.b, .bool o.ge, .slice A o.ps.length cA, .slice B o.da.length cB]] w (Ret1 (.int .i64 31) (BrTo u g c b w)) := by
  have HB := Lib.hid h
  have HO := Lib.hid ho
  clear h ho
  go_enter Try.func77, Try.ntmps77
  go_upto_region 1 with (fail)
  have hE := Ext_alloc (o := .cells #[.int .u8 o.k, .int .i64 o.a, .int .u8 o.b, .bool o.ge, .slice A o.ps.length cA, .slice B o.da.length cB] 71) (Ext_refl w)
  have hB := Blk.new w 71 #[.int .u8 o.k, .int .i64 o.a, .int .u8 o.b, .bool o.ge, .slice A o.ps.length cA, .slice B o.da.length cB]
  generalize w.alloc (.cells #[.int .u8 o.k, .int .i64 o.a, .int .u8 o.b, .bool o.ge, .slice A o.ps.length cA, .slice B o.da.length cB] 71) = W1 at *
  have H1 := Lib.hid (HB.out.ext hE)
  have HO1 := Lib.hid (HO.out.ext hE)
  have HE := Lib.hid hE
  clear HB HO hE
  generalize w.heap.size = bx at *
  have z0 := hB.cell 0
  have z1 := hB.cell 1
  have z2 := hB.cell 2
  have z3 := hB.cell 3
  have z4 := hB.cell 4
  have z5 := hB.cell 5
  have k0 := H1.out.obj.cell 0
  have k1 := H1.out.obj.cell 1
  have k2 := H1.out.obj.cell 2
  have k3 := H1.out.obj.cell 3
  have k4 := H1.out.obj.cell 4
  have k5 := H1.out.obj.cell 5
  have k6 := H1.out.obj.cell 6
  have k7 := H1.out.obj.cell 7
  simp [Br.row] at z0 z1 z2 z3 z4 z5 k0 k1 k2 k3 k4 k5 k6 k7
  clear z1 z2 z3 z4 z5 k0 k1 k2 k3 k4 k5 k6 k7
  have e0 : (o.k == 0) = false := by rw [beq_eq_false_iff_ne]; exact h0
  have e8 : (o.k == 8) = false := by rw [beq_eq_false_iff_ne]; exact h8
  have e17 : (o.k == 17) = false := by rw [beq_eq_false_iff_ne]; exact h17
  have e29 : (o.k == 29) = false := by rw [beq_eq_false_iff_ne]; exact h29
  have e41 : (o.k == 41) = false := by rw [beq_eq_false_iff_ne]; exact h41
  have e40 : (o.k == 40) = false := by rw [beq_eq_false_iff_ne]; exact h40
  have e44 : (o.k == 44) = false := by rw [beq_eq_false_iff_ne]; exact h44
  have e19 : (o.k == 19) = false := by rw [beq_eq_false_iff_ne]; exact h19
  have e5 : (o.k == 5) = false := by rw [beq_eq_false_iff_ne]; exact h5
  have e60 : (o.k == 60) = false := by rw [beq_eq_false_iff_ne]; exact h60
  have e18 : (o.k == 18) = false := by rw [beq_eq_false_iff_ne]; exact h18
  go_wp2_with fail
  go_ret
  exact ⟨rfl, H1.out, Chg.of_ext HE.out _⟩
end Go.Proofs.Ytmcfckdgolojlaa
