import Derived.Test.YtmcfckdgolojlaaZG3
/- Chapter 16: modify, data. -/
namespace Go.Proofs.Ytmcfckdgolojlaa
set_option linter.unusedVariables false
set_option linter.unusedSimpArgs false
open Go.RowKit
theorem At_eqB {g c : Nat} {p : Pl} {i : Int} {y : Cel} (hy : p.at i = y) (w : World) (h : PlAt w g c p) : Calls Try.prog 21 #[.pointer (some ⟨g, 0, none⟩), .int .i64 i] w (Ret (.agg #[.int .u8 y.b, .bool y.ge, .bool y.st, .int .u8 y.li, .int .u8 y.co]) w) := by
  rw [← hy]; exact At_any g c p i w h
theorem Dress_st (c : Cel) (hs : c.st = true) (A : Option Addr) (cp : Nat) (l : List Pr) (hl : l.length ≤ maxLen) (w : World) (hr : Rd w 2 A l.length (l.flatMap Pr.enc)) :
    Calls Try.prog 112 #[.agg #[.int .u8 c.b, .bool c.ge, .bool true, .int .u8 c.li, .int .u8 c.co], .slice A l.length cp] w (Ret (.agg #[.int .u8 (c.dress l).b, .bool (c.dress l).ge, .bool (c.dress l).st, .int .u8 (c.dress l).li, .int .u8 (c.dress l).co]) w) := by
  have h := Dress_any c A cp l hl w hr
  rw [hs] at h
  exact h
theorem Blk.ext2 {w w' : World} {b : Nat} {t : TypeId} {cs : Array Value} (h : Blk w b t cs) (hb : Ext w w') : Blk w' b t cs := Blk.below' h hb
set_option maxRecDepth 100000 in
set_option maxHeartbeats 4000000 in
theorem modify_no (u g c : Nat) (b : Br) (A B : Option Addr) (cA cB : Nat) (o : Ord) (hs : (b.p.at b.at_).st = false) (w : World) (h : BrAt w u g c b) (ho : OrAt [u, g, c] w A B o) : Calls Try.prog 97 #[.pointer (some ⟨u, 0, none⟩), .agg #[.int .u8 o.k, .int .i64 o.a, .int .u8 o.b, .bool o.ge, .slice A o.ps.length cA, .slice B o.da.length cB]] w (Ret1 (.int .i64 31) (BrTo u g c b w)) := by
  have HB := Lib.hid h
  have HO := Lib.hid ho
  clear h ho
  go_enter Try.func97, Try.ntmps97
  go_wp2_with fail
  have hE := Ext_alloc (o := .cells #[.int .u8 o.k, .int .i64 o.a, .int .u8 o.b, .bool o.ge, .slice A o.ps.length cA, .slice B o.da.length cB] 71) (Ext_refl w)
  have hB := Blk.new w 71 #[.int .u8 o.k, .int .i64 o.a, .int .u8 o.b, .bool o.ge, .slice A o.ps.length cA, .slice B o.da.length cB]
  generalize w.alloc (.cells #[.int .u8 o.k, .int .i64 o.a, .int .u8 o.b, .bool o.ge, .slice A o.ps.length cA, .slice B o.da.length cB] 71) = W1 at *
  have H1 := Lib.hid (HB.out.ext hE)
  have HO1 := Lib.hid (HO.out.ext hE)
  have HE := Lib.hid hE
  clear HB HO hE
  generalize w.heap.size = bx at *
  have z0 := hB.cell 0
  have z1 := hB.cell 1
  have z2 := hB.cell 2
  have z3 := hB.cell 3
  have z4 := hB.cell 4
  have z5 := hB.cell 5
  have k0 := H1.out.obj.cell 0
  have k1 := H1.out.obj.cell 1
  have k2 := H1.out.obj.cell 2
  have k3 := H1.out.obj.cell 3
  have k4 := H1.out.obj.cell 4
  have k5 := H1.out.obj.cell 5
  have k6 := H1.out.obj.cell 6
  have k7 := H1.out.obj.cell 7
  simp [Br.row] at z0 z1 z2 z3 z4 z5 k0 k1 k2 k3 k4 k5 k6 k7
  clear z0 z1 z2 z3 z5 k2 k3 k4 k5 k6 k7
  have hu := H1.out.obj.lt
  have hne := World.new_ne W1 _ k0
  obtain ⟨y, hy⟩ : ∃ y, b.p.at b.at_ = y := ⟨_, rfl⟩
  rw [hy] at hs
  have HY := Lib.hid hy
  have HS := Lib.hid hs
  clear hy hs
  go_region_held3 (fun w' => w'.cell? ⟨u, 0, none⟩ = some (.pointer (some ⟨g, 0, none⟩)) ∧ w'.cell? ⟨u, 1, none⟩ = some (.int .i64 b.at_)) (first | with_reducible exact ⟨k0, k1⟩ | with_reducible exact ⟨j0, j1⟩ | go_keep) ((go_at_call 21; refine (At_eqB HY.out _ (H1.out.pl.ext (by first | exact Ext_refl _ | exact Ext_drew (Ext_refl _) | exact Ext_drew (Ext_alloc (Ext_refl _)) | exact Ext_alloc (Ext_drew (Ext_refl _))))).mono ?_; rintro e w2 ⟨rfl, hb⟩; have HE2 := Lib.hid (show Ext W1 w2 from Ext_trans hb (by first | exact Ext_refl _ | exact Ext_drew (Ext_refl _) | exact Ext_drew (Ext_alloc (Ext_refl _)) | exact Ext_alloc (Ext_drew (Ext_refl _)))); have j0 := (cell_ext HE2.out hu).trans k0; have j1 := (cell_ext HE2.out hu).trans k1; have hne2 := World.new_ne w2 _ j0; (first | (have hC : Blk w2 W1.heap.size 38 #[.int .u8 0, .bool false, .bool false, .int .u8 0, .int .u8 0] := (by with_reducible exact Blk.ext2 (Blk.drew (Blk.new W1 38 #[.int .u8 0, .bool false, .bool false, .int .u8 0, .int .u8 0])) hb); have y0 := hC.cell 0; have y1 := hC.cell 1; have y2 := hC.cell 2; have y3 := hC.cell 3; have y4 := hC.cell 4; have f0 := hC.free 0; have f1 := hC.free 1; have f2 := hC.free 2; have f3 := hC.free 3; have f4 := hC.free 4; simp at y0 y1 y2 y3 y4) | skip); clear hb))
  · rename_i hHeld; clear hHeld
    have hY : Blk (w2.alloc (.cells #[.int .u8 y.b, .bool y.ge, .bool y.st, .int .u8 y.li, .int .u8 y.co] 38)) w2.heap.size 38 #[.int .u8 y.b, .bool y.ge, .bool y.st, .int .u8 y.li, .int .u8 y.co] := Blk.new w2 _ _
    have hE4 : Ext W1 (w2.alloc (.cells #[.int .u8 y.b, .bool y.ge, .bool y.st, .int .u8 y.li, .int .u8 y.co] 38)) := Ext_alloc HE2.out
    obtain ⟨W4, hW4⟩ : ∃ W4, w2.alloc (.cells #[.int .u8 y.b, .bool y.ge, .bool y.st, .int .u8 y.li, .int .u8 y.co] 38) = W4 := ⟨_, rfl⟩
    rw [hW4] at hY hE4 ⊢
    clear hW4
    obtain ⟨yb, hyb⟩ : ∃ yb, w2.heap.size = yb := ⟨_, rfl⟩
    rw [hyb] at hY ⊢
    clear hyb
    have x0 := hY.cell 0
    have x1 := hY.cell 1
    have x2 := hY.cell 2
    have x3 := hY.cell 3
    have x4 := hY.cell 4
    simp at x0 x1 x2 x3 x4
    have z4 := (cell_ext hE4 hB.lt).trans z4
    have hs := HS.out
    go_wp2
    go_ret
    exact ⟨rfl, H1.out.ext hE4, Chg.of_ext (Ext_trans hE4 HE.out) _⟩
  · rename_i hHeld; clear hHeld
    have hY : Blk (((((w2.setCell ⟨W1.heap.size, 0, none⟩ (.int .u8 y.b)).setCell ⟨W1.heap.size, 1, none⟩ (.bool y.ge)).setCell ⟨W1.heap.size, 2, none⟩ (.bool y.st)).setCell ⟨W1.heap.size, 3, none⟩ (.int .u8 y.li)).setCell ⟨W1.heap.size, 4, none⟩ (.int .u8 y.co)) W1.heap.size 38 #[.int .u8 y.b, .bool y.ge, .bool y.st, .int .u8 y.li, .int .u8 y.co] := (((((hC.store 0 _).store 1 _).store 2 _).store 3 _).store 4 _)
    have hE4 : Ext W1 (((((w2.setCell ⟨W1.heap.size, 0, none⟩ (.int .u8 y.b)).setCell ⟨W1.heap.size, 1, none⟩ (.bool y.ge)).setCell ⟨W1.heap.size, 2, none⟩ (.bool y.st)).setCell ⟨W1.heap.size, 3, none⟩ (.int .u8 y.li)).setCell ⟨W1.heap.size, 4, none⟩ (.int .u8 y.co)) := (Ext_set (Ext_set (Ext_set (Ext_set (Ext_set HE2.out (by simp)) (by simp)) (by simp)) (by simp)) (by simp))
    clear y0 y1 y2 y3 y4 f0 f1 f2 f3 f4 hC
    obtain ⟨W4, hW4⟩ : ∃ W4, (((((w2.setCell ⟨W1.heap.size, 0, none⟩ (.int .u8 y.b)).setCell ⟨W1.heap.size, 1, none⟩ (.bool y.ge)).setCell ⟨W1.heap.size, 2, none⟩ (.bool y.st)).setCell ⟨W1.heap.size, 3, none⟩ (.int .u8 y.li)).setCell ⟨W1.heap.size, 4, none⟩ (.int .u8 y.co)) = W4 := ⟨_, rfl⟩
    rw [hW4] at hY hE4 ⊢
    clear hW4
    obtain ⟨yb, hyb⟩ : ∃ yb, W1.heap.size = yb := ⟨_, rfl⟩
    rw [hyb] at hY ⊢
    clear hyb
    have x0 := hY.cell 0
    have x1 := hY.cell 1
    have x2 := hY.cell 2
    have x3 := hY.cell 3
    have x4 := hY.cell 4
    simp at x0 x1 x2 x3 x4
    have z4 := (cell_ext hE4 hB.lt).trans z4
    have hs := HS.out
    go_wp2
    go_ret
    exact ⟨rfl, H1.out.ext hE4, Chg.of_ext (Ext_trans hE4 HE.out) _⟩
set_option maxRecDepth 100000 in
set_option maxHeartbeats 4000000 in
theorem modify_yes (u g c : Nat) (b : Br) (A B : Option Addr) (cA cB : Nat) (o : Ord) (hs : (b.p.at b.at_).st = true) (w : World) (h : BrAt w u g c b) (ho : OrAt [u, g, c] w A B o) : Calls Try.prog 97 #[.pointer (some ⟨u, 0, none⟩), .agg #[.int .u8 o.k, .int .i64 o.a, .int .u8 o.b, .bool o.ge, .slice A o.ps.length cA, .slice B o.da.length cB]] w (Ret1 (.int .i64 0) (BrTo u g c (b.lay ((b.p.at b.at_).dress o.ps)) w)) := by
  have hyb : 0 ≤ (b.p.at b.at_).b ∧ (b.p.at b.at_).b < 256 := at_bdd h.pl.ok.by_ _
  obtain ⟨y, hy⟩ : ∃ y, b.p.at b.at_ = y := ⟨_, rfl⟩
  rw [hy] at hs hyb
  rw [hy]
  have HY := Lib.hid hy
  have HYB := Lib.hid hyb
  have HS := Lib.hid hs
  clear hy hyb hs
  have HB := Lib.hid h
  have HO := Lib.hid ho
  clear h ho
  go_enter Try.func97, Try.ntmps97
  go_wp2_with fail
  have hE := Ext_alloc (o := .cells #[.int .u8 o.k, .int .i64 o.a, .int .u8 o.b, .bool o.ge, .slice A o.ps.length cA, .slice B o.da.length cB] 71) (Ext_refl w)
  have hB := Blk.new w 71 #[.int .u8 o.k, .int .i64 o.a, .int .u8 o.b, .bool o.ge, .slice A o.ps.length cA, .slice B o.da.length cB]
  generalize w.alloc (.cells #[.int .u8 o.k, .int .i64 o.a, .int .u8 o.b, .bool o.ge, .slice A o.ps.length cA, .slice B o.da.length cB] 71) = W1 at *
  have H1 := Lib.hid (HB.out.ext hE)
  have HO1 := Lib.hid (HO.out.ext hE)
  have HE := Lib.hid hE
  clear HB HO hE
  generalize w.heap.size = bx at *
  have z0 := hB.cell 0
  have z1 := hB.cell 1
  have z2 := hB.cell 2
  have z3 := hB.cell 3
  have z4 := hB.cell 4
  have z5 := hB.cell 5
  have k0 := H1.out.obj.cell 0
  have k1 := H1.out.obj.cell 1
  have k2 := H1.out.obj.cell 2
  have k3 := H1.out.obj.cell 3
  have k4 := H1.out.obj.cell 4
  have k5 := H1.out.obj.cell 5
  have k6 := H1.out.obj.cell 6
  have k7 := H1.out.obj.cell 7
  simp [Br.row] at z0 z1 z2 z3 z4 z5 k0 k1 k2 k3 k4 k5 k6 k7
  clear z0 z1 z2 z3 z5 k2 k3 k4 k5 k6 k7
  have hu := H1.out.obj.lt
  have hne := World.new_ne W1 _ k0
  go_region_held3 (fun w' => w'.cell? ⟨u, 0, none⟩ = some (.pointer (some ⟨g, 0, none⟩)) ∧ w'.cell? ⟨u, 1, none⟩ = some (.int .i64 b.at_)) (first | with_reducible exact ⟨k0, k1⟩ | with_reducible exact ⟨j0, j1⟩ | go_keep) ((go_at_call 21; refine (At_eqB HY.out _ (H1.out.pl.ext (by first | exact Ext_refl _ | exact Ext_drew (Ext_refl _) | exact Ext_drew (Ext_alloc (Ext_refl _)) | exact Ext_alloc (Ext_drew (Ext_refl _))))).mono ?_; rintro e w2 ⟨rfl, hb⟩; have HE2 := Lib.hid (show Ext W1 w2 from Ext_trans hb (by first | exact Ext_refl _ | exact Ext_drew (Ext_refl _) | exact Ext_drew (Ext_alloc (Ext_refl _)) | exact Ext_alloc (Ext_drew (Ext_refl _)))); have j0 := (cell_ext HE2.out hu).trans k0; have j1 := (cell_ext HE2.out hu).trans k1; have hne2 := World.new_ne w2 _ j0; (first | (have hC : Blk w2 W1.heap.size 38 #[.int .u8 0, .bool false, .bool false, .int .u8 0, .int .u8 0] := (by with_reducible exact Blk.ext2 (Blk.drew (Blk.new W1 38 #[.int .u8 0, .bool false, .bool false, .int .u8 0, .int .u8 0])) hb); have y0 := hC.cell 0; have y1 := hC.cell 1; have y2 := hC.cell 2; have y3 := hC.cell 3; have y4 := hC.cell 4; have f0 := hC.free 0; have f1 := hC.free 1; have f2 := hC.free 2; have f3 := hC.free 3; have f4 := hC.free 4; simp at y0 y1 y2 y3 y4) | skip); clear hb))
  · rename_i hHeld; clear hHeld
    have hY : Blk (w2.alloc (.cells #[.int .u8 y.b, .bool y.ge, .bool y.st, .int .u8 y.li, .int .u8 y.co] 38)) w2.heap.size 38 #[.int .u8 y.b, .bool y.ge, .bool y.st, .int .u8 y.li, .int .u8 y.co] := Blk.new w2 _ _
    have hE4 : Ext W1 (w2.alloc (.cells #[.int .u8 y.b, .bool y.ge, .bool y.st, .int .u8 y.li, .int .u8 y.co] 38)) := Ext_alloc HE2.out
    obtain ⟨W4, hW4⟩ : ∃ W4, w2.alloc (.cells #[.int .u8 y.b, .bool y.ge, .bool y.st, .int .u8 y.li, .int .u8 y.co] 38) = W4 := ⟨_, rfl⟩
    rw [hW4] at hY hE4 ⊢
    clear hW4
    obtain ⟨yb, hyb⟩ : ∃ yb, w2.heap.size = yb := ⟨_, rfl⟩
    rw [hyb] at hY ⊢
    clear hyb
    have x0 := hY.cell 0
    have x1 := hY.cell 1
    have x2 := hY.cell 2
    have x3 := hY.cell 3
    have x4 := hY.cell 4
    simp at x0 x1 x2 x3 x4
    have z4 := (cell_ext hE4 hB.lt).trans z4
    have hs := HS.out
    go_wp2_with fail
    refine (Dress_st y hs A cA o.ps HO1.out.pl _ (Rd_ext hE4 HO1.out.ps)).mono ?_
    rintro e w5 ⟨rfl, hb⟩
    have hx := dress_bd o.ps y HYB.out HO1.out.pb
    generalize y.dress o.ps = x at *
    go_wp2_with fail
    refine (lay_any u g c b x hx _ (H1.out.ext (Ext_trans hb hE4))).mono ?_
    rintro e w6 ⟨⟨v, rfl⟩, hb3, hc3⟩
    have H3 := Lib.hid hb3
    have HC3 := Lib.hid ((Chg.of_ext (Ext_trans (Ext_trans hb hE4) HE.out) _).trans hc3)
    go_wp2
    go_ret
    exact ⟨rfl, H3.out, HC3.out⟩
  · rename_i hHeld; clear hHeld
    have hY : Blk (((((w2.setCell ⟨W1.heap.size, 0, none⟩ (.int .u8 y.b)).setCell ⟨W1.heap.size, 1, none⟩ (.bool y.ge)).setCell ⟨W1.heap.size, 2, none⟩ (.bool y.st)).setCell ⟨W1.heap.size, 3, none⟩ (.int .u8 y.li)).setCell ⟨W1.heap.size, 4, none⟩ (.int .u8 y.co)) W1.heap.size 38 #[.int .u8 y.b, .bool y.ge, .bool y.st, .int .u8 y.li, .int .u8 y.co] := (((((hC.store 0 _).store 1 _).store 2 _).store 3 _).store 4 _)
    have hE4 : Ext W1 (((((w2.setCell ⟨W1.heap.size, 0, none⟩ (.int .u8 y.b)).setCell ⟨W1.heap.size, 1, none⟩ (.bool y.ge)).setCell ⟨W1.heap.size, 2, none⟩ (.bool y.st)).setCell ⟨W1.heap.size, 3, none⟩ (.int .u8 y.li)).setCell ⟨W1.heap.size, 4, none⟩ (.int .u8 y.co)) := (Ext_set (Ext_set (Ext_set (Ext_set (Ext_set HE2.out (by simp)) (by simp)) (by simp)) (by simp)) (by simp))
    clear y0 y1 y2 y3 y4 f0 f1 f2 f3 f4 hC
    obtain ⟨W4, hW4⟩ : ∃ W4, (((((w2.setCell ⟨W1.heap.size, 0, none⟩ (.int .u8 y.b)).setCell ⟨W1.heap.size, 1, none⟩ (.bool y.ge)).setCell ⟨W1.heap.size, 2, none⟩ (.bool y.st)).setCell ⟨W1.heap.size, 3, none⟩ (.int .u8 y.li)).setCell ⟨W1.heap.size, 4, none⟩ (.int .u8 y.co)) = W4 := ⟨_, rfl⟩
    rw [hW4] at hY hE4 ⊢
    clear hW4
    obtain ⟨yb, hyb⟩ : ∃ yb, W1.heap.size = yb := ⟨_, rfl⟩
    rw [hyb] at hY ⊢
    clear hyb
    have x0 := hY.cell 0
    have x1 := hY.cell 1
    have x2 := hY.cell 2
    have x3 := hY.cell 3
    have x4 := hY.cell 4
    simp at x0 x1 x2 x3 x4
    have z4 := (cell_ext hE4 hB.lt).trans z4
    have hs := HS.out
    go_wp2_with fail
    refine (Dress_st y hs A cA o.ps HO1.out.pl _ (Rd_ext hE4 HO1.out.ps)).mono ?_
    rintro e w5 ⟨rfl, hb⟩
    have hx := dress_bd o.ps y HYB.out HO1.out.pb
    generalize y.dress o.ps = x at *
    go_wp2_with fail
    refine (lay_any u g c b x hx _ (H1.out.ext (Ext_trans hb hE4))).mono ?_
    rintro e w6 ⟨⟨v, rfl⟩, hb3, hc3⟩
    have H3 := Lib.hid hb3
    have HC3 := Lib.hid ((Chg.of_ext (Ext_trans (Ext_trans hb hE4) HE.out) _).trans hc3)
    go_wp2
    go_ret
    exact ⟨rfl, H3.out, HC3.out⟩
end Go.Proofs.Ytmcfckdgolojlaa
