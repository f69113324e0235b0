import Derived.Test.YtmcfckdgolojlaaZG6
/- Chapter 16: repeat. -/
namespace Go.Proofs.Ytmcfckdgolojlaa
set_option linter.unusedVariables false
set_option linter.unusedSimpArgs false
open Go.RowKit
theorem Chg.cellB {l : List Nat} {w0 w : World} (h : Chg l w0 w) {b i : Nat} (hb : b ∉ l) (hl : b < w0.heap.size) : w.cell? ⟨b, i, none⟩ = w0.cell? ⟨b, i, none⟩ := World.cell?_of_block (h.block b hl hb)
theorem BrAt.box {w : World} {u g c bx : Nat} {b : Br} {cs : Array Value} (h : BrAt w u g c b) (hB : Blk w bx 71 cs) : bx ∉ [u, g, c] := by
  obtain ⟨_, _, k⟩ := h.pl
  have h1 : bx ≠ u := by rintro rfl; exact absurd (Blk.same h.obj hB).1 (by decide)
  have h2 : bx ≠ g := by rintro rfl; exact absurd (Blk.same k.obj hB).1 (by decide)
  have h3 : bx ≠ c := by rintro rfl; exact absurd (Blk.same k.row hB).1 (by decide)
  simp [h1, h2, h3]
def Br.fill (b : Br) (o : Ord) : Br := { b with p := b.p.puts (btwN b.p.n b.at_ (btwM b.p.n b.at_ o.a)) (b.char o.b o.ge), at_ := o.a }
theorem puts_n (l : List Int) (x : Cel) : ∀ p : Pl, (p.puts l x).n = p.n := by
  induction l with
  | nil => exact fun p => rfl
  | cons i l ih => exact fun p => (ih (p.set i x)).trans (set_n p i x)
set_option maxRecDepth 100000 in
set_option maxHeartbeats 4000000 in
theorem repeat_yes (u g c : Nat) (b : Br) (A B : Option Addr) (cA cB : Nat) (o : Ord) (hh : 0 ≤ o.a ∧ o.a < b.p.n) (w : World) (h : BrAt w u g c b) (ho : OrAt [u, g, c] w A B o) : Calls Try.prog 100 #[.pointer (some ⟨u, 0, none⟩), .agg #[.int .u8 o.k, .int .i64 o.a, .int .u8 o.b, .bool o.ge, .slice A o.ps.length cA, .slice B o.da.length cB]] w (Ret1 (.int .i64 0) (BrTo u g c (b.fill o) w)) := by
  have HB := Lib.hid h
  have HO := Lib.hid ho
  clear h ho
  go_enter Try.func100, Try.ntmps100
  go_upto_region 1 with (fail)
  have hE := Ext_alloc (o := .cells #[.int .u8 o.k, .int .i64 o.a, .int .u8 o.b, .bool o.ge, .slice A o.ps.length cA, .slice B o.da.length cB] 71) (Ext_refl w)
  have hB := Blk.new w 71 #[.int .u8 o.k, .int .i64 o.a, .int .u8 o.b, .bool o.ge, .slice A o.ps.length cA, .slice B o.da.length cB]
  generalize w.alloc (.cells #[.int .u8 o.k, .int .i64 o.a, .int .u8 o.b, .bool o.ge, .slice A o.ps.length cA, .slice B o.da.length cB] 71) = W1 at *
  have H1 := Lib.hid (HB.out.ext hE)
  have HO1 := Lib.hid (HO.out.ext hE)
  have HE := Lib.hid hE
  clear HB HO hE
  generalize w.heap.size = bx at *
  have z0 := hB.cell 0
  have z1 := hB.cell 1
  have z2 := hB.cell 2
  have z3 := hB.cell 3
  have z4 := hB.cell 4
  have z5 := hB.cell 5
  have k0 := H1.out.obj.cell 0
  have k1 := H1.out.obj.cell 1
  have k2 := H1.out.obj.cell 2
  have k3 := H1.out.obj.cell 3
  have k4 := H1.out.obj.cell 4
  have k5 := H1.out.obj.cell 5
  have k6 := H1.out.obj.cell 6
  have k7 := H1.out.obj.cell 7
  simp [Br.row] at z0 z1 z2 z3 z4 z5 k0 k1 k2 k3 k4 k5 k6 k7
  have hbx := H1.out.box hB
  have HH := Lib.hid hh
  clear k2 k3 k4 k5 k6 k7 hh
  go_wp2_with fail
  refine (jump_yes u g c b A B cA cB o HH.out _ H1.out HO1.out).mono ?_
  rintro e w2 ⟨rfl, hb2, hc2⟩
  have z2 := (Chg.cellB (i := 2) hc2 hbx hB.lt).trans z2
  have z3 := (Chg.cellB (i := 3) hc2 hbx hB.lt).trans z3
  have H2 := Lib.hid hb2
  have HO2 := Lib.hid (HO1.out.chg hc2)
  have HC2 := Lib.hid ((Chg.of_ext HE.out _).trans hc2)
  have hbl : bx < w2.heap.size := Nat.lt_of_lt_of_le hB.lt hc2.size
  have a0 := H1.out.a0
  have a1 := H1.out.a1
  clear H1 HO1 HE hb2 hc2 hB k0 k1
  have k0 := H2.out.obj.cell 0
  have k1 := H2.out.obj.cell 1
  have hu := H2.out.obj.lt
  simp [Br.row] at k0 k1
  go_wp2_with fail
  have hcn : b.look = b.look := rfl
  go_region_held3 (fun w' => w'.cell? ⟨u, 0, none⟩ = some (.pointer (some ⟨g, 0, none⟩)) ∧ w'.cell? ⟨u, 1, none⟩ = some (.int .i64 o.a) ∧ w'.cell? ⟨bx, 2, none⟩ = some (.int .u8 o.b) ∧ w'.cell? ⟨bx, 3, none⟩ = some (.bool o.ge)) (first | with_reducible exact ⟨k0, k1, z2, z3⟩ | with_reducible exact ⟨j0, j1, j2, j3⟩ | with_reducible exact ⟨i0, i1, i2, i3⟩ | exact ⟨k0, k1, z2, z3⟩ | go_keep) ((first
    | (go_at_call 111; refine (char_any u g c _ _ _ _ (H2.out.ext (by first | exact Ext_refl _ | exact Ext_drew (Ext_refl _)))).mono ?_; rintro e w3 ⟨rfl, hb⟩; have hx := (show Ext w2 w3 from Ext_trans hb (by first | exact Ext_refl _ | exact Ext_drew (Ext_refl _))); have j0 := (cell_ext hx hu).trans k0; have j1 := (cell_ext hx hu).trans k1; have j2 := (cell_ext hx hbl).trans z2; have j3 := (cell_ext hx hbl).trans z3; have H3 := Lib.hid (H2.out.ext hx); have HX3 := Lib.hid hx; clear hb hx)
    | (go_at_call 74; refine (Fill_any g c b.p b.at_ o.a (b.char o.b o.ge) HO2.out.bb a0 a1 HH.out.1 HH.out.2 _ H3.out.pl).mono ?_; rintro e w4 ⟨rfl, hp4, hc4⟩; have hu3 := H3.out.obj.lt; have hne := H3.out.ne; have i0 := (Chg.cellB hc4 (by simp; omega) hu3).trans j0; have i1 := (Chg.cellB hc4 (by simp; omega) hu3).trans j1; have i2 := (Chg.cellB (b := bx) hc4 (by simp at hbx ⊢; omega) (In_ext HX3.out hbl)).trans j2; have i3 := (Chg.cellB (b := bx) hc4 (by simp at hbx ⊢; omega) (In_ext HX3.out hbl)).trans j3; have HP4 := Lib.hid hp4; have HC4 := Lib.hid hc4; clear hp4 hc4)))
  go_wp2
  go_ret
  exact ⟨rfl, H3.out.pl_to HP4.out HC4.out (puts_n _ _ _), (HC2.out.trans (Chg.of_ext HX3.out _)).trans (HC4.out.mono (by simp))⟩
set_option maxRecDepth 100000 in
set_option maxHeartbeats 4000000 in
theorem repeat_no (u g c : Nat) (b : Br) (A B : Option Addr) (cA cB : Nat) (o : Ord) (hh : ¬ (0 ≤ o.a ∧ o.a < b.p.n)) (w : World) (h : BrAt w u g c b) (ho : OrAt [u, g, c] w A B o) : Calls Try.prog 100 #[.pointer (some ⟨u, 0, none⟩), .agg #[.int .u8 o.k, .int .i64 o.a, .int .u8 o.b, .bool o.ge, .slice A o.ps.length cA, .slice B o.da.length cB]] w (Ret1 (.int .i64 32) (BrTo u g c b w)) := by
  have HB := Lib.hid h
  have HO := Lib.hid ho
  clear h ho
  go_enter Try.func100, Try.ntmps100
  go_upto_region 1 with (fail)
  have hE := Ext_alloc (o := .cells #[.int .u8 o.k, .int .i64 o.a, .int .u8 o.b, .bool o.ge, .slice A o.ps.length cA, .slice B o.da.length cB] 71) (Ext_refl w)
  have hB := Blk.new w 71 #[.int .u8 o.k, .int .i64 o.a, .int .u8 o.b, .bool o.ge, .slice A o.ps.length cA, .slice B o.da.length cB]
  generalize w.alloc (.cells #[.int .u8 o.k, .int .i64 o.a, .int .u8 o.b, .bool o.ge, .slice A o.ps.length cA, .slice B o.da.length cB] 71) = W1 at *
  have H1 := Lib.hid (HB.out.ext hE)
  have HO1 := Lib.hid (HO.out.ext hE)
  have HE := Lib.hid hE
  clear HB HO hE
  generalize w.heap.size = bx at *
  have z0 := hB.cell 0
  have z1 := hB.cell 1
  have z2 := hB.cell 2
  have z3 := hB.cell 3
  have z4 := hB.cell 4
  have z5 := hB.cell 5
  have k0 := H1.out.obj.cell 0
  have k1 := H1.out.obj.cell 1
  have k2 := H1.out.obj.cell 2
  have k3 := H1.out.obj.cell 3
  have k4 := H1.out.obj.cell 4
  have k5 := H1.out.obj.cell 5
  have k6 := H1.out.obj.cell 6
  have k7 := H1.out.obj.cell 7
  simp [Br.row] at z0 z1 z2 z3 z4 z5 k0 k1 k2 k3 k4 k5 k6 k7
  have HH := Lib.hid hh
  clear k2 k3 k4 k5 k6 k7 hh
  go_wp2_with fail
  refine (jump_no u g c b A B cA cB o HH.out _ H1.out HO1.out).mono ?_
  rintro e w2 ⟨rfl, hb2, hc2⟩
  have H2 := Lib.hid hb2
  have HC2 := Lib.hid ((Chg.of_ext HE.out _).trans hc2)
  clear H1 HO1 HE hb2 hc2 hB k0 k1
  go_wp2_with fail
  go_ret
  exact ⟨rfl, H2.out, HC2.out⟩
end Go.Proofs.Ytmcfckdgolojlaa
