import Derived.Test.YtmcfckdgolojlaaZG7
import Derived.Test.YtmcfckdgolojlaaK1
/- Chapter 16: wipe. -/
namespace Go.Proofs.Ytmcfckdgolojlaa
set_option linter.unusedVariables false
set_option linter.unusedSimpArgs false
open Go.RowKit Go.Shelf
attribute [local go_sem] Oper.semAt_some
theorem Open_eqB {g c : Nat} {p : Pl} {i : Int} {o : Bool} (ho : p.open_ i = o) (w : World) (h : PlAt w g c p) : Calls Try.prog 22 #[.pointer (some ⟨g, 0, none⟩), .int .i64 i] w (Ret (.bool o) w) := by
  rw [← ho]; exact Open_any g c p i w h
theorem BrAt.boxP {w : World} {u g c bx : Nat} {b : Br} {cs : Array Value} (h : BrAt w u g c b) (hB : Blk w bx 106 cs) : bx ∉ [u, g, c] := by
  obtain ⟨_, _, k⟩ := h.pl
  have h1 : bx ≠ u := by rintro rfl; exact absurd (Blk.same h.obj hB).1 (by decide)
  have h2 : bx ≠ g := by rintro rfl; exact absurd (Blk.same k.obj hB).1 (by decide)
  have h3 : bx ≠ c := by rintro rfl; exact absurd (Blk.same k.row hB).1 (by decide)
  simp [h1, h2, h3]
set_option maxRecDepth 100000 in
set_option maxHeartbeats 4000000 in
theorem wipe_no (u g c : Nat) (b : Br) (A B : Option Addr) (cA cB : Nat) (o : Ord) (hh : ¬ (0 ≤ o.a ∧ o.a < b.p.n)) (w : World) (h : BrAt w u g c b) (ho : OrAt [u, g, c] w A B o) : Calls Try.prog 101 #[.pointer (some ⟨u, 0, none⟩), .agg #[.int .u8 o.k, .int .i64 o.a, .int .u8 o.b, .bool o.ge, .slice A o.ps.length cA, .slice B o.da.length cB]] w (Ret1 (.int .i64 32) (BrTo u g c b w)) := by
  have HB := Lib.hid h
  have HO := Lib.hid ho
  have HH := Lib.hid hh
  clear h ho hh
  go_enter Try.func101, Try.ntmps101
  go_upto_region 1 with (fail)
  have hE := Ext_alloc (o := .cells #[.int .u8 o.k, .int .i64 o.a, .int .u8 o.b, .bool o.ge, .slice A o.ps.length cA, .slice B o.da.length cB] 71) (Ext_alloc (o := .cells #[.pointer (some ⟨u, 0, none⟩)] 106) (Ext_refl w))
  have hA := (Blk.new w 106 #[.pointer (some ⟨u, 0, none⟩)]).alloc (.cells #[.int .u8 o.k, .int .i64 o.a, .int .u8 o.b, .bool o.ge, .slice A o.ps.length cA, .slice B o.da.length cB] 71)
  have hB := Blk.new (w.alloc (.cells #[.pointer (some ⟨u, 0, none⟩)] 106)) 71 #[.int .u8 o.k, .int .i64 o.a, .int .u8 o.b, .bool o.ge, .slice A o.ps.length cA, .slice B o.da.length cB]
  rw [World.size_alloc] at hB
  generalize (w.alloc (.cells #[.pointer (some ⟨u, 0, none⟩)] 106)).alloc (.cells #[.int .u8 o.k, .int .i64 o.a, .int .u8 o.b, .bool o.ge, .slice A o.ps.length cA, .slice B o.da.length cB] 71) = W1 at *
  have H1 := Lib.hid (HB.out.ext hE)
  have HO1 := Lib.hid (HO.out.ext hE)
  have HE := Lib.hid hE
  clear HB HO hE
  have hbx := H1.out.box hB
  have hax : w.heap.size ∉ [u, g, c] := H1.out.boxP hA
  generalize w.heap.size + 1 = bx at *
  generalize w.heap.size = ax at *
  have a0 := hA.cell 0
  have z0 := hB.cell 0
  have z1 := hB.cell 1
  have z2 := hB.cell 2
  have z3 := hB.cell 3
  have z4 := hB.cell 4
  have z5 := hB.cell 5
  have k0 := H1.out.obj.cell 0
  have k1 := H1.out.obj.cell 1
  simp [Br.row] at a0 z0 z1 z2 z3 z4 z5 k0 k1
  go_wp2_with fail
  refine (jump_no u g c b A B cA cB o HH.out _ H1.out HO1.out).mono ?_
  rintro e w2 ⟨rfl, hb2, hc2⟩
  have H2 := Lib.hid hb2
  have HC2 := Lib.hid ((Chg.of_ext HE.out _).trans hc2)
  clear H1 HO1 HE hb2 hc2 hB hA k0 k1 a0
  go_wp2_with fail
  go_ret
  exact ⟨rfl, H2.out, HC2.out⟩
/-- what wipe leaves of a plane -/
def Pl.wipes (p : Pl) (l : List Int) : Pl := l.foldl (fun q i => if q.open_ i then q.set i Cel.zero else q) p
theorem wipes_snoc (p : Pl) (l : List Int) (i : Int) : p.wipes (l ++ [i]) = if (p.wipes l).open_ i then (p.wipes l).set i Cel.zero else p.wipes l := by unfold Pl.wipes; rw [List.foldl_append]; rfl
theorem wipes_n (l : List Int) : ∀ p : Pl, (p.wipes l).n = p.n := by
  induction l with
  | nil => exact fun p => rfl
  | cons i l ih =>
    intro p
    refine (ih _).trans ?_
    show Pl.n (if p.open_ i then p.set i Cel.zero else p) = p.n
    split
    · exact set_n _ _ _
    · rfl
def Br.wipe (b : Br) (o : Ord) : Br := { b with p := b.p.wipes (btwN b.p.n b.at_ (btwM b.p.n b.at_ o.a)), at_ := o.a }
set_option maxRecDepth 100000 in
set_option maxHeartbeats 4000000 in
theorem wipe_yes (u g c : Nat) (b : Br) (A B : Option Addr) (cA cB : Nat) (o : Ord) (hh : 0 ≤ o.a ∧ o.a < b.p.n) (w : World) (h : BrAt w u g c b) (ho : OrAt [u, g, c] w A B o) : Calls Try.prog 101 #[.pointer (some ⟨u, 0, none⟩), .agg #[.int .u8 o.k, .int .i64 o.a, .int .u8 o.b, .bool o.ge, .slice A o.ps.length cA, .slice B o.da.length cB]] w (Ret1 (.int .i64 0) (BrTo u g c (b.wipe o) w)) := by
  have HB := Lib.hid h
  have HO := Lib.hid ho
  have HH := Lib.hid hh
  clear h ho hh
  refine (callsIn_wide (n := 9)).1 ?_
  refine callsIn_of_wp_marks Try.func101 rfl trivial ?_ rfl
  simp only [Try.ntmps101, List.size_toArray, List.length_cons, List.length_nil, Nat.reduceAdd, Nat.reduceSub, Array.replicate_succ, Array.replicate_zero, List.push_toArray, List.append_toArray, List.nil_append, List.cons_append]
  refine wpIn_wide.2 ?_
  go_upto_region 1 with (fail)
  have hE := Ext_alloc (o := .cells #[.int .u8 o.k, .int .i64 o.a, .int .u8 o.b, .bool o.ge, .slice A o.ps.length cA, .slice B o.da.length cB] 71) (Ext_alloc (o := .cells #[.pointer (some ⟨u, 0, none⟩)] 106) (Ext_refl w))
  have hA := (Blk.new w 106 #[.pointer (some ⟨u, 0, none⟩)]).alloc (.cells #[.int .u8 o.k, .int .i64 o.a, .int .u8 o.b, .bool o.ge, .slice A o.ps.length cA, .slice B o.da.length cB] 71)
  have hB := Blk.new (w.alloc (.cells #[.pointer (some ⟨u, 0, none⟩)] 106)) 71 #[.int .u8 o.k, .int .i64 o.a, .int .u8 o.b, .bool o.ge, .slice A o.ps.length cA, .slice B o.da.length cB]
  rw [World.size_alloc] at hB
  generalize (w.alloc (.cells #[.pointer (some ⟨u, 0, none⟩)] 106)).alloc (.cells #[.int .u8 o.k, .int .i64 o.a, .int .u8 o.b, .bool o.ge, .slice A o.ps.length cA, .slice B o.da.length cB] 71) = W1 at *
  have H1 := Lib.hid (HB.out.ext hE)
  have HO1 := Lib.hid (HO.out.ext hE)
  have HE := Lib.hid hE
  clear HB HO hE
  have hbx := H1.out.box hB
  have hax : w.heap.size ∉ [u, g, c] := H1.out.boxP hA
  generalize w.heap.size + 1 = bx at *
  generalize w.heap.size = ax at *
  have a0 := hA.cell 0
  have z0 := hB.cell 0
  have z1 := hB.cell 1
  have z2 := hB.cell 2
  have z3 := hB.cell 3
  have z4 := hB.cell 4
  have z5 := hB.cell 5
  have k0 := H1.out.obj.cell 0
  have k1 := H1.out.obj.cell 1
  simp [Br.row] at a0 z0 z1 z2 z3 z4 z5 k0 k1
  go_wp2_with fail
  refine (jump_yes u g c b A B cA cB o HH.out _ H1.out HO1.out).mono ?_
  rintro e w2 ⟨rfl, hb2, hc2⟩
  have H2 := Lib.hid hb2
  have HC2 := Lib.hid ((Chg.of_ext HE.out _).trans hc2)
  have n0 := H1.out.a0
  have n1 := H1.out.a1
  have hA2 := hA.chg hc2 hax
  clear H1 HO1 HE hb2 hc2 hB hA k0 k1 a0 z0 z1 z2 z3 z4 z5
  have a0 := hA2.cell 0
  have k0 := H2.out.obj.cell 0
  have k1 := H2.out.obj.cell 1
  have hu := H2.out.obj.lt
  have hl := hA2.lt
  simp [Br.row] at a0 k0 k1
  go_wp2_with fail
  go_region_held3 (fun w' => w'.cell? ⟨ax, 0, none⟩ = some (.pointer (some ⟨u, 0, none⟩)) ∧ w'.cell? ⟨u, 0, none⟩ = some (.pointer (some ⟨g, 0, none⟩)) ∧ w'.cell? ⟨u, 1, none⟩ = some (.int .i64 o.a)) (first | with_reducible exact ⟨a0, k0, k1⟩ | with_reducible exact ⟨j0, j1, j2⟩ | with_reducible exact ⟨i0, i1, i2⟩ | exact ⟨a0, k0, k1⟩ | go_keep) ((first
    | (go_at_call 62; refine (Size_any g c b.p _ (H2.out.pl.ext (by first | exact Ext_refl _ | exact Ext_drew (Ext_refl _)))).mono ?_; rintro e w3 ⟨rfl, hb⟩; have hx := (show Ext w2 w3 from Ext_trans hb (by first | exact Ext_refl _ | exact Ext_drew (Ext_refl _))); have j0 := (cell_ext hx hl).trans a0; have j1 := (cell_ext hx hu).trans k0; have j2 := (cell_ext hx hu).trans k1; have H3 := Lib.hid (H2.out.ext hx); have HX3 := Lib.hid hx; have hA3 := Blk.ext2 hA2 hx; clear hb hx)
    | (go_at_call 89; refine (Between_any b.p.rows b.p.cols b.at_ o.a _).mono ?_; rintro e w' ⟨rfl, rfl⟩; have hx : Ext w3 (((w3.alloc (.cells #[.int .i64 b.p.rows, .int .i64 b.p.cols] 23)).alloc (.cells #[.int .i64 b.at_] 3)).alloc (.cells #[.int .i64 o.a] 3)) := Ext_alloc (Ext_alloc (Ext_alloc (Ext_refl w3))); have i0 := (cell_ext hx hA3.lt).trans j0; have i1 := (cell_ext hx H3.out.obj.lt).trans j1; have i2 := (cell_ext hx H3.out.obj.lt).trans j2; clear hx)))
  rename_i hHeld
  clear hHeld j0 j1 j2 a0 k0 k1 i0 i1 i2
  have hE3 : Ext w3 (((w3.alloc (.cells #[.int .i64 b.p.rows, .int .i64 b.p.cols] 23)).alloc (.cells #[.int .i64 b.at_] 3)).alloc (.cells #[.int .i64 o.a] 3)) := Ext_alloc (Ext_alloc (Ext_alloc (Ext_refl w3)))
  have b1 : Blk (((w3.alloc (.cells #[.int .i64 b.p.rows, .int .i64 b.p.cols] 23)).alloc (.cells #[.int .i64 b.at_] 3)).alloc (.cells #[.int .i64 o.a] 3)) w3.heap.size 23 #[.int .i64 b.p.rows, .int .i64 b.p.cols] := ((Blk.new w3 _ _).alloc _).alloc _
  have b2 : Blk (((w3.alloc (.cells #[.int .i64 b.p.rows, .int .i64 b.p.cols] 23)).alloc (.cells #[.int .i64 b.at_] 3)).alloc (.cells #[.int .i64 o.a] 3)) (w3.heap.size + 1) 3 #[.int .i64 b.at_] := by
    have := (Blk.new (w3.alloc (.cells #[.int .i64 b.p.rows, .int .i64 b.p.cols] 23)) 3 #[.int .i64 b.at_]).alloc (.cells #[.int .i64 o.a] 3)
    rw [World.size_alloc] at this
    exact this
  have b3 : Blk (((w3.alloc (.cells #[.int .i64 b.p.rows, .int .i64 b.p.cols] 23)).alloc (.cells #[.int .i64 b.at_] 3)).alloc (.cells #[.int .i64 o.a] 3)) (w3.heap.size + 2) 3 #[.int .i64 o.a] := by
    have := Blk.new ((w3.alloc (.cells #[.int .i64 b.p.rows, .int .i64 b.p.cols] 23)).alloc (.cells #[.int .i64 b.at_] 3)) 3 #[.int .i64 o.a]
    rw [World.size_alloc, World.size_alloc] at this
    exact this
  have hA4 := Blk.ext2 hA3 hE3
  have H4 := Lib.hid (H3.out.ext hE3)
  have HC4 := Lib.hid ((HC2.out.trans (Chg.of_ext HX3.out _)).trans (Chg.of_ext hE3 _))
  obtain ⟨W0, hW0⟩ : ∃ W0, ((w3.alloc (.cells #[.int .i64 b.p.rows, .int .i64 b.p.cols] 23)).alloc (.cells #[.int .i64 b.at_] 3)).alloc (.cells #[.int .i64 o.a] 3) = W0 := ⟨_, rfl⟩
  rw [hW0] at b1 b2 b3 hA4 H4 HC4 ⊢
  obtain ⟨sb, hsb⟩ : ∃ sb, w3.heap.size = sb := ⟨_, rfl⟩
  have hpg := H3.out.pl.glt
  have hpc := H3.out.pl.clt
  have hpu := H3.out.obj.lt
  have hpa := hA3.lt
  rw [hsb] at b1 b2 b3 hpg hpc hpu hpa ⊢
  clear hW0 hE3 hsb H3 HX3 HC2 H2 hA3 hA2 hu hl
  have l1 := b1.lt
  have l2 := b2.lt
  have l3 := b3.lt
  go_wp2_with fail
  refine (wpIn_wide (n := 9)).1 ?_
  refine wpIn_rangeFunc_ownG (n := 9) rfl (by omega) (gf := 109) (lb := #[.pointer (some ⟨sb, 0, none⟩), .pointer (some ⟨sb + 1, 0, none⟩), .pointer (some ⟨sb + 2, 0, none⟩)]) rfl trivial (enters_of Try.func109 (by kernel_rfl) rfl)
    (Between_stops 8 (by omega) sb (sb + 1) (sb + 2) b.p.rows b.p.cols b.p.n b.at_ o.a H4.out.pl.ok.sz n0 n1 HH.out.1 HH.out.2 W0 b1 b2 b3) Kp3.trans (Kp3.put l1 l2 l3) (Below.refl _ _) (fun _ => rfl)
    (fun pre W => PlAt W g c (b.p.wipes (vals pre)) ∧ Chg [g, c] W0 W)
    (fun _ _ _ => False)
    (OwnFrom.and (plat_own g c _ |>.from _) (chg_ownFrom _ _ _ (Nat.le_refl _)))
    (fun cd s X Y row hs hg' hr => hs)
    ⟨H4.out.pl, Chg.refl _ _⟩
    (fun y => { tmps := #[.pointer (some ⟨u, 0, none⟩), .agg #[.int .u8 o.k, .int .i64 o.a, .int .u8 o.b, .bool o.ge, .slice A o.ps.length cA, .slice B o.da.length cB], .pointer (some ⟨ax, 0, none⟩), .pointer (some ⟨bx, 0, none⟩), .int .i64 0, .int .i64 b.at_, .int .i64 0, .int .i64 y.1, .pointer (some ⟨u, 0, none⟩), .pointer (some ⟨u, 0, none⟩), .pointer (some ⟨u, 1, none⟩), .int .i64 b.at_, .pointer (some ⟨u, 0, none⟩), .agg #[.int .u8 o.k, .int .i64 o.a, .int .u8 o.b, .bool o.ge, .slice A o.ps.length cA, .slice B o.da.length cB], .int .i64 0, .int .i64 0, .bool false, undef, .pointer (some ⟨u, 0, none⟩), .pointer (some ⟨u, 0, none⟩), .pointer (some ⟨u, 0, none⟩), .pointer (some ⟨g, 0, none⟩), .agg #[.int .i64 b.p.rows, .int .i64 b.p.cols], .int .i64 b.at_, .pointer (some ⟨u, 0, none⟩), .pointer (some ⟨u, 0, none⟩), .pointer (some ⟨u, 1, none⟩), .int .i64 o.a, .func (.func 109) #[] #[.pointer (some ⟨sb, 0, none⟩), .pointer (some ⟨sb + 1, 0, none⟩), .pointer (some ⟨sb + 2, 0, none⟩)], .int .i64 y.1, undef, undef, undef, undef, undef, undef, undef, undef, undef, undef, undef, undef, undef], defers := [] })
    ?assign ?body ?done ?stop
  case assign =>
    intro l y W K hK
    gi_wp2
    exact hK
  case body =>
    rintro l pre ⟨y, y0, y1⟩ W ⟨hp, hch⟩ hlt
    have hu4 := H4.out.obj.lt
    have hne := H4.out.ne
    have k0 := (Chg.cellB (i := 0) hch (by simp; omega) hu4).trans (show W0.cell? ⟨u, 0, none⟩ = some (.pointer (some ⟨g, 0, none⟩)) by have := H4.out.obj.cell 0; simpa [Br.row] using this)
    have a0 := (Chg.cellB (i := 0) (b := ax) hch (by simp at hax ⊢; omega) hA4.lt).trans (show W0.cell? ⟨ax, 0, none⟩ = some (.pointer (some ⟨u, 0, none⟩)) by have := hA4.cell 0; simpa using this)
    have HPP := Lib.hid hp
    have HCH := Lib.hid hch
    clear hp hch
    obtain ⟨Q, hQ⟩ : ∃ Q, b.p.wipes (vals pre) = Q := ⟨_, rfl⟩
    rw [hQ] at HPP
    obtain ⟨op, hop⟩ : ∃ op, Q.open_ y = op := ⟨_, rfl⟩
    have HOP := Lib.hid hop
    have hs0 : b.p.wipes (vals (pre ++ [⟨y, y0, y1⟩])) = if op then Q.set y Cel.zero else Q := by rw [vals_snoc, wipes_snoc, hQ, hop]
    have HS := Lib.hid hs0
    clear hQ hop hs0 b1 b2 b3
    cases op
    · gi_wp2_with (refine ⟨trivial, ?_⟩; gi_at_call 22; refine (CallsIn.inRound l (callsIn_wide.2 (Open_eqB HOP.out _ HPP.out))).mono ?_; rintro e w5 ⟨rfl, hb⟩; have k5 := (cell_ext hb (Nat.lt_of_lt_of_le hu4 HCH.out.size)).trans k0; have a5 := (cell_ext hb (Nat.lt_of_lt_of_le hA4.lt HCH.out.size)).trans a0; have HX5 := Lib.hid hb; clear hb)
      refine ⟨KeepsFrom.of_ext HX5.out _, Kp3.of_ext HX5.out, ?_, HCH.out.trans (Chg.of_ext HX5.out _)⟩
      rw [HS.out]
      exact HPP.out.ext HX5.out
    · gi_wp2_with (first
        | (refine ⟨trivial, ?_⟩; gi_at_call 22; refine (CallsIn.inRound l (callsIn_wide.2 (Open_eqB HOP.out _ HPP.out))).mono ?_; rintro e w5 ⟨rfl, hb⟩; have k5 := (cell_ext hb (Nat.lt_of_lt_of_le hu4 HCH.out.size)).trans k0; have a5 := (cell_ext hb (Nat.lt_of_lt_of_le hA4.lt HCH.out.size)).trans a0; have HX5 := Lib.hid hb; clear hb)
        | (refine ⟨trivial, ?_⟩; gi_at_call 50; refine (CallsIn.inRound l (callsIn_wide.2 (Set_any g c Q y Cel.zero (by decide) _ (HPP.out.ext HX5.out)))).mono ?_; rintro e w6 ⟨rfl, hs, hc6⟩; have HP6 := Lib.hid hs; have HC6 := Lib.hid hc6; clear hs hc6))
      have hch6 : Chg [g, c] W w6 := (Chg.of_ext HX5.out _).trans HC6.out
      refine ⟨KeepsFrom.of_chg hch6 (by simp; omega), Kp3.of_chg hch6 (by simp; omega) (by simp; omega) (by simp; omega), ?_, HCH.out.trans hch6⟩
      rw [HS.out]
      exact HP6.out
  case done =>
    rintro D xs W hD hxs ⟨hp, hch⟩ hK
    rw [hxs] at hp
    have HP := Lib.hid hp
    have HCH := Lib.hid hch
    have HK := Lib.hid hK
    have HD := Lib.hid hD
    clear hp hch hK hD hxs
    go_wp2_with fail
    refine ⟨by simp, .inl ⟨_, _, rfl, run_takeDeferred HK.out, ?_⟩⟩
    refine ⟨.int .i64 0, ?_, rfl, H4.out.pl_to ((plat_own (β := Unit) g c (fun _ => b.p.wipes (btwN b.p.n b.at_ (btwM b.p.n b.at_ o.a)))).putObj (s := ()) _ HP.out HK.out rfl) (HCH.out.put D _ HD.out) (wipes_n _ _), HC4.out.trans ((HCH.out.put D _ HD.out).mono (by simp))⟩
    simp [results, Try.f101, go_sem]
  case stop =>
    rintro D cd pre W hD hpre hf hK
    exact hf.elim
end Go.Proofs.Ytmcfckdgolojlaa
