/- Home: the first place at which something may be typed. -/
import Derived.Test.YtmcfckdgolojlaaP5
import Derived.Stop.RegionWithIn
namespace Go.Proofs.Ytmcfckdgolojlaa
set_option linter.unusedVariables false
set_option linter.unusedSimpArgs false
open Go.RowKit Go.Shelf
attribute [local go_sem] Oper.semAt_some

theorem blk_own {β : Type} (B : Nat) (t : TypeId) (f : β → Array Value) : Own (fun s W => Blk W B t (f s)) := fun s X Y row hs hg hrow => by
  refine (hg.block B hs.lt (fun e' => ?_)).trans hs
  obtain ⟨o, ho, hc⟩ := hrow B e'.symm
  rw [show X.heap[B]? = _ from hs] at ho; cases ho; cases hc
theorem KeepsOthers.of_ext' {W W' : World} (h : Ext W W') : KeepsOthers W W' := ⟨h.size, fun k o ho _ => (h.block k (Array.getElem?_eq_some_iff.1 ho).1).trans ho⟩
theorem KeepsFrom.of_ext {W W' : World} (h : Ext W W') (B : Nat) : KeepsFrom B W W' := (KeepsOthers.of_ext' h).from B
/-- may something be typed into a field? -/
def openF (x : FV) : Bool := decide (0 < x.l) && !bitB x.a 32
def Pl.homeM (p : Pl) : Int := match (p.flds p.cells.length).find? openF with | some x => (x.s + 1) % p.n | none => 0

set_option maxRecDepth 100000 in
set_option maxHeartbeats 4000000 in
theorem FHome_any (g c : Nat) (p : Pl) (w : World) (h : PlAt w g c p) : Calls Try.prog 61 #[.pointer (some ⟨g, 0, none⟩)] w (Ret (.int .i64 p.homeM) w) := by
  have HP := Lib.hid h
  have hg := h.glt
  have hc := h.clt
  clear h
  refine (callsIn_wide (n := 9)).1 ?_
  refine callsIn_of_wp_marks Try.func61 rfl trivial ?_ rfl
  simp only [Try.ntmps61, List.size_toArray, List.length_cons, List.length_nil, Nat.reduceAdd, Nat.reduceSub, Array.replicate_succ, Array.replicate_zero, List.push_toArray, List.append_toArray, List.nil_append, List.cons_append]
  gi_wp2_with (refine ⟨trivial, ?_⟩; gi_at_call 76; refine (callsIn_wide.2 (FAll_any _ _)).mono ?_; rintro e w' ⟨rfl, rfl⟩)
  obtain ⟨W0, hW0⟩ : ∃ W0, ((w.alloc (.cells #[.pointer (some ⟨g, 0, none⟩)] 26)).alloc (.cells #[.int .i64 0] 3)).alloc (.cells #[.pointer (some ⟨g, 0, none⟩)] 26) = W0 := ⟨_, rfl⟩
  have hsz : W0.heap.size = w.heap.size + 3 := by rw [← hW0]; simp
  have hs1 : W0.heap.size ≤ w.heap.size + 3 := by omega
  have hs2 : w.heap.size + 3 ≤ W0.heap.size := by omega
  clear hsz
  have hB0 : Ext w W0 := by rw [← hW0]; exact Ext_alloc (Ext_alloc (Ext_alloc (Ext_refl _)))
  have b0 : Blk W0 w.heap.size 26 #[.pointer (some ⟨g, 0, none⟩)] := by rw [← hW0]; exact ((Blk.new w _ _).alloc _).alloc _
  have b1 : Blk W0 (w.heap.size + 1) 3 #[.int .i64 0] := by
    have := Blk.new (w.alloc (.cells #[.pointer (some ⟨g, 0, none⟩)] 26)) 3 #[.int .i64 0]
    rw [World.size_alloc] at this
    rw [← hW0]; exact this.alloc _
  have b2 : Blk W0 (w.heap.size + 2) 26 #[.pointer (some ⟨g, 0, none⟩)] := by
    have := Blk.new ((w.alloc (.cells #[.pointer (some ⟨g, 0, none⟩)] 26)).alloc (.cells #[.int .i64 0] 3)) 26 #[.pointer (some ⟨g, 0, none⟩)]
    rw [World.size_alloc, World.size_alloc] at this
    rw [← hW0]; exact this
  rw [hW0]
  clear hW0
  refine wpIn_rangeFunc_ownH rfl (by omega) (gf := 91) (lb := #[.pointer (some ⟨w.heap.size + 1 + 1, 0, none⟩)]) rfl trivial (enters_of Try.func91 (by kernel_rfl) rfl)
    (FAll_stops 8 (by omega) (w.heap.size + 1 + 1) g c W0.heap.size p W0 b2 (HP.out.ext hB0) (by omega) (by omega) (by omega) (Nat.le_refl _)) belowK_t (belowK_b (Nat.le_refl _)) (Below.refl _ _) (fun _ => rfl)
    (fun pre W => (∀ x ∈ pre, openF x = false) ∧ Below W0.heap.size W0 W)
    (fun cd pre W => ((cd = .ret ∧ ∃ q x, pre = q ++ [x] ∧ (∀ y ∈ q, openF y = false) ∧ openF x = true ∧ Blk W (w.heap.size + 1) 3 #[.int .i64 ((x.s + 1) % p.n)])) ∧ Below w.heap.size w W)
    (OwnFrom.and (ownFrom_pure _ _) (ownFrom_below (Nat.le_refl _) (Nat.le_refl _)))
    (fun cd => OwnFrom.and (fun s X Y row hs hg' hr => by obtain ⟨e1, q, x, e2, e3, e4, e5⟩ := hs; exact ⟨e1, q, x, e2, e3, e4, Own.from (blk_own (β := Unit) _ _ (fun _ => #[.int .i64 ((x.s + 1) % p.n)])) _ () X Y row e5 hg' hr⟩) (ownFrom_below (Nat.le_refl _) (by omega)))
    ⟨by simp, Below.refl _ _⟩
    (fun x a' W => ∃ Bx, W0.heap.size ≤ Bx ∧ Blk W Bx 52 x.cells ∧ a' = { tmps := #[.pointer (some ⟨g, 0, none⟩), .pointer (some ⟨w.heap.size, 0, none⟩), .pointer (some ⟨w.heap.size + 1, 0, none⟩), .pointer (some ⟨Bx, 0, none⟩), .pointer (some ⟨g, 0, none⟩), .func (.func 91) #[] #[.pointer (some ⟨w.heap.size + 1 + 1, 0, none⟩)], .agg #[.int .i64 x.s, .int .i64 x.l, .int .u8 x.a], undef, undef, undef, undef, undef, undef, undef, undef, undef, undef, undef, undef, undef, undef], defers := [] })
    (fun x a' _ X Y row hs hg' hr => by obtain ⟨Bx, e1, e2, e3⟩ := hs; exact ⟨Bx, e1, blk_own Bx _ (fun (_ : Unit) => x.cells) () X Y row e2 hg' (fun r e => (hr r e).2), e3⟩)
    ?assign ?body ?done ?stop
  case assign =>
    rintro l pre x W K ⟨hp, hB1⟩ hK
    gi_wp2
    have hE : Ext W (W.alloc (.cells #[.int .i64 x.s, .int .i64 x.l, .int .u8 x.a] 52)) := Ext_alloc (Ext_refl _)
    exact hK _ _ (KeepsFrom.of_ext hE _) (hE.mono hB1.size) ⟨hp, Ext_trans hE hB1⟩ ⟨W.heap.size, hB1.size, Blk.new _ _ _, rfl⟩
  case body =>
    rintro l pre x a' W hl ⟨r, hr⟩ ⟨hp, hB1⟩ ⟨Bx, hBx, bX, rfl⟩ hlt
    have bR1 := Blk.below' b1 hB1
    have bB1 := Blk.below' b0 hB1
    have k0 := bX.cell 0
    have k1 := bX.cell 1
    have k2 := bX.cell 2
    have cB := bB1.cell 0
    have cR := bR1.cell 0
    have fR := bR1.free 0
    simp [FV.cells] at k0 k1 k2 cB cR
    have HPW := Lib.hid (HP.out.ext (Ext_trans hB1 hB0))
    have HX := Lib.hid (Ext_refl W)
    have HZ := Lib.hid HP.out.ok.sz
    have iX : In Bx W := bX.lt
    have iB : In w.heap.size W := bB1.lt
    have iR : In (w.heap.size + 1) W := bR1.lt
    by_cases hx : 0 < x.l
    · cases hy : bitB x.a 32
      · have HY := Lib.hid hy
        clear hy
        gi_wp2_with (refine ⟨trivial, ?_⟩; gi_at_call 60; refine (CallsIn.inRound l (callsIn_wide.2 (Protected_any _ _))).mono ?_; rintro e wn ⟨rfl, hb⟩; rw [HY.out]; have HXn := Lib.hid (Ext_trans hb (by repeat' (first | (with_reducible first | exact HX.out | apply Ext_alloc | apply Ext_drewN | apply Ext_drew | (refine Ext_set ?_ ?_) | exact Ext_refl _) | (simp only [World.size_alloc, World.size_setCell, World.size_drew, size_drewN]; omega) | (simp; done) | (simp; omega)))); clear hb HX; have HX := HXn; clear HXn; have m0 := (cell_ext HX.out iX).trans k0; have mB := (cell_ext HX.out iB).trans cB; have mR := (cell_ext HX.out iR).trans cR; have nR := (frozen_ext HX.out iR).trans fR)
        gi_region_with (first
          | (refine ⟨trivial, ?_⟩; gi_at_call 62; refine (CallsIn.inRound l (callsIn_wide.2 (Size_any g c p _ (HPW.out.ext (by repeat' (first | (with_reducible first | exact HX.out | apply Ext_alloc | apply Ext_drewN | apply Ext_drew | (refine Ext_set ?_ ?_) | exact Ext_refl _) | (simp only [World.size_alloc, World.size_setCell, World.size_drew, size_drewN]; omega) | (simp; done) | (simp; omega))))))).mono ?_; rintro e wn ⟨rfl, hb⟩; have HXn := Lib.hid (Ext_trans hb (by repeat' (first | (with_reducible first | exact HX.out | apply Ext_alloc | apply Ext_drewN | apply Ext_drew | (refine Ext_set ?_ ?_) | exact Ext_refl _) | (simp only [World.size_alloc, World.size_setCell, World.size_drew, size_drewN]; omega) | (simp; done) | (simp; omega)))); clear hb HX; have HX := HXn; clear HXn; have m0 := (cell_ext HX.out iX).trans k0; have mB := (cell_ext HX.out iB).trans cB; have mR := (cell_ext HX.out iR).trans cR; have nR := (frozen_ext HX.out iR).trans fR)
          | (refine ⟨trivial, ?_⟩; gi_at_call 83; refine (CallsIn.inRound l (callsIn_wide.2 (Move_any _ _ _ _ p.n HZ.out _))).mono ?_; rintro e wn ⟨rfl, hb⟩; have HXn := Lib.hid (Ext_trans hb (by repeat' (first | (with_reducible first | exact HX.out | apply Ext_alloc | apply Ext_drewN | apply Ext_drew | (refine Ext_set ?_ ?_) | exact Ext_refl _) | (simp only [World.size_alloc, World.size_setCell, World.size_drew, size_drewN]; omega) | (simp; done) | (simp; omega)))); clear hb HX; have HX := HXn; clear HXn; have m0 := (cell_ext HX.out iX).trans k0; have mB := (cell_ext HX.out iB).trans cB; have mR := (cell_ext HX.out iR).trans cR; have nR := (frozen_ext HX.out iR).trans fR))
        all_goals gi_wp2
        all_goals
          have hRn := Blk.below' bR1 HX.out
          exact ⟨KeepsFrom.trans (KeepsFrom.of_ext HX.out _) ((KeepsOthers.setCell _ _ _).from _), ⟨rfl, pre, x, rfl, hp, by simp [openF, hx, HY.out], hRn.store 0 (.int .i64 ((x.s + 1) % p.n))⟩, Ext_set (Ext_trans HX.out (Ext_trans hB1 hB0)) (by simp)⟩
      · have HY := Lib.hid hy
        clear hy
        gi_wp2_with (refine ⟨trivial, ?_⟩; gi_at_call 60; refine (CallsIn.inRound l (callsIn_wide.2 (Protected_any _ _))).mono ?_; rintro e wn ⟨rfl, hb⟩; rw [HY.out]; have HXn := Lib.hid (Ext_trans hb (by repeat' (first | (with_reducible first | exact HX.out | apply Ext_alloc | apply Ext_drewN | apply Ext_drew | (refine Ext_set ?_ ?_) | exact Ext_refl _) | (simp only [World.size_alloc, World.size_setCell, World.size_drew, size_drewN]; omega) | (simp; done) | (simp; omega)))); clear hb HX; have HX := HXn; clear HXn; have m0 := (cell_ext HX.out iX).trans k0; have mB := (cell_ext HX.out iB).trans cB; have mR := (cell_ext HX.out iR).trans cR; have nR := (frozen_ext HX.out iR).trans fR)
        refine ⟨KeepsFrom.of_ext HX.out _, HX.out.mono hB1.size, fun y hy => ?_, Ext_trans HX.out hB1⟩
        rcases List.mem_append.1 hy with hy | hy
        · exact hp y hy
        · simp at hy; subst hy; simp [openF, HY.out]
    · have HY := Lib.hid hx
      clear hx
      have hx : x.l ≤ 0 := by have := HY.out; omega
      gi_wp2_with (refine ⟨trivial, ?_⟩)
      refine ⟨KeepsFrom.refl _ _, Below.refl _ _, fun y hy => ?_, hB1⟩
      rcases List.mem_append.1 hy with hy | hy
      · exact hp y hy
      · simp at hy; subst hy; simp [openF]; omega
  case done =>
    rintro D xs W hD rfl ⟨hp, hB1⟩ hK
    have bR1 := Blk.below' b1 hB1
    have cR := bR1.cell 0
    have fR := bR1.free 0
    simp at cR
    gi_wp2
    have bR2 := bR1.store 0 (.int .i64 0)
    have hE : Ext w (W.setCell ⟨w.heap.size + 1, 0, none⟩ (.int .i64 0)) := Ext_set (Ext_trans hB1 hB0) (by simp)
    have hK' := (KeepsOthers.setCell W ⟨w.heap.size + 1, 0, none⟩ (.int .i64 0)).same D _ hK rfl
    refine ⟨by simp, .inl ⟨_, _, rfl, run_takeDeferred hK', ?_⟩⟩
    have hc5 := cell_kept (bR2.cell 0) (grownBy_putObj' _ D (.deferred none)) (fun r e => by cases e; exact ⟨_, hK', rfl⟩)
    have hv : p.homeM = 0 := by unfold Pl.homeM; rw [List.find?_eq_none.2 (fun x hx => by simp [hp x hx])]
    refine ⟨.int .i64 0, ?_, by rw [hv], hE.trans (belowK_b (w := w) (Nat.le_refl _) _ D _ _ (by omega) hK' rfl rfl)⟩
    simp at hc5
    simp [results, Try.f61, go_sem, hc5]
  case stop =>
    rintro D cd pre W hD hpre ⟨⟨rfl, q, x, rfl, hq, hx, bR1⟩, hB1⟩ hK
    have cR := bR1.cell 0
    gi_wp2
    refine ⟨by simp, .inl ⟨_, _, rfl, run_takeDeferred hK, ?_⟩⟩
    have hc5 := cell_kept cR (grownBy_putObj' _ D (.deferred none)) (fun r e => by cases e; exact ⟨_, hK, rfl⟩)
    have hv : p.homeM = (x.s + 1) % p.n := by
      unfold Pl.homeM
      obtain ⟨t, ht⟩ := hpre
      rw [← ht, List.append_assoc, List.find?_append, List.find?_eq_none.2 (fun y hy => by simp [hq y hy])]
      simp [hx]
    refine ⟨.int .i64 ((x.s + 1) % p.n), ?_, by rw [hv], hB1.trans (belowK_b (w := w) (Nat.le_refl _) W D _ _ (by omega) hK rfl rfl)⟩
    simp at hc5
    simp [results, Try.f61, go_sem, hc5]
end Go.Proofs.Ytmcfckdgolojlaa
