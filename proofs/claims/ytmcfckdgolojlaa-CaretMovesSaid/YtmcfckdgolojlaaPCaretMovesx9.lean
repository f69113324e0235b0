-- PRINTED BY print.sh 35421559b90ae4d0a3588c463048766b98c2df88dd9212a6774a882060cdf62d: not written by this session
import Derived.Test.YtmcfckdgolojlaaPCaretMovesx0
import Derived.Test.YtmcfckdgolojlaaPCaretMovesx5
import Derived.Test.YtmcfckdgolojlaaPCaretMovesx7
import Derived.Test.YtmcfckdgolojlaaPCaretMovesx8
namespace Go.Proofs.Ytmcfckdgolojlaa.PCaretMoves
open Go.RowKit Go.Proofs.YtmcfckdgolojlaaW.PrintWords Go.Proofs.YtmcfckdgolojlaaW.PrintLast Go.Proofs.YtmcfckdgolojlaaW.PrintMore
attribute [local go_sem] max2_int min2_int max_two min_two max_three min_three max_four min_four   -- for this text's walks alone
set_option linter.unusedVariables false
set_option linter.unusedSimpArgs false

/-! ### greenscreenref19_Back: function 30 -/
mutual
def greenscreenref19_Back.l0 : Nat → List Int → Int → Bool → Int → Int → Int → List (S38) → Int → Int → Int → Int → Option (Int)
  | 0, _, _, _, _, _, _, _, _, _, _, _ => none
  | k + 1, x3, x4, x6, x7, x486000, x486001, x486002, x486003, x494000, x494001, x494002 => if x7 < (x3.length : Int) then (greenscreenref19_Back.j1 k x3 x4 x6 x7 x6 x486000 x486001 x486002 x486003 x494000 x494001 x494002) else (greenscreenref19_Back.j1 k x3 x4 x6 x7 false x486000 x486001 x486002 x486003 x494000 x494001 x494002)
def greenscreenref19_Back.j1 : Nat → List Int → Int → Bool → Int → Bool → Int → Int → List (S38) → Int → Int → Int → Int → Option (Int)
  | 0, _, _, _, _, _, _, _, _, _, _, _, _ => none
  | k + 1, x3, x4, x6, x7, x32, x486000, x486001, x486002, x486003, x494000, x494001, x494002 => if x32 = true then (if 0 ≤ x7 then (if x7 < (x3.length : Int) then (if (rd x3 x7) = x494000 then (if x486003 = x494000 then (greenscreenref19_Back.l0 k x3 x4 x6 (wrap64 (x7 + 1)) x486000 x486001 x486002 x486003 x494000 x494001 x494002) else (if x4 = 0 then (none) else (if x486003 = (Int.tmod (wrap64 (x494000 + 1)) x4) then (greenscreenref19_Back.l0 k x3 x4 x6 (wrap64 (x7 + 1)) x486000 x486001 x486002 x486003 x494000 x494001 x494002) else (some (Int.tmod (wrap64 (x494000 + 1)) x4))))) else (greenscreenref19_Back.l0 k x3 x4 x6 (wrap64 (x7 + 1)) x486000 x486001 x486002 x486003 x494000 x494001 x494002)) else (none)) else (none)) else ((greenscreenref02_Move.f k x486000 x486001 x486003 (-2)).bind fun t495 => (if 0 ≤ (wrap64 ((x3.length : Int) - 1)) then (if (wrap64 ((x3.length : Int) - 1)) < (x3.length : Int) then (greenscreenref19_Back.l1 k x3 x4 t495 (rd x3 (wrap64 ((x3.length : Int) - 1))) 0) else (none)) else (none)))
def greenscreenref19_Back.l1 : Nat → List Int → Int → Int → Int → Int → Option (Int)
  | 0, _, _, _, _, _ => none
  | k + 1, x3, x4, x8, x9, x10 => if x10 < (x3.length : Int) then (if 0 ≤ x10 then (if (rd x3 x10) ≤ x8 then (greenscreenref19_Back.l1 k x3 x4 x8 (rd x3 x10) (wrap64 (x10 + 1))) else (greenscreenref19_Back.l1 k x3 x4 x8 x9 (wrap64 (x10 + 1)))) else (none)) else (if x4 = 0 then (none) else (some (Int.tmod (wrap64 (x9 + 1)) x4)))
end
def greenscreenref19_Back.f (k : Nat) (a0_0 : Int) (a0_1 : Int) (l0_2 : List (S38)) (a0_3 : Int) : Option (Int) := (greenscreenref19_Opens.f k a0_0 a0_1 l0_2 a0_3).bind fun t486 => (if (t486.length : Int) = 0 then (some 0) else ((greenscreenref15_Of.f k a0_0 a0_1 l0_2 a0_3 a0_3).bind fun bt489 => (greenscreenref19_Back.l0 k t486 (l0_2.length : Int) bt489.2.2.2 0 a0_0 a0_1 l0_2 a0_3 bt489.1 bt489.2.1 bt489.2.2.1)))
theorem greenscreenref19_Back.mono_l : ∀ k, (∀ y0 y1 y2 y3 y4 y5 y6 y7 y8 y9 y10, LeO (greenscreenref19_Back.l0 k y0 y1 y2 y3 y4 y5 y6 y7 y8 y9 y10) (greenscreenref19_Back.l0 (k + 1) y0 y1 y2 y3 y4 y5 y6 y7 y8 y9 y10)) ∧ (∀ y0 y1 y2 y3 y4 y5 y6 y7 y8 y9 y10 y11, LeO (greenscreenref19_Back.j1 k y0 y1 y2 y3 y4 y5 y6 y7 y8 y9 y10 y11) (greenscreenref19_Back.j1 (k + 1) y0 y1 y2 y3 y4 y5 y6 y7 y8 y9 y10 y11)) ∧ (∀ y0 y1 y2 y3 y4, LeO (greenscreenref19_Back.l1 k y0 y1 y2 y3 y4) (greenscreenref19_Back.l1 (k + 1) y0 y1 y2 y3 y4))
  | 0 => ⟨fun _ _ _ _ _ _ _ _ _ _ _ r h => by simp [greenscreenref19_Back.l0] at h, fun _ _ _ _ _ _ _ _ _ _ _ _ r h => by simp [greenscreenref19_Back.j1] at h, fun _ _ _ _ _ r h => by simp [greenscreenref19_Back.l1] at h⟩
  | k + 1 => by
    obtain ⟨ih0, ih1, ih2⟩ := greenscreenref19_Back.mono_l k
    refine ⟨?_, ?_, ?_⟩
    · intro y0 y1 y2 y3 y4 y5 y6 y7 y8 y9 y10
      unfold greenscreenref19_Back.l0
      repeat' first
      | (with_reducible exact ih0 _ _ _ _ _ _ _ _ _ _ _)
      | (with_reducible exact ih1 _ _ _ _ _ _ _ _ _ _ _ _)
      | (with_reducible exact ih2 _ _ _ _ _)
      | (with_reducible exact greenscreenref02_Move.mono _ _ _ _ _)
      | (with_reducible exact greenscreenref15_Of.mono _ _ _ _ _ _)
      | (with_reducible exact greenscreenref19_Opens.mono _ _ _ _ _)
      | (with_reducible exact LeO.refl _)
      | (with_reducible exact LeO.none _)
      | (with_reducible refine LeO.ite ?_ ?_)
      | (with_reducible refine LeO.bind ?_ (fun _ => ?_))
      | exact ih0 _ _ _ _ _ _ _ _ _ _ _
      | exact ih1 _ _ _ _ _ _ _ _ _ _ _ _
      | exact ih2 _ _ _ _ _
      | exact greenscreenref02_Move.mono _ _ _ _ _
      | exact greenscreenref15_Of.mono _ _ _ _ _ _
      | exact greenscreenref19_Opens.mono _ _ _ _ _
      | exact LeO.none _
      | refine LeO.ite ?_ ?_
      | refine LeO.bind ?_ (fun _ => ?_)
    · intro y0 y1 y2 y3 y4 y5 y6 y7 y8 y9 y10 y11
      unfold greenscreenref19_Back.j1
      repeat' first
      | (with_reducible exact ih0 _ _ _ _ _ _ _ _ _ _ _)
      | (with_reducible exact ih1 _ _ _ _ _ _ _ _ _ _ _ _)
      | (with_reducible exact ih2 _ _ _ _ _)
      | (with_reducible exact greenscreenref02_Move.mono _ _ _ _ _)
      | (with_reducible exact greenscreenref15_Of.mono _ _ _ _ _ _)
      | (with_reducible exact greenscreenref19_Opens.mono _ _ _ _ _)
      | (with_reducible exact LeO.refl _)
      | (with_reducible exact LeO.none _)
      | (with_reducible refine LeO.ite ?_ ?_)
      | (with_reducible refine LeO.bind ?_ (fun _ => ?_))
      | exact ih0 _ _ _ _ _ _ _ _ _ _ _
      | exact ih1 _ _ _ _ _ _ _ _ _ _ _ _
      | exact ih2 _ _ _ _ _
      | exact greenscreenref02_Move.mono _ _ _ _ _
      | exact greenscreenref15_Of.mono _ _ _ _ _ _
      | exact greenscreenref19_Opens.mono _ _ _ _ _
      | exact LeO.none _
      | refine LeO.ite ?_ ?_
      | refine LeO.bind ?_ (fun _ => ?_)
    · intro y0 y1 y2 y3 y4
      unfold greenscreenref19_Back.l1
      repeat' first
      | (with_reducible exact ih0 _ _ _ _ _ _ _ _ _ _ _)
      | (with_reducible exact ih1 _ _ _ _ _ _ _ _ _ _ _ _)
      | (with_reducible exact ih2 _ _ _ _ _)
      | (with_reducible exact greenscreenref02_Move.mono _ _ _ _ _)
      | (with_reducible exact greenscreenref15_Of.mono _ _ _ _ _ _)
      | (with_reducible exact greenscreenref19_Opens.mono _ _ _ _ _)
      | (with_reducible exact LeO.refl _)
      | (with_reducible exact LeO.none _)
      | (with_reducible refine LeO.ite ?_ ?_)
      | (with_reducible refine LeO.bind ?_ (fun _ => ?_))
      | exact ih0 _ _ _ _ _ _ _ _ _ _ _
      | exact ih1 _ _ _ _ _ _ _ _ _ _ _ _
      | exact ih2 _ _ _ _ _
      | exact greenscreenref02_Move.mono _ _ _ _ _
      | exact greenscreenref15_Of.mono _ _ _ _ _ _
      | exact greenscreenref19_Opens.mono _ _ _ _ _
      | exact LeO.none _
      | refine LeO.ite ?_ ?_
      | refine LeO.bind ?_ (fun _ => ?_)
theorem greenscreenref19_Back.mono : ∀ a0 a1 a2 a3 k, LeO (greenscreenref19_Back.f k a0 a1 a2 a3) (greenscreenref19_Back.f (k + 1) a0 a1 a2 a3) := by
  intro a0 a1 a2 a3 k
  obtain ⟨ih0, ih1, ih2⟩ := greenscreenref19_Back.mono_l k
  unfold greenscreenref19_Back.f
  repeat' first
      | (with_reducible exact ih0 _ _ _ _ _ _ _ _ _ _ _)
      | (with_reducible exact ih1 _ _ _ _ _ _ _ _ _ _ _ _)
      | (with_reducible exact ih2 _ _ _ _ _)
      | (with_reducible exact greenscreenref02_Move.mono _ _ _ _ _)
      | (with_reducible exact greenscreenref15_Of.mono _ _ _ _ _ _)
      | (with_reducible exact greenscreenref19_Opens.mono _ _ _ _ _)
      | (with_reducible exact LeO.refl _)
      | (with_reducible exact LeO.none _)
      | (with_reducible refine LeO.ite ?_ ?_)
      | (with_reducible refine LeO.bind ?_ (fun _ => ?_))
      | exact ih0 _ _ _ _ _ _ _ _ _ _ _
      | exact ih1 _ _ _ _ _ _ _ _ _ _ _ _
      | exact ih2 _ _ _ _ _
      | exact greenscreenref02_Move.mono _ _ _ _ _
      | exact greenscreenref15_Of.mono _ _ _ _ _ _
      | exact greenscreenref19_Opens.mono _ _ _ _ _
      | exact LeO.none _
      | refine LeO.ite ?_ ?_
      | refine LeO.bind ?_ (fun _ => ?_)
set_option maxHeartbeats 8000000 in
set_option maxRecDepth 100000 in
theorem greenscreenref19_Back.calls (k : Nat) (a0_0 : Int) (a0_1 : Int) (A0_2 : Option Addr) (c0_2 : Nat) (l0_2 : List (S38)) (a0_3 : Int) (r : Int) (w : World) (hr0_2 : Kd.C k38 w A0_2 l0_2.length l0_2) (hc0_2 : l0_2.length ≤ c0_2) (h : greenscreenref19_Back.f k a0_0 a0_1 l0_2 a0_3 = some r) :
    Calls Try.prog 30 #[.agg #[.int .i64 a0_0, .int .i64 a0_1, .slice A0_2 l0_2.length c0_2, .int .i64 a0_3]] w fun e w' => e = .returned (.int .i64 r) ∧ Below w.heap.size w w' := by
  have hu28 := Try.underlying28
  have hu82 := Try.underlying82
  have hu23 := Try.underlying23
  have HR0_2 := Aside0.mk hr0_2
  have HC0_2 := Aside0.mk hc0_2
  clear hr0_2 hc0_2
  have HB := Aside0.mk (Below.refl w.heap.size w)
  have H : ((greenscreenref19_Opens.f k a0_0 a0_1 l0_2 a0_3).bind fun t486 => (if (t486.length : Int) = 0 then (some 0) else ((greenscreenref15_Of.f k a0_0 a0_1 l0_2 a0_3 a0_3).bind fun bt489 => (greenscreenref19_Back.l0 k t486 (l0_2.length : Int) bt489.2.2.2 0 a0_0 a0_1 l0_2 a0_3 bt489.1 bt489.2.1 bt489.2.2.1)))) = some r := h
  clear h
  replace H := Option.bind_eq_some_iff.mp H
  obtain ⟨t486, A20, H⟩ := H
  replace H : (if (t486.length : Int) = 0 then (some 0) else ((greenscreenref15_Of.f k a0_0 a0_1 l0_2 a0_3 a0_3).bind fun bt489 => (greenscreenref19_Back.l0 k t486 (l0_2.length : Int) bt489.2.2.2 0 a0_0 a0_1 l0_2 a0_3 bt489.1 bt489.2.1 bt489.2.2.1))) = some r := H
  have A2 := Aside0.mk A20
  clear A20
  by_cases c3 : (t486.length : Int) = 0
  · rw [if_pos c3] at H
    have c3b0 : ((t486.length : Int) == 0) = true := beq_iff_eq.mpr c3
    have c3b1 : ((t486.length : Int) != 0) = false := bne_eq_false_iff_eq.mpr c3
    clear c3
    obtain rfl := Option.some.inj H
    go_enter Try.func30, Try.ntmps30
    go_wp2_with (first | ((with_reducible refine gate_dst (N := 1) rfl ?_); refine box_event ?hg (N := 1) ?hd (cs := #[.int .i64 a0_0, .int .i64 a0_1, .slice A0_2 l0_2.length c0_2, .int .i64 a0_3]) (t := 28) ?hr ?_; (case hd => rfl); (case hg => rfl); (case hr => first | (go_simp; done) | (go_simp; rfl)); intro gb485 hg w4 hbox hb; have n0_ := Aside0.mk (below_step (by repeat (first | (with_reducible first | exact HB.out | apply below_alloc | apply pw_below_drewN | apply below_drew1) | exact HB.out)) hb); have n1_ := Aside0.mk (hbox); have n2_ := Aside0.mk ((by rw [hg]; exact (below_size (by repeat (first | (with_reducible first | exact HB.out | apply below_alloc | apply pw_below_drewN | apply below_drew1) | exact HB.out))) : w.heap.size ≤ gb485)); have n3_ := Aside0.mk ((by rw [hg]; exact (below_size (by repeat (first | (with_reducible first | exact HB.out | apply below_alloc | apply pw_below_drewN | apply below_drew1) | exact HB.out))) : w.heap.size ≤ gb485)); clear HB; have HB := n0_; have BK485 := n1_; have GW485 := n2_; have GE485 := n3_; clear n0_ n1_ n2_ n3_; clear hb hbox hg; have hcz5_0 : w4.cell? ⟨gb485, 0, none⟩ = some (.int .i64 a0_0) := (blk_cell BK485.out 0).trans rfl; have hcz5_1 : w4.cell? ⟨gb485, 1, none⟩ = some (.int .i64 a0_1) := (blk_cell BK485.out 1).trans rfl; have hcz5_2 : w4.cell? ⟨gb485, 2, none⟩ = some (.slice A0_2 l0_2.length c0_2) := (blk_cell BK485.out 2).trans rfl; have hcz5_3 : w4.cell? ⟨gb485, 3, none⟩ = some (.int .i64 a0_3) := (blk_cell BK485.out 3).trans rfl; have hfz5_0 := blk_frozen BK485.out 0; have hfz5_1 := blk_frozen BK485.out 1; have hfz5_2 := blk_frozen BK485.out 2; have hfz5_3 := blk_frozen BK485.out 3) | (go_at_call 15; (with_reducible refine (greenscreenref19_Opens.calls k a0_0 a0_1 _ _ l0_2 a0_3 t486 _ ?side1 ?side2 A2.out).mono ?_); (case side1 => repeat (first | exact (Kd.C_below HR0_2.out HB.out) | (with_reducible refine Kd.C_alloc ?_ _) | (with_reducible refine Kd.C_drewN ?_ _) | (with_reducible refine Kd.C_drew ?_))); (case side2 => exact HC0_2.out); rintro e w6 ⟨v487, rfl, ho0, hb⟩; have n0_ := Aside0.mk (Kd.R_lower ho0 (below_size (by repeat (first | (with_reducible first | exact HB.out | apply below_alloc | apply pw_below_drewN | apply below_drew1 | refine below_set ?_ GE485.out) | exact HB.out)))); have n1_ := Aside0.mk (blk_below (g := gb485) (o := .cells #[.int .i64 a0_0, .int .i64 a0_1, .slice A0_2 l0_2.length c0_2, .int .i64 a0_3] 28 (0, 0)) (by (with_reducible repeat (first | refine blk_drewN ?_ _ | refine blk_drew ?_ | refine blk_alloc ?_ _)); exact BK485.out) hb); have n2_ := Aside0.mk (below_step (by repeat (first | (with_reducible first | exact HB.out | apply below_alloc | apply pw_below_drewN | apply below_drew1 | refine below_set ?_ GE485.out) | exact HB.out)) hb); clear BK485; clear HB; have HO488 := n0_; have BK485 := n1_; have HB := n2_; clear n0_ n1_ n2_; (try clear hb); (try clear hb2); (try clear hk); (try clear hi); (try clear ho0); have hcz7_0 : w6.cell? ⟨gb485, 0, none⟩ = some (.int .i64 a0_0) := (blk_cell BK485.out 0).trans rfl; have hcz7_1 : w6.cell? ⟨gb485, 1, none⟩ = some (.int .i64 a0_1) := (blk_cell BK485.out 1).trans rfl; have hcz7_2 : w6.cell? ⟨gb485, 2, none⟩ = some (.slice A0_2 l0_2.length c0_2) := (blk_cell BK485.out 2).trans rfl; have hcz7_3 : w6.cell? ⟨gb485, 3, none⟩ = some (.int .i64 a0_3) := (blk_cell BK485.out 3).trans rfl; have hfz7_0 := blk_frozen BK485.out 0; have hfz7_1 := blk_frozen BK485.out 1; have hfz7_2 := blk_frozen BK485.out 2; have hfz7_3 := blk_frozen BK485.out 3; obtain ⟨Ao8, co8, eo8⟩ := Kd.R_slice HO488.out; subst eo8))
    repeat (go_quiet (first | ((with_reducible refine gate_dst (N := 1) rfl ?_); refine box_event ?hg (N := 1) ?hd (cs := #[.int .i64 a0_0, .int .i64 a0_1, .slice A0_2 l0_2.length c0_2, .int .i64 a0_3]) (t := 28) ?hr ?_; (case hd => rfl); (case hg => rfl); (case hr => first | (go_simp; done) | (go_simp; rfl)); intro gb485 hg w4 hbox hb; have n0_ := Aside0.mk (below_step (by repeat (first | (with_reducible first | exact HB.out | apply below_alloc | apply pw_below_drewN | apply below_drew1) | exact HB.out)) hb); have n1_ := Aside0.mk (hbox); have n2_ := Aside0.mk ((by rw [hg]; exact (below_size (by repeat (first | (with_reducible first | exact HB.out | apply below_alloc | apply pw_below_drewN | apply below_drew1) | exact HB.out))) : w.heap.size ≤ gb485)); have n3_ := Aside0.mk ((by rw [hg]; exact (below_size (by repeat (first | (with_reducible first | exact HB.out | apply below_alloc | apply pw_below_drewN | apply below_drew1) | exact HB.out))) : w.heap.size ≤ gb485)); clear HB; have HB := n0_; have BK485 := n1_; have GW485 := n2_; have GE485 := n3_; clear n0_ n1_ n2_ n3_; clear hb hbox hg; have hcz5_0 : w4.cell? ⟨gb485, 0, none⟩ = some (.int .i64 a0_0) := (blk_cell BK485.out 0).trans rfl; have hcz5_1 : w4.cell? ⟨gb485, 1, none⟩ = some (.int .i64 a0_1) := (blk_cell BK485.out 1).trans rfl; have hcz5_2 : w4.cell? ⟨gb485, 2, none⟩ = some (.slice A0_2 l0_2.length c0_2) := (blk_cell BK485.out 2).trans rfl; have hcz5_3 : w4.cell? ⟨gb485, 3, none⟩ = some (.int .i64 a0_3) := (blk_cell BK485.out 3).trans rfl; have hfz5_0 := blk_frozen BK485.out 0; have hfz5_1 := blk_frozen BK485.out 1; have hfz5_2 := blk_frozen BK485.out 2; have hfz5_3 := blk_frozen BK485.out 3) | (go_at_call 15; (with_reducible refine (greenscreenref19_Opens.calls k a0_0 a0_1 _ _ l0_2 a0_3 t486 _ ?side1 ?side2 A2.out).mono ?_); (case side1 => repeat (first | exact (Kd.C_below HR0_2.out HB.out) | (with_reducible refine Kd.C_alloc ?_ _) | (with_reducible refine Kd.C_drewN ?_ _) | (with_reducible refine Kd.C_drew ?_))); (case side2 => exact HC0_2.out); rintro e w6 ⟨v487, rfl, ho0, hb⟩; have n0_ := Aside0.mk (Kd.R_lower ho0 (below_size (by repeat (first | (with_reducible first | exact HB.out | apply below_alloc | apply pw_below_drewN | apply below_drew1 | refine below_set ?_ GE485.out) | exact HB.out)))); have n1_ := Aside0.mk (blk_below (g := gb485) (o := .cells #[.int .i64 a0_0, .int .i64 a0_1, .slice A0_2 l0_2.length c0_2, .int .i64 a0_3] 28 (0, 0)) (by (with_reducible repeat (first | refine blk_drewN ?_ _ | refine blk_drew ?_ | refine blk_alloc ?_ _)); exact BK485.out) hb); have n2_ := Aside0.mk (below_step (by repeat (first | (with_reducible first | exact HB.out | apply below_alloc | apply pw_below_drewN | apply below_drew1 | refine below_set ?_ GE485.out) | exact HB.out)) hb); clear BK485; clear HB; have HO488 := n0_; have BK485 := n1_; have HB := n2_; clear n0_ n1_ n2_; (try clear hb); (try clear hb2); (try clear hk); (try clear hi); (try clear ho0); have hcz7_0 : w6.cell? ⟨gb485, 0, none⟩ = some (.int .i64 a0_0) := (blk_cell BK485.out 0).trans rfl; have hcz7_1 : w6.cell? ⟨gb485, 1, none⟩ = some (.int .i64 a0_1) := (blk_cell BK485.out 1).trans rfl; have hcz7_2 : w6.cell? ⟨gb485, 2, none⟩ = some (.slice A0_2 l0_2.length c0_2) := (blk_cell BK485.out 2).trans rfl; have hcz7_3 : w6.cell? ⟨gb485, 3, none⟩ = some (.int .i64 a0_3) := (blk_cell BK485.out 3).trans rfl; have hfz7_0 := blk_frozen BK485.out 0; have hfz7_1 := blk_frozen BK485.out 1; have hfz7_2 := blk_frozen BK485.out 2; have hfz7_3 := blk_frozen BK485.out 3; obtain ⟨Ao8, co8, eo8⟩ := Kd.R_slice HO488.out; subst eo8)); try go_wp2_with (first | ((with_reducible refine gate_dst (N := 1) rfl ?_); refine box_event ?hg (N := 1) ?hd (cs := #[.int .i64 a0_0, .int .i64 a0_1, .slice A0_2 l0_2.length c0_2, .int .i64 a0_3]) (t := 28) ?hr ?_; (case hd => rfl); (case hg => rfl); (case hr => first | (go_simp; done) | (go_simp; rfl)); intro gb485 hg w4 hbox hb; have n0_ := Aside0.mk (below_step (by repeat (first | (with_reducible first | exact HB.out | apply below_alloc | apply pw_below_drewN | apply below_drew1) | exact HB.out)) hb); have n1_ := Aside0.mk (hbox); have n2_ := Aside0.mk ((by rw [hg]; exact (below_size (by repeat (first | (with_reducible first | exact HB.out | apply below_alloc | apply pw_below_drewN | apply below_drew1) | exact HB.out))) : w.heap.size ≤ gb485)); have n3_ := Aside0.mk ((by rw [hg]; exact (below_size (by repeat (first | (with_reducible first | exact HB.out | apply below_alloc | apply pw_below_drewN | apply below_drew1) | exact HB.out))) : w.heap.size ≤ gb485)); clear HB; have HB := n0_; have BK485 := n1_; have GW485 := n2_; have GE485 := n3_; clear n0_ n1_ n2_ n3_; clear hb hbox hg; have hcz5_0 : w4.cell? ⟨gb485, 0, none⟩ = some (.int .i64 a0_0) := (blk_cell BK485.out 0).trans rfl; have hcz5_1 : w4.cell? ⟨gb485, 1, none⟩ = some (.int .i64 a0_1) := (blk_cell BK485.out 1).trans rfl; have hcz5_2 : w4.cell? ⟨gb485, 2, none⟩ = some (.slice A0_2 l0_2.length c0_2) := (blk_cell BK485.out 2).trans rfl; have hcz5_3 : w4.cell? ⟨gb485, 3, none⟩ = some (.int .i64 a0_3) := (blk_cell BK485.out 3).trans rfl; have hfz5_0 := blk_frozen BK485.out 0; have hfz5_1 := blk_frozen BK485.out 1; have hfz5_2 := blk_frozen BK485.out 2; have hfz5_3 := blk_frozen BK485.out 3) | (go_at_call 15; (with_reducible refine (greenscreenref19_Opens.calls k a0_0 a0_1 _ _ l0_2 a0_3 t486 _ ?side1 ?side2 A2.out).mono ?_); (case side1 => repeat (first | exact (Kd.C_below HR0_2.out HB.out) | (with_reducible refine Kd.C_alloc ?_ _) | (with_reducible refine Kd.C_drewN ?_ _) | (with_reducible refine Kd.C_drew ?_))); (case side2 => exact HC0_2.out); rintro e w6 ⟨v487, rfl, ho0, hb⟩; have n0_ := Aside0.mk (Kd.R_lower ho0 (below_size (by repeat (first | (with_reducible first | exact HB.out | apply below_alloc | apply pw_below_drewN | apply below_drew1 | refine below_set ?_ GE485.out) | exact HB.out)))); have n1_ := Aside0.mk (blk_below (g := gb485) (o := .cells #[.int .i64 a0_0, .int .i64 a0_1, .slice A0_2 l0_2.length c0_2, .int .i64 a0_3] 28 (0, 0)) (by (with_reducible repeat (first | refine blk_drewN ?_ _ | refine blk_drew ?_ | refine blk_alloc ?_ _)); exact BK485.out) hb); have n2_ := Aside0.mk (below_step (by repeat (first | (with_reducible first | exact HB.out | apply below_alloc | apply pw_below_drewN | apply below_drew1 | refine below_set ?_ GE485.out) | exact HB.out)) hb); clear BK485; clear HB; have HO488 := n0_; have BK485 := n1_; have HB := n2_; clear n0_ n1_ n2_; (try clear hb); (try clear hb2); (try clear hk); (try clear hi); (try clear ho0); have hcz7_0 : w6.cell? ⟨gb485, 0, none⟩ = some (.int .i64 a0_0) := (blk_cell BK485.out 0).trans rfl; have hcz7_1 : w6.cell? ⟨gb485, 1, none⟩ = some (.int .i64 a0_1) := (blk_cell BK485.out 1).trans rfl; have hcz7_2 : w6.cell? ⟨gb485, 2, none⟩ = some (.slice A0_2 l0_2.length c0_2) := (blk_cell BK485.out 2).trans rfl; have hcz7_3 : w6.cell? ⟨gb485, 3, none⟩ = some (.int .i64 a0_3) := (blk_cell BK485.out 3).trans rfl; have hfz7_0 := blk_frozen BK485.out 0; have hfz7_1 := blk_frozen BK485.out 1; have hfz7_2 := blk_frozen BK485.out 2; have hfz7_3 := blk_frozen BK485.out 3; obtain ⟨Ao8, co8, eo8⟩ := Kd.R_slice HO488.out; subst eo8)))
    go_ret
    exact ⟨by first | rfl | (simp [errW_none, errW_some] <;> rfl) | (simp [*, errW_none, errW_some] <;> rfl), by repeat (first | (with_reducible first | exact HB.out | apply below_alloc | apply pw_below_drewN | apply below_drew1 | refine below_set ?_ GE485.out) | exact HB.out)⟩
  · rw [if_neg c3] at H
    have c3b0 : ((t486.length : Int) == 0) = false := beq_eq_false_iff_ne.mpr c3
    have c3b1 : ((t486.length : Int) != 0) = true := bne_iff_ne.mpr c3
    have c3b2 : ¬ (t486 = []) := fun h_ => c3 (by rw [h_]; rfl)
    replace H := Option.bind_eq_some_iff.mp H
    obtain ⟨⟨t489, t490, t491, t492⟩, A90, H⟩ := H
    replace H : (greenscreenref19_Back.l0 k t486 (l0_2.length : Int) t492 0 a0_0 a0_1 l0_2 a0_3 t489 t490 t491) = some r := H
    have A9 := Aside0.mk A90
    clear A90
    have H' := Aside0.mk H
    clear H
    go_enter Try.func30, Try.ntmps30
    go_wp2_with (first | ((with_reducible refine gate_dst (N := 1) rfl ?_); refine box_event ?hg (N := 1) ?hd (cs := #[.int .i64 a0_0, .int .i64 a0_1, .slice A0_2 l0_2.length c0_2, .int .i64 a0_3]) (t := 28) ?hr ?_; (case hd => rfl); (case hg => rfl); (case hr => first | (go_simp; done) | (go_simp; rfl)); intro gb485 hg w10 hbox hb; have n0_ := Aside0.mk (below_step (by repeat (first | (with_reducible first | exact HB.out | apply below_alloc | apply pw_below_drewN | apply below_drew1) | exact HB.out)) hb); have n1_ := Aside0.mk (hbox); have n2_ := Aside0.mk ((by rw [hg]; exact (below_size (by repeat (first | (with_reducible first | exact HB.out | apply below_alloc | apply pw_below_drewN | apply below_drew1) | exact HB.out))) : w.heap.size ≤ gb485)); have n3_ := Aside0.mk ((by rw [hg]; exact (below_size (by repeat (first | (with_reducible first | exact HB.out | apply below_alloc | apply pw_below_drewN | apply below_drew1) | exact HB.out))) : w.heap.size ≤ gb485)); clear HB; have HB := n0_; have BK485 := n1_; have GW485 := n2_; have GE485 := n3_; clear n0_ n1_ n2_ n3_; clear hb hbox hg; have hcz11_0 : w10.cell? ⟨gb485, 0, none⟩ = some (.int .i64 a0_0) := (blk_cell BK485.out 0).trans rfl; have hcz11_1 : w10.cell? ⟨gb485, 1, none⟩ = some (.int .i64 a0_1) := (blk_cell BK485.out 1).trans rfl; have hcz11_2 : w10.cell? ⟨gb485, 2, none⟩ = some (.slice A0_2 l0_2.length c0_2) := (blk_cell BK485.out 2).trans rfl; have hcz11_3 : w10.cell? ⟨gb485, 3, none⟩ = some (.int .i64 a0_3) := (blk_cell BK485.out 3).trans rfl; have hfz11_0 := blk_frozen BK485.out 0; have hfz11_1 := blk_frozen BK485.out 1; have hfz11_2 := blk_frozen BK485.out 2; have hfz11_3 := blk_frozen BK485.out 3) | (go_at_call 15; (with_reducible refine (greenscreenref19_Opens.calls k a0_0 a0_1 _ _ l0_2 a0_3 t486 _ ?side1 ?side2 A2.out).mono ?_); (case side1 => repeat (first | exact (Kd.C_below HR0_2.out HB.out) | (with_reducible refine Kd.C_alloc ?_ _) | (with_reducible refine Kd.C_drewN ?_ _) | (with_reducible refine Kd.C_drew ?_))); (case side2 => exact HC0_2.out); rintro e w12 ⟨v487, rfl, ho0, hb⟩; have n0_ := Aside0.mk (Kd.R_lower ho0 (below_size (by repeat (first | (with_reducible first | exact HB.out | apply below_alloc | apply pw_below_drewN | apply below_drew1 | refine below_set ?_ GE485.out) | exact HB.out)))); have n1_ := Aside0.mk (blk_below (g := gb485) (o := .cells #[.int .i64 a0_0, .int .i64 a0_1, .slice A0_2 l0_2.length c0_2, .int .i64 a0_3] 28 (0, 0)) (by (with_reducible repeat (first | refine blk_drewN ?_ _ | refine blk_drew ?_ | refine blk_alloc ?_ _)); exact BK485.out) hb); have n2_ := Aside0.mk (below_step (by repeat (first | (with_reducible first | exact HB.out | apply below_alloc | apply pw_below_drewN | apply below_drew1 | refine below_set ?_ GE485.out) | exact HB.out)) hb); clear BK485; clear HB; have HO488 := n0_; have BK485 := n1_; have HB := n2_; clear n0_ n1_ n2_; (try clear hb); (try clear hb2); (try clear hk); (try clear hi); (try clear ho0); have hcz13_0 : w12.cell? ⟨gb485, 0, none⟩ = some (.int .i64 a0_0) := (blk_cell BK485.out 0).trans rfl; have hcz13_1 : w12.cell? ⟨gb485, 1, none⟩ = some (.int .i64 a0_1) := (blk_cell BK485.out 1).trans rfl; have hcz13_2 : w12.cell? ⟨gb485, 2, none⟩ = some (.slice A0_2 l0_2.length c0_2) := (blk_cell BK485.out 2).trans rfl; have hcz13_3 : w12.cell? ⟨gb485, 3, none⟩ = some (.int .i64 a0_3) := (blk_cell BK485.out 3).trans rfl; have hfz13_0 := blk_frozen BK485.out 0; have hfz13_1 := blk_frozen BK485.out 1; have hfz13_2 := blk_frozen BK485.out 2; have hfz13_3 := blk_frozen BK485.out 3; obtain ⟨Ao14, co14, eo14⟩ := Kd.R_slice HO488.out; subst eo14) | (go_at_call 66; (with_reducible refine (greenscreenref15_Of.calls k a0_0 a0_1 _ _ l0_2 a0_3 a0_3 t489 t490 t491 t492 _ ?side1 ?side2 A9.out).mono ?_); (case side1 => repeat (first | exact (Kd.C_below HR0_2.out HB.out) | (with_reducible refine Kd.C_alloc ?_ _) | (with_reducible refine Kd.C_drewN ?_ _) | (with_reducible refine Kd.C_drew ?_))); (case side2 => exact HC0_2.out); rintro e w15 ⟨rfl, hb⟩; have n0_ := Aside0.mk (Kd.R_below (by (with_reducible repeat (first | apply Kd.R_alloc | apply Kd.R_drewN | apply Kd.R_drew)); exact HO488.out) hb); have n1_ := Aside0.mk (blk_below (g := gb485) (o := .cells #[.int .i64 a0_0, .int .i64 a0_1, .slice A0_2 l0_2.length c0_2, .int .i64 a0_3] 28 (0, 0)) (by (with_reducible repeat (first | refine blk_drewN ?_ _ | refine blk_drew ?_ | refine blk_alloc ?_ _)); exact BK485.out) hb); have n2_ := Aside0.mk (below_step (by repeat (first | (with_reducible first | exact HB.out | apply below_alloc | apply pw_below_drewN | apply below_drew1 | refine below_set ?_ GE485.out) | exact HB.out)) hb); clear HO488; clear BK485; clear HB; have HO488 := n0_; have BK485 := n1_; have HB := n2_; clear n0_ n1_ n2_; (try clear hb); (try clear hb2); (try clear hk); (try clear hi)) | ((with_reducible refine gate_dst (N := 5) rfl ?_); refine box_event ?hg (N := 5) ?hd (cs := #[.int .i64 0, .int .i64 0, .int .u8 0]) (t := 82) ?hr ?_; (case hd => rfl); (case hg => rfl); (case hr => first | (go_simp; done) | (go_simp; rfl)); intro gb493 hg w16 hbox hb; have n0_ := Aside0.mk (Kd.R_below (by (with_reducible repeat (first | apply Kd.R_alloc | apply Kd.R_drewN | apply Kd.R_drew)); exact HO488.out) hb); have n1_ := Aside0.mk (blk_below (g := gb485) (o := .cells #[.int .i64 a0_0, .int .i64 a0_1, .slice A0_2 l0_2.length c0_2, .int .i64 a0_3] 28 (0, 0)) (by (with_reducible repeat (first | refine blk_drewN ?_ _ | refine blk_drew ?_ | refine blk_alloc ?_ _)); exact BK485.out) hb); have n2_ := Aside0.mk (below_step (by repeat (first | (with_reducible first | exact HB.out | apply below_alloc | apply pw_below_drewN | apply below_drew1 | refine below_set ?_ GE485.out) | exact HB.out)) hb); have n3_ := Aside0.mk (hbox); have n4_ := Aside0.mk ((by rw [hg]; exact (below_size (by repeat (first | (with_reducible first | exact HB.out | apply below_alloc | apply pw_below_drewN | apply below_drew1 | refine below_set ?_ GE485.out) | exact HB.out))) : w.heap.size ≤ gb493)); have n5_ := Aside0.mk ((by rw [hg]; exact (below_size (by repeat (first | (with_reducible first | exact HB.out | apply below_alloc | apply pw_below_drewN | apply below_drew1 | refine below_set ?_ GE485.out) | exact HB.out))) : w.heap.size ≤ gb493)); have n6_ := Aside0.mk ((by rw [hg]; exact Nat.ne_of_lt (blk_lt (g := gb485) (o := .cells #[.int .i64 a0_0, .int .i64 a0_1, .slice A0_2 l0_2.length c0_2, .int .i64 a0_3] 28 (0, 0)) (by (with_reducible repeat (first | refine blk_drewN ?_ _ | refine blk_drew ?_ | refine blk_alloc ?_ _)); exact BK485.out)) : gb485 ≠ gb493)); have n7_ := Aside0.mk ((by rw [hg]; exact Nat.ne_of_gt (blk_lt (g := gb485) (o := .cells #[.int .i64 a0_0, .int .i64 a0_1, .slice A0_2 l0_2.length c0_2, .int .i64 a0_3] 28 (0, 0)) (by (with_reducible repeat (first | refine blk_drewN ?_ _ | refine blk_drew ?_ | refine blk_alloc ?_ _)); exact BK485.out)) : gb493 ≠ gb485)); clear HO488; clear BK485; clear HB; have HO488 := n0_; have BK485 := n1_; have HB := n2_; have BK493 := n3_; have GW493 := n4_; have GE493 := n5_; have NB485_493 := n6_; have NB493_485 := n7_; clear n0_ n1_ n2_ n3_ n4_ n5_ n6_ n7_; clear hb hbox hg; have hnb17 := NB493_485.out; have hnc17 := NB485_493.out; have hcz18_0 : w16.cell? ⟨gb493, 0, none⟩ = some (.int .i64 0) := (blk_cell BK493.out 0).trans rfl; have hcz18_1 : w16.cell? ⟨gb493, 1, none⟩ = some (.int .i64 0) := (blk_cell BK493.out 1).trans rfl; have hcz18_2 : w16.cell? ⟨gb493, 2, none⟩ = some (.int .u8 0) := (blk_cell BK493.out 2).trans rfl; have hfz18_0 := blk_frozen BK493.out 0; have hfz18_1 := blk_frozen BK493.out 1; have hfz18_2 := blk_frozen BK493.out 2))
    repeat (go_quiet (first | ((with_reducible refine gate_dst (N := 1) rfl ?_); refine box_event ?hg (N := 1) ?hd (cs := #[.int .i64 a0_0, .int .i64 a0_1, .slice A0_2 l0_2.length c0_2, .int .i64 a0_3]) (t := 28) ?hr ?_; (case hd => rfl); (case hg => rfl); (case hr => first | (go_simp; done) | (go_simp; rfl)); intro gb485 hg w10 hbox hb; have n0_ := Aside0.mk (below_step (by repeat (first | (with_reducible first | exact HB.out | apply below_alloc | apply pw_below_drewN | apply below_drew1) | exact HB.out)) hb); have n1_ := Aside0.mk (hbox); have n2_ := Aside0.mk ((by rw [hg]; exact (below_size (by repeat (first | (with_reducible first | exact HB.out | apply below_alloc | apply pw_below_drewN | apply below_drew1) | exact HB.out))) : w.heap.size ≤ gb485)); have n3_ := Aside0.mk ((by rw [hg]; exact (below_size (by repeat (first | (with_reducible first | exact HB.out | apply below_alloc | apply pw_below_drewN | apply below_drew1) | exact HB.out))) : w.heap.size ≤ gb485)); clear HB; have HB := n0_; have BK485 := n1_; have GW485 := n2_; have GE485 := n3_; clear n0_ n1_ n2_ n3_; clear hb hbox hg; have hcz11_0 : w10.cell? ⟨gb485, 0, none⟩ = some (.int .i64 a0_0) := (blk_cell BK485.out 0).trans rfl; have hcz11_1 : w10.cell? ⟨gb485, 1, none⟩ = some (.int .i64 a0_1) := (blk_cell BK485.out 1).trans rfl; have hcz11_2 : w10.cell? ⟨gb485, 2, none⟩ = some (.slice A0_2 l0_2.length c0_2) := (blk_cell BK485.out 2).trans rfl; have hcz11_3 : w10.cell? ⟨gb485, 3, none⟩ = some (.int .i64 a0_3) := (blk_cell BK485.out 3).trans rfl; have hfz11_0 := blk_frozen BK485.out 0; have hfz11_1 := blk_frozen BK485.out 1; have hfz11_2 := blk_frozen BK485.out 2; have hfz11_3 := blk_frozen BK485.out 3) | (go_at_call 15; (with_reducible refine (greenscreenref19_Opens.calls k a0_0 a0_1 _ _ l0_2 a0_3 t486 _ ?side1 ?side2 A2.out).mono ?_); (case side1 => repeat (first | exact (Kd.C_below HR0_2.out HB.out) | (with_reducible refine Kd.C_alloc ?_ _) | (with_reducible refine Kd.C_drewN ?_ _) | (with_reducible refine Kd.C_drew ?_))); (case side2 => exact HC0_2.out); rintro e w12 ⟨v487, rfl, ho0, hb⟩; have n0_ := Aside0.mk (Kd.R_lower ho0 (below_size (by repeat (first | (with_reducible first | exact HB.out | apply below_alloc | apply pw_below_drewN | apply below_drew1 | refine below_set ?_ GE485.out) | exact HB.out)))); have n1_ := Aside0.mk (blk_below (g := gb485) (o := .cells #[.int .i64 a0_0, .int .i64 a0_1, .slice A0_2 l0_2.length c0_2, .int .i64 a0_3] 28 (0, 0)) (by (with_reducible repeat (first | refine blk_drewN ?_ _ | refine blk_drew ?_ | refine blk_alloc ?_ _)); exact BK485.out) hb); have n2_ := Aside0.mk (below_step (by repeat (first | (with_reducible first | exact HB.out | apply below_alloc | apply pw_below_drewN | apply below_drew1 | refine below_set ?_ GE485.out) | exact HB.out)) hb); clear BK485; clear HB; have HO488 := n0_; have BK485 := n1_; have HB := n2_; clear n0_ n1_ n2_; (try clear hb); (try clear hb2); (try clear hk); (try clear hi); (try clear ho0); have hcz13_0 : w12.cell? ⟨gb485, 0, none⟩ = some (.int .i64 a0_0) := (blk_cell BK485.out 0).trans rfl; have hcz13_1 : w12.cell? ⟨gb485, 1, none⟩ = some (.int .i64 a0_1) := (blk_cell BK485.out 1).trans rfl; have hcz13_2 : w12.cell? ⟨gb485, 2, none⟩ = some (.slice A0_2 l0_2.length c0_2) := (blk_cell BK485.out 2).trans rfl; have hcz13_3 : w12.cell? ⟨gb485, 3, none⟩ = some (.int .i64 a0_3) := (blk_cell BK485.out 3).trans rfl; have hfz13_0 := blk_frozen BK485.out 0; have hfz13_1 := blk_frozen BK485.out 1; have hfz13_2 := blk_frozen BK485.out 2; have hfz13_3 := blk_frozen BK485.out 3; obtain ⟨Ao14, co14, eo14⟩ := Kd.R_slice HO488.out; subst eo14) | (go_at_call 66; (with_reducible refine (greenscreenref15_Of.calls k a0_0 a0_1 _ _ l0_2 a0_3 a0_3 t489 t490 t491 t492 _ ?side1 ?side2 A9.out).mono ?_); (case side1 => repeat (first | exact (Kd.C_below HR0_2.out HB.out) | (with_reducible refine Kd.C_alloc ?_ _) | (with_reducible refine Kd.C_drewN ?_ _) | (with_reducible refine Kd.C_drew ?_))); (case side2 => exact HC0_2.out); rintro e w15 ⟨rfl, hb⟩; have n0_ := Aside0.mk (Kd.R_below (by (with_reducible repeat (first | apply Kd.R_alloc | apply Kd.R_drewN | apply Kd.R_drew)); exact HO488.out) hb); have n1_ := Aside0.mk (blk_below (g := gb485) (o := .cells #[.int .i64 a0_0, .int .i64 a0_1, .slice A0_2 l0_2.length c0_2, .int .i64 a0_3] 28 (0, 0)) (by (with_reducible repeat (first | refine blk_drewN ?_ _ | refine blk_drew ?_ | refine blk_alloc ?_ _)); exact BK485.out) hb); have n2_ := Aside0.mk (below_step (by repeat (first | (with_reducible first | exact HB.out | apply below_alloc | apply pw_below_drewN | apply below_drew1 | refine below_set ?_ GE485.out) | exact HB.out)) hb); clear HO488; clear BK485; clear HB; have HO488 := n0_; have BK485 := n1_; have HB := n2_; clear n0_ n1_ n2_; (try clear hb); (try clear hb2); (try clear hk); (try clear hi)) | ((with_reducible refine gate_dst (N := 5) rfl ?_); refine box_event ?hg (N := 5) ?hd (cs := #[.int .i64 0, .int .i64 0, .int .u8 0]) (t := 82) ?hr ?_; (case hd => rfl); (case hg => rfl); (case hr => first | (go_simp; done) | (go_simp; rfl)); intro gb493 hg w16 hbox hb; have n0_ := Aside0.mk (Kd.R_below (by (with_reducible repeat (first | apply Kd.R_alloc | apply Kd.R_drewN | apply Kd.R_drew)); exact HO488.out) hb); have n1_ := Aside0.mk (blk_below (g := gb485) (o := .cells #[.int .i64 a0_0, .int .i64 a0_1, .slice A0_2 l0_2.length c0_2, .int .i64 a0_3] 28 (0, 0)) (by (with_reducible repeat (first | refine blk_drewN ?_ _ | refine blk_drew ?_ | refine blk_alloc ?_ _)); exact BK485.out) hb); have n2_ := Aside0.mk (below_step (by repeat (first | (with_reducible first | exact HB.out | apply below_alloc | apply pw_below_drewN | apply below_drew1 | refine below_set ?_ GE485.out) | exact HB.out)) hb); have n3_ := Aside0.mk (hbox); have n4_ := Aside0.mk ((by rw [hg]; exact (below_size (by repeat (first | (with_reducible first | exact HB.out | apply below_alloc | apply pw_below_drewN | apply below_drew1 | refine below_set ?_ GE485.out) | exact HB.out))) : w.heap.size ≤ gb493)); have n5_ := Aside0.mk ((by rw [hg]; exact (below_size (by repeat (first | (with_reducible first | exact HB.out | apply below_alloc | apply pw_below_drewN | apply below_drew1 | refine below_set ?_ GE485.out) | exact HB.out))) : w.heap.size ≤ gb493)); have n6_ := Aside0.mk ((by rw [hg]; exact Nat.ne_of_lt (blk_lt (g := gb485) (o := .cells #[.int .i64 a0_0, .int .i64 a0_1, .slice A0_2 l0_2.length c0_2, .int .i64 a0_3] 28 (0, 0)) (by (with_reducible repeat (first | refine blk_drewN ?_ _ | refine blk_drew ?_ | refine blk_alloc ?_ _)); exact BK485.out)) : gb485 ≠ gb493)); have n7_ := Aside0.mk ((by rw [hg]; exact Nat.ne_of_gt (blk_lt (g := gb485) (o := .cells #[.int .i64 a0_0, .int .i64 a0_1, .slice A0_2 l0_2.length c0_2, .int .i64 a0_3] 28 (0, 0)) (by (with_reducible repeat (first | refine blk_drewN ?_ _ | refine blk_drew ?_ | refine blk_alloc ?_ _)); exact BK485.out)) : gb493 ≠ gb485)); clear HO488; clear BK485; clear HB; have HO488 := n0_; have BK485 := n1_; have HB := n2_; have BK493 := n3_; have GW493 := n4_; have GE493 := n5_; have NB485_493 := n6_; have NB493_485 := n7_; clear n0_ n1_ n2_ n3_ n4_ n5_ n6_ n7_; clear hb hbox hg; have hnb17 := NB493_485.out; have hnc17 := NB485_493.out; have hcz18_0 : w16.cell? ⟨gb493, 0, none⟩ = some (.int .i64 0) := (blk_cell BK493.out 0).trans rfl; have hcz18_1 : w16.cell? ⟨gb493, 1, none⟩ = some (.int .i64 0) := (blk_cell BK493.out 1).trans rfl; have hcz18_2 : w16.cell? ⟨gb493, 2, none⟩ = some (.int .u8 0) := (blk_cell BK493.out 2).trans rfl; have hfz18_0 := blk_frozen BK493.out 0; have hfz18_1 := blk_frozen BK493.out 1; have hfz18_2 := blk_frozen BK493.out 2)); try go_wp2_with (first | ((with_reducible refine gate_dst (N := 1) rfl ?_); refine box_event ?hg (N := 1) ?hd (cs := #[.int .i64 a0_0, .int .i64 a0_1, .slice A0_2 l0_2.length c0_2, .int .i64 a0_3]) (t := 28) ?hr ?_; (case hd => rfl); (case hg => rfl); (case hr => first | (go_simp; done) | (go_simp; rfl)); intro gb485 hg w10 hbox hb; have n0_ := Aside0.mk (below_step (by repeat (first | (with_reducible first | exact HB.out | apply below_alloc | apply pw_below_drewN | apply below_drew1) | exact HB.out)) hb); have n1_ := Aside0.mk (hbox); have n2_ := Aside0.mk ((by rw [hg]; exact (below_size (by repeat (first | (with_reducible first | exact HB.out | apply below_alloc | apply pw_below_drewN | apply below_drew1) | exact HB.out))) : w.heap.size ≤ gb485)); have n3_ := Aside0.mk ((by rw [hg]; exact (below_size (by repeat (first | (with_reducible first | exact HB.out | apply below_alloc | apply pw_below_drewN | apply below_drew1) | exact HB.out))) : w.heap.size ≤ gb485)); clear HB; have HB := n0_; have BK485 := n1_; have GW485 := n2_; have GE485 := n3_; clear n0_ n1_ n2_ n3_; clear hb hbox hg; have hcz11_0 : w10.cell? ⟨gb485, 0, none⟩ = some (.int .i64 a0_0) := (blk_cell BK485.out 0).trans rfl; have hcz11_1 : w10.cell? ⟨gb485, 1, none⟩ = some (.int .i64 a0_1) := (blk_cell BK485.out 1).trans rfl; have hcz11_2 : w10.cell? ⟨gb485, 2, none⟩ = some (.slice A0_2 l0_2.length c0_2) := (blk_cell BK485.out 2).trans rfl; have hcz11_3 : w10.cell? ⟨gb485, 3, none⟩ = some (.int .i64 a0_3) := (blk_cell BK485.out 3).trans rfl; have hfz11_0 := blk_frozen BK485.out 0; have hfz11_1 := blk_frozen BK485.out 1; have hfz11_2 := blk_frozen BK485.out 2; have hfz11_3 := blk_frozen BK485.out 3) | (go_at_call 15; (with_reducible refine (greenscreenref19_Opens.calls k a0_0 a0_1 _ _ l0_2 a0_3 t486 _ ?side1 ?side2 A2.out).mono ?_); (case side1 => repeat (first | exact (Kd.C_below HR0_2.out HB.out) | (with_reducible refine Kd.C_alloc ?_ _) | (with_reducible refine Kd.C_drewN ?_ _) | (with_reducible refine Kd.C_drew ?_))); (case side2 => exact HC0_2.out); rintro e w12 ⟨v487, rfl, ho0, hb⟩; have n0_ := Aside0.mk (Kd.R_lower ho0 (below_size (by repeat (first | (with_reducible first | exact HB.out | apply below_alloc | apply pw_below_drewN | apply below_drew1 | refine below_set ?_ GE485.out) | exact HB.out)))); have n1_ := Aside0.mk (blk_below (g := gb485) (o := .cells #[.int .i64 a0_0, .int .i64 a0_1, .slice A0_2 l0_2.length c0_2, .int .i64 a0_3] 28 (0, 0)) (by (with_reducible repeat (first | refine blk_drewN ?_ _ | refine blk_drew ?_ | refine blk_alloc ?_ _)); exact BK485.out) hb); have n2_ := Aside0.mk (below_step (by repeat (first | (with_reducible first | exact HB.out | apply below_alloc | apply pw_below_drewN | apply below_drew1 | refine below_set ?_ GE485.out) | exact HB.out)) hb); clear BK485; clear HB; have HO488 := n0_; have BK485 := n1_; have HB := n2_; clear n0_ n1_ n2_; (try clear hb); (try clear hb2); (try clear hk); (try clear hi); (try clear ho0); have hcz13_0 : w12.cell? ⟨gb485, 0, none⟩ = some (.int .i64 a0_0) := (blk_cell BK485.out 0).trans rfl; have hcz13_1 : w12.cell? ⟨gb485, 1, none⟩ = some (.int .i64 a0_1) := (blk_cell BK485.out 1).trans rfl; have hcz13_2 : w12.cell? ⟨gb485, 2, none⟩ = some (.slice A0_2 l0_2.length c0_2) := (blk_cell BK485.out 2).trans rfl; have hcz13_3 : w12.cell? ⟨gb485, 3, none⟩ = some (.int .i64 a0_3) := (blk_cell BK485.out 3).trans rfl; have hfz13_0 := blk_frozen BK485.out 0; have hfz13_1 := blk_frozen BK485.out 1; have hfz13_2 := blk_frozen BK485.out 2; have hfz13_3 := blk_frozen BK485.out 3; obtain ⟨Ao14, co14, eo14⟩ := Kd.R_slice HO488.out; subst eo14) | (go_at_call 66; (with_reducible refine (greenscreenref15_Of.calls k a0_0 a0_1 _ _ l0_2 a0_3 a0_3 t489 t490 t491 t492 _ ?side1 ?side2 A9.out).mono ?_); (case side1 => repeat (first | exact (Kd.C_below HR0_2.out HB.out) | (with_reducible refine Kd.C_alloc ?_ _) | (with_reducible refine Kd.C_drewN ?_ _) | (with_reducible refine Kd.C_drew ?_))); (case side2 => exact HC0_2.out); rintro e w15 ⟨rfl, hb⟩; have n0_ := Aside0.mk (Kd.R_below (by (with_reducible repeat (first | apply Kd.R_alloc | apply Kd.R_drewN | apply Kd.R_drew)); exact HO488.out) hb); have n1_ := Aside0.mk (blk_below (g := gb485) (o := .cells #[.int .i64 a0_0, .int .i64 a0_1, .slice A0_2 l0_2.length c0_2, .int .i64 a0_3] 28 (0, 0)) (by (with_reducible repeat (first | refine blk_drewN ?_ _ | refine blk_drew ?_ | refine blk_alloc ?_ _)); exact BK485.out) hb); have n2_ := Aside0.mk (below_step (by repeat (first | (with_reducible first | exact HB.out | apply below_alloc | apply pw_below_drewN | apply below_drew1 | refine below_set ?_ GE485.out) | exact HB.out)) hb); clear HO488; clear BK485; clear HB; have HO488 := n0_; have BK485 := n1_; have HB := n2_; clear n0_ n1_ n2_; (try clear hb); (try clear hb2); (try clear hk); (try clear hi)) | ((with_reducible refine gate_dst (N := 5) rfl ?_); refine box_event ?hg (N := 5) ?hd (cs := #[.int .i64 0, .int .i64 0, .int .u8 0]) (t := 82) ?hr ?_; (case hd => rfl); (case hg => rfl); (case hr => first | (go_simp; done) | (go_simp; rfl)); intro gb493 hg w16 hbox hb; have n0_ := Aside0.mk (Kd.R_below (by (with_reducible repeat (first | apply Kd.R_alloc | apply Kd.R_drewN | apply Kd.R_drew)); exact HO488.out) hb); have n1_ := Aside0.mk (blk_below (g := gb485) (o := .cells #[.int .i64 a0_0, .int .i64 a0_1, .slice A0_2 l0_2.length c0_2, .int .i64 a0_3] 28 (0, 0)) (by (with_reducible repeat (first | refine blk_drewN ?_ _ | refine blk_drew ?_ | refine blk_alloc ?_ _)); exact BK485.out) hb); have n2_ := Aside0.mk (below_step (by repeat (first | (with_reducible first | exact HB.out | apply below_alloc | apply pw_below_drewN | apply below_drew1 | refine below_set ?_ GE485.out) | exact HB.out)) hb); have n3_ := Aside0.mk (hbox); have n4_ := Aside0.mk ((by rw [hg]; exact (below_size (by repeat (first | (with_reducible first | exact HB.out | apply below_alloc | apply pw_below_drewN | apply below_drew1 | refine below_set ?_ GE485.out) | exact HB.out))) : w.heap.size ≤ gb493)); have n5_ := Aside0.mk ((by rw [hg]; exact (below_size (by repeat (first | (with_reducible first | exact HB.out | apply below_alloc | apply pw_below_drewN | apply below_drew1 | refine below_set ?_ GE485.out) | exact HB.out))) : w.heap.size ≤ gb493)); have n6_ := Aside0.mk ((by rw [hg]; exact Nat.ne_of_lt (blk_lt (g := gb485) (o := .cells #[.int .i64 a0_0, .int .i64 a0_1, .slice A0_2 l0_2.length c0_2, .int .i64 a0_3] 28 (0, 0)) (by (with_reducible repeat (first | refine blk_drewN ?_ _ | refine blk_drew ?_ | refine blk_alloc ?_ _)); exact BK485.out)) : gb485 ≠ gb493)); have n7_ := Aside0.mk ((by rw [hg]; exact Nat.ne_of_gt (blk_lt (g := gb485) (o := .cells #[.int .i64 a0_0, .int .i64 a0_1, .slice A0_2 l0_2.length c0_2, .int .i64 a0_3] 28 (0, 0)) (by (with_reducible repeat (first | refine blk_drewN ?_ _ | refine blk_drew ?_ | refine blk_alloc ?_ _)); exact BK485.out)) : gb493 ≠ gb485)); clear HO488; clear BK485; clear HB; have HO488 := n0_; have BK485 := n1_; have HB := n2_; have BK493 := n3_; have GW493 := n4_; have GE493 := n5_; have NB485_493 := n6_; have NB493_485 := n7_; clear n0_ n1_ n2_ n3_ n4_ n5_ n6_ n7_; clear hb hbox hg; have hnb17 := NB493_485.out; have hnc17 := NB485_493.out; have hcz18_0 : w16.cell? ⟨gb493, 0, none⟩ = some (.int .i64 0) := (blk_cell BK493.out 0).trans rfl; have hcz18_1 : w16.cell? ⟨gb493, 1, none⟩ = some (.int .i64 0) := (blk_cell BK493.out 1).trans rfl; have hcz18_2 : w16.cell? ⟨gb493, 2, none⟩ = some (.int .u8 0) := (blk_cell BK493.out 2).trans rfl; have hfz18_0 := blk_frozen BK493.out 0; have hfz18_1 := blk_frozen BK493.out 1; have hfz18_2 := blk_frozen BK493.out 2)))
    go_loopg [7] k (fun kq v7 w' => ∃ (x7_1 : Int), v7 = .int .i64 x7_1 ∧ Aside0 (greenscreenref19_Back.l0 kq t486 (l0_2.length : Int) t492 x7_1 a0_0 a0_1 l0_2 a0_3 t489 t490 t491 = some r) ∧ Aside0 (kq ≤ k) ∧ Aside0 (Kd.R (Kd.int .i64) 3 w' w.heap.size (fun _ => True) (.slice Ao14 t486.length co14) t486) ∧ Aside0 (w'.heap[gb485]? = some (.cells #[.int .i64 a0_0, .int .i64 a0_1, (.slice A0_2 l0_2.length c0_2), .int .i64 a0_3] 28 (0, 0))) ∧ Aside0 (w'.heap[gb493]? = some (.cells #[.int .i64 t489, .int .i64 t490, .int .u8 t491] 82 (0, 0))) ∧ Aside0 (Below w.heap.size w w'))
    case atStart => exact ⟨(0), (by first | rfl | (simp; done) | (simp [*]; done)), H', ⟨Nat.le_refl _⟩, ⟨by (with_reducible repeat (first | apply Kd.R_alloc | apply Kd.R_drewN | apply Kd.R_drew)); exact Kd.R_mono (Kd.R_far (p := ⟨gb493, 2, none⟩) (Kd.R_far (p := ⟨gb493, 1, none⟩) (Kd.R_far (p := ⟨gb493, 0, none⟩) (Kd.R_types HO488.out BK493.out (by decide)) (fun _ hk => hk.2) (.int .i64 t489)) (fun _ hk => hk.2) (.int .i64 t490)) (fun _ hk => hk.2) (.int .u8 t491)) (fun _ hk => trivial)⟩, ⟨by (with_reducible repeat (first | refine blk_drewN ?_ _ | refine blk_drew ?_ | refine blk_alloc ?_ _)); refine blk_far ?_ NB485_493.out _; (with_reducible repeat (first | refine blk_drewN ?_ _ | refine blk_drew ?_ | refine blk_alloc ?_ _)); refine blk_far ?_ NB485_493.out _; (with_reducible repeat (first | refine blk_drewN ?_ _ | refine blk_drew ?_ | refine blk_alloc ?_ _)); refine blk_far ?_ NB485_493.out _; (with_reducible repeat (first | refine blk_drewN ?_ _ | refine blk_drew ?_ | refine blk_alloc ?_ _)); exact BK485.out⟩, ⟨by (with_reducible repeat (first | refine blk_drewN ?_ _ | refine blk_drew ?_ | refine blk_alloc ?_ _)); refine blk_put (cs := #[.int .i64 t489, .int .i64 t490, .int .u8 0]) ?_ 2 _ rfl; (with_reducible repeat (first | refine blk_drewN ?_ _ | refine blk_drew ?_ | refine blk_alloc ?_ _)); refine blk_put (cs := #[.int .i64 t489, .int .i64 0, .int .u8 0]) ?_ 1 _ rfl; (with_reducible repeat (first | refine blk_drewN ?_ _ | refine blk_drew ?_ | refine blk_alloc ?_ _)); refine blk_put (cs := #[.int .i64 0, .int .i64 0, .int .u8 0]) ?_ 0 _ rfl; (with_reducible repeat (first | refine blk_drewN ?_ _ | refine blk_drew ?_ | refine blk_alloc ?_ _)); exact BK493.out⟩, ⟨by repeat (first | (with_reducible first | exact HB.out | apply below_alloc | apply pw_below_drewN | apply below_drew1 | refine below_set ?_ GE485.out | refine below_set ?_ GE493.out) | exact HB.out)⟩⟩
    case round =>
      clear H'
      try clear c1
      try clear p2
      try clear c3
      try clear c3b0
      try clear c3b1
      try clear c3b2
      try clear c17
      try clear hcz11_0
      try clear hcz11_1
      try clear hcz11_2
      try clear hcz11_3
      try clear hcz13_0
      try clear hcz13_1
      try clear hcz13_2
      try clear hcz13_3
      try clear hcz18_0
      try clear hcz18_1
      try clear hcz18_2
      try clear hcz5_0
      try clear hcz5_1
      try clear hcz5_2
      try clear hcz5_3
      try clear hcz7_0
      try clear hcz7_1
      try clear hcz7_2
      try clear hcz7_3
      try clear hfz11_0
      try clear hfz11_1
      try clear hfz11_2
      try clear hfz11_3
      try clear hfz13_0
      try clear hfz13_1
      try clear hfz13_2
      try clear hfz13_3
      try clear hfz18_0
      try clear hfz18_1
      try clear hfz18_2
      try clear hfz5_0
      try clear hfz5_1
      try clear hfz5_2
      try clear hfz5_3
      try clear hfz7_0
      try clear hfz7_1
      try clear hfz7_2
      try clear hfz7_3
      obtain ⟨x7_1, rfl, HA, HK1, HO_3, BK485, BK493, HB⟩ := hrel
      cases gk with
      | zero => exact absurd HA.out (by simp [greenscreenref19_Back.l0])
      | succ k1 =>
        have H := HA.out
        clear HA
        simp only [greenscreenref19_Back.l0] at H
        have HC19 := Aside0.mk H
        clear H
        go_upto_region 7 with (fail)
        repeat (go_quiet (fail); go_upto_region 7 with (fail))
        go_cut [32] (fun v32 wc => ∃ (kq : Nat) (x32_18 : Bool), v32 = .bool x32_18 ∧ Aside0 (greenscreenref19_Back.j1 kq t486 (l0_2.length : Int) t492 x7_1 x32_18 a0_0 a0_1 l0_2 a0_3 t489 t490 t491 = some r) ∧ Aside0 (kq ≤ k1) ∧ Aside0 (Kd.R (Kd.int .i64) 3 wc w.heap.size (fun _ => True) (.slice Ao14 t486.length co14) t486) ∧ Aside0 (wc.heap[gb485]? = some (.cells #[.int .i64 a0_0, .int .i64 a0_1, (.slice A0_2 l0_2.length c0_2), .int .i64 a0_3] 28 (0, 0))) ∧ Aside0 (wc.heap[gb493]? = some (.cells #[.int .i64 t489, .int .i64 t490, .int .u8 t491] 82 (0, 0))) ∧ Aside0 (Below w.heap.size w wc))
        case first =>
          have H := HC19.out
          clear HC19
          by_cases c20 : x7_1 < (t486.length : Int)
          · rw [if_pos c20] at H
            have c20b0 : decide (x7_1 < (t486.length : Int)) = true := decide_eq_true c20
            clear c20
            (first | rw [c20b0] | (simp only [i64_w, i32_w]; rw [c20b0]) | skip)
            have H' := Aside0.mk H
            clear H
            go_wp2
            repeat (go_quiet (fail); try go_wp2)
            go_meet
            case rel => exact ⟨_, (t492), (by first | rfl | (simp; done) | (simp [*]; done)), H', ⟨by have := HK1.out; first | omega | exact Nat.le_refl _⟩, ⟨by (with_reducible repeat (first | apply Kd.R_alloc | apply Kd.R_drewN | apply Kd.R_drew)); exact HO_3.out⟩, ⟨by (with_reducible repeat (first | refine blk_drewN ?_ _ | refine blk_drew ?_ | refine blk_alloc ?_ _)); exact BK485.out⟩, ⟨by (with_reducible repeat (first | refine blk_drewN ?_ _ | refine blk_drew ?_ | refine blk_alloc ?_ _)); exact BK493.out⟩, ⟨by repeat (first | (with_reducible first | exact HB.out | apply below_alloc | apply pw_below_drewN | apply below_drew1 | refine below_set ?_ GE485.out | refine below_set ?_ GE493.out) | exact HB.out)⟩⟩
          · rw [if_neg c20] at H
            have c20b0 : decide (x7_1 < (t486.length : Int)) = false := decide_eq_false c20
            clear c20
            (first | rw [c20b0] | (simp only [i64_w, i32_w]; rw [c20b0]) | skip)
            have H' := Aside0.mk H
            clear H
            go_wp2
            repeat (go_quiet (fail); try go_wp2)
            go_meet
            case rel => exact ⟨_, (false), (by first | rfl | (simp; done) | (simp [*]; done)), H', ⟨by have := HK1.out; first | omega | exact Nat.le_refl _⟩, ⟨by (with_reducible repeat (first | apply Kd.R_alloc | apply Kd.R_drewN | apply Kd.R_drew)); exact HO_3.out⟩, ⟨by (with_reducible repeat (first | refine blk_drewN ?_ _ | refine blk_drew ?_ | refine blk_alloc ?_ _)); exact BK485.out⟩, ⟨by (with_reducible repeat (first | refine blk_drewN ?_ _ | refine blk_drew ?_ | refine blk_alloc ?_ _)); exact BK493.out⟩, ⟨by repeat (first | (with_reducible first | exact HB.out | apply below_alloc | apply pw_below_drewN | apply below_drew1 | refine below_set ?_ GE485.out | refine below_set ?_ GE493.out) | exact HB.out)⟩⟩
        case rest =>
          clear HC19
          try clear c1
          try clear c2
          try clear p2
          try clear c3
          try clear c3b0
          try clear c3b1
          try clear c3b2
          try clear c17
          try clear c20
          try clear c20b0
          try clear hcz11_0
          try clear hcz11_1
          try clear hcz11_2
          try clear hcz11_3
          try clear hcz13_0
          try clear hcz13_1
          try clear hcz13_2
          try clear hcz13_3
          try clear hcz18_0
          try clear hcz18_1
          try clear hcz18_2
          try clear hcz5_0
          try clear hcz5_1
          try clear hcz5_2
          try clear hcz5_3
          try clear hcz7_0
          try clear hcz7_1
          try clear hcz7_2
          try clear hcz7_3
          try clear hfz11_0
          try clear hfz11_1
          try clear hfz11_2
          try clear hfz11_3
          try clear hfz13_0
          try clear hfz13_1
          try clear hfz13_2
          try clear hfz13_3
          try clear hfz18_0
          try clear hfz18_1
          try clear hfz18_2
          try clear hfz5_0
          try clear hfz5_1
          try clear hfz5_2
          try clear hfz5_3
          try clear hfz7_0
          try clear hfz7_1
          try clear hfz7_2
          try clear hfz7_3
          try clear p2
          obtain ⟨kq, x32_18, rfl, HA, HJ18, HO_3, BK485, BK493, HB⟩ := hcut
          cases kq with
          | zero => exact absurd HA.out (by simp [greenscreenref19_Back.j1])
          | succ kj18 =>
            have H := HA.out
            clear HA
            simp only [greenscreenref19_Back.j1] at H
            by_cases c21 : x32_18 = true
            · subst c21
              have H1 : (if 0 ≤ x7_1 then (if x7_1 < (t486.length : Int) then (if (rd t486 x7_1) = t489 then (if a0_3 = t489 then (greenscreenref19_Back.l0 kj18 t486 (l0_2.length : Int) t492 (wrap64 (x7_1 + 1)) a0_0 a0_1 l0_2 a0_3 t489 t490 t491) else (if (l0_2.length : Int) = 0 then (none) else (if a0_3 = (Int.tmod (wrap64 (t489 + 1)) (l0_2.length : Int)) then (greenscreenref19_Back.l0 kj18 t486 (l0_2.length : Int) t492 (wrap64 (x7_1 + 1)) a0_0 a0_1 l0_2 a0_3 t489 t490 t491) else (some (Int.tmod (wrap64 (t489 + 1)) (l0_2.length : Int)))))) else (greenscreenref19_Back.l0 kj18 t486 (l0_2.length : Int) t492 (wrap64 (x7_1 + 1)) a0_0 a0_1 l0_2 a0_3 t489 t490 t491)) else (none)) else (none)) = some r := by rw [if_pos rfl] at H; exact H
              clear H
              have H := H1
              clear H1
              by_cases c22 : 0 ≤ x7_1
              · rw [if_pos c22] at H
                have c22b0 : decide (0 ≤ x7_1) = true := decide_eq_true c22
                clear c22
                by_cases c23 : x7_1 < (t486.length : Int)
                · rw [if_pos c23] at H
                  have c23b0 : decide (x7_1 < (t486.length : Int)) = true := decide_eq_true c23
                  clear c23
                  by_cases c24 : (rd t486 x7_1) = t489
                  · rw [if_pos c24] at H
                    have c24b0 : ((rd t486 x7_1) == t489) = true := beq_iff_eq.mpr c24
                    have c24b1 : ((rd t486 x7_1) != t489) = false := bne_eq_false_iff_eq.mpr c24
                    clear c24
                    by_cases c25 : a0_3 = t489
                    · rw [if_pos c25] at H
                      have c25b0 : (a0_3 == t489) = true := beq_iff_eq.mpr c25
                      have c25b1 : (a0_3 != t489) = false := bne_eq_false_iff_eq.mpr c25
                      clear c25
                      have H' := Aside0.mk H
                      clear H
                      have p494 : 0 ≤ (x7_1 : Int) := of_decide_eq_true (by first | (with_reducible assumption) | assumption)
                      have q494 : x7_1 < (t486.length : Int) := of_decide_eq_true (by first | (with_reducible assumption) | assumption)
                      obtain ⟨ad494, e494, hx494_0⟩ := Kd.at_int (Kd.R_reads' HO_3.out).2.2 x7_1 p494 q494
                      cases e494
                      replace p494 := eq_true p494
                      replace q494 := eq_true q494
                      have hnb26 := NB493_485.out
                      have hnc26 := NB485_493.out
                      have hcz27_0 : wc.cell? ⟨gb493, 0, none⟩ = some (.int .i64 t489) := (blk_cell BK493.out 0).trans rfl
                      have hcz27_1 : wc.cell? ⟨gb493, 1, none⟩ = some (.int .i64 t490) := (blk_cell BK493.out 1).trans rfl
                      have hcz27_2 : wc.cell? ⟨gb493, 2, none⟩ = some (.int .u8 t491) := (blk_cell BK493.out 2).trans rfl
                      have hfz27_0 := blk_frozen BK493.out 0
                      have hfz27_1 := blk_frozen BK493.out 1
                      have hfz27_2 := blk_frozen BK493.out 2
                      have hcz28_0 : wc.cell? ⟨gb485, 0, none⟩ = some (.int .i64 a0_0) := (blk_cell BK485.out 0).trans rfl
                      have hcz28_1 : wc.cell? ⟨gb485, 1, none⟩ = some (.int .i64 a0_1) := (blk_cell BK485.out 1).trans rfl
                      have hcz28_2 : wc.cell? ⟨gb485, 2, none⟩ = some (.slice A0_2 l0_2.length c0_2) := (blk_cell BK485.out 2).trans rfl
                      have hcz28_3 : wc.cell? ⟨gb485, 3, none⟩ = some (.int .i64 a0_3) := (blk_cell BK485.out 3).trans rfl
                      have hfz28_0 := blk_frozen BK485.out 0
                      have hfz28_1 := blk_frozen BK485.out 1
                      have hfz28_2 := blk_frozen BK485.out 2
                      have hfz28_3 := blk_frozen BK485.out 3
                      go_wp2
                      repeat (go_quiet (fail); try go_wp2)
                      go_roundg kj18
                      case measure => have := HK1.out; have := HJ18.out; omega
                      case rel => exact ⟨(wrap64 (x7_1 + 1)), (by first | rfl | (simp; done) | (simp [*]; done)), H', ⟨by have := HK1.out; have := HJ18.out; omega⟩, ⟨by (with_reducible repeat (first | apply Kd.R_alloc | apply Kd.R_drewN | apply Kd.R_drew)); exact HO_3.out⟩, ⟨by (with_reducible repeat (first | refine blk_drewN ?_ _ | refine blk_drew ?_ | refine blk_alloc ?_ _)); exact BK485.out⟩, ⟨by (with_reducible repeat (first | refine blk_drewN ?_ _ | refine blk_drew ?_ | refine blk_alloc ?_ _)); exact BK493.out⟩, ⟨by repeat (first | (with_reducible first | exact HB.out | apply below_alloc | apply pw_below_drewN | apply below_drew1 | refine below_set ?_ GE485.out | refine below_set ?_ GE493.out) | exact HB.out)⟩⟩
                    · rw [if_neg c25] at H
                      have c25b0 : (a0_3 == t489) = false := beq_eq_false_iff_ne.mpr c25
                      have c25b1 : (a0_3 != t489) = true := bne_iff_ne.mpr c25
                      by_cases c29 : (l0_2.length : Int) = 0
                      · rw [if_pos c29] at H
                        exact absurd H (by simp)
                      · rw [if_neg c29] at H
                        have c29b0 : ((l0_2.length : Int) == 0) = false := beq_eq_false_iff_ne.mpr c29
                        have c29b1 : ((l0_2.length : Int) != 0) = true := bne_iff_ne.mpr c29
                        have c29b2 : ¬ (l0_2 = []) := fun h_ => c29 (by rw [h_]; rfl)
                        by_cases c30 : a0_3 = (Int.tmod (wrap64 (t489 + 1)) (l0_2.length : Int))
                        · rw [if_pos c30] at H
                          have c30b0 : (a0_3 == (Int.tmod (wrap64 (t489 + 1)) (l0_2.length : Int))) = true := beq_iff_eq.mpr c30
                          have c30b1 : (a0_3 != (Int.tmod (wrap64 (t489 + 1)) (l0_2.length : Int))) = false := bne_eq_false_iff_eq.mpr c30
                          clear c30
                          have H' := Aside0.mk H
                          clear H
                          have p494 : 0 ≤ (x7_1 : Int) := of_decide_eq_true (by first | (with_reducible assumption) | assumption)
                          have q494 : x7_1 < (t486.length : Int) := of_decide_eq_true (by first | (with_reducible assumption) | assumption)
                          obtain ⟨ad494, e494, hx494_0⟩ := Kd.at_int (Kd.R_reads' HO_3.out).2.2 x7_1 p494 q494
                          cases e494
                          replace p494 := eq_true p494
                          replace q494 := eq_true q494
                          have hnb31 := NB493_485.out
                          have hnc31 := NB485_493.out
                          have hcz32_0 : wc.cell? ⟨gb493, 0, none⟩ = some (.int .i64 t489) := (blk_cell BK493.out 0).trans rfl
                          have hcz32_1 : wc.cell? ⟨gb493, 1, none⟩ = some (.int .i64 t490) := (blk_cell BK493.out 1).trans rfl
                          have hcz32_2 : wc.cell? ⟨gb493, 2, none⟩ = some (.int .u8 t491) := (blk_cell BK493.out 2).trans rfl
                          have hfz32_0 := blk_frozen BK493.out 0
                          have hfz32_1 := blk_frozen BK493.out 1
                          have hfz32_2 := blk_frozen BK493.out 2
                          have hcz33_0 : wc.cell? ⟨gb485, 0, none⟩ = some (.int .i64 a0_0) := (blk_cell BK485.out 0).trans rfl
                          have hcz33_1 : wc.cell? ⟨gb485, 1, none⟩ = some (.int .i64 a0_1) := (blk_cell BK485.out 1).trans rfl
                          have hcz33_2 : wc.cell? ⟨gb485, 2, none⟩ = some (.slice A0_2 l0_2.length c0_2) := (blk_cell BK485.out 2).trans rfl
                          have hcz33_3 : wc.cell? ⟨gb485, 3, none⟩ = some (.int .i64 a0_3) := (blk_cell BK485.out 3).trans rfl
                          have hfz33_0 := blk_frozen BK485.out 0
                          have hfz33_1 := blk_frozen BK485.out 1
                          have hfz33_2 := blk_frozen BK485.out 2
                          have hfz33_3 := blk_frozen BK485.out 3
                          go_wp2
                          repeat (go_quiet (fail); try go_wp2)
                          go_roundg kj18
                          case measure => have := HK1.out; have := HJ18.out; omega
                          case rel => exact ⟨(wrap64 (x7_1 + 1)), (by first | rfl | (simp; done) | (simp [*]; done)), H', ⟨by have := HK1.out; have := HJ18.out; omega⟩, ⟨by (with_reducible repeat (first | apply Kd.R_alloc | apply Kd.R_drewN | apply Kd.R_drew)); exact HO_3.out⟩, ⟨by (with_reducible repeat (first | refine blk_drewN ?_ _ | refine blk_drew ?_ | refine blk_alloc ?_ _)); exact BK485.out⟩, ⟨by (with_reducible repeat (first | refine blk_drewN ?_ _ | refine blk_drew ?_ | refine blk_alloc ?_ _)); exact BK493.out⟩, ⟨by repeat (first | (with_reducible first | exact HB.out | apply below_alloc | apply pw_below_drewN | apply below_drew1 | refine below_set ?_ GE485.out | refine below_set ?_ GE493.out) | exact HB.out)⟩⟩
                        · rw [if_neg c30] at H
                          have c30b0 : (a0_3 == (Int.tmod (wrap64 (t489 + 1)) (l0_2.length : Int))) = false := beq_eq_false_iff_ne.mpr c30
                          have c30b1 : (a0_3 != (Int.tmod (wrap64 (t489 + 1)) (l0_2.length : Int))) = true := bne_iff_ne.mpr c30
                          obtain rfl := Option.some.inj H
                          have p494 : 0 ≤ (x7_1 : Int) := of_decide_eq_true (by first | (with_reducible assumption) | assumption)
                          have q494 : x7_1 < (t486.length : Int) := of_decide_eq_true (by first | (with_reducible assumption) | assumption)
                          obtain ⟨ad494, e494, hx494_0⟩ := Kd.at_int (Kd.R_reads' HO_3.out).2.2 x7_1 p494 q494
                          cases e494
                          replace p494 := eq_true p494
                          replace q494 := eq_true q494
                          have hnb34 := NB493_485.out
                          have hnc34 := NB485_493.out
                          have hcz35_0 : wc.cell? ⟨gb493, 0, none⟩ = some (.int .i64 t489) := (blk_cell BK493.out 0).trans rfl
                          have hcz35_1 : wc.cell? ⟨gb493, 1, none⟩ = some (.int .i64 t490) := (blk_cell BK493.out 1).trans rfl
                          have hcz35_2 : wc.cell? ⟨gb493, 2, none⟩ = some (.int .u8 t491) := (blk_cell BK493.out 2).trans rfl
                          have hfz35_0 := blk_frozen BK493.out 0
                          have hfz35_1 := blk_frozen BK493.out 1
                          have hfz35_2 := blk_frozen BK493.out 2
                          have hcz36_0 : wc.cell? ⟨gb485, 0, none⟩ = some (.int .i64 a0_0) := (blk_cell BK485.out 0).trans rfl
                          have hcz36_1 : wc.cell? ⟨gb485, 1, none⟩ = some (.int .i64 a0_1) := (blk_cell BK485.out 1).trans rfl
                          have hcz36_2 : wc.cell? ⟨gb485, 2, none⟩ = some (.slice A0_2 l0_2.length c0_2) := (blk_cell BK485.out 2).trans rfl
                          have hcz36_3 : wc.cell? ⟨gb485, 3, none⟩ = some (.int .i64 a0_3) := (blk_cell BK485.out 3).trans rfl
                          have hfz36_0 := blk_frozen BK485.out 0
                          have hfz36_1 := blk_frozen BK485.out 1
                          have hfz36_2 := blk_frozen BK485.out 2
                          have hfz36_3 := blk_frozen BK485.out 3
                          go_wp2
                          repeat (go_quiet (fail); try go_wp2)
                          go_ret
                          exact ⟨by first | rfl | (simp [errW_none, errW_some] <;> rfl) | (simp [*, errW_none, errW_some] <;> rfl), by repeat (first | (with_reducible first | exact HB.out | apply below_alloc | apply pw_below_drewN | apply below_drew1 | refine below_set ?_ GE485.out | refine below_set ?_ GE493.out) | exact HB.out)⟩
                  · rw [if_neg c24] at H
                    have c24b0 : ((rd t486 x7_1) == t489) = false := beq_eq_false_iff_ne.mpr c24
                    have c24b1 : ((rd t486 x7_1) != t489) = true := bne_iff_ne.mpr c24
                    have H' := Aside0.mk H
                    clear H
                    have p494 : 0 ≤ (x7_1 : Int) := of_decide_eq_true (by first | (with_reducible assumption) | assumption)
                    have q494 : x7_1 < (t486.length : Int) := of_decide_eq_true (by first | (with_reducible assumption) | assumption)
                    obtain ⟨ad494, e494, hx494_0⟩ := Kd.at_int (Kd.R_reads' HO_3.out).2.2 x7_1 p494 q494
                    cases e494
                    replace p494 := eq_true p494
                    replace q494 := eq_true q494
                    have hnb37 := NB493_485.out
                    have hnc37 := NB485_493.out
                    have hcz38_0 : wc.cell? ⟨gb493, 0, none⟩ = some (.int .i64 t489) := (blk_cell BK493.out 0).trans rfl
                    have hcz38_1 : wc.cell? ⟨gb493, 1, none⟩ = some (.int .i64 t490) := (blk_cell BK493.out 1).trans rfl
                    have hcz38_2 : wc.cell? ⟨gb493, 2, none⟩ = some (.int .u8 t491) := (blk_cell BK493.out 2).trans rfl
                    have hfz38_0 := blk_frozen BK493.out 0
                    have hfz38_1 := blk_frozen BK493.out 1
                    have hfz38_2 := blk_frozen BK493.out 2
                    go_wp2
                    repeat (go_quiet (fail); try go_wp2)
                    go_roundg kj18
                    case measure => have := HK1.out; have := HJ18.out; omega
                    case rel => exact ⟨(wrap64 (x7_1 + 1)), (by first | rfl | (simp; done) | (simp [*]; done)), H', ⟨by have := HK1.out; have := HJ18.out; omega⟩, ⟨by (with_reducible repeat (first | apply Kd.R_alloc | apply Kd.R_drewN | apply Kd.R_drew)); exact HO_3.out⟩, ⟨by (with_reducible repeat (first | refine blk_drewN ?_ _ | refine blk_drew ?_ | refine blk_alloc ?_ _)); exact BK485.out⟩, ⟨by (with_reducible repeat (first | refine blk_drewN ?_ _ | refine blk_drew ?_ | refine blk_alloc ?_ _)); exact BK493.out⟩, ⟨by repeat (first | (with_reducible first | exact HB.out | apply below_alloc | apply pw_below_drewN | apply below_drew1 | refine below_set ?_ GE485.out | refine below_set ?_ GE493.out) | exact HB.out)⟩⟩
                · rw [if_neg c23] at H
                  exact absurd H (by simp)
              · rw [if_neg c22] at H
                exact absurd H (by simp)
            · replace c21 := Bool.eq_false_iff.mpr c21
              subst c21
              have H1 : ((greenscreenref02_Move.f kj18 a0_0 a0_1 a0_3 (-2)).bind fun t495 => (if 0 ≤ (wrap64 ((t486.length : Int) - 1)) then (if (wrap64 ((t486.length : Int) - 1)) < (t486.length : Int) then (greenscreenref19_Back.l1 kj18 t486 (l0_2.length : Int) t495 (rd t486 (wrap64 ((t486.length : Int) - 1))) 0) else (none)) else (none))) = some r := by rw [if_neg (show ¬ (false = true) by decide)] at H; exact H
              clear H
              have H := H1
              clear H1
              replace H := Option.bind_eq_some_iff.mp H
              obtain ⟨t495, A390, H⟩ := H
              replace H : (if 0 ≤ (wrap64 ((t486.length : Int) - 1)) then (if (wrap64 ((t486.length : Int) - 1)) < (t486.length : Int) then (greenscreenref19_Back.l1 kj18 t486 (l0_2.length : Int) t495 (rd t486 (wrap64 ((t486.length : Int) - 1))) 0) else (none)) else (none)) = some r := H
              have A39 := Aside0.mk A390
              clear A390
              obtain ⟨ji40, hji40⟩ : ∃ j_ : Int, (wrap64 ((t486.length : Int) - 1)) = j_ := ⟨_, rfl⟩
              replace H : (if 0 ≤ (ji40) then (if (ji40) < (t486.length : Int) then (greenscreenref19_Back.l1 kj18 t486 (l0_2.length : Int) t495 (rd t486 (ji40)) 0) else (none)) else (none)) = some r := by first | (rw [hji40] at H; exact H) | (simp only [hji40] at H ⊢; exact H)
              (try rw [hji40] at A39)
              have hji40w : (IntKind.i64.wrap ((t486.length : Int) - 1)) = ji40 := (i64_w _).trans hji40
              by_cases c41 : 0 ≤ (ji40)
              · rw [if_pos c41] at H
                have c41b0 : decide (0 ≤ (ji40)) = true := decide_eq_true c41
                clear c41
                by_cases c42 : (ji40) < (t486.length : Int)
                · rw [if_pos c42] at H
                  have c42b0 : decide ((ji40) < (t486.length : Int)) = true := decide_eq_true c42
                  clear c42
                  have H' := Aside0.mk H
                  clear H
                  have hnb43 := NB485_493.out
                  have hnc43 := NB493_485.out
                  have hcz44_0 : wc.cell? ⟨gb485, 0, none⟩ = some (.int .i64 a0_0) := (blk_cell BK485.out 0).trans rfl
                  have hcz44_1 : wc.cell? ⟨gb485, 1, none⟩ = some (.int .i64 a0_1) := (blk_cell BK485.out 1).trans rfl
                  have hcz44_2 : wc.cell? ⟨gb485, 2, none⟩ = some (.slice A0_2 l0_2.length c0_2) := (blk_cell BK485.out 2).trans rfl
                  have hcz44_3 : wc.cell? ⟨gb485, 3, none⟩ = some (.int .i64 a0_3) := (blk_cell BK485.out 3).trans rfl
                  have hfz44_0 := blk_frozen BK485.out 0
                  have hfz44_1 := blk_frozen BK485.out 1
                  have hfz44_2 := blk_frozen BK485.out 2
                  have hfz44_3 := blk_frozen BK485.out 3
                  go_wp2_with (first | (go_at_call 65; (with_reducible refine (greenscreenref02_Move.calls kj18 a0_0 a0_1 a0_3 (-2) t495 _ A39.out).mono ?_); rintro e w45 ⟨rfl, hb⟩; have n0_ := Aside0.mk (Kd.R_below (by (with_reducible repeat (first | apply Kd.R_alloc | apply Kd.R_drewN | apply Kd.R_drew)); exact HO_3.out) hb); have n1_ := Aside0.mk (blk_below (g := gb485) (o := .cells #[.int .i64 a0_0, .int .i64 a0_1, .slice A0_2 l0_2.length c0_2, .int .i64 a0_3] 28 (0, 0)) (by (with_reducible repeat (first | refine blk_drewN ?_ _ | refine blk_drew ?_ | refine blk_alloc ?_ _)); exact BK485.out) hb); have n2_ := Aside0.mk (blk_below (g := gb493) (o := .cells #[.int .i64 t489, .int .i64 t490, .int .u8 t491] 82 (0, 0)) (by (with_reducible repeat (first | refine blk_drewN ?_ _ | refine blk_drew ?_ | refine blk_alloc ?_ _)); exact BK493.out) hb); have n3_ := Aside0.mk (below_step (by repeat (first | (with_reducible first | exact HB.out | apply below_alloc | apply pw_below_drewN | apply below_drew1 | refine below_set ?_ GE485.out | refine below_set ?_ GE493.out) | exact HB.out)) hb); clear HO_3; clear BK485; clear BK493; clear HB; have HO_3 := n0_; have BK485 := n1_; have BK493 := n2_; have HB := n3_; clear n0_ n1_ n2_ n3_; (try clear hb); (try clear hb2); (try clear hk); (try clear hi); have p496 : 0 ≤ ((ji40) : Int) := of_decide_eq_true (by first | (with_reducible assumption) | assumption); have q496 : (ji40) < (t486.length : Int) := of_decide_eq_true (by first | (with_reducible assumption) | assumption); obtain ⟨ad496, e496, hx496_0⟩ := Kd.at_int (Kd.R_reads' HO_3.out).2.2 (ji40) p496 q496; cases e496; replace p496 := eq_true p496; replace q496 := eq_true q496))
                  repeat (go_quiet (first | (go_at_call 65; (with_reducible refine (greenscreenref02_Move.calls kj18 a0_0 a0_1 a0_3 (-2) t495 _ A39.out).mono ?_); rintro e w45 ⟨rfl, hb⟩; have n0_ := Aside0.mk (Kd.R_below (by (with_reducible repeat (first | apply Kd.R_alloc | apply Kd.R_drewN | apply Kd.R_drew)); exact HO_3.out) hb); have n1_ := Aside0.mk (blk_below (g := gb485) (o := .cells #[.int .i64 a0_0, .int .i64 a0_1, .slice A0_2 l0_2.length c0_2, .int .i64 a0_3] 28 (0, 0)) (by (with_reducible repeat (first | refine blk_drewN ?_ _ | refine blk_drew ?_ | refine blk_alloc ?_ _)); exact BK485.out) hb); have n2_ := Aside0.mk (blk_below (g := gb493) (o := .cells #[.int .i64 t489, .int .i64 t490, .int .u8 t491] 82 (0, 0)) (by (with_reducible repeat (first | refine blk_drewN ?_ _ | refine blk_drew ?_ | refine blk_alloc ?_ _)); exact BK493.out) hb); have n3_ := Aside0.mk (below_step (by repeat (first | (with_reducible first | exact HB.out | apply below_alloc | apply pw_below_drewN | apply below_drew1 | refine below_set ?_ GE485.out | refine below_set ?_ GE493.out) | exact HB.out)) hb); clear HO_3; clear BK485; clear BK493; clear HB; have HO_3 := n0_; have BK485 := n1_; have BK493 := n2_; have HB := n3_; clear n0_ n1_ n2_ n3_; (try clear hb); (try clear hb2); (try clear hk); (try clear hi); have p496 : 0 ≤ ((ji40) : Int) := of_decide_eq_true (by first | (with_reducible assumption) | assumption); have q496 : (ji40) < (t486.length : Int) := of_decide_eq_true (by first | (with_reducible assumption) | assumption); obtain ⟨ad496, e496, hx496_0⟩ := Kd.at_int (Kd.R_reads' HO_3.out).2.2 (ji40) p496 q496; cases e496; replace p496 := eq_true p496; replace q496 := eq_true q496)); try go_wp2_with (first | (go_at_call 65; (with_reducible refine (greenscreenref02_Move.calls kj18 a0_0 a0_1 a0_3 (-2) t495 _ A39.out).mono ?_); rintro e w45 ⟨rfl, hb⟩; have n0_ := Aside0.mk (Kd.R_below (by (with_reducible repeat (first | apply Kd.R_alloc | apply Kd.R_drewN | apply Kd.R_drew)); exact HO_3.out) hb); have n1_ := Aside0.mk (blk_below (g := gb485) (o := .cells #[.int .i64 a0_0, .int .i64 a0_1, .slice A0_2 l0_2.length c0_2, .int .i64 a0_3] 28 (0, 0)) (by (with_reducible repeat (first | refine blk_drewN ?_ _ | refine blk_drew ?_ | refine blk_alloc ?_ _)); exact BK485.out) hb); have n2_ := Aside0.mk (blk_below (g := gb493) (o := .cells #[.int .i64 t489, .int .i64 t490, .int .u8 t491] 82 (0, 0)) (by (with_reducible repeat (first | refine blk_drewN ?_ _ | refine blk_drew ?_ | refine blk_alloc ?_ _)); exact BK493.out) hb); have n3_ := Aside0.mk (below_step (by repeat (first | (with_reducible first | exact HB.out | apply below_alloc | apply pw_below_drewN | apply below_drew1 | refine below_set ?_ GE485.out | refine below_set ?_ GE493.out) | exact HB.out)) hb); clear HO_3; clear BK485; clear BK493; clear HB; have HO_3 := n0_; have BK485 := n1_; have BK493 := n2_; have HB := n3_; clear n0_ n1_ n2_ n3_; (try clear hb); (try clear hb2); (try clear hk); (try clear hi); have p496 : 0 ≤ ((ji40) : Int) := of_decide_eq_true (by first | (with_reducible assumption) | assumption); have q496 : (ji40) < (t486.length : Int) := of_decide_eq_true (by first | (with_reducible assumption) | assumption); obtain ⟨ad496, e496, hx496_0⟩ := Kd.at_int (Kd.R_reads' HO_3.out).2.2 (ji40) p496 q496; cases e496; replace p496 := eq_true p496; replace q496 := eq_true q496)))
                  go_loopg [9, 10] kj18 (fun kq v9 v10 w' => ∃ (x9_3 : Int) (x10_3 : Int), v9 = .int .i64 x9_3 ∧ v10 = .int .i64 x10_3 ∧ Aside0 (greenscreenref19_Back.l1 kq t486 (l0_2.length : Int) t495 x9_3 x10_3 = some r) ∧ Aside0 (kq ≤ kj18) ∧ Aside0 (Kd.R (Kd.int .i64) 3 w' w.heap.size (fun _ => True) (.slice (some ad496) t486.length co14) t486) ∧ Aside0 (w'.heap[gb485]? = some (.cells #[.int .i64 a0_0, .int .i64 a0_1, (.slice A0_2 l0_2.length c0_2), .int .i64 a0_3] 28 (0, 0))) ∧ Aside0 (w'.heap[gb493]? = some (.cells #[.int .i64 t489, .int .i64 t490, .int .u8 t491] 82 (0, 0))) ∧ Aside0 (Below w.heap.size w w'))
                  case atStart => exact ⟨(rd t486 (ji40)), (0), (by first | rfl | (simp; done) | (simp only [← hji40] <;> (first | rfl | simp)) | (simp [*]; done)), (by first | rfl | (simp; done) | (simp [*]; done)), H', ⟨Nat.le_refl _⟩, ⟨by (with_reducible repeat (first | apply Kd.R_alloc | apply Kd.R_drewN | apply Kd.R_drew)); exact HO_3.out⟩, ⟨by (with_reducible repeat (first | refine blk_drewN ?_ _ | refine blk_drew ?_ | refine blk_alloc ?_ _)); exact BK485.out⟩, ⟨by (with_reducible repeat (first | refine blk_drewN ?_ _ | refine blk_drew ?_ | refine blk_alloc ?_ _)); exact BK493.out⟩, ⟨by repeat (first | (with_reducible first | exact HB.out | apply below_alloc | apply pw_below_drewN | apply below_drew1 | refine below_set ?_ GE485.out | refine below_set ?_ GE493.out) | exact HB.out)⟩⟩
                  case round =>
                    clear H'
                    try clear c1
                    try clear c2
                    try clear p2
                    try clear c3
                    try clear c3b0
                    try clear c3b1
                    try clear c3b2
                    try clear c4
                    try clear p4
                    try clear q4
                    try clear hx4
                    try clear p6
                    try clear c17
                    try clear c20
                    try clear c20b0
                    try clear c21
                    try clear c22
                    try clear c22b0
                    try clear c23
                    try clear c23b0
                    try clear c24
                    try clear c24b0
                    try clear c24b1
                    try clear c25
                    try clear c25b0
                    try clear c25b1
                    try clear c26
                    try clear c29
                    try clear c29b0
                    try clear c29b1
                    try clear c29b2
                    try clear c30
                    try clear c30b0
                    try clear c30b1
                    try clear c31
                    try clear c34
                    try clear c37
                    try clear c41
                    try clear c41b0
                    try clear c42
                    try clear c42b0
                    try clear c43
                    try clear hcz11_0
                    try clear hcz11_1
                    try clear hcz11_2
                    try clear hcz11_3
                    try clear hcz13_0
                    try clear hcz13_1
                    try clear hcz13_2
                    try clear hcz13_3
                    try clear hcz18_0
                    try clear hcz18_1
                    try clear hcz18_2
                    try clear hcz27_0
                    try clear hcz27_1
                    try clear hcz27_2
                    try clear hcz28_0
                    try clear hcz28_1
                    try clear hcz28_2
                    try clear hcz28_3
                    try clear hcz32_0
                    try clear hcz32_1
                    try clear hcz32_2
                    try clear hcz33_0
                    try clear hcz33_1
                    try clear hcz33_2
                    try clear hcz33_3
                    try clear hcz35_0
                    try clear hcz35_1
                    try clear hcz35_2
                    try clear hcz36_0
                    try clear hcz36_1
                    try clear hcz36_2
                    try clear hcz36_3
                    try clear hcz38_0
                    try clear hcz38_1
                    try clear hcz38_2
                    try clear hcz44_0
                    try clear hcz44_1
                    try clear hcz44_2
                    try clear hcz44_3
                    try clear hcz5_0
                    try clear hcz5_1
                    try clear hcz5_2
                    try clear hcz5_3
                    try clear hcz7_0
                    try clear hcz7_1
                    try clear hcz7_2
                    try clear hcz7_3
                    try clear hfz11_0
                    try clear hfz11_1
                    try clear hfz11_2
                    try clear hfz11_3
                    try clear hfz13_0
                    try clear hfz13_1
                    try clear hfz13_2
                    try clear hfz13_3
                    try clear hfz18_0
                    try clear hfz18_1
                    try clear hfz18_2
                    try clear hfz27_0
                    try clear hfz27_1
                    try clear hfz27_2
                    try clear hfz28_0
                    try clear hfz28_1
                    try clear hfz28_2
                    try clear hfz28_3
                    try clear hfz32_0
                    try clear hfz32_1
                    try clear hfz32_2
                    try clear hfz33_0
                    try clear hfz33_1
                    try clear hfz33_2
                    try clear hfz33_3
                    try clear hfz35_0
                    try clear hfz35_1
                    try clear hfz35_2
                    try clear hfz36_0
                    try clear hfz36_1
                    try clear hfz36_2
                    try clear hfz36_3
                    try clear hfz38_0
                    try clear hfz38_1
                    try clear hfz38_2
                    try clear hfz44_0
                    try clear hfz44_1
                    try clear hfz44_2
                    try clear hfz44_3
                    try clear hfz5_0
                    try clear hfz5_1
                    try clear hfz5_2
                    try clear hfz5_3
                    try clear hfz7_0
                    try clear hfz7_1
                    try clear hfz7_2
                    try clear hfz7_3
                    try clear hx494_0
                    try clear hx496_0
                    try clear p2
                    try clear p494
                    try clear p496
                    try clear q494
                    try clear q496
                    obtain ⟨x9_3, x10_3, rfl, rfl, HA, HK3, HO_3, BK485, BK493, HB⟩ := hrel
                    cases gk with
                    | zero => exact absurd HA.out (by simp [greenscreenref19_Back.l1])
                    | succ k3 =>
                      have H := HA.out
                      clear HA
                      simp only [greenscreenref19_Back.l1] at H
                      by_cases c46 : x10_3 < (t486.length : Int)
                      · rw [if_pos c46] at H
                        have c46b0 : decide (x10_3 < (t486.length : Int)) = true := decide_eq_true c46
                        clear c46
                        by_cases c47 : 0 ≤ x10_3
                        · rw [if_pos c47] at H
                          have c47b0 : decide (0 ≤ x10_3) = true := decide_eq_true c47
                          clear c47
                          by_cases c48 : (rd t486 x10_3) ≤ t495
                          · rw [if_pos c48] at H
                            have c48b0 : decide ((rd t486 x10_3) ≤ t495) = true := decide_eq_true c48
                            clear c48
                            have H' := Aside0.mk H
                            clear H
                            have p497 : 0 ≤ (x10_3 : Int) := of_decide_eq_true (by first | (with_reducible assumption) | assumption)
                            have q497 : x10_3 < (t486.length : Int) := of_decide_eq_true (by first | (with_reducible assumption) | assumption)
                            obtain ⟨ad497, e497, hx497_0⟩ := Kd.at_int (Kd.R_reads' HO_3.out).2.2 x10_3 p497 q497
                            obtain rfl : ad496 = ad497 := (by injection e497)
                            replace p497 := eq_true p497
                            replace q497 := eq_true q497
                            have p498 : 0 ≤ (x10_3 : Int) := of_decide_eq_true (by first | (with_reducible assumption) | assumption)
                            have q498 : x10_3 < (t486.length : Int) := of_decide_eq_true (by first | (with_reducible assumption) | assumption)
                            obtain ⟨ad498, e498, hx498_0⟩ := Kd.at_int (Kd.R_reads' HO_3.out).2.2 x10_3 p498 q498
                            obtain rfl : ad496 = ad498 := (by injection e498)
                            replace p498 := eq_true p498
                            replace q498 := eq_true q498
                            go_wp2
                            repeat (go_quiet (fail); try go_wp2)
                            go_roundg k3
                            case measure => have := HK1.out; have := HJ18.out; have := HK3.out; omega
                            case rel => exact ⟨(rd t486 x10_3), (wrap64 (x10_3 + 1)), (by first | rfl | (simp; done) | (simp [*]; done)), (by first | rfl | (simp; done) | (simp [*]; done)), H', ⟨by have := HK1.out; have := HJ18.out; have := HK3.out; omega⟩, ⟨by (with_reducible repeat (first | apply Kd.R_alloc | apply Kd.R_drewN | apply Kd.R_drew)); exact HO_3.out⟩, ⟨by (with_reducible repeat (first | refine blk_drewN ?_ _ | refine blk_drew ?_ | refine blk_alloc ?_ _)); exact BK485.out⟩, ⟨by (with_reducible repeat (first | refine blk_drewN ?_ _ | refine blk_drew ?_ | refine blk_alloc ?_ _)); exact BK493.out⟩, ⟨by repeat (first | (with_reducible first | exact HB.out | apply below_alloc | apply pw_below_drewN | apply below_drew1 | refine below_set ?_ GE485.out | refine below_set ?_ GE493.out) | exact HB.out)⟩⟩
                          · rw [if_neg c48] at H
                            have c48b0 : decide ((rd t486 x10_3) ≤ t495) = false := decide_eq_false c48
                            clear c48
                            have H' := Aside0.mk H
                            clear H
                            have p497 : 0 ≤ (x10_3 : Int) := of_decide_eq_true (by first | (with_reducible assumption) | assumption)
                            have q497 : x10_3 < (t486.length : Int) := of_decide_eq_true (by first | (with_reducible assumption) | assumption)
                            obtain ⟨ad497, e497, hx497_0⟩ := Kd.at_int (Kd.R_reads' HO_3.out).2.2 x10_3 p497 q497
                            obtain rfl : ad496 = ad497 := (by injection e497)
                            replace p497 := eq_true p497
                            replace q497 := eq_true q497
                            go_wp2
                            repeat (go_quiet (fail); try go_wp2)
                            go_roundg k3
                            case measure => have := HK1.out; have := HJ18.out; have := HK3.out; omega
                            case rel => exact ⟨(x9_3), (wrap64 (x10_3 + 1)), (by first | rfl | (simp; done) | (simp [*]; done)), (by first | rfl | (simp; done) | (simp [*]; done)), H', ⟨by have := HK1.out; have := HJ18.out; have := HK3.out; omega⟩, ⟨by (with_reducible repeat (first | apply Kd.R_alloc | apply Kd.R_drewN | apply Kd.R_drew)); exact HO_3.out⟩, ⟨by (with_reducible repeat (first | refine blk_drewN ?_ _ | refine blk_drew ?_ | refine blk_alloc ?_ _)); exact BK485.out⟩, ⟨by (with_reducible repeat (first | refine blk_drewN ?_ _ | refine blk_drew ?_ | refine blk_alloc ?_ _)); exact BK493.out⟩, ⟨by repeat (first | (with_reducible first | exact HB.out | apply below_alloc | apply pw_below_drewN | apply below_drew1 | refine below_set ?_ GE485.out | refine below_set ?_ GE493.out) | exact HB.out)⟩⟩
                        · rw [if_neg c47] at H
                          exact absurd H (by simp)
                      · rw [if_neg c46] at H
                        have c46b0 : decide (x10_3 < (t486.length : Int)) = false := decide_eq_false c46
                        clear c46
                        by_cases c49 : (l0_2.length : Int) = 0
                        · rw [if_pos c49] at H
                          exact absurd H (by simp)
                        · rw [if_neg c49] at H
                          have c49b0 : ((l0_2.length : Int) == 0) = false := beq_eq_false_iff_ne.mpr c49
                          have c49b1 : ((l0_2.length : Int) != 0) = true := bne_iff_ne.mpr c49
                          have c49b2 : ¬ (l0_2 = []) := fun h_ => c49 (by rw [h_]; rfl)
                          obtain rfl := Option.some.inj H
                          go_wp2
                          repeat (go_quiet (fail); try go_wp2)
                          go_ret
                          exact ⟨by first | rfl | (simp [errW_none, errW_some] <;> rfl) | (simp only [← hji40]; first | rfl | (simp [errW_none, errW_some] <;> rfl)) | (simp [*, errW_none, errW_some] <;> rfl), by repeat (first | (with_reducible first | exact HB.out | apply below_alloc | apply pw_below_drewN | apply below_drew1 | refine below_set ?_ GE485.out | refine below_set ?_ GE493.out) | exact HB.out)⟩
                · rw [if_neg c42] at H
                  exact absurd H (by simp)
              · rw [if_neg c41] at H
                exact absurd H (by simp)

/-! ### greenscreenref15_Open: function 67 -/
def greenscreenref15_Open.f (k : Nat) (a0_0 : Int) (a0_1 : Int) (l0_2 : List (S38)) (a0_3 : Int) (a1 : Int) : Option (Bool) := (greenscreenref14_Has.f a0_0 a0_1 l0_2 a0_3 a1).bind fun t500 => (if t500 = true then ((greenscreenref15_Of.f k a0_0 a0_1 l0_2 a0_3 a1).bind fun bt501 => (if bt501.2.2.2 = true then (if bt501.1 = a1 then (some false) else ((greenscreenref11_Bit.f bt501.2.2.1 32).bind fun t506 => (some (!t506)))) else (some true))) else (some false))
theorem greenscreenref15_Open.mono : ∀ a0 a1 a2 a3 a4 k, LeO (greenscreenref15_Open.f k a0 a1 a2 a3 a4) (greenscreenref15_Open.f (k + 1) a0 a1 a2 a3 a4) := by
  intro a0 a1 a2 a3 a4 k
  unfold greenscreenref15_Open.f
  repeat' first
      | (with_reducible exact greenscreenref15_Of.mono _ _ _ _ _ _)
      | (with_reducible exact LeO.refl _)
      | (with_reducible exact LeO.none _)
      | (with_reducible refine LeO.ite ?_ ?_)
      | (with_reducible refine LeO.bind ?_ (fun _ => ?_))
      | exact greenscreenref15_Of.mono _ _ _ _ _ _
      | exact LeO.none _
      | refine LeO.ite ?_ ?_
      | refine LeO.bind ?_ (fun _ => ?_)
set_option maxHeartbeats 8000000 in
set_option maxRecDepth 100000 in
theorem greenscreenref15_Open.calls (k : Nat) (a0_0 : Int) (a0_1 : Int) (A0_2 : Option Addr) (c0_2 : Nat) (l0_2 : List (S38)) (a0_3 : Int) (a1 : Int) (r : Bool) (w : World) (hr0_2 : Kd.C k38 w A0_2 l0_2.length l0_2) (hc0_2 : l0_2.length ≤ c0_2) (h : greenscreenref15_Open.f k a0_0 a0_1 l0_2 a0_3 a1 = some r) :
    Calls Try.prog 67 #[.agg #[.int .i64 a0_0, .int .i64 a0_1, .slice A0_2 l0_2.length c0_2, .int .i64 a0_3], .int .i64 a1] w fun e w' => e = .returned (.bool r) ∧ Below w.heap.size w w' := by
  have hu28 := Try.underlying28
  have hu82 := Try.underlying82
  have HR0_2 := Aside0.mk hr0_2
  have HC0_2 := Aside0.mk hc0_2
  clear hr0_2 hc0_2
  have HB := Aside0.mk (Below.refl w.heap.size w)
  have H : ((greenscreenref14_Has.f a0_0 a0_1 l0_2 a0_3 a1).bind fun t500 => (if t500 = true then ((greenscreenref15_Of.f k a0_0 a0_1 l0_2 a0_3 a1).bind fun bt501 => (if bt501.2.2.2 = true then (if bt501.1 = a1 then (some false) else ((greenscreenref11_Bit.f bt501.2.2.1 32).bind fun t506 => (some (!t506)))) else (some true))) else (some false))) = some r := h
  clear h
  replace H := Option.bind_eq_some_iff.mp H
  obtain ⟨t500, A30, H⟩ := H
  replace H : (if t500 = true then ((greenscreenref15_Of.f k a0_0 a0_1 l0_2 a0_3 a1).bind fun bt501 => (if bt501.2.2.2 = true then (if bt501.1 = a1 then (some false) else ((greenscreenref11_Bit.f bt501.2.2.1 32).bind fun t506 => (some (!t506)))) else (some true))) else (some false)) = some r := H
  have A3 := Aside0.mk A30
  clear A30
  by_cases c4 : t500 = true
  · subst c4
    have H1 : ((greenscreenref15_Of.f k a0_0 a0_1 l0_2 a0_3 a1).bind fun bt501 => (if bt501.2.2.2 = true then (if bt501.1 = a1 then (some false) else ((greenscreenref11_Bit.f bt501.2.2.1 32).bind fun t506 => (some (!t506)))) else (some true))) = some r := by rw [if_pos rfl] at H; exact H
    clear H
    have H := H1
    clear H1
    replace H := Option.bind_eq_some_iff.mp H
    obtain ⟨⟨t501, t502, t503, t504⟩, A50, H⟩ := H
    replace H : (if t504 = true then (if t501 = a1 then (some false) else ((greenscreenref11_Bit.f t503 32).bind fun t506 => (some (!t506)))) else (some true)) = some r := H
    have A5 := Aside0.mk A50
    clear A50
    by_cases c6 : t504 = true
    · subst c6
      have H1 : (if t501 = a1 then (some false) else ((greenscreenref11_Bit.f t503 32).bind fun t506 => (some (!t506)))) = some r := by rw [if_pos rfl] at H; exact H
      clear H
      have H := H1
      clear H1
      by_cases c7 : t501 = a1
      · rw [if_pos c7] at H
        have c7b0 : (t501 == a1) = true := beq_iff_eq.mpr c7
        have c7b1 : (t501 != a1) = false := bne_eq_false_iff_eq.mpr c7
        clear c7
        obtain rfl := Option.some.inj H
        go_enter Try.func67, Try.ntmps67
        go_wp2_with (first | ((with_reducible refine gate_dst (N := 2) rfl ?_); refine box_event ?hg (N := 2) ?hd (cs := #[.int .i64 a0_0, .int .i64 a0_1, .slice A0_2 l0_2.length c0_2, .int .i64 a0_3]) (t := 28) ?hr ?_; (case hd => rfl); (case hg => rfl); (case hr => first | (go_simp; done) | (go_simp; rfl)); intro gb499 hg w8 hbox hb; have n0_ := Aside0.mk (below_step (by repeat (first | (with_reducible first | exact HB.out | apply below_alloc | apply pw_below_drewN | apply below_drew1) | exact HB.out)) hb); have n1_ := Aside0.mk (hbox); have n2_ := Aside0.mk ((by rw [hg]; exact (below_size (by repeat (first | (with_reducible first | exact HB.out | apply below_alloc | apply pw_below_drewN | apply below_drew1) | exact HB.out))) : w.heap.size ≤ gb499)); have n3_ := Aside0.mk ((by rw [hg]; exact (below_size (by repeat (first | (with_reducible first | exact HB.out | apply below_alloc | apply pw_below_drewN | apply below_drew1) | exact HB.out))) : w.heap.size ≤ gb499)); clear HB; have HB := n0_; have BK499 := n1_; have GW499 := n2_; have GE499 := n3_; clear n0_ n1_ n2_ n3_; clear hb hbox hg; have hcz9_0 : w8.cell? ⟨gb499, 0, none⟩ = some (.int .i64 a0_0) := (blk_cell BK499.out 0).trans rfl; have hcz9_1 : w8.cell? ⟨gb499, 1, none⟩ = some (.int .i64 a0_1) := (blk_cell BK499.out 1).trans rfl; have hcz9_2 : w8.cell? ⟨gb499, 2, none⟩ = some (.slice A0_2 l0_2.length c0_2) := (blk_cell BK499.out 2).trans rfl; have hcz9_3 : w8.cell? ⟨gb499, 3, none⟩ = some (.int .i64 a0_3) := (blk_cell BK499.out 3).trans rfl; have hfz9_0 := blk_frozen BK499.out 0; have hfz9_1 := blk_frozen BK499.out 1; have hfz9_2 := blk_frozen BK499.out 2; have hfz9_3 := blk_frozen BK499.out 3) | ((with_reducible refine gate_callee (f := 78) rfl ?_); refine goesL_ (some 9) rfl rfl Try.func78 (by kernel_rfl) rfl #[.agg #[.int .i64 a0_0, .int .i64 a0_1, .slice A0_2 l0_2.length c0_2, .int .i64 a0_3], .int .i64 a1] rfl (by (try simp only [List.map_toArray, List.map_cons, List.map_nil]); first | done | rfl | (simp only [List.length_drop, List.length_take]; rfl)) ?_; (with_reducible refine (greenscreenref14_Has.calls a0_0 a0_1 _ _ l0_2 a0_3 a1 true _ ?side1 ?side2 A3.out).mono ?_); (case side1 => repeat (first | exact (Kd.C_below HR0_2.out HB.out) | (with_reducible refine Kd.C_alloc ?_ _) | (with_reducible refine Kd.C_drewN ?_ _) | (with_reducible refine Kd.C_drew ?_))); (case side2 => exact HC0_2.out); rintro e w10 ⟨rfl, hb⟩; refine ⟨_, rfl, ?_⟩; have n0_ := Aside0.mk (blk_below (g := gb499) (o := .cells #[.int .i64 a0_0, .int .i64 a0_1, .slice A0_2 l0_2.length c0_2, .int .i64 a0_3] 28 (0, 0)) (by (with_reducible repeat (first | refine blk_drewN ?_ _ | refine blk_drew ?_ | refine blk_alloc ?_ _)); exact BK499.out) hb); have n1_ := Aside0.mk (below_step (by repeat (first | (with_reducible first | exact HB.out | apply below_alloc | apply pw_below_drewN | apply below_drew1 | refine below_set ?_ GE499.out) | exact HB.out)) hb); clear BK499; clear HB; have BK499 := n0_; have HB := n1_; clear n0_ n1_; (try clear hb); (try clear hb2); (try clear hk); (try clear hi); have hcz11_0 : w10.cell? ⟨gb499, 0, none⟩ = some (.int .i64 a0_0) := (blk_cell BK499.out 0).trans rfl; have hcz11_1 : w10.cell? ⟨gb499, 1, none⟩ = some (.int .i64 a0_1) := (blk_cell BK499.out 1).trans rfl; have hcz11_2 : w10.cell? ⟨gb499, 2, none⟩ = some (.slice A0_2 l0_2.length c0_2) := (blk_cell BK499.out 2).trans rfl; have hcz11_3 : w10.cell? ⟨gb499, 3, none⟩ = some (.int .i64 a0_3) := (blk_cell BK499.out 3).trans rfl; have hfz11_0 := blk_frozen BK499.out 0; have hfz11_1 := blk_frozen BK499.out 1; have hfz11_2 := blk_frozen BK499.out 2; have hfz11_3 := blk_frozen BK499.out 3) | ((with_reducible refine gate_callee (f := 66) rfl ?_); refine goesL_ (some 14) rfl rfl Try.func66 (by kernel_rfl) rfl #[.agg #[.int .i64 a0_0, .int .i64 a0_1, .slice A0_2 l0_2.length c0_2, .int .i64 a0_3], .int .i64 a1] rfl (by (try simp only [List.map_toArray, List.map_cons, List.map_nil]); first | done | rfl | (simp only [List.length_drop, List.length_take]; rfl)) ?_; (with_reducible refine (greenscreenref15_Of.calls k a0_0 a0_1 _ _ l0_2 a0_3 a1 t501 t502 t503 true _ ?side1 ?side2 A5.out).mono ?_); (case side1 => repeat (first | exact (Kd.C_below HR0_2.out HB.out) | (with_reducible refine Kd.C_alloc ?_ _) | (with_reducible refine Kd.C_drewN ?_ _) | (with_reducible refine Kd.C_drew ?_))); (case side2 => exact HC0_2.out); rintro e w12 ⟨rfl, hb⟩; refine ⟨_, rfl, ?_⟩; have n0_ := Aside0.mk (blk_below (g := gb499) (o := .cells #[.int .i64 a0_0, .int .i64 a0_1, .slice A0_2 l0_2.length c0_2, .int .i64 a0_3] 28 (0, 0)) (by (with_reducible repeat (first | refine blk_drewN ?_ _ | refine blk_drew ?_ | refine blk_alloc ?_ _)); exact BK499.out) hb); have n1_ := Aside0.mk (below_step (by repeat (first | (with_reducible first | exact HB.out | apply below_alloc | apply pw_below_drewN | apply below_drew1 | refine below_set ?_ GE499.out) | exact HB.out)) hb); clear BK499; clear HB; have BK499 := n0_; have HB := n1_; clear n0_ n1_; (try clear hb); (try clear hb2); (try clear hk); (try clear hi)) | ((with_reducible refine gate_dst (N := 5) rfl ?_); refine box_event ?hg (N := 5) ?hd (cs := #[.int .i64 0, .int .i64 0, .int .u8 0]) (t := 82) ?hr ?_; (case hd => rfl); (case hg => rfl); (case hr => first | (go_simp; done) | (go_simp; rfl)); intro gb505 hg w13 hbox hb; have n0_ := Aside0.mk (blk_below (g := gb499) (o := .cells #[.int .i64 a0_0, .int .i64 a0_1, .slice A0_2 l0_2.length c0_2, .int .i64 a0_3] 28 (0, 0)) (by (with_reducible repeat (first | refine blk_drewN ?_ _ | refine blk_drew ?_ | refine blk_alloc ?_ _)); exact BK499.out) hb); have n1_ := Aside0.mk (below_step (by repeat (first | (with_reducible first | exact HB.out | apply below_alloc | apply pw_below_drewN | apply below_drew1 | refine below_set ?_ GE499.out) | exact HB.out)) hb); have n2_ := Aside0.mk (hbox); have n3_ := Aside0.mk ((by rw [hg]; exact (below_size (by repeat (first | (with_reducible first | exact HB.out | apply below_alloc | apply pw_below_drewN | apply below_drew1 | refine below_set ?_ GE499.out) | exact HB.out))) : w.heap.size ≤ gb505)); have n4_ := Aside0.mk ((by rw [hg]; exact (below_size (by repeat (first | (with_reducible first | exact HB.out | apply below_alloc | apply pw_below_drewN | apply below_drew1 | refine below_set ?_ GE499.out) | exact HB.out))) : w.heap.size ≤ gb505)); have n5_ := Aside0.mk ((by rw [hg]; exact Nat.ne_of_lt (blk_lt (g := gb499) (o := .cells #[.int .i64 a0_0, .int .i64 a0_1, .slice A0_2 l0_2.length c0_2, .int .i64 a0_3] 28 (0, 0)) (by (with_reducible repeat (first | refine blk_drewN ?_ _ | refine blk_drew ?_ | refine blk_alloc ?_ _)); exact BK499.out)) : gb499 ≠ gb505)); have n6_ := Aside0.mk ((by rw [hg]; exact Nat.ne_of_gt (blk_lt (g := gb499) (o := .cells #[.int .i64 a0_0, .int .i64 a0_1, .slice A0_2 l0_2.length c0_2, .int .i64 a0_3] 28 (0, 0)) (by (with_reducible repeat (first | refine blk_drewN ?_ _ | refine blk_drew ?_ | refine blk_alloc ?_ _)); exact BK499.out)) : gb505 ≠ gb499)); clear BK499; clear HB; have BK499 := n0_; have HB := n1_; have BK505 := n2_; have GW505 := n3_; have GE505 := n4_; have NB499_505 := n5_; have NB505_499 := n6_; clear n0_ n1_ n2_ n3_ n4_ n5_ n6_; clear hb hbox hg; have hnb14 := NB505_499.out; have hnc14 := NB499_505.out; have hcz15_0 : w13.cell? ⟨gb505, 0, none⟩ = some (.int .i64 0) := (blk_cell BK505.out 0).trans rfl; have hcz15_1 : w13.cell? ⟨gb505, 1, none⟩ = some (.int .i64 0) := (blk_cell BK505.out 1).trans rfl; have hcz15_2 : w13.cell? ⟨gb505, 2, none⟩ = some (.int .u8 0) := (blk_cell BK505.out 2).trans rfl; have hfz15_0 := blk_frozen BK505.out 0; have hfz15_1 := blk_frozen BK505.out 1; have hfz15_2 := blk_frozen BK505.out 2))
        go_ret
        exact ⟨by first | rfl | (simp [errW_none, errW_some] <;> rfl) | (simp [*, errW_none, errW_some] <;> rfl), by repeat (first | (with_reducible first | exact HB.out | apply below_alloc | apply pw_below_drewN | apply below_drew1 | refine below_set ?_ GE499.out | refine below_set ?_ GE505.out) | exact HB.out)⟩
      · rw [if_neg c7] at H
        have c7b0 : (t501 == a1) = false := beq_eq_false_iff_ne.mpr c7
        have c7b1 : (t501 != a1) = true := bne_iff_ne.mpr c7
        replace H := Option.bind_eq_some_iff.mp H
        obtain ⟨t506, A160, H⟩ := H
        replace H : (some (!t506)) = some r := H
        have A16 := Aside0.mk A160
        clear A160
        obtain rfl := Option.some.inj H
        go_enter Try.func67, Try.ntmps67
        go_wp2_with (first | ((with_reducible refine gate_dst (N := 2) rfl ?_); refine box_event ?hg (N := 2) ?hd (cs := #[.int .i64 a0_0, .int .i64 a0_1, .slice A0_2 l0_2.length c0_2, .int .i64 a0_3]) (t := 28) ?hr ?_; (case hd => rfl); (case hg => rfl); (case hr => first | (go_simp; done) | (go_simp; rfl)); intro gb499 hg w17 hbox hb; have n0_ := Aside0.mk (below_step (by repeat (first | (with_reducible first | exact HB.out | apply below_alloc | apply pw_below_drewN | apply below_drew1) | exact HB.out)) hb); have n1_ := Aside0.mk (hbox); have n2_ := Aside0.mk ((by rw [hg]; exact (below_size (by repeat (first | (with_reducible first | exact HB.out | apply below_alloc | apply pw_below_drewN | apply below_drew1) | exact HB.out))) : w.heap.size ≤ gb499)); have n3_ := Aside0.mk ((by rw [hg]; exact (below_size (by repeat (first | (with_reducible first | exact HB.out | apply below_alloc | apply pw_below_drewN | apply below_drew1) | exact HB.out))) : w.heap.size ≤ gb499)); clear HB; have HB := n0_; have BK499 := n1_; have GW499 := n2_; have GE499 := n3_; clear n0_ n1_ n2_ n3_; clear hb hbox hg; have hcz18_0 : w17.cell? ⟨gb499, 0, none⟩ = some (.int .i64 a0_0) := (blk_cell BK499.out 0).trans rfl; have hcz18_1 : w17.cell? ⟨gb499, 1, none⟩ = some (.int .i64 a0_1) := (blk_cell BK499.out 1).trans rfl; have hcz18_2 : w17.cell? ⟨gb499, 2, none⟩ = some (.slice A0_2 l0_2.length c0_2) := (blk_cell BK499.out 2).trans rfl; have hcz18_3 : w17.cell? ⟨gb499, 3, none⟩ = some (.int .i64 a0_3) := (blk_cell BK499.out 3).trans rfl; have hfz18_0 := blk_frozen BK499.out 0; have hfz18_1 := blk_frozen BK499.out 1; have hfz18_2 := blk_frozen BK499.out 2; have hfz18_3 := blk_frozen BK499.out 3) | ((with_reducible refine gate_callee (f := 78) rfl ?_); refine goesL_ (some 9) rfl rfl Try.func78 (by kernel_rfl) rfl #[.agg #[.int .i64 a0_0, .int .i64 a0_1, .slice A0_2 l0_2.length c0_2, .int .i64 a0_3], .int .i64 a1] rfl (by (try simp only [List.map_toArray, List.map_cons, List.map_nil]); first | done | rfl | (simp only [List.length_drop, List.length_take]; rfl)) ?_; (with_reducible refine (greenscreenref14_Has.calls a0_0 a0_1 _ _ l0_2 a0_3 a1 true _ ?side1 ?side2 A3.out).mono ?_); (case side1 => repeat (first | exact (Kd.C_below HR0_2.out HB.out) | (with_reducible refine Kd.C_alloc ?_ _) | (with_reducible refine Kd.C_drewN ?_ _) | (with_reducible refine Kd.C_drew ?_))); (case side2 => exact HC0_2.out); rintro e w19 ⟨rfl, hb⟩; refine ⟨_, rfl, ?_⟩; have n0_ := Aside0.mk (blk_below (g := gb499) (o := .cells #[.int .i64 a0_0, .int .i64 a0_1, .slice A0_2 l0_2.length c0_2, .int .i64 a0_3] 28 (0, 0)) (by (with_reducible repeat (first | refine blk_drewN ?_ _ | refine blk_drew ?_ | refine blk_alloc ?_ _)); exact BK499.out) hb); have n1_ := Aside0.mk (below_step (by repeat (first | (with_reducible first | exact HB.out | apply below_alloc | apply pw_below_drewN | apply below_drew1 | refine below_set ?_ GE499.out) | exact HB.out)) hb); clear BK499; clear HB; have BK499 := n0_; have HB := n1_; clear n0_ n1_; (try clear hb); (try clear hb2); (try clear hk); (try clear hi); have hcz20_0 : w19.cell? ⟨gb499, 0, none⟩ = some (.int .i64 a0_0) := (blk_cell BK499.out 0).trans rfl; have hcz20_1 : w19.cell? ⟨gb499, 1, none⟩ = some (.int .i64 a0_1) := (blk_cell BK499.out 1).trans rfl; have hcz20_2 : w19.cell? ⟨gb499, 2, none⟩ = some (.slice A0_2 l0_2.length c0_2) := (blk_cell BK499.out 2).trans rfl; have hcz20_3 : w19.cell? ⟨gb499, 3, none⟩ = some (.int .i64 a0_3) := (blk_cell BK499.out 3).trans rfl; have hfz20_0 := blk_frozen BK499.out 0; have hfz20_1 := blk_frozen BK499.out 1; have hfz20_2 := blk_frozen BK499.out 2; have hfz20_3 := blk_frozen BK499.out 3) | ((with_reducible refine gate_callee (f := 66) rfl ?_); refine goesL_ (some 14) rfl rfl Try.func66 (by kernel_rfl) rfl #[.agg #[.int .i64 a0_0, .int .i64 a0_1, .slice A0_2 l0_2.length c0_2, .int .i64 a0_3], .int .i64 a1] rfl (by (try simp only [List.map_toArray, List.map_cons, List.map_nil]); first | done | rfl | (simp only [List.length_drop, List.length_take]; rfl)) ?_; (with_reducible refine (greenscreenref15_Of.calls k a0_0 a0_1 _ _ l0_2 a0_3 a1 t501 t502 t503 true _ ?side1 ?side2 A5.out).mono ?_); (case side1 => repeat (first | exact (Kd.C_below HR0_2.out HB.out) | (with_reducible refine Kd.C_alloc ?_ _) | (with_reducible refine Kd.C_drewN ?_ _) | (with_reducible refine Kd.C_drew ?_))); (case side2 => exact HC0_2.out); rintro e w21 ⟨rfl, hb⟩; refine ⟨_, rfl, ?_⟩; have n0_ := Aside0.mk (blk_below (g := gb499) (o := .cells #[.int .i64 a0_0, .int .i64 a0_1, .slice A0_2 l0_2.length c0_2, .int .i64 a0_3] 28 (0, 0)) (by (with_reducible repeat (first | refine blk_drewN ?_ _ | refine blk_drew ?_ | refine blk_alloc ?_ _)); exact BK499.out) hb); have n1_ := Aside0.mk (below_step (by repeat (first | (with_reducible first | exact HB.out | apply below_alloc | apply pw_below_drewN | apply below_drew1 | refine below_set ?_ GE499.out) | exact HB.out)) hb); clear BK499; clear HB; have BK499 := n0_; have HB := n1_; clear n0_ n1_; (try clear hb); (try clear hb2); (try clear hk); (try clear hi)) | ((with_reducible refine gate_dst (N := 5) rfl ?_); refine box_event ?hg (N := 5) ?hd (cs := #[.int .i64 0, .int .i64 0, .int .u8 0]) (t := 82) ?hr ?_; (case hd => rfl); (case hg => rfl); (case hr => first | (go_simp; done) | (go_simp; rfl)); intro gb505 hg w22 hbox hb; have n0_ := Aside0.mk (blk_below (g := gb499) (o := .cells #[.int .i64 a0_0, .int .i64 a0_1, .slice A0_2 l0_2.length c0_2, .int .i64 a0_3] 28 (0, 0)) (by (with_reducible repeat (first | refine blk_drewN ?_ _ | refine blk_drew ?_ | refine blk_alloc ?_ _)); exact BK499.out) hb); have n1_ := Aside0.mk (below_step (by repeat (first | (with_reducible first | exact HB.out | apply below_alloc | apply pw_below_drewN | apply below_drew1 | refine below_set ?_ GE499.out) | exact HB.out)) hb); have n2_ := Aside0.mk (hbox); have n3_ := Aside0.mk ((by rw [hg]; exact (below_size (by repeat (first | (with_reducible first | exact HB.out | apply below_alloc | apply pw_below_drewN | apply below_drew1 | refine below_set ?_ GE499.out) | exact HB.out))) : w.heap.size ≤ gb505)); have n4_ := Aside0.mk ((by rw [hg]; exact (below_size (by repeat (first | (with_reducible first | exact HB.out | apply below_alloc | apply pw_below_drewN | apply below_drew1 | refine below_set ?_ GE499.out) | exact HB.out))) : w.heap.size ≤ gb505)); have n5_ := Aside0.mk ((by rw [hg]; exact Nat.ne_of_lt (blk_lt (g := gb499) (o := .cells #[.int .i64 a0_0, .int .i64 a0_1, .slice A0_2 l0_2.length c0_2, .int .i64 a0_3] 28 (0, 0)) (by (with_reducible repeat (first | refine blk_drewN ?_ _ | refine blk_drew ?_ | refine blk_alloc ?_ _)); exact BK499.out)) : gb499 ≠ gb505)); have n6_ := Aside0.mk ((by rw [hg]; exact Nat.ne_of_gt (blk_lt (g := gb499) (o := .cells #[.int .i64 a0_0, .int .i64 a0_1, .slice A0_2 l0_2.length c0_2, .int .i64 a0_3] 28 (0, 0)) (by (with_reducible repeat (first | refine blk_drewN ?_ _ | refine blk_drew ?_ | refine blk_alloc ?_ _)); exact BK499.out)) : gb505 ≠ gb499)); clear BK499; clear HB; have BK499 := n0_; have HB := n1_; have BK505 := n2_; have GW505 := n3_; have GE505 := n4_; have NB499_505 := n5_; have NB505_499 := n6_; clear n0_ n1_ n2_ n3_ n4_ n5_ n6_; clear hb hbox hg; have hnb23 := NB505_499.out; have hnc23 := NB499_505.out; have hcz24_0 : w22.cell? ⟨gb505, 0, none⟩ = some (.int .i64 0) := (blk_cell BK505.out 0).trans rfl; have hcz24_1 : w22.cell? ⟨gb505, 1, none⟩ = some (.int .i64 0) := (blk_cell BK505.out 1).trans rfl; have hcz24_2 : w22.cell? ⟨gb505, 2, none⟩ = some (.int .u8 0) := (blk_cell BK505.out 2).trans rfl; have hfz24_0 := blk_frozen BK505.out 0; have hfz24_1 := blk_frozen BK505.out 1; have hfz24_2 := blk_frozen BK505.out 2) | (go_at_call 53; (with_reducible refine (greenscreenref11_Bit.calls t503 32 t506 _ A16.out).mono ?_); rintro e w' ⟨rfl, ⟨nd, rfl⟩⟩))
        go_ret
        exact ⟨by first | rfl | (simp [errW_none, errW_some] <;> rfl) | (simp [*, errW_none, errW_some] <;> rfl), by repeat (first | (with_reducible first | exact HB.out | apply below_alloc | apply pw_below_drewN | apply below_drew1 | refine below_set ?_ GE499.out | refine below_set ?_ GE505.out) | exact HB.out)⟩
    · replace c6 := Bool.eq_false_iff.mpr c6
      subst c6
      have H1 : (some true) = some r := by rw [if_neg (show ¬ (false = true) by decide)] at H; exact H
      clear H
      have H := H1
      clear H1
      obtain rfl := Option.some.inj H
      go_enter Try.func67, Try.ntmps67
      go_wp2_with (first | ((with_reducible refine gate_dst (N := 2) rfl ?_); refine box_event ?hg (N := 2) ?hd (cs := #[.int .i64 a0_0, .int .i64 a0_1, .slice A0_2 l0_2.length c0_2, .int .i64 a0_3]) (t := 28) ?hr ?_; (case hd => rfl); (case hg => rfl); (case hr => first | (go_simp; done) | (go_simp; rfl)); intro gb499 hg w25 hbox hb; have n0_ := Aside0.mk (below_step (by repeat (first | (with_reducible first | exact HB.out | apply below_alloc | apply pw_below_drewN | apply below_drew1) | exact HB.out)) hb); have n1_ := Aside0.mk (hbox); have n2_ := Aside0.mk ((by rw [hg]; exact (below_size (by repeat (first | (with_reducible first | exact HB.out | apply below_alloc | apply pw_below_drewN | apply below_drew1) | exact HB.out))) : w.heap.size ≤ gb499)); have n3_ := Aside0.mk ((by rw [hg]; exact (below_size (by repeat (first | (with_reducible first | exact HB.out | apply below_alloc | apply pw_below_drewN | apply below_drew1) | exact HB.out))) : w.heap.size ≤ gb499)); clear HB; have HB := n0_; have BK499 := n1_; have GW499 := n2_; have GE499 := n3_; clear n0_ n1_ n2_ n3_; clear hb hbox hg; have hcz26_0 : w25.cell? ⟨gb499, 0, none⟩ = some (.int .i64 a0_0) := (blk_cell BK499.out 0).trans rfl; have hcz26_1 : w25.cell? ⟨gb499, 1, none⟩ = some (.int .i64 a0_1) := (blk_cell BK499.out 1).trans rfl; have hcz26_2 : w25.cell? ⟨gb499, 2, none⟩ = some (.slice A0_2 l0_2.length c0_2) := (blk_cell BK499.out 2).trans rfl; have hcz26_3 : w25.cell? ⟨gb499, 3, none⟩ = some (.int .i64 a0_3) := (blk_cell BK499.out 3).trans rfl; have hfz26_0 := blk_frozen BK499.out 0; have hfz26_1 := blk_frozen BK499.out 1; have hfz26_2 := blk_frozen BK499.out 2; have hfz26_3 := blk_frozen BK499.out 3) | ((with_reducible refine gate_callee (f := 78) rfl ?_); refine goesL_ (some 9) rfl rfl Try.func78 (by kernel_rfl) rfl #[.agg #[.int .i64 a0_0, .int .i64 a0_1, .slice A0_2 l0_2.length c0_2, .int .i64 a0_3], .int .i64 a1] rfl (by (try simp only [List.map_toArray, List.map_cons, List.map_nil]); first | done | rfl | (simp only [List.length_drop, List.length_take]; rfl)) ?_; (with_reducible refine (greenscreenref14_Has.calls a0_0 a0_1 _ _ l0_2 a0_3 a1 true _ ?side1 ?side2 A3.out).mono ?_); (case side1 => repeat (first | exact (Kd.C_below HR0_2.out HB.out) | (with_reducible refine Kd.C_alloc ?_ _) | (with_reducible refine Kd.C_drewN ?_ _) | (with_reducible refine Kd.C_drew ?_))); (case side2 => exact HC0_2.out); rintro e w27 ⟨rfl, hb⟩; refine ⟨_, rfl, ?_⟩; have n0_ := Aside0.mk (blk_below (g := gb499) (o := .cells #[.int .i64 a0_0, .int .i64 a0_1, .slice A0_2 l0_2.length c0_2, .int .i64 a0_3] 28 (0, 0)) (by (with_reducible repeat (first | refine blk_drewN ?_ _ | refine blk_drew ?_ | refine blk_alloc ?_ _)); exact BK499.out) hb); have n1_ := Aside0.mk (below_step (by repeat (first | (with_reducible first | exact HB.out | apply below_alloc | apply pw_below_drewN | apply below_drew1 | refine below_set ?_ GE499.out) | exact HB.out)) hb); clear BK499; clear HB; have BK499 := n0_; have HB := n1_; clear n0_ n1_; (try clear hb); (try clear hb2); (try clear hk); (try clear hi); have hcz28_0 : w27.cell? ⟨gb499, 0, none⟩ = some (.int .i64 a0_0) := (blk_cell BK499.out 0).trans rfl; have hcz28_1 : w27.cell? ⟨gb499, 1, none⟩ = some (.int .i64 a0_1) := (blk_cell BK499.out 1).trans rfl; have hcz28_2 : w27.cell? ⟨gb499, 2, none⟩ = some (.slice A0_2 l0_2.length c0_2) := (blk_cell BK499.out 2).trans rfl; have hcz28_3 : w27.cell? ⟨gb499, 3, none⟩ = some (.int .i64 a0_3) := (blk_cell BK499.out 3).trans rfl; have hfz28_0 := blk_frozen BK499.out 0; have hfz28_1 := blk_frozen BK499.out 1; have hfz28_2 := blk_frozen BK499.out 2; have hfz28_3 := blk_frozen BK499.out 3) | ((with_reducible refine gate_callee (f := 66) rfl ?_); refine goesL_ (some 14) rfl rfl Try.func66 (by kernel_rfl) rfl #[.agg #[.int .i64 a0_0, .int .i64 a0_1, .slice A0_2 l0_2.length c0_2, .int .i64 a0_3], .int .i64 a1] rfl (by (try simp only [List.map_toArray, List.map_cons, List.map_nil]); first | done | rfl | (simp only [List.length_drop, List.length_take]; rfl)) ?_; (with_reducible refine (greenscreenref15_Of.calls k a0_0 a0_1 _ _ l0_2 a0_3 a1 t501 t502 t503 false _ ?side1 ?side2 A5.out).mono ?_); (case side1 => repeat (first | exact (Kd.C_below HR0_2.out HB.out) | (with_reducible refine Kd.C_alloc ?_ _) | (with_reducible refine Kd.C_drewN ?_ _) | (with_reducible refine Kd.C_drew ?_))); (case side2 => exact HC0_2.out); rintro e w29 ⟨rfl, hb⟩; refine ⟨_, rfl, ?_⟩; have n0_ := Aside0.mk (blk_below (g := gb499) (o := .cells #[.int .i64 a0_0, .int .i64 a0_1, .slice A0_2 l0_2.length c0_2, .int .i64 a0_3] 28 (0, 0)) (by (with_reducible repeat (first | refine blk_drewN ?_ _ | refine blk_drew ?_ | refine blk_alloc ?_ _)); exact BK499.out) hb); have n1_ := Aside0.mk (below_step (by repeat (first | (with_reducible first | exact HB.out | apply below_alloc | apply pw_below_drewN | apply below_drew1 | refine below_set ?_ GE499.out) | exact HB.out)) hb); clear BK499; clear HB; have BK499 := n0_; have HB := n1_; clear n0_ n1_; (try clear hb); (try clear hb2); (try clear hk); (try clear hi)) | ((with_reducible refine gate_dst (N := 5) rfl ?_); refine box_event ?hg (N := 5) ?hd (cs := #[.int .i64 0, .int .i64 0, .int .u8 0]) (t := 82) ?hr ?_; (case hd => rfl); (case hg => rfl); (case hr => first | (go_simp; done) | (go_simp; rfl)); intro gb505 hg w30 hbox hb; have n0_ := Aside0.mk (blk_below (g := gb499) (o := .cells #[.int .i64 a0_0, .int .i64 a0_1, .slice A0_2 l0_2.length c0_2, .int .i64 a0_3] 28 (0, 0)) (by (with_reducible repeat (first | refine blk_drewN ?_ _ | refine blk_drew ?_ | refine blk_alloc ?_ _)); exact BK499.out) hb); have n1_ := Aside0.mk (below_step (by repeat (first | (with_reducible first | exact HB.out | apply below_alloc | apply pw_below_drewN | apply below_drew1 | refine below_set ?_ GE499.out) | exact HB.out)) hb); have n2_ := Aside0.mk (hbox); have n3_ := Aside0.mk ((by rw [hg]; exact (below_size (by repeat (first | (with_reducible first | exact HB.out | apply below_alloc | apply pw_below_drewN | apply below_drew1 | refine below_set ?_ GE499.out) | exact HB.out))) : w.heap.size ≤ gb505)); have n4_ := Aside0.mk ((by rw [hg]; exact (below_size (by repeat (first | (with_reducible first | exact HB.out | apply below_alloc | apply pw_below_drewN | apply below_drew1 | refine below_set ?_ GE499.out) | exact HB.out))) : w.heap.size ≤ gb505)); have n5_ := Aside0.mk ((by rw [hg]; exact Nat.ne_of_lt (blk_lt (g := gb499) (o := .cells #[.int .i64 a0_0, .int .i64 a0_1, .slice A0_2 l0_2.length c0_2, .int .i64 a0_3] 28 (0, 0)) (by (with_reducible repeat (first | refine blk_drewN ?_ _ | refine blk_drew ?_ | refine blk_alloc ?_ _)); exact BK499.out)) : gb499 ≠ gb505)); have n6_ := Aside0.mk ((by rw [hg]; exact Nat.ne_of_gt (blk_lt (g := gb499) (o := .cells #[.int .i64 a0_0, .int .i64 a0_1, .slice A0_2 l0_2.length c0_2, .int .i64 a0_3] 28 (0, 0)) (by (with_reducible repeat (first | refine blk_drewN ?_ _ | refine blk_drew ?_ | refine blk_alloc ?_ _)); exact BK499.out)) : gb505 ≠ gb499)); clear BK499; clear HB; have BK499 := n0_; have HB := n1_; have BK505 := n2_; have GW505 := n3_; have GE505 := n4_; have NB499_505 := n5_; have NB505_499 := n6_; clear n0_ n1_ n2_ n3_ n4_ n5_ n6_; clear hb hbox hg; have hnb31 := NB505_499.out; have hnc31 := NB499_505.out; have hcz32_0 : w30.cell? ⟨gb505, 0, none⟩ = some (.int .i64 0) := (blk_cell BK505.out 0).trans rfl; have hcz32_1 : w30.cell? ⟨gb505, 1, none⟩ = some (.int .i64 0) := (blk_cell BK505.out 1).trans rfl; have hcz32_2 : w30.cell? ⟨gb505, 2, none⟩ = some (.int .u8 0) := (blk_cell BK505.out 2).trans rfl; have hfz32_0 := blk_frozen BK505.out 0; have hfz32_1 := blk_frozen BK505.out 1; have hfz32_2 := blk_frozen BK505.out 2))
      go_ret
      exact ⟨by first | rfl | (simp [errW_none, errW_some] <;> rfl) | (simp [*, errW_none, errW_some] <;> rfl), by repeat (first | (with_reducible first | exact HB.out | apply below_alloc | apply pw_below_drewN | apply below_drew1 | refine below_set ?_ GE499.out | refine below_set ?_ GE505.out) | exact HB.out)⟩
  · replace c4 := Bool.eq_false_iff.mpr c4
    subst c4
    have H1 : (some false) = some r := by rw [if_neg (show ¬ (false = true) by decide)] at H; exact H
    clear H
    have H := H1
    clear H1
    obtain rfl := Option.some.inj H
    go_enter Try.func67, Try.ntmps67
    go_wp2_with (first | ((with_reducible refine gate_dst (N := 2) rfl ?_); refine box_event ?hg (N := 2) ?hd (cs := #[.int .i64 a0_0, .int .i64 a0_1, .slice A0_2 l0_2.length c0_2, .int .i64 a0_3]) (t := 28) ?hr ?_; (case hd => rfl); (case hg => rfl); (case hr => first | (go_simp; done) | (go_simp; rfl)); intro gb499 hg w33 hbox hb; have n0_ := Aside0.mk (below_step (by repeat (first | (with_reducible first | exact HB.out | apply below_alloc | apply pw_below_drewN | apply below_drew1) | exact HB.out)) hb); have n1_ := Aside0.mk (hbox); have n2_ := Aside0.mk ((by rw [hg]; exact (below_size (by repeat (first | (with_reducible first | exact HB.out | apply below_alloc | apply pw_below_drewN | apply below_drew1) | exact HB.out))) : w.heap.size ≤ gb499)); have n3_ := Aside0.mk ((by rw [hg]; exact (below_size (by repeat (first | (with_reducible first | exact HB.out | apply below_alloc | apply pw_below_drewN | apply below_drew1) | exact HB.out))) : w.heap.size ≤ gb499)); clear HB; have HB := n0_; have BK499 := n1_; have GW499 := n2_; have GE499 := n3_; clear n0_ n1_ n2_ n3_; clear hb hbox hg; have hcz34_0 : w33.cell? ⟨gb499, 0, none⟩ = some (.int .i64 a0_0) := (blk_cell BK499.out 0).trans rfl; have hcz34_1 : w33.cell? ⟨gb499, 1, none⟩ = some (.int .i64 a0_1) := (blk_cell BK499.out 1).trans rfl; have hcz34_2 : w33.cell? ⟨gb499, 2, none⟩ = some (.slice A0_2 l0_2.length c0_2) := (blk_cell BK499.out 2).trans rfl; have hcz34_3 : w33.cell? ⟨gb499, 3, none⟩ = some (.int .i64 a0_3) := (blk_cell BK499.out 3).trans rfl; have hfz34_0 := blk_frozen BK499.out 0; have hfz34_1 := blk_frozen BK499.out 1; have hfz34_2 := blk_frozen BK499.out 2; have hfz34_3 := blk_frozen BK499.out 3) | ((with_reducible refine gate_callee (f := 78) rfl ?_); refine goesL_ (some 9) rfl rfl Try.func78 (by kernel_rfl) rfl #[.agg #[.int .i64 a0_0, .int .i64 a0_1, .slice A0_2 l0_2.length c0_2, .int .i64 a0_3], .int .i64 a1] rfl (by (try simp only [List.map_toArray, List.map_cons, List.map_nil]); first | done | rfl | (simp only [List.length_drop, List.length_take]; rfl)) ?_; (with_reducible refine (greenscreenref14_Has.calls a0_0 a0_1 _ _ l0_2 a0_3 a1 false _ ?side1 ?side2 A3.out).mono ?_); (case side1 => repeat (first | exact (Kd.C_below HR0_2.out HB.out) | (with_reducible refine Kd.C_alloc ?_ _) | (with_reducible refine Kd.C_drewN ?_ _) | (with_reducible refine Kd.C_drew ?_))); (case side2 => exact HC0_2.out); rintro e w35 ⟨rfl, hb⟩; refine ⟨_, rfl, ?_⟩; have n0_ := Aside0.mk (blk_below (g := gb499) (o := .cells #[.int .i64 a0_0, .int .i64 a0_1, .slice A0_2 l0_2.length c0_2, .int .i64 a0_3] 28 (0, 0)) (by (with_reducible repeat (first | refine blk_drewN ?_ _ | refine blk_drew ?_ | refine blk_alloc ?_ _)); exact BK499.out) hb); have n1_ := Aside0.mk (below_step (by repeat (first | (with_reducible first | exact HB.out | apply below_alloc | apply pw_below_drewN | apply below_drew1 | refine below_set ?_ GE499.out) | exact HB.out)) hb); clear BK499; clear HB; have BK499 := n0_; have HB := n1_; clear n0_ n1_; (try clear hb); (try clear hb2); (try clear hk); (try clear hi)))
    go_ret
    exact ⟨by first | rfl | (simp [errW_none, errW_some] <;> rfl) | (simp [*, errW_none, errW_some] <;> rfl), by repeat (first | (with_reducible first | exact HB.out | apply below_alloc | apply pw_below_drewN | apply below_drew1 | refine below_set ?_ GE499.out) | exact HB.out)⟩

end Go.Proofs.Ytmcfckdgolojlaa.PCaretMoves
