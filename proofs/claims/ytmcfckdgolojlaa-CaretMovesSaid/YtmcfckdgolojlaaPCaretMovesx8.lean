-- PRINTED BY print.sh 35421559b90ae4d0a3588c463048766b98c2df88dd9212a6774a882060cdf62d: not written by this session
import Derived.Test.YtmcfckdgolojlaaPCaretMovesx0
import Derived.Test.YtmcfckdgolojlaaPCaretMovesx6
import Derived.Test.YtmcfckdgolojlaaPCaretMovesx7
namespace Go.Proofs.Ytmcfckdgolojlaa.PCaretMoves
open Go.RowKit Go.Proofs.YtmcfckdgolojlaaW.PrintWords Go.Proofs.YtmcfckdgolojlaaW.PrintLast Go.Proofs.YtmcfckdgolojlaaW.PrintMore
attribute [local go_sem] max2_int min2_int max_two min_two max_three min_three max_four min_four   -- for this text's walks alone
set_option linter.unusedVariables false
set_option linter.unusedSimpArgs false

/-! ### greenscreenref15_Of: function 66 -/
mutual
def greenscreenref15_Of.l0 : Nat → Int → List (S82) → Int → Int → Int → List (S38) → Int → Option (Int × Int × Int × Bool)
  | 0, _, _, _, _, _, _, _ => none
  | k + 1, x1, x6, x7, x473000, x473001, x473002, x473003 => if x7 < (x6.length : Int) then (if 0 ≤ x7 then (if ((rd_T82 x6 x7).f0) = x1 then (some ((rd_T82 x6 x7).f0, (rd_T82 x6 x7).f1, (rd_T82 x6 x7).f2, true)) else ((greenscreenref15_Places.f k x473000 x473001 x473002 x473003 ((rd_T82 x6 x7).f0) ((rd_T82 x6 x7).f1) ((rd_T82 x6 x7).f2)).bind fun t480 => (greenscreenref15_Of.l1 k x1 x6 x7 t480 0 x473000 x473001 x473002 x473003))) else (none)) else (some (0, 0, 0, false))
def greenscreenref15_Of.l1 : Nat → Int → List (S82) → Int → List Int → Int → Int → Int → List (S38) → Int → Option (Int × Int × Int × Bool)
  | 0, _, _, _, _, _, _, _, _, _ => none
  | k + 1, x1, x6, x7, x8, x9, x473000, x473001, x473002, x473003 => if x9 < (x8.length : Int) then (if 0 ≤ x9 then (if (rd x8 x9) = x1 then (if 0 ≤ x7 then (if x7 < (x6.length : Int) then (some ((rd_T82 x6 x7).f0, (rd_T82 x6 x7).f1, (rd_T82 x6 x7).f2, true)) else (none)) else (none)) else (greenscreenref15_Of.l1 k x1 x6 x7 x8 (wrap64 (x9 + 1)) x473000 x473001 x473002 x473003)) else (none)) else (greenscreenref15_Of.l0 k x1 x6 (wrap64 (x7 + 1)) x473000 x473001 x473002 x473003)
end
def greenscreenref15_Of.f (k : Nat) (a0_0 : Int) (a0_1 : Int) (l0_2 : List (S38)) (a0_3 : Int) (a1 : Int) : Option (Int × Int × Int × Bool) := (greenscreenref15_All.f k a0_0 a0_1 l0_2 a0_3).bind fun t474 => (greenscreenref15_Of.l0 k a1 t474 0 a0_0 a0_1 l0_2 a0_3)
theorem greenscreenref15_Of.mono_l : ∀ k, (∀ y0 y1 y2 y3 y4 y5 y6, LeO (greenscreenref15_Of.l0 k y0 y1 y2 y3 y4 y5 y6) (greenscreenref15_Of.l0 (k + 1) y0 y1 y2 y3 y4 y5 y6)) ∧ (∀ y0 y1 y2 y3 y4 y5 y6 y7 y8, LeO (greenscreenref15_Of.l1 k y0 y1 y2 y3 y4 y5 y6 y7 y8) (greenscreenref15_Of.l1 (k + 1) y0 y1 y2 y3 y4 y5 y6 y7 y8))
  | 0 => ⟨fun _ _ _ _ _ _ _ r h => by simp [greenscreenref15_Of.l0] at h, fun _ _ _ _ _ _ _ _ _ r h => by simp [greenscreenref15_Of.l1] at h⟩
  | k + 1 => by
    obtain ⟨ih0, ih1⟩ := greenscreenref15_Of.mono_l k
    refine ⟨?_, ?_⟩
    · intro y0 y1 y2 y3 y4 y5 y6
      unfold greenscreenref15_Of.l0
      repeat' first
      | (with_reducible exact ih0 _ _ _ _ _ _ _)
      | (with_reducible exact ih1 _ _ _ _ _ _ _ _ _)
      | (with_reducible exact greenscreenref15_All.mono _ _ _ _ _)
      | (with_reducible exact greenscreenref15_Places.mono _ _ _ _ _ _ _ _)
      | (with_reducible exact LeO.refl _)
      | (with_reducible exact LeO.none _)
      | (with_reducible refine LeO.ite ?_ ?_)
      | (with_reducible refine LeO.bind ?_ (fun _ => ?_))
      | exact ih0 _ _ _ _ _ _ _
      | exact ih1 _ _ _ _ _ _ _ _ _
      | exact greenscreenref15_All.mono _ _ _ _ _
      | exact greenscreenref15_Places.mono _ _ _ _ _ _ _ _
      | exact LeO.none _
      | refine LeO.ite ?_ ?_
      | refine LeO.bind ?_ (fun _ => ?_)
    · intro y0 y1 y2 y3 y4 y5 y6 y7 y8
      unfold greenscreenref15_Of.l1
      repeat' first
      | (with_reducible exact ih0 _ _ _ _ _ _ _)
      | (with_reducible exact ih1 _ _ _ _ _ _ _ _ _)
      | (with_reducible exact greenscreenref15_All.mono _ _ _ _ _)
      | (with_reducible exact greenscreenref15_Places.mono _ _ _ _ _ _ _ _)
      | (with_reducible exact LeO.refl _)
      | (with_reducible exact LeO.none _)
      | (with_reducible refine LeO.ite ?_ ?_)
      | (with_reducible refine LeO.bind ?_ (fun _ => ?_))
      | exact ih0 _ _ _ _ _ _ _
      | exact ih1 _ _ _ _ _ _ _ _ _
      | exact greenscreenref15_All.mono _ _ _ _ _
      | exact greenscreenref15_Places.mono _ _ _ _ _ _ _ _
      | exact LeO.none _
      | refine LeO.ite ?_ ?_
      | refine LeO.bind ?_ (fun _ => ?_)
theorem greenscreenref15_Of.mono : ∀ a0 a1 a2 a3 a4 k, LeO (greenscreenref15_Of.f k a0 a1 a2 a3 a4) (greenscreenref15_Of.f (k + 1) a0 a1 a2 a3 a4) := by
  intro a0 a1 a2 a3 a4 k
  obtain ⟨ih0, ih1⟩ := greenscreenref15_Of.mono_l k
  unfold greenscreenref15_Of.f
  repeat' first
      | (with_reducible exact ih0 _ _ _ _ _ _ _)
      | (with_reducible exact ih1 _ _ _ _ _ _ _ _ _)
      | (with_reducible exact greenscreenref15_All.mono _ _ _ _ _)
      | (with_reducible exact greenscreenref15_Places.mono _ _ _ _ _ _ _ _)
      | (with_reducible exact LeO.refl _)
      | (with_reducible exact LeO.none _)
      | (with_reducible refine LeO.ite ?_ ?_)
      | (with_reducible refine LeO.bind ?_ (fun _ => ?_))
      | exact ih0 _ _ _ _ _ _ _
      | exact ih1 _ _ _ _ _ _ _ _ _
      | exact greenscreenref15_All.mono _ _ _ _ _
      | exact greenscreenref15_Places.mono _ _ _ _ _ _ _ _
      | exact LeO.none _
      | refine LeO.ite ?_ ?_
      | refine LeO.bind ?_ (fun _ => ?_)
set_option maxHeartbeats 8000000 in
set_option maxRecDepth 100000 in
theorem greenscreenref15_Of.calls (k : Nat) (a0_0 : Int) (a0_1 : Int) (A0_2 : Option Addr) (c0_2 : Nat) (l0_2 : List (S38)) (a0_3 : Int) (a1 : Int) (r1 : Int) (r2 : Int) (r3 : Int) (r4 : Bool) (w : World) (hr0_2 : Kd.C k38 w A0_2 l0_2.length l0_2) (hc0_2 : l0_2.length ≤ c0_2) (h : greenscreenref15_Of.f k a0_0 a0_1 l0_2 a0_3 a1 = some (r1, r2, r3, r4)) :
    Calls Try.prog 66 #[.agg #[.int .i64 a0_0, .int .i64 a0_1, .slice A0_2 l0_2.length c0_2, .int .i64 a0_3], .int .i64 a1] w fun e w' => e = .returned (.tuple #[.agg #[.int .i64 r1, .int .i64 r2, .int .u8 r3], .bool r4]) ∧ Below w.heap.size w w' := by
  have hu28 := Try.underlying28
  have hu82 := Try.underlying82
  have HR0_2 := Aside0.mk hr0_2
  have HC0_2 := Aside0.mk hc0_2
  clear hr0_2 hc0_2
  have HB := Aside0.mk (Below.refl w.heap.size w)
  have H : ((greenscreenref15_All.f k a0_0 a0_1 l0_2 a0_3).bind fun t474 => (greenscreenref15_Of.l0 k a1 t474 0 a0_0 a0_1 l0_2 a0_3)) = some (r1, r2, r3, r4) := h
  clear h
  replace H := Option.bind_eq_some_iff.mp H
  obtain ⟨t474, A30, H⟩ := H
  replace H : (greenscreenref15_Of.l0 k a1 t474 0 a0_0 a0_1 l0_2 a0_3) = some (r1, r2, r3, r4) := H
  have A3 := Aside0.mk A30
  clear A30
  have H' := Aside0.mk H
  clear H
  go_enter Try.func66, Try.ntmps66
  go_wp2_with (first | ((with_reducible refine gate_dst (N := 2) rfl ?_); refine box_event ?hg (N := 2) ?hd (cs := #[.int .i64 a0_0, .int .i64 a0_1, .slice A0_2 l0_2.length c0_2, .int .i64 a0_3]) (t := 28) ?hr ?_; (case hd => rfl); (case hg => rfl); (case hr => first | (go_simp; done) | (go_simp; rfl)); intro gb472 hg w4 hbox hb; have n0_ := Aside0.mk (below_step (by repeat (first | (with_reducible first | exact HB.out | apply below_alloc | apply pw_below_drewN | apply below_drew1) | exact HB.out)) hb); have n1_ := Aside0.mk (hbox); have n2_ := Aside0.mk ((by rw [hg]; exact (below_size (by repeat (first | (with_reducible first | exact HB.out | apply below_alloc | apply pw_below_drewN | apply below_drew1) | exact HB.out))) : w.heap.size ≤ gb472)); have n3_ := Aside0.mk ((by rw [hg]; exact (below_size (by repeat (first | (with_reducible first | exact HB.out | apply below_alloc | apply pw_below_drewN | apply below_drew1) | exact HB.out))) : w.heap.size ≤ gb472)); clear HB; have HB := n0_; have BK472 := n1_; have GW472 := n2_; have GE472 := n3_; clear n0_ n1_ n2_ n3_; clear hb hbox hg) | ((with_reducible refine gate_dst (N := 4) rfl ?_); refine box_event ?hg (N := 4) ?hd (cs := #[.int .i64 0, .int .i64 0, .int .u8 0]) (t := 82) ?hr ?_; (case hd => rfl); (case hg => rfl); (case hr => first | (go_simp; done) | (go_simp; rfl)); intro gb473 hg w5 hbox hb; have n0_ := Aside0.mk (blk_below (g := gb472) (o := .cells #[.int .i64 a0_0, .int .i64 a0_1, .slice A0_2 l0_2.length c0_2, .int .i64 a0_3] 28 (0, 0)) (by (with_reducible repeat (first | refine blk_drewN ?_ _ | refine blk_drew ?_ | refine blk_alloc ?_ _)); exact BK472.out) hb); have n1_ := Aside0.mk (below_step (by repeat (first | (with_reducible first | exact HB.out | apply below_alloc | apply pw_below_drewN | apply below_drew1 | refine below_set ?_ GE472.out) | exact HB.out)) hb); have n2_ := Aside0.mk (hbox); have n3_ := Aside0.mk ((by rw [hg]; exact (below_size (by repeat (first | (with_reducible first | exact HB.out | apply below_alloc | apply pw_below_drewN | apply below_drew1 | refine below_set ?_ GE472.out) | exact HB.out))) : w.heap.size ≤ gb473)); have n4_ := Aside0.mk ((by rw [hg]; exact (below_size (by repeat (first | (with_reducible first | exact HB.out | apply below_alloc | apply pw_below_drewN | apply below_drew1 | refine below_set ?_ GE472.out) | exact HB.out))) : w.heap.size ≤ gb473)); have n5_ := Aside0.mk ((by rw [hg]; exact Nat.ne_of_lt (blk_lt (g := gb472) (o := .cells #[.int .i64 a0_0, .int .i64 a0_1, .slice A0_2 l0_2.length c0_2, .int .i64 a0_3] 28 (0, 0)) (by (with_reducible repeat (first | refine blk_drewN ?_ _ | refine blk_drew ?_ | refine blk_alloc ?_ _)); exact BK472.out)) : gb472 ≠ gb473)); have n6_ := Aside0.mk ((by rw [hg]; exact Nat.ne_of_gt (blk_lt (g := gb472) (o := .cells #[.int .i64 a0_0, .int .i64 a0_1, .slice A0_2 l0_2.length c0_2, .int .i64 a0_3] 28 (0, 0)) (by (with_reducible repeat (first | refine blk_drewN ?_ _ | refine blk_drew ?_ | refine blk_alloc ?_ _)); exact BK472.out)) : gb473 ≠ gb472)); clear BK472; clear HB; have BK472 := n0_; have HB := n1_; have BK473 := n2_; have GW473 := n3_; have GE473 := n4_; have NB472_473 := n5_; have NB473_472 := n6_; clear n0_ n1_ n2_ n3_ n4_ n5_ n6_; clear hb hbox hg; have hnb6 := NB472_473.out; have hnc6 := NB473_472.out; have hcz7_0 : w5.cell? ⟨gb472, 0, none⟩ = some (.int .i64 a0_0) := (blk_cell BK472.out 0).trans rfl; have hcz7_1 : w5.cell? ⟨gb472, 1, none⟩ = some (.int .i64 a0_1) := (blk_cell BK472.out 1).trans rfl; have hcz7_2 : w5.cell? ⟨gb472, 2, none⟩ = some (.slice A0_2 l0_2.length c0_2) := (blk_cell BK472.out 2).trans rfl; have hcz7_3 : w5.cell? ⟨gb472, 3, none⟩ = some (.int .i64 a0_3) := (blk_cell BK472.out 3).trans rfl; have hfz7_0 := blk_frozen BK472.out 0; have hfz7_1 := blk_frozen BK472.out 1; have hfz7_2 := blk_frozen BK472.out 2; have hfz7_3 := blk_frozen BK472.out 3) | ((with_reducible refine gate_callee (f := 52) rfl ?_); refine goesL_ (some 11) rfl rfl Try.func52 (by kernel_rfl) rfl #[.agg #[.int .i64 a0_0, .int .i64 a0_1, .slice A0_2 l0_2.length c0_2, .int .i64 a0_3]] rfl (by (try simp only [List.map_toArray, List.map_cons, List.map_nil]); first | done | rfl | (simp only [List.length_drop, List.length_take]; rfl)) ?_; (with_reducible refine (greenscreenref15_All.calls k a0_0 a0_1 _ _ l0_2 a0_3 t474 _ ?side1 ?side2 A3.out).mono ?_); (case side1 => repeat (first | exact (Kd.C_below HR0_2.out HB.out) | (with_reducible refine Kd.C_alloc ?_ _) | (with_reducible refine Kd.C_drewN ?_ _) | (with_reducible refine Kd.C_drew ?_))); (case side2 => exact HC0_2.out); rintro e w8 ⟨v475, rfl, ho0, hb⟩; refine ⟨_, rfl, ?_⟩; have n0_ := Aside0.mk (Kd.R_lower (Kd.R_newB ho0 (g := gb473) (o := .cells #[.int .i64 0, .int .i64 0, .int .u8 0] 82 (0, 0)) (by (with_reducible repeat (first | refine blk_drewN ?_ _ | refine blk_drew ?_ | refine blk_alloc ?_ _)); exact BK473.out)) (below_size (by repeat (first | (with_reducible first | exact HB.out | apply below_alloc | apply pw_below_drewN | apply below_drew1 | refine below_set ?_ GE472.out | refine below_set ?_ GE473.out) | exact HB.out)))); have n1_ := Aside0.mk (blk_below (g := gb472) (o := .cells #[.int .i64 a0_0, .int .i64 a0_1, .slice A0_2 l0_2.length c0_2, .int .i64 a0_3] 28 (0, 0)) (by (with_reducible repeat (first | refine blk_drewN ?_ _ | refine blk_drew ?_ | refine blk_alloc ?_ _)); exact BK472.out) hb); have n2_ := Aside0.mk (blk_below (g := gb473) (o := .cells #[.int .i64 0, .int .i64 0, .int .u8 0] 82 (0, 0)) (by (with_reducible repeat (first | refine blk_drewN ?_ _ | refine blk_drew ?_ | refine blk_alloc ?_ _)); exact BK473.out) hb); have n3_ := Aside0.mk (below_step (by repeat (first | (with_reducible first | exact HB.out | apply below_alloc | apply pw_below_drewN | apply below_drew1 | refine below_set ?_ GE472.out | refine below_set ?_ GE473.out) | exact HB.out)) hb); clear BK472; clear BK473; clear HB; have HO476 := n0_; have BK472 := n1_; have BK473 := n2_; have HB := n3_; clear n0_ n1_ n2_ n3_; (try clear hb); (try clear hb2); (try clear hk); (try clear hi); (try clear ho0)))
  go_loopg [7] k (fun kq v7 w' => ∃ (x7_1 : Int) (x474000_1 : Int) (x474001_1 : Int) (x474002_1 : Int), v7 = .int .i64 x7_1 ∧ Aside0 (greenscreenref15_Of.l0 kq a1 t474 x7_1 a0_0 a0_1 l0_2 a0_3 = some (r1, r2, r3, r4)) ∧ Aside0 (kq ≤ k) ∧ Aside0 (Kd.R k82 82 w' w.heap.size (fun k_ => k_ ≠ gb473) v475 t474) ∧ Aside0 (w'.heap[gb472]? = some (.cells #[.int .i64 a0_0, .int .i64 a0_1, (.slice A0_2 l0_2.length c0_2), .int .i64 a0_3] 28 (0, 0))) ∧ Aside0 (w'.heap[gb473]? = some (.cells #[.int .i64 x474000_1, .int .i64 x474001_1, .int .u8 x474002_1] 82 (0, 0))) ∧ Aside0 (Below w.heap.size w w'))
  case atStart => exact ⟨(0), (0), (0), (0), (by first | rfl | (simp; done) | (simp [*]; done)), H', ⟨Nat.le_refl _⟩, ⟨by (with_reducible repeat (first | apply Kd.R_alloc | apply Kd.R_drewN | apply Kd.R_drew)); exact Kd.R_mono HO476.out (fun _ hk => hk.2)⟩, ⟨by (with_reducible repeat (first | refine blk_drewN ?_ _ | refine blk_drew ?_ | refine blk_alloc ?_ _)); exact BK472.out⟩, ⟨by (with_reducible repeat (first | refine blk_drewN ?_ _ | refine blk_drew ?_ | refine blk_alloc ?_ _)); exact BK473.out⟩, ⟨by repeat (first | (with_reducible first | exact HB.out | apply below_alloc | apply pw_below_drewN | apply below_drew1 | refine below_set ?_ GE472.out | refine below_set ?_ GE473.out) | exact HB.out)⟩⟩
  case round =>
    clear H'
    try clear p2
    try clear c5
    try clear c6
    try clear hcz7_0
    try clear hcz7_1
    try clear hcz7_2
    try clear hcz7_3
    try clear hfz7_0
    try clear hfz7_1
    try clear hfz7_2
    try clear hfz7_3
    obtain ⟨x7_1, x474000_1, x474001_1, x474002_1, rfl, HA, HK1, HO_6, BK472, BK473, HB⟩ := hrel
    cases gk with
    | zero => exact absurd HA.out (by simp [greenscreenref15_Of.l0])
    | succ k1 =>
      have H := HA.out
      clear HA
      simp only [greenscreenref15_Of.l0] at H
      by_cases c9 : x7_1 < (t474.length : Int)
      · rw [if_pos c9] at H
        have c9b0 : decide (x7_1 < (t474.length : Int)) = true := decide_eq_true c9
        clear c9
        by_cases c10 : 0 ≤ x7_1
        · rw [if_pos c10] at H
          have c10b0 : decide (0 ≤ x7_1) = true := decide_eq_true c10
          clear c10
          by_cases c11 : ((rd_T82 t474 x7_1).f0) = a1
          · rw [if_pos c11] at H
            have c11b0 : (((rd_T82 t474 x7_1).f0) == a1) = true := beq_iff_eq.mpr c11
            have c11b1 : (((rd_T82 t474 x7_1).f0) != a1) = false := bne_eq_false_iff_eq.mpr c11
            clear c11
            simp only [Option.some.injEq, Prod.mk.injEq] at H
            obtain ⟨rfl, rfl, rfl, rfl⟩ := H
            obtain ⟨Ao12, co12, eo12⟩ := Kd.R_slice HO_6.out
            subst eo12
            have p477 : 0 ≤ (x7_1 : Int) := of_decide_eq_true (by first | (with_reducible assumption) | assumption)
            have q477 : x7_1 < (t474.length : Int) := of_decide_eq_true (by first | (with_reducible assumption) | assumption)
            obtain ⟨ad477, e477, hx477_0, hx477_1, hx477_2⟩ := at_T82 (Kd.R_reads' HO_6.out).2.2 x7_1 p477 q477
            cases e477
            replace p477 := eq_true p477
            replace q477 := eq_true q477
            have p478 : 0 ≤ (x7_1 : Int) := of_decide_eq_true (by first | (with_reducible assumption) | assumption)
            have q478 : x7_1 < (t474.length : Int) := of_decide_eq_true (by first | (with_reducible assumption) | assumption)
            obtain ⟨ad478, e478, hx478_0, hx478_1, hx478_2⟩ := at_T82 (Kd.R_reads' HO_6.out).2.2 x7_1 p478 q478
            obtain rfl : ad477 = ad478 := (by injection e478)
            replace p478 := eq_true p478
            replace q478 := eq_true q478
            have hnb13 := NB473_472.out
            have hnc13 := NB472_473.out
            have hcz14_0 : wr.cell? ⟨gb473, 0, none⟩ = some (.int .i64 x474000_1) := (blk_cell BK473.out 0).trans rfl
            have hcz14_1 : wr.cell? ⟨gb473, 1, none⟩ = some (.int .i64 x474001_1) := (blk_cell BK473.out 1).trans rfl
            have hcz14_2 : wr.cell? ⟨gb473, 2, none⟩ = some (.int .u8 x474002_1) := (blk_cell BK473.out 2).trans rfl
            have hfz14_0 := blk_frozen BK473.out 0
            have hfz14_1 := blk_frozen BK473.out 1
            have hfz14_2 := blk_frozen BK473.out 2
            go_wp2
            refine bodyPost_ret (results_ct rfl _ _ gb473 82 #[.int .i64 ((rd_T82 t474 x7_1).f0), .int .i64 ((rd_T82 t474 x7_1).f1), .int .u8 ((rd_T82 t474 x7_1).f2)] (0, 0) _ rfl (by (with_reducible repeat (first | refine blk_drewN ?_ _ | refine blk_drew ?_ | refine blk_alloc ?_ _)); refine blk_put (cs := #[.int .i64 ((rd_T82 t474 x7_1).f0), .int .i64 ((rd_T82 t474 x7_1).f1), .int .u8 x474002_1]) ?_ 2 _ rfl; (with_reducible repeat (first | refine blk_drewN ?_ _ | refine blk_drew ?_ | refine blk_alloc ?_ _)); refine blk_put (cs := #[.int .i64 ((rd_T82 t474 x7_1).f0), .int .i64 x474001_1, .int .u8 x474002_1]) ?_ 1 _ rfl; (with_reducible repeat (first | refine blk_drewN ?_ _ | refine blk_drew ?_ | refine blk_alloc ?_ _)); refine blk_put (cs := #[.int .i64 x474000_1, .int .i64 x474001_1, .int .u8 x474002_1]) ?_ 0 _ rfl; (with_reducible repeat (first | refine blk_drewN ?_ _ | refine blk_drew ?_ | refine blk_alloc ?_ _)); exact BK473.out) Try.underlying82 rfl (by kernel_rfl)) rfl ?_
            exact ⟨by first | rfl | (simp [errW_none, errW_some] <;> rfl) | (simp [*, errW_none, errW_some] <;> rfl), by repeat (first | (with_reducible first | exact HB.out | apply below_alloc | apply pw_below_drewN | apply below_drew1 | refine below_set ?_ GE472.out | refine below_set ?_ GE473.out) | exact HB.out)⟩
          · rw [if_neg c11] at H
            have c11b0 : (((rd_T82 t474 x7_1).f0) == a1) = false := beq_eq_false_iff_ne.mpr c11
            have c11b1 : (((rd_T82 t474 x7_1).f0) != a1) = true := bne_iff_ne.mpr c11
            replace H := Option.bind_eq_some_iff.mp H
            obtain ⟨t480, A150, H⟩ := H
            replace H : (greenscreenref15_Of.l1 k1 a1 t474 x7_1 t480 0 a0_0 a0_1 l0_2 a0_3) = some (r1, r2, r3, r4) := H
            have A15 := Aside0.mk A150
            clear A150
            have H' := Aside0.mk H
            clear H
            obtain ⟨Ao16, co16, eo16⟩ := Kd.R_slice HO_6.out
            subst eo16
            have p477 : 0 ≤ (x7_1 : Int) := of_decide_eq_true (by first | (with_reducible assumption) | assumption)
            have q477 : x7_1 < (t474.length : Int) := of_decide_eq_true (by first | (with_reducible assumption) | assumption)
            obtain ⟨ad477, e477, hx477_0, hx477_1, hx477_2⟩ := at_T82 (Kd.R_reads' HO_6.out).2.2 x7_1 p477 q477
            cases e477
            replace p477 := eq_true p477
            replace q477 := eq_true q477
            try go_wp2
            have n0_ := Aside0.mk (Kd.R_drew HO_6.out)
            have n1_ := Aside0.mk (blk_drew BK472.out)
            have n2_ := Aside0.mk (blk_drew BK473.out)
            have n3_ := Aside0.mk (below_drew1 HB.out)
            clear HO_6
            clear BK472
            clear BK473
            clear HB
            have HO_6 := n0_
            have BK472 := n1_
            have BK473 := n2_
            have HB := n3_
            clear n0_ n1_ n2_ n3_
            have p479 : 0 ≤ (x7_1 : Int) := of_decide_eq_true (by first | (with_reducible assumption) | assumption)
            have q479 : x7_1 < (t474.length : Int) := of_decide_eq_true (by first | (with_reducible assumption) | assumption)
            obtain ⟨ad479, e479, hx479_0, hx479_1, hx479_2⟩ := at_T82 (Kd.R_reads' HO_6.out).2.2 x7_1 p479 q479
            obtain rfl : ad477 = ad479 := (by injection e479)
            replace p479 := eq_true p479
            replace q479 := eq_true q479
            refine start_ (n := 7) (S := fun w' => w'.cell? ⟨gb472, 0, none⟩ = some (.int .i64 a0_0) ∧ w'.cell? ⟨gb472, 1, none⟩ = some (.int .i64 a0_1) ∧ w'.cell? ⟨gb472, 2, none⟩ = some (.slice A0_2 l0_2.length c0_2) ∧ w'.cell? ⟨gb472, 3, none⟩ = some (.int .i64 a0_3) ∧ w'.cell? (ad477.add ((x7_1).toNat * 3)) = some (.int .i64 ((rd_T82 t474 x7_1).f0)) ∧ w'.cell? ⟨(ad477.add ((x7_1).toNat * 3)).block, (ad477.add ((x7_1).toNat * 3)).off + 1, none⟩ = some (.int .i64 ((rd_T82 t474 x7_1).f1)) ∧ w'.cell? ⟨(ad477.add ((x7_1).toNat * 3)).block, (ad477.add ((x7_1).toNat * 3)).off + 2, none⟩ = some (.int .u8 ((rd_T82 t474 x7_1).f2))) (ds := []) #[false, false, false, false, false, false, false] (by kernel_rfl) rfl rfl ⟨(blk_cell BK472.out 0).trans rfl, (blk_cell BK472.out 1).trans rfl, (blk_cell BK472.out 2).trans rfl, (blk_cell BK472.out 3).trans rfl, hx479_0, hx479_1, hx479_2⟩ (fun hHeld => ?_)
            generalize wr.drew = w17 at HO_6 BK472 BK473 HB hx479_0 hx479_1 hx479_2 hHeld ⊢
            refine pure_ (i := 1) (N := some 30) (v := ?_) (a' := ?_) #[false, true, false, false, false, false, false] rfl rfl (by kernel_rfl) (fun _ _ _ h => h) (Or.inl ⟨by rfl, ?_⟩) ?_ ?_
            rotate_left
            · intro w'
              go_simp
              with_reducible rfl
            rotate_left
            · simp only [Act.put, List.setIfInBounds_toArray, List.set_cons_zero, List.set_cons_succ, i64_w, i32_w]
              rfl
            refine pure_ (i := 2) (N := some 31) (v := ?_) (a' := ?_) #[false, true, true, false, false, false, false] rfl rfl (by kernel_rfl) (fun _ _ _ h => h) (Or.inl ⟨by rfl, ?_⟩) ?_ ?_
            rotate_left
            · intro w'
              go_simp
              with_reducible rfl
            rotate_left
            · simp only [Act.put, List.setIfInBounds_toArray, List.set_cons_zero, List.set_cons_succ, i64_w, i32_w]
              rfl
            refine pure_ (i := 3) (N := some 32) (v := ?_) (a' := ?_) #[false, true, true, true, false, false, false] rfl rfl (by kernel_rfl) (fun _ _ _ h => h) (Or.inl ⟨by rfl, ?_⟩) ?_ ?_
            rotate_left
            · intro w'
              go_simp
              with_reducible rfl
            rotate_left
            · simp only [Act.put, List.setIfInBounds_toArray, List.set_cons_zero, List.set_cons_succ, i64_w, i32_w]
              rfl
            refine take_ (i := 0) (N := some 29) (v := ?_) (a' := ?_) #[true, true, true, true, false, false, false] rfl rfl (by kernel_rfl) (fun _ _ _ h => h) (Or.inl ⟨by rfl, ?_⟩) hHeld ?_ ?_
            rotate_left
            · rintro w' ⟨s0, s1, s2, s3, s4, s5, s6⟩
              go_simp
              with_reducible rfl
            rotate_left
            · simp only [Act.put, List.setIfInBounds_toArray, List.set_cons_zero, List.set_cons_succ, i64_w, i32_w]
              rfl
            refine take_ (i := 4) (N := some 33) (v := ?_) (a' := ?_) #[true, true, true, true, true, false, false] rfl rfl (by kernel_rfl) (fun _ _ _ h => h) (Or.inl ⟨by rfl, ?_⟩) hHeld ?_ ?_
            rotate_left
            · rintro w' ⟨s0, s1, s2, s3, s4, s5, s6⟩
              go_simp
              with_reducible rfl
            rotate_left
            · simp only [Act.put, List.setIfInBounds_toArray, List.set_cons_zero, List.set_cons_succ, i64_w, i32_w]
              rfl
            refine one_ (i := 5) (N := some 34) #[true, true, true, true, true, true, false] rfl rfl (by kernel_rfl) (by decide) (fun K hK => ?_)
            refine goes_ Try.func85 (by kernel_rfl) rfl #[.agg #[.int .i64 a0_0, .int .i64 a0_1, .slice A0_2 l0_2.length c0_2, .int .i64 a0_3], .agg #[.int .i64 ((rd_T82 t474 x7_1).f0), .int .i64 ((rd_T82 t474 x7_1).f1), .int .u8 ((rd_T82 t474 x7_1).f2)]] (by rfl) rfl rfl (by (try simp only [List.map_toArray, List.map_cons, List.map_nil]); first | done | rfl | (simp only [List.length_drop, List.length_take]; rfl)) ?_
            with_reducible refine (greenscreenref15_Places.calls k1 a0_0 a0_1 _ _ l0_2 a0_3 ((rd_T82 t474 x7_1).f0) ((rd_T82 t474 x7_1).f1) ((rd_T82 t474 x7_1).f2) t480 _ ?side1 ?side2 A15.out).mono ?_
            (case side1 => repeat (first | exact (Kd.C_below HR0_2.out HB.out) | (with_reducible refine Kd.C_alloc ?_ _) | (with_reducible refine Kd.C_drewN ?_ _) | (with_reducible refine Kd.C_drew ?_)))
            (case side2 => exact HC0_2.out)
            rintro e w18 ⟨v481, rfl, ho0, hb⟩
            have HS4_ := (hb.cell (World.block_lt_of_cell? _ _ (hHeld.2.2.2.2.1))).trans (hHeld.2.2.2.2.1)
            have HS5_ := (hb.cell (World.block_lt_of_cell? _ _ (hHeld.2.2.2.2.2.1))).trans (hHeld.2.2.2.2.2.1)
            have HS6_ := (hb.cell (World.block_lt_of_cell? _ _ (hHeld.2.2.2.2.2.2))).trans (hHeld.2.2.2.2.2.2)
            refine ⟨_, rfl, ?_⟩
            have n0_ := Aside0.mk (Kd.R_below (by (with_reducible repeat (first | apply Kd.R_alloc | apply Kd.R_drewN | apply Kd.R_drew)); exact HO_6.out) hb)
            have n1_ := Aside0.mk (Kd.R_lower ho0 (below_size (by repeat (first | (with_reducible first | exact HB.out | apply below_alloc | apply pw_below_drewN | apply below_drew1 | refine below_set ?_ GE472.out | refine below_set ?_ GE473.out) | exact HB.out))))
            have n2_ := Aside0.mk (blk_below (g := gb472) (o := .cells #[.int .i64 a0_0, .int .i64 a0_1, .slice A0_2 l0_2.length c0_2, .int .i64 a0_3] 28 (0, 0)) (by (with_reducible repeat (first | refine blk_drewN ?_ _ | refine blk_drew ?_ | refine blk_alloc ?_ _)); exact BK472.out) hb)
            have n3_ := Aside0.mk (blk_below (g := gb473) (o := .cells #[.int .i64 x474000_1, .int .i64 x474001_1, .int .u8 x474002_1] 82 (0, 0)) (by (with_reducible repeat (first | refine blk_drewN ?_ _ | refine blk_drew ?_ | refine blk_alloc ?_ _)); exact BK473.out) hb)
            have n4_ := Aside0.mk (below_step (by repeat (first | (with_reducible first | exact HB.out | apply below_alloc | apply pw_below_drewN | apply below_drew1 | refine below_set ?_ GE472.out | refine below_set ?_ GE473.out) | exact HB.out)) hb)
            clear HO_6
            clear BK472
            clear BK473
            clear HB
            have HO_6 := n0_
            have HO482 := n1_
            have BK472 := n2_
            have BK473 := n3_
            have HB := n4_
            clear n0_ n1_ n2_ n3_ n4_
            (try clear hb)
            (try clear hb2)
            (try clear hk)
            (try clear hi)
            (try clear ho0)
            refine hK.out _ _ ⟨(blk_cell BK472.out 0).trans rfl, (blk_cell BK472.out 1).trans rfl, (blk_cell BK472.out 2).trans rfl, (blk_cell BK472.out 3).trans rfl, HS4_, HS5_, HS6_⟩ (fun hHeld => ?_)
            clear hK K
            refine norm_ (a' := ?_) ?_ ?_
            rotate_left
            · show Act.put _ (some 34) _ = _
              simp only [Act.put, List.setIfInBounds_toArray, List.set_cons_zero, List.set_cons_succ, i64_w, i32_w]
              rfl
            refine pure_ (i := 6) (N := some 8) (v := ?_) (a' := ?_) #[true, true, true, true, true, true, true] rfl rfl (by kernel_rfl) (fun _ _ _ h => h) (Or.inl ⟨by rfl, ?_⟩) ?_ ?_
            rotate_left
            · intro w'
              go_simp
              with_reducible rfl
            rotate_left
            · simp only [Act.put, List.setIfInBounds_toArray, List.set_cons_zero, List.set_cons_succ, i64_w, i32_w]
              rfl
            refine done_ (by kernel_rfl) ?_
            try go_wp2
            go_loopg [9] k1 (fun kq v9 w' => ∃ (x9_2 : Int) (x474000_2 : Int) (x474001_2 : Int) (x474002_2 : Int), v9 = .int .i64 x9_2 ∧ Aside0 (greenscreenref15_Of.l1 kq a1 t474 x7_1 t480 x9_2 a0_0 a0_1 l0_2 a0_3 = some (r1, r2, r3, r4)) ∧ Aside0 (kq ≤ k1) ∧ Aside0 (Kd.R k82 82 w' w.heap.size (fun k_ => k_ ≠ gb473) (.slice (some ad477) t474.length co16) t474) ∧ Aside0 (Kd.R (Kd.int .i64) 3 w' w.heap.size (fun _ => True) v481 t480) ∧ Aside0 (w'.heap[gb472]? = some (.cells #[.int .i64 a0_0, .int .i64 a0_1, (.slice A0_2 l0_2.length c0_2), .int .i64 a0_3] 28 (0, 0))) ∧ Aside0 (w'.heap[gb473]? = some (.cells #[.int .i64 x474000_2, .int .i64 x474001_2, .int .u8 x474002_2] 82 (0, 0))) ∧ Aside0 (Below w.heap.size w w'))
            case atStart => exact ⟨(0), (x474000_1), (x474001_1), (x474002_1), (by first | rfl | (simp; done) | (simp [*]; done)), H', ⟨Nat.le_refl _⟩, ⟨by (with_reducible repeat (first | apply Kd.R_alloc | apply Kd.R_drewN | apply Kd.R_drew)); exact HO_6.out⟩, ⟨by (with_reducible repeat (first | apply Kd.R_alloc | apply Kd.R_drewN | apply Kd.R_drew)); exact HO482.out⟩, ⟨by (with_reducible repeat (first | refine blk_drewN ?_ _ | refine blk_drew ?_ | refine blk_alloc ?_ _)); exact BK472.out⟩, ⟨by (with_reducible repeat (first | refine blk_drewN ?_ _ | refine blk_drew ?_ | refine blk_alloc ?_ _)); exact BK473.out⟩, ⟨by repeat (first | (with_reducible first | exact HB.out | apply below_alloc | apply pw_below_drewN | apply below_drew1 | refine below_set ?_ GE472.out | refine below_set ?_ GE473.out) | exact HB.out)⟩⟩
            case round =>
              clear H'
              try clear c1
              try clear p2
              try clear p4
              try clear q4
              try clear hx4
              try clear c5
              try clear c6
              try clear c8
              try clear c9
              try clear c9b0
              try clear c10
              try clear c10b0
              try clear c11
              try clear c11b0
              try clear c11b1
              try clear c13
              try clear hcz14_0
              try clear hcz14_1
              try clear hcz14_2
              try clear hcz7_0
              try clear hcz7_1
              try clear hcz7_2
              try clear hcz7_3
              try clear hfz14_0
              try clear hfz14_1
              try clear hfz14_2
              try clear hfz7_0
              try clear hfz7_1
              try clear hfz7_2
              try clear hfz7_3
              try clear hx477_0
              try clear hx477_1
              try clear hx477_2
              try clear hx478_0
              try clear hx478_1
              try clear hx478_2
              try clear hx479_0
              try clear hx479_1
              try clear hx479_2
              try clear p2
              try clear p477
              try clear p478
              try clear p479
              try clear q477
              try clear q478
              try clear q479
              obtain ⟨x9_2, x474000_2, x474001_2, x474002_2, rfl, HA, HK2, HO_6, HO_8, BK472, BK473, HB⟩ := hrel
              cases gk with
              | zero => exact absurd HA.out (by simp [greenscreenref15_Of.l1])
              | succ k2 =>
                have H := HA.out
                clear HA
                simp only [greenscreenref15_Of.l1] at H
                by_cases c19 : x9_2 < (t480.length : Int)
                · rw [if_pos c19] at H
                  have c19b0 : decide (x9_2 < (t480.length : Int)) = true := decide_eq_true c19
                  clear c19
                  by_cases c20 : 0 ≤ x9_2
                  · rw [if_pos c20] at H
                    have c20b0 : decide (0 ≤ x9_2) = true := decide_eq_true c20
                    clear c20
                    by_cases c21 : (rd t480 x9_2) = a1
                    · rw [if_pos c21] at H
                      have c21b0 : ((rd t480 x9_2) == a1) = true := beq_iff_eq.mpr c21
                      have c21b1 : ((rd t480 x9_2) != a1) = false := bne_eq_false_iff_eq.mpr c21
                      clear c21
                      by_cases c22 : 0 ≤ x7_1
                      · rw [if_pos c22] at H
                        have c22b0 : decide (0 ≤ x7_1) = true := decide_eq_true c22
                        clear c22
                        by_cases c23 : x7_1 < (t474.length : Int)
                        · rw [if_pos c23] at H
                          have c23b0 : decide (x7_1 < (t474.length : Int)) = true := decide_eq_true c23
                          clear c23
                          simp only [Option.some.injEq, Prod.mk.injEq] at H
                          obtain ⟨rfl, rfl, rfl, rfl⟩ := H
                          obtain ⟨Ao24, co24, eo24⟩ := Kd.R_slice HO_8.out
                          subst eo24
                          have p483 : 0 ≤ (x9_2 : Int) := of_decide_eq_true (by first | (with_reducible assumption) | assumption)
                          have q483 : x9_2 < (t480.length : Int) := of_decide_eq_true (by first | (with_reducible assumption) | assumption)
                          obtain ⟨ad483, e483, hx483_0⟩ := Kd.at_int (Kd.R_reads' HO_8.out).2.2 x9_2 p483 q483
                          cases e483
                          replace p483 := eq_true p483
                          replace q483 := eq_true q483
                          have p484 : 0 ≤ (x7_1 : Int) := of_decide_eq_true (by first | (with_reducible assumption) | assumption)
                          have q484 : x7_1 < (t474.length : Int) := of_decide_eq_true (by first | (with_reducible assumption) | assumption)
                          obtain ⟨ad484, e484, hx484_0, hx484_1, hx484_2⟩ := at_T82 (Kd.R_reads' HO_6.out).2.2 x7_1 p484 q484
                          obtain rfl : ad477 = ad484 := (by injection e484)
                          replace p484 := eq_true p484
                          replace q484 := eq_true q484
                          have hnb25 := NB473_472.out
                          have hnc25 := NB472_473.out
                          have hcz26_0 : wr.cell? ⟨gb473, 0, none⟩ = some (.int .i64 x474000_2) := (blk_cell BK473.out 0).trans rfl
                          have hcz26_1 : wr.cell? ⟨gb473, 1, none⟩ = some (.int .i64 x474001_2) := (blk_cell BK473.out 1).trans rfl
                          have hcz26_2 : wr.cell? ⟨gb473, 2, none⟩ = some (.int .u8 x474002_2) := (blk_cell BK473.out 2).trans rfl
                          have hfz26_0 := blk_frozen BK473.out 0
                          have hfz26_1 := blk_frozen BK473.out 1
                          have hfz26_2 := blk_frozen BK473.out 2
                          go_wp2
                          refine bodyPost_ret (results_ct rfl _ _ gb473 82 #[.int .i64 ((rd_T82 t474 x7_1).f0), .int .i64 ((rd_T82 t474 x7_1).f1), .int .u8 ((rd_T82 t474 x7_1).f2)] (0, 0) _ rfl (by (with_reducible repeat (first | refine blk_drewN ?_ _ | refine blk_drew ?_ | refine blk_alloc ?_ _)); refine blk_put (cs := #[.int .i64 ((rd_T82 t474 x7_1).f0), .int .i64 ((rd_T82 t474 x7_1).f1), .int .u8 x474002_2]) ?_ 2 _ rfl; (with_reducible repeat (first | refine blk_drewN ?_ _ | refine blk_drew ?_ | refine blk_alloc ?_ _)); refine blk_put (cs := #[.int .i64 ((rd_T82 t474 x7_1).f0), .int .i64 x474001_2, .int .u8 x474002_2]) ?_ 1 _ rfl; (with_reducible repeat (first | refine blk_drewN ?_ _ | refine blk_drew ?_ | refine blk_alloc ?_ _)); refine blk_put (cs := #[.int .i64 x474000_2, .int .i64 x474001_2, .int .u8 x474002_2]) ?_ 0 _ rfl; (with_reducible repeat (first | refine blk_drewN ?_ _ | refine blk_drew ?_ | refine blk_alloc ?_ _)); exact BK473.out) Try.underlying82 rfl (by kernel_rfl)) rfl ?_
                          exact ⟨by first | rfl | (simp [errW_none, errW_some] <;> rfl) | (simp [*, errW_none, errW_some] <;> rfl), by repeat (first | (with_reducible first | exact HB.out | apply below_alloc | apply pw_below_drewN | apply below_drew1 | refine below_set ?_ GE472.out | refine below_set ?_ GE473.out) | exact HB.out)⟩
                        · rw [if_neg c23] at H
                          exact absurd H (by simp)
                      · rw [if_neg c22] at H
                        exact absurd H (by simp)
                    · rw [if_neg c21] at H
                      have c21b0 : ((rd t480 x9_2) == a1) = false := beq_eq_false_iff_ne.mpr c21
                      have c21b1 : ((rd t480 x9_2) != a1) = true := bne_iff_ne.mpr c21
                      have H' := Aside0.mk H
                      clear H
                      obtain ⟨Ao27, co27, eo27⟩ := Kd.R_slice HO_8.out
                      subst eo27
                      have p483 : 0 ≤ (x9_2 : Int) := of_decide_eq_true (by first | (with_reducible assumption) | assumption)
                      have q483 : x9_2 < (t480.length : Int) := of_decide_eq_true (by first | (with_reducible assumption) | assumption)
                      obtain ⟨ad483, e483, hx483_0⟩ := Kd.at_int (Kd.R_reads' HO_8.out).2.2 x9_2 p483 q483
                      cases e483
                      replace p483 := eq_true p483
                      replace q483 := eq_true q483
                      go_wp2
                      go_roundg k2
                      case measure => have := HK1.out; have := HK2.out; omega
                      case rel => exact ⟨(wrap64 (x9_2 + 1)), (x474000_2), (x474001_2), (x474002_2), (by first | rfl | (simp; done) | (simp [*]; done)), H', ⟨by have := HK1.out; have := HK2.out; omega⟩, ⟨by (with_reducible repeat (first | apply Kd.R_alloc | apply Kd.R_drewN | apply Kd.R_drew)); exact HO_6.out⟩, ⟨by (with_reducible repeat (first | apply Kd.R_alloc | apply Kd.R_drewN | apply Kd.R_drew)); exact HO_8.out⟩, ⟨by (with_reducible repeat (first | refine blk_drewN ?_ _ | refine blk_drew ?_ | refine blk_alloc ?_ _)); exact BK472.out⟩, ⟨by (with_reducible repeat (first | refine blk_drewN ?_ _ | refine blk_drew ?_ | refine blk_alloc ?_ _)); exact BK473.out⟩, ⟨by repeat (first | (with_reducible first | exact HB.out | apply below_alloc | apply pw_below_drewN | apply below_drew1 | refine below_set ?_ GE472.out | refine below_set ?_ GE473.out) | exact HB.out)⟩⟩
                  · rw [if_neg c20] at H
                    exact absurd H (by simp)
                · rw [if_neg c19] at H
                  have c19b0 : decide (x9_2 < (t480.length : Int)) = false := decide_eq_false c19
                  clear c19
                  have H' := Aside0.mk H
                  clear H
                  obtain ⟨Ao28, co28, eo28⟩ := Kd.R_slice HO_8.out
                  subst eo28
                  go_wp2
                  go_roundg k2
                  case measure => have := HK1.out; have := HK2.out; omega
                  case rel => exact ⟨(wrap64 (x7_1 + 1)), (x474000_2), (x474001_2), (x474002_2), (by first | rfl | (simp; done) | (simp [*]; done)), H', ⟨by have := HK1.out; have := HK2.out; omega⟩, ⟨by (with_reducible repeat (first | apply Kd.R_alloc | apply Kd.R_drewN | apply Kd.R_drew)); exact HO_6.out⟩, ⟨by (with_reducible repeat (first | refine blk_drewN ?_ _ | refine blk_drew ?_ | refine blk_alloc ?_ _)); exact BK472.out⟩, ⟨by (with_reducible repeat (first | refine blk_drewN ?_ _ | refine blk_drew ?_ | refine blk_alloc ?_ _)); exact BK473.out⟩, ⟨by repeat (first | (with_reducible first | exact HB.out | apply below_alloc | apply pw_below_drewN | apply below_drew1 | refine below_set ?_ GE472.out | refine below_set ?_ GE473.out) | exact HB.out)⟩⟩
        · rw [if_neg c10] at H
          exact absurd H (by simp)
      · rw [if_neg c9] at H
        have c9b0 : decide (x7_1 < (t474.length : Int)) = false := decide_eq_false c9
        clear c9
        simp only [Option.some.injEq, Prod.mk.injEq] at H
        obtain ⟨rfl, rfl, rfl, rfl⟩ := H
        obtain ⟨Ao29, co29, eo29⟩ := Kd.R_slice HO_6.out
        subst eo29
        have hnb30 := NB473_472.out
        have hnc30 := NB472_473.out
        have hcz31_0 : wr.cell? ⟨gb473, 0, none⟩ = some (.int .i64 x474000_1) := (blk_cell BK473.out 0).trans rfl
        have hcz31_1 : wr.cell? ⟨gb473, 1, none⟩ = some (.int .i64 x474001_1) := (blk_cell BK473.out 1).trans rfl
        have hcz31_2 : wr.cell? ⟨gb473, 2, none⟩ = some (.int .u8 x474002_1) := (blk_cell BK473.out 2).trans rfl
        have hfz31_0 := blk_frozen BK473.out 0
        have hfz31_1 := blk_frozen BK473.out 1
        have hfz31_2 := blk_frozen BK473.out 2
        go_wp2
        refine bodyPost_ret (results_ct rfl _ _ gb473 82 #[.int .i64 0, .int .i64 0, .int .u8 0] (0, 0) _ rfl (by (with_reducible repeat (first | refine blk_drewN ?_ _ | refine blk_drew ?_ | refine blk_alloc ?_ _)); refine blk_put (cs := #[.int .i64 0, .int .i64 0, .int .u8 x474002_1]) ?_ 2 _ rfl; (with_reducible repeat (first | refine blk_drewN ?_ _ | refine blk_drew ?_ | refine blk_alloc ?_ _)); refine blk_put (cs := #[.int .i64 0, .int .i64 x474001_1, .int .u8 x474002_1]) ?_ 1 _ rfl; (with_reducible repeat (first | refine blk_drewN ?_ _ | refine blk_drew ?_ | refine blk_alloc ?_ _)); refine blk_put (cs := #[.int .i64 x474000_1, .int .i64 x474001_1, .int .u8 x474002_1]) ?_ 0 _ rfl; (with_reducible repeat (first | refine blk_drewN ?_ _ | refine blk_drew ?_ | refine blk_alloc ?_ _)); exact BK473.out) Try.underlying82 rfl (by kernel_rfl)) rfl ?_
        exact ⟨by first | rfl | (simp [errW_none, errW_some] <;> rfl) | (simp [*, errW_none, errW_some] <;> rfl), by repeat (first | (with_reducible first | exact HB.out | apply below_alloc | apply pw_below_drewN | apply below_drew1 | refine below_set ?_ GE472.out | refine below_set ?_ GE473.out) | exact HB.out)⟩

end Go.Proofs.Ytmcfckdgolojlaa.PCaretMoves
