-- PRINTED BY print.sh 35421559b90ae4d0a3588c463048766b98c2df88dd9212a6774a882060cdf62d: not written by this session
import Derived.Test.YthkioahpnbahhaaPIacFeedsx0
namespace Go.Proofs.Ythkioahpnbahhaa.PIacFeeds
open Go.RowKit Go.Proofs.YthkioahpnbahhaaW.PrintWords Go.Proofs.YthkioahpnbahhaaW.PrintLast Go.Proofs.YthkioahpnbahhaaW.PrintMore
attribute [local go_sem] max2_int min2_int max_two min_two max_three min_three max_four min_four   -- for this text's walks alone
set_option linter.unusedVariables false
set_option linter.unusedSimpArgs false

/-! ### greenscreenref05_sub: function 42 -/
mutual
def greenscreenref05_sub.j0 : Nat → List Int → Int → Int → Option (Int × Int × Int × List Int × Int)
  | 0, _, _, _ => none
  | k + 1, x0, x1, x6 => greenscreenref05_sub.l0 k x0 x1 x6 5 0 x6 ([] : List Int)
def greenscreenref05_sub.l0 : Nat → List Int → Int → Int → Int → Int → Int → List Int → Option (Int × Int × Int × List Int × Int)
  | 0, _, _, _, _, _, _, _ => none
  | k + 1, x0, x1, x6, x247000, x247001, x247002, x247003 => if x1 < (x0.length : Int) then (if 0 ≤ x1 then (if (rd x0 x1) = 255 then (if (wrap64 (x1 + 1)) ≥ (x0.length : Int) then (some (0, 0, 0, ([] : List Int), 0)) else (if 0 ≤ (wrap64 (x1 + 1)) then (if (wrap64 (x1 + 1)) < (x0.length : Int) then (if (rd x0 (wrap64 (x1 + 1))) = 240 then (some (x247000, x247001, x247002, x247003, wrap64 ((wrap64 (x1 + 1)) + 1))) else (if (rd x0 (wrap64 (x1 + 1))) = 255 then (if (x247003.length : Int) ≥ 256 then (greenscreenref05_sub.l0 k x0 (wrap64 ((wrap64 (x1 + 1)) + 1)) x6 6 x247001 x247002 x247003) else (if x247003.length < 140737488355328 then (greenscreenref05_sub.l0 k x0 (wrap64 ((wrap64 (x1 + 1)) + 1)) x6 x247000 x247001 x247002 (x247003 ++ [rd x0 x1])) else (none))) else (some (7, 0, x6, ([] : List Int), wrap64 (x1 + 1))))) else (none)) else (none))) else (if (x247003.length : Int) ≥ 256 then (greenscreenref05_sub.l0 k x0 (wrap64 (x1 + 1)) x6 6 x247001 x247002 x247003) else (if x247003.length < 140737488355328 then (greenscreenref05_sub.l0 k x0 (wrap64 (x1 + 1)) x6 x247000 x247001 x247002 (x247003 ++ [rd x0 x1])) else (none)))) else (none)) else (some (0, 0, 0, ([] : List Int), 0))
end
def greenscreenref05_sub.f (k : Nat) (l0 : List Int) (a1 : Int) : Option (Int × Int × Int × List Int × Int) := if a1 ≥ (l0.length : Int) then (some (0, 0, 0, ([] : List Int), 0)) else (if 0 ≤ a1 then (if a1 < (l0.length : Int) then (if (rd l0 a1) = 255 then (if (wrap64 (a1 + 1)) ≥ (l0.length : Int) then (some (0, 0, 0, ([] : List Int), 0)) else (if 0 ≤ (wrap64 (a1 + 1)) then (if (wrap64 (a1 + 1)) < (l0.length : Int) then (if (rd l0 (wrap64 (a1 + 1))) = 255 then (greenscreenref05_sub.j0 k l0 (wrap64 ((wrap64 (a1 + 1)) + 1)) (rd l0 a1)) else (some (7, 0, 0, ([] : List Int), wrap64 (a1 + 1)))) else (none)) else (none))) else (greenscreenref05_sub.j0 k l0 (wrap64 (a1 + 1)) (rd l0 a1))) else (none)) else (none))
theorem greenscreenref05_sub.mono_l : ∀ k, (∀ y0 y1 y2, LeO (greenscreenref05_sub.j0 k y0 y1 y2) (greenscreenref05_sub.j0 (k + 1) y0 y1 y2)) ∧ (∀ y0 y1 y2 y3 y4 y5 y6, LeO (greenscreenref05_sub.l0 k y0 y1 y2 y3 y4 y5 y6) (greenscreenref05_sub.l0 (k + 1) y0 y1 y2 y3 y4 y5 y6))
  | 0 => ⟨fun _ _ _ r h => by simp [greenscreenref05_sub.j0] at h, fun _ _ _ _ _ _ _ r h => by simp [greenscreenref05_sub.l0] at h⟩
  | k + 1 => by
    obtain ⟨ih0, ih1⟩ := greenscreenref05_sub.mono_l k
    refine ⟨?_, ?_⟩
    · intro y0 y1 y2
      unfold greenscreenref05_sub.j0
      repeat' first
      | (with_reducible exact ih0 _ _ _)
      | (with_reducible exact ih1 _ _ _ _ _ _ _)
      | (with_reducible exact LeO.refl _)
      | (with_reducible exact LeO.none _)
      | (with_reducible refine LeO.ite ?_ ?_)
      | (with_reducible refine LeO.bind ?_ (fun _ => ?_))
      | exact ih0 _ _ _
      | exact ih1 _ _ _ _ _ _ _
      | exact LeO.none _
      | refine LeO.ite ?_ ?_
      | refine LeO.bind ?_ (fun _ => ?_)
    · intro y0 y1 y2 y3 y4 y5 y6
      unfold greenscreenref05_sub.l0
      repeat' first
      | (with_reducible exact ih0 _ _ _)
      | (with_reducible exact ih1 _ _ _ _ _ _ _)
      | (with_reducible exact LeO.refl _)
      | (with_reducible exact LeO.none _)
      | (with_reducible refine LeO.ite ?_ ?_)
      | (with_reducible refine LeO.bind ?_ (fun _ => ?_))
      | exact ih0 _ _ _
      | exact ih1 _ _ _ _ _ _ _
      | exact LeO.none _
      | refine LeO.ite ?_ ?_
      | refine LeO.bind ?_ (fun _ => ?_)
theorem greenscreenref05_sub.mono : ∀ a0 a1 k, LeO (greenscreenref05_sub.f k a0 a1) (greenscreenref05_sub.f (k + 1) a0 a1) := by
  intro a0 a1 k
  obtain ⟨ih0, ih1⟩ := greenscreenref05_sub.mono_l k
  unfold greenscreenref05_sub.f
  repeat' first
      | (with_reducible exact ih0 _ _ _)
      | (with_reducible exact ih1 _ _ _ _ _ _ _)
      | (with_reducible exact LeO.refl _)
      | (with_reducible exact LeO.none _)
      | (with_reducible refine LeO.ite ?_ ?_)
      | (with_reducible refine LeO.bind ?_ (fun _ => ?_))
      | exact ih0 _ _ _
      | exact ih1 _ _ _ _ _ _ _
      | exact LeO.none _
      | refine LeO.ite ?_ ?_
      | refine LeO.bind ?_ (fun _ => ?_)
set_option maxHeartbeats 8000000 in
set_option maxRecDepth 100000 in
theorem greenscreenref05_sub.calls (k : Nat) (A0 : Option Addr) (c0 : Nat) (l0 : List Int) (a1 : Int) (r1 : Int) (r2 : Int) (r3 : Int) (r4 : List Int) (r5 : Int) (w : World) (hr0 : Kd.C (Kd.int .u8) w A0 l0.length l0) (hc0 : l0.length ≤ c0) (h : greenscreenref05_sub.f k l0 a1 = some (r1, r2, r3, r4, r5)) :
    Calls Try.prog 42 #[.slice A0 l0.length c0, .int .i64 a1] w fun e w' => ∃ v3_ : Value, e = .returned (.tuple #[.agg #[.int .i64 r1, .int .u8 r2, .int .u8 r3, v3_], .int .i64 r5]) ∧ Kd.R (Kd.int .u8) 5 w' w.heap.size (fun _ => True) v3_ r4 ∧ Below w.heap.size w w' := by
  have hu44 := Try.underlying44
  have HR0 := Aside0.mk hr0
  have HC0 := Aside0.mk hc0
  clear hr0 hc0
  have HB := Aside0.mk (Below.refl w.heap.size w)
  have H : (if a1 ≥ (l0.length : Int) then (some (0, 0, 0, ([] : List Int), 0)) else (if 0 ≤ a1 then (if a1 < (l0.length : Int) then (if (rd l0 a1) = 255 then (if (wrap64 (a1 + 1)) ≥ (l0.length : Int) then (some (0, 0, 0, ([] : List Int), 0)) else (if 0 ≤ (wrap64 (a1 + 1)) then (if (wrap64 (a1 + 1)) < (l0.length : Int) then (if (rd l0 (wrap64 (a1 + 1))) = 255 then (greenscreenref05_sub.j0 k l0 (wrap64 ((wrap64 (a1 + 1)) + 1)) (rd l0 a1)) else (some (7, 0, 0, ([] : List Int), wrap64 (a1 + 1)))) else (none)) else (none))) else (greenscreenref05_sub.j0 k l0 (wrap64 (a1 + 1)) (rd l0 a1))) else (none)) else (none))) = some (r1, r2, r3, r4, r5) := h
  clear h
  by_cases c3 : a1 ≥ (l0.length : Int)
  · rw [if_pos c3] at H
    have c3b0 : decide ((l0.length : Int) ≤ a1) = true := decide_eq_true c3
    clear c3
    simp only [Option.some.injEq, Prod.mk.injEq] at H
    obtain ⟨rfl, rfl, rfl, rfl, rfl⟩ := H
    go_enter Try.func42, Try.ntmps42
    go_wp2_with (first | ((with_reducible refine gate_dst (N := 4) rfl ?_); refine box_event ?hg (N := 4) ?hd (cs := #[.int .i64 0, .int .u8 0, .int .u8 0, .slice none 0 0]) (t := 44) ?hr ?_; (case hd => rfl); (case hg => rfl); (case hr => first | (go_simp; done) | (go_simp; rfl)); intro gb243 hg w4 hbox hb; have n0_ := Aside0.mk (below_step (by repeat (first | (with_reducible first | exact HB.out | apply below_alloc | apply pw_below_drewN | apply below_drew1) | exact HB.out)) hb); have n1_ := Aside0.mk (hbox); have n2_ := Aside0.mk ((by rw [hg]; exact (below_size (by repeat (first | (with_reducible first | exact HB.out | apply below_alloc | apply pw_below_drewN | apply below_drew1) | exact HB.out))) : w.heap.size ≤ gb243)); have n3_ := Aside0.mk ((by rw [hg]; exact (below_size (by repeat (first | (with_reducible first | exact HB.out | apply below_alloc | apply pw_below_drewN | apply below_drew1) | exact HB.out))) : w.heap.size ≤ gb243)); clear HB; have HB := n0_; have BK243 := n1_; have GW243 := n2_; have GE243 := n3_; clear n0_ n1_ n2_ n3_; clear hb hbox hg; have hcz5_0 : w4.cell? ⟨gb243, 0, none⟩ = some (.int .i64 0) := (blk_cell BK243.out 0).trans rfl; have hcz5_1 : w4.cell? ⟨gb243, 1, none⟩ = some (.int .u8 0) := (blk_cell BK243.out 1).trans rfl; have hcz5_2 : w4.cell? ⟨gb243, 2, none⟩ = some (.int .u8 0) := (blk_cell BK243.out 2).trans rfl; have hcz5_3 : w4.cell? ⟨gb243, 3, none⟩ = some (.slice none 0 0) := (blk_cell BK243.out 3).trans rfl; have hfz5_0 := blk_frozen BK243.out 0; have hfz5_1 := blk_frozen BK243.out 1; have hfz5_2 := blk_frozen BK243.out 2; have hfz5_3 := blk_frozen BK243.out 3))
    refine bodyPost_ret (results_ct rfl _ _ gb243 44 #[.int .i64 0, .int .u8 0, .int .u8 0, .slice none 0 0] (0, 0) _ rfl (by (with_reducible repeat (first | refine blk_drewN ?_ _ | refine blk_drew ?_ | refine blk_alloc ?_ _)); refine blk_put (cs := #[.int .i64 0, .int .u8 0, .int .u8 0, .slice none 0 0]) ?_ 3 _ rfl; (with_reducible repeat (first | refine blk_drewN ?_ _ | refine blk_drew ?_ | refine blk_alloc ?_ _)); refine blk_put (cs := #[.int .i64 0, .int .u8 0, .int .u8 0, .slice none 0 0]) ?_ 2 _ rfl; (with_reducible repeat (first | refine blk_drewN ?_ _ | refine blk_drew ?_ | refine blk_alloc ?_ _)); refine blk_put (cs := #[.int .i64 0, .int .u8 0, .int .u8 0, .slice none 0 0]) ?_ 1 _ rfl; (with_reducible repeat (first | refine blk_drewN ?_ _ | refine blk_drew ?_ | refine blk_alloc ?_ _)); refine blk_put (cs := #[.int .i64 0, .int .u8 0, .int .u8 0, .slice none 0 0]) ?_ 0 _ rfl; (with_reducible repeat (first | refine blk_drewN ?_ _ | refine blk_drew ?_ | refine blk_alloc ?_ _)); exact BK243.out) Try.underlying44 rfl (by kernel_rfl)) rfl ?_
    exact ⟨_, by first | rfl | (simp [errW_none, errW_some] <;> rfl) | (simp [*, errW_none, errW_some] <;> rfl), by first | exact Kd.R_nil _ _ _ _ _ | exact Kd.N_nil _ _ _ _ _ | exact Kd.V_nil _ _ _ _ _ | exact Kd.Q_nil _ _ _ _ _ | exact Kd.S_nil _ _ _ _ _, by repeat (first | (with_reducible first | exact HB.out | apply below_alloc | apply pw_below_drewN | apply below_drew1 | refine below_set ?_ GE243.out) | exact HB.out)⟩
  · rw [if_neg c3] at H
    have c3b0 : decide ((l0.length : Int) ≤ a1) = false := decide_eq_false c3
    clear c3
    by_cases c6 : 0 ≤ a1
    · rw [if_pos c6] at H
      have c6b0 : decide (0 ≤ a1) = true := decide_eq_true c6
      clear c6
      by_cases c7 : a1 < (l0.length : Int)
      · rw [if_pos c7] at H
        have c7b0 : decide (a1 < (l0.length : Int)) = true := decide_eq_true c7
        clear c7
        have HC8 := Aside0.mk H
        clear H
        go_enter Try.func42, Try.ntmps42
        go_upto_if 21 with (first | ((with_reducible refine gate_dst (N := 4) rfl ?_); refine box_event ?hg (N := 4) ?hd (cs := #[.int .i64 0, .int .u8 0, .int .u8 0, .slice none 0 0]) (t := 44) ?hr ?_; (case hd => rfl); (case hg => rfl); (case hr => first | (go_simp; done) | (go_simp; rfl)); intro gb243 hg w9 hbox hb; have n0_ := Aside0.mk (below_step (by repeat (first | (with_reducible first | exact HB.out | apply below_alloc | apply pw_below_drewN | apply below_drew1) | exact HB.out)) hb); have n1_ := Aside0.mk (hbox); have n2_ := Aside0.mk ((by rw [hg]; exact (below_size (by repeat (first | (with_reducible first | exact HB.out | apply below_alloc | apply pw_below_drewN | apply below_drew1) | exact HB.out))) : w.heap.size ≤ gb243)); have n3_ := Aside0.mk ((by rw [hg]; exact (below_size (by repeat (first | (with_reducible first | exact HB.out | apply below_alloc | apply pw_below_drewN | apply below_drew1) | exact HB.out))) : w.heap.size ≤ gb243)); clear HB; have HB := n0_; have BK243 := n1_; have GW243 := n2_; have GE243 := n3_; clear n0_ n1_ n2_ n3_; clear hb hbox hg; have p244 : 0 ≤ (a1 : Int) := of_decide_eq_true (by first | (with_reducible assumption) | assumption); have q244 : a1 < (l0.length : Int) := of_decide_eq_true (by first | (with_reducible assumption) | assumption); obtain ⟨ad244, e244, hx244_0⟩ := Kd.at_int HR0.out a1 p244 q244; cases e244; replace hx244_0 := (HB.out.cell (World.block_lt_of_cell? w _ hx244_0)).trans hx244_0; replace p244 := eq_true p244; replace q244 := eq_true q244))
        (try simp only [Act.put, List.setIfInBounds_toArray, List.set_cons_zero, List.set_cons_succ])
        go_cut [1] (fun v1 wc => ∃ (kq : Nat) (x1_7 : Int) (x244000_7 : Int) (x244001_7 : Int) (x244002_7 : Int), v1 = .int .i64 x1_7 ∧ Aside0 (greenscreenref05_sub.j0 kq l0 x1_7 (rd l0 a1) = some (r1, r2, r3, r4, r5)) ∧ Aside0 (kq ≤ k) ∧ Aside0 (wc.heap[gb243]? = some (.cells #[.int .i64 x244000_7, .int .u8 x244001_7, .int .u8 x244002_7, (.slice none 0 0)] 44 (0, 0))) ∧ Aside0 (Below w.heap.size w wc))
        case first =>
          have H := HC8.out
          clear HC8
          by_cases c10 : (rd l0 a1) = 255
          · rw [if_pos c10] at H
            have c10b0 : ((rd l0 a1) == 255) = true := beq_iff_eq.mpr c10
            have c10b1 : ((rd l0 a1) != 255) = false := bne_eq_false_iff_eq.mpr c10
            clear c10
            (first | rw [c10b0] | (simp only [i64_w, i32_w]; rw [c10b0]) | skip)
            by_cases c11 : (wrap64 (a1 + 1)) ≥ (l0.length : Int)
            · rw [if_pos c11] at H
              have c11b0 : decide ((l0.length : Int) ≤ (wrap64 (a1 + 1))) = true := decide_eq_true c11
              clear c11
              simp only [Option.some.injEq, Prod.mk.injEq] at H
              obtain ⟨rfl, rfl, rfl, rfl, rfl⟩ := H
              have hcz12_0 : w9.cell? ⟨gb243, 0, none⟩ = some (.int .i64 0) := (blk_cell BK243.out 0).trans rfl
              have hcz12_1 : w9.cell? ⟨gb243, 1, none⟩ = some (.int .u8 0) := (blk_cell BK243.out 1).trans rfl
              have hcz12_2 : w9.cell? ⟨gb243, 2, none⟩ = some (.int .u8 0) := (blk_cell BK243.out 2).trans rfl
              have hcz12_3 : w9.cell? ⟨gb243, 3, none⟩ = some (.slice none 0 0) := (blk_cell BK243.out 3).trans rfl
              have hfz12_0 := blk_frozen BK243.out 0
              have hfz12_1 := blk_frozen BK243.out 1
              have hfz12_2 := blk_frozen BK243.out 2
              have hfz12_3 := blk_frozen BK243.out 3
              go_wp2
              refine bodyPost_ret (results_ct rfl _ _ gb243 44 #[.int .i64 0, .int .u8 0, .int .u8 0, .slice none 0 0] (0, 0) _ rfl (by (with_reducible repeat (first | refine blk_drewN ?_ _ | refine blk_drew ?_ | refine blk_alloc ?_ _)); refine blk_put (cs := #[.int .i64 0, .int .u8 0, .int .u8 0, .slice none 0 0]) ?_ 3 _ rfl; (with_reducible repeat (first | refine blk_drewN ?_ _ | refine blk_drew ?_ | refine blk_alloc ?_ _)); refine blk_put (cs := #[.int .i64 0, .int .u8 0, .int .u8 0, .slice none 0 0]) ?_ 2 _ rfl; (with_reducible repeat (first | refine blk_drewN ?_ _ | refine blk_drew ?_ | refine blk_alloc ?_ _)); refine blk_put (cs := #[.int .i64 0, .int .u8 0, .int .u8 0, .slice none 0 0]) ?_ 1 _ rfl; (with_reducible repeat (first | refine blk_drewN ?_ _ | refine blk_drew ?_ | refine blk_alloc ?_ _)); refine blk_put (cs := #[.int .i64 0, .int .u8 0, .int .u8 0, .slice none 0 0]) ?_ 0 _ rfl; (with_reducible repeat (first | refine blk_drewN ?_ _ | refine blk_drew ?_ | refine blk_alloc ?_ _)); exact BK243.out) Try.underlying44 rfl (by kernel_rfl)) rfl ?_
              exact ⟨_, by first | rfl | (simp [errW_none, errW_some] <;> rfl) | (simp [*, errW_none, errW_some] <;> rfl), by first | exact Kd.R_nil _ _ _ _ _ | exact Kd.N_nil _ _ _ _ _ | exact Kd.V_nil _ _ _ _ _ | exact Kd.Q_nil _ _ _ _ _ | exact Kd.S_nil _ _ _ _ _, by repeat (first | (with_reducible first | exact HB.out | apply below_alloc | apply pw_below_drewN | apply below_drew1 | refine below_set ?_ GE243.out) | exact HB.out)⟩
            · rw [if_neg c11] at H
              have c11b0 : decide ((l0.length : Int) ≤ (wrap64 (a1 + 1))) = false := decide_eq_false c11
              clear c11
              obtain ⟨ji13, hji13⟩ : ∃ j_ : Int, (wrap64 (a1 + 1)) = j_ := ⟨_, rfl⟩
              replace H : (if 0 ≤ (ji13) then (if (ji13) < (l0.length : Int) then (if (rd l0 (ji13)) = 255 then (greenscreenref05_sub.j0 k l0 (wrap64 ((ji13) + 1)) (rd l0 a1)) else (some (7, 0, 0, ([] : List Int), ji13))) else (none)) else (none)) = some (r1, r2, r3, r4, r5) := by first | (rw [hji13] at H; exact H) | (simp only [hji13] at H ⊢; exact H)
              (try rw [hji13] at c11b0)
              have hji13w : (IntKind.i64.wrap (a1 + 1)) = ji13 := (i64_w _).trans hji13
              by_cases c14 : 0 ≤ (ji13)
              · rw [if_pos c14] at H
                have c14b0 : decide (0 ≤ (ji13)) = true := decide_eq_true c14
                clear c14
                by_cases c15 : (ji13) < (l0.length : Int)
                · rw [if_pos c15] at H
                  have c15b0 : decide ((ji13) < (l0.length : Int)) = true := decide_eq_true c15
                  clear c15
                  by_cases c16 : (rd l0 (ji13)) = 255
                  · rw [if_pos c16] at H
                    have c16b0 : ((rd l0 (ji13)) == 255) = true := beq_iff_eq.mpr c16
                    have c16b1 : ((rd l0 (ji13)) != 255) = false := bne_eq_false_iff_eq.mpr c16
                    clear c16
                    have H' := Aside0.mk H
                    clear H
                    have p245 : 0 ≤ ((ji13) : Int) := of_decide_eq_true (by first | (with_reducible assumption) | assumption)
                    have q245 : (ji13) < (l0.length : Int) := of_decide_eq_true (by first | (with_reducible assumption) | assumption)
                    obtain ⟨ad245, e245, hx245_0⟩ := Kd.at_int HR0.out (ji13) p245 q245
                    obtain rfl : ad244 = ad245 := (by injection e245)
                    replace hx245_0 := (HB.out.cell (World.block_lt_of_cell? w _ hx245_0)).trans hx245_0
                    replace p245 := eq_true p245
                    replace q245 := eq_true q245
                    go_wp2
                    go_meet
                    case rel => exact ⟨_, (wrap64 ((ji13) + 1)), (0), (0), (0), (by first | rfl | (simp; done) | (simp only [← hji13] <;> (first | rfl | simp)) | (simp [*]; done)), H', ⟨by first | omega | exact Nat.le_refl _⟩, ⟨by (with_reducible repeat (first | refine blk_drewN ?_ _ | refine blk_drew ?_ | refine blk_alloc ?_ _)); exact BK243.out⟩, ⟨by repeat (first | (with_reducible first | exact HB.out | apply below_alloc | apply pw_below_drewN | apply below_drew1 | refine below_set ?_ GE243.out) | exact HB.out)⟩⟩
                  · rw [if_neg c16] at H
                    have c16b0 : ((rd l0 (ji13)) == 255) = false := beq_eq_false_iff_ne.mpr c16
                    have c16b1 : ((rd l0 (ji13)) != 255) = true := bne_iff_ne.mpr c16
                    simp only [Option.some.injEq, Prod.mk.injEq] at H
                    obtain ⟨rfl, rfl, rfl, rfl, rfl⟩ := H
                    have p245 : 0 ≤ ((ji13) : Int) := of_decide_eq_true (by first | (with_reducible assumption) | assumption)
                    have q245 : (ji13) < (l0.length : Int) := of_decide_eq_true (by first | (with_reducible assumption) | assumption)
                    obtain ⟨ad245, e245, hx245_0⟩ := Kd.at_int HR0.out (ji13) p245 q245
                    obtain rfl : ad244 = ad245 := (by injection e245)
                    replace hx245_0 := (HB.out.cell (World.block_lt_of_cell? w _ hx245_0)).trans hx245_0
                    replace p245 := eq_true p245
                    replace q245 := eq_true q245
                    have hcz17_0 : w9.cell? ⟨gb243, 0, none⟩ = some (.int .i64 0) := (blk_cell BK243.out 0).trans rfl
                    have hcz17_1 : w9.cell? ⟨gb243, 1, none⟩ = some (.int .u8 0) := (blk_cell BK243.out 1).trans rfl
                    have hcz17_2 : w9.cell? ⟨gb243, 2, none⟩ = some (.int .u8 0) := (blk_cell BK243.out 2).trans rfl
                    have hcz17_3 : w9.cell? ⟨gb243, 3, none⟩ = some (.slice none 0 0) := (blk_cell BK243.out 3).trans rfl
                    have hfz17_0 := blk_frozen BK243.out 0
                    have hfz17_1 := blk_frozen BK243.out 1
                    have hfz17_2 := blk_frozen BK243.out 2
                    have hfz17_3 := blk_frozen BK243.out 3
                    go_wp2
                    refine bodyPost_ret (results_ct rfl _ _ gb243 44 #[.int .i64 7, .int .u8 0, .int .u8 0, .slice none 0 0] (0, 0) _ rfl (by (with_reducible repeat (first | refine blk_drewN ?_ _ | refine blk_drew ?_ | refine blk_alloc ?_ _)); refine blk_put (cs := #[.int .i64 7, .int .u8 0, .int .u8 0, .slice none 0 0]) ?_ 3 _ rfl; (with_reducible repeat (first | refine blk_drewN ?_ _ | refine blk_drew ?_ | refine blk_alloc ?_ _)); refine blk_put (cs := #[.int .i64 7, .int .u8 0, .int .u8 0, .slice none 0 0]) ?_ 2 _ rfl; (with_reducible repeat (first | refine blk_drewN ?_ _ | refine blk_drew ?_ | refine blk_alloc ?_ _)); refine blk_put (cs := #[.int .i64 7, .int .u8 0, .int .u8 0, .slice none 0 0]) ?_ 1 _ rfl; (with_reducible repeat (first | refine blk_drewN ?_ _ | refine blk_drew ?_ | refine blk_alloc ?_ _)); refine blk_put (cs := #[.int .i64 0, .int .u8 0, .int .u8 0, .slice none 0 0]) ?_ 0 _ rfl; (with_reducible repeat (first | refine blk_drewN ?_ _ | refine blk_drew ?_ | refine blk_alloc ?_ _)); exact BK243.out) Try.underlying44 rfl (by kernel_rfl)) rfl ?_
                    exact ⟨_, by first | rfl | (simp [errW_none, errW_some] <;> rfl) | (simp only [← hji13]; first | rfl | (simp [errW_none, errW_some] <;> rfl)) | (simp [*, errW_none, errW_some] <;> rfl), by first | exact Kd.R_nil _ _ _ _ _ | exact Kd.N_nil _ _ _ _ _ | exact Kd.V_nil _ _ _ _ _ | exact Kd.Q_nil _ _ _ _ _ | exact Kd.S_nil _ _ _ _ _, by repeat (first | (with_reducible first | exact HB.out | apply below_alloc | apply pw_below_drewN | apply below_drew1 | refine below_set ?_ GE243.out) | exact HB.out)⟩
                · rw [if_neg c15] at H
                  exact absurd H (by simp)
              · rw [if_neg c14] at H
                exact absurd H (by simp)
          · rw [if_neg c10] at H
            have c10b0 : ((rd l0 a1) == 255) = false := beq_eq_false_iff_ne.mpr c10
            have c10b1 : ((rd l0 a1) != 255) = true := bne_iff_ne.mpr c10
            (first | rw [c10b0] | (simp only [i64_w, i32_w]; rw [c10b0]) | skip)
            have H' := Aside0.mk H
            clear H
            go_wp2
            go_meet
            case rel => exact ⟨_, (wrap64 (a1 + 1)), (0), (0), (0), (by first | rfl | (simp; done) | (simp [*]; done)), H', ⟨by first | omega | exact Nat.le_refl _⟩, ⟨by (with_reducible repeat (first | refine blk_drewN ?_ _ | refine blk_drew ?_ | refine blk_alloc ?_ _)); exact BK243.out⟩, ⟨by repeat (first | (with_reducible first | exact HB.out | apply below_alloc | apply pw_below_drewN | apply below_drew1 | refine below_set ?_ GE243.out) | exact HB.out)⟩⟩
        case rest =>
          clear HC8
          try clear c1
          try clear p2
          try clear q2
          try clear hx2
          try clear c3
          try clear c3b0
          try clear c4
          try clear c6
          try clear c6b0
          try clear p6
          try clear c7
          try clear c7b0
          try clear c10
          try clear c10b0
          try clear c10b1
          try clear c11
          try clear c11b0
          try clear c14
          try clear c14b0
          try clear c15
          try clear c15b0
          try clear c16
          try clear c16b0
          try clear c16b1
          try clear hcz12_0
          try clear hcz12_1
          try clear hcz12_2
          try clear hcz12_3
          try clear hcz17_0
          try clear hcz17_1
          try clear hcz17_2
          try clear hcz17_3
          try clear hcz5_0
          try clear hcz5_1
          try clear hcz5_2
          try clear hcz5_3
          try clear hfz12_0
          try clear hfz12_1
          try clear hfz12_2
          try clear hfz12_3
          try clear hfz17_0
          try clear hfz17_1
          try clear hfz17_2
          try clear hfz17_3
          try clear hfz5_0
          try clear hfz5_1
          try clear hfz5_2
          try clear hfz5_3
          try clear hx244_0
          try clear hx245_0
          try clear p244
          try clear p245
          try clear q244
          try clear q245
          obtain ⟨kq, x1_7, x244000_7, x244001_7, x244002_7, rfl, HA, HJ7, BK243, HB⟩ := hcut
          cases kq with
          | zero => exact absurd HA.out (by simp [greenscreenref05_sub.j0])
          | succ kj7 =>
            have H := HA.out
            clear HA
            simp only [greenscreenref05_sub.j0] at H
            have H' := Aside0.mk H
            clear H
            go_wp2_with (first | ((with_reducible refine gate_dst (N := 7) rfl ?_); refine box_event ?hg (N := 7) ?hd (cs := #[.int .i64 0, .int .u8 0, .int .u8 0, .slice none 0 0]) (t := 44) ?hr ?_; (case hd => rfl); (case hg => rfl); (case hr => first | (go_simp; done) | (go_simp; rfl)); intro gb246 hg w18 hbox hb; have n0_ := Aside0.mk (blk_below (g := gb243) (o := .cells #[.int .i64 x244000_7, .int .u8 x244001_7, .int .u8 x244002_7, .slice none 0 0] 44 (0, 0)) (by (with_reducible repeat (first | refine blk_drewN ?_ _ | refine blk_drew ?_ | refine blk_alloc ?_ _)); exact BK243.out) hb); have n1_ := Aside0.mk (below_step (by repeat (first | (with_reducible first | exact HB.out | apply below_alloc | apply pw_below_drewN | apply below_drew1 | refine below_set ?_ GE243.out) | exact HB.out)) hb); have n2_ := Aside0.mk (hbox); have n3_ := Aside0.mk ((by rw [hg]; exact (below_size (by repeat (first | (with_reducible first | exact HB.out | apply below_alloc | apply pw_below_drewN | apply below_drew1 | refine below_set ?_ GE243.out) | exact HB.out))) : w.heap.size ≤ gb246)); have n4_ := Aside0.mk ((by rw [hg]; exact (below_size (by repeat (first | (with_reducible first | exact HB.out | apply below_alloc | apply pw_below_drewN | apply below_drew1 | refine below_set ?_ GE243.out) | exact HB.out))) : w.heap.size ≤ gb246)); have n5_ := Aside0.mk ((by rw [hg]; exact Nat.ne_of_lt (blk_lt (g := gb243) (o := .cells #[.int .i64 x244000_7, .int .u8 x244001_7, .int .u8 x244002_7, .slice none 0 0] 44 (0, 0)) (by (with_reducible repeat (first | refine blk_drewN ?_ _ | refine blk_drew ?_ | refine blk_alloc ?_ _)); exact BK243.out)) : gb243 ≠ gb246)); have n6_ := Aside0.mk ((by rw [hg]; exact Nat.ne_of_gt (blk_lt (g := gb243) (o := .cells #[.int .i64 x244000_7, .int .u8 x244001_7, .int .u8 x244002_7, .slice none 0 0] 44 (0, 0)) (by (with_reducible repeat (first | refine blk_drewN ?_ _ | refine blk_drew ?_ | refine blk_alloc ?_ _)); exact BK243.out)) : gb246 ≠ gb243)); clear BK243; clear HB; have BK243 := n0_; have HB := n1_; have BK246 := n2_; have GW246 := n3_; have GE246 := n4_; have NB243_246 := n5_; have NB246_243 := n6_; clear n0_ n1_ n2_ n3_ n4_ n5_ n6_; clear hb hbox hg; have hnb19 := NB246_243.out; have hnc19 := NB243_246.out; have hcz20_0 : w18.cell? ⟨gb246, 0, none⟩ = some (.int .i64 0) := (blk_cell BK246.out 0).trans rfl; have hcz20_1 : w18.cell? ⟨gb246, 1, none⟩ = some (.int .u8 0) := (blk_cell BK246.out 1).trans rfl; have hcz20_2 : w18.cell? ⟨gb246, 2, none⟩ = some (.int .u8 0) := (blk_cell BK246.out 2).trans rfl; have hcz20_3 : w18.cell? ⟨gb246, 3, none⟩ = some (.slice none 0 0) := (blk_cell BK246.out 3).trans rfl; have hfz20_0 := blk_frozen BK246.out 0; have hfz20_1 := blk_frozen BK246.out 1; have hfz20_2 := blk_frozen BK246.out 2; have hfz20_3 := blk_frozen BK246.out 3))
            go_loopg [1] kj7 (fun kq v1 w' => ∃ (x1_2 : Int) (x244000_2 : Int) (x244001_2 : Int) (x244002_2 : Int) (x247000_2 : Int) (x247003_2 : List Int) (u247003 : Value), v1 = .int .i64 x1_2 ∧ Aside0 (greenscreenref05_sub.l0 kq l0 x1_2 (rd l0 a1) x247000_2 0 (rd l0 a1) x247003_2 = some (r1, r2, r3, r4, r5)) ∧ Aside0 (kq ≤ kj7) ∧ Aside0 (Kd.R (Kd.int .u8) 5 w' w.heap.size (fun _ => True) u247003 x247003_2) ∧ Aside0 (w'.heap[gb243]? = some (.cells #[.int .i64 x244000_2, .int .u8 x244001_2, .int .u8 x244002_2, (.slice none 0 0)] 44 (0, 0))) ∧ Aside0 (w'.heap[gb246]? = some (.cells #[.int .i64 x247000_2, .int .u8 0, .int .u8 (rd l0 a1), u247003] 44 (0, 0))) ∧ Aside0 (Below w.heap.size w w'))
            case atStart => exact ⟨(x1_7), (x244000_7), (x244001_7), (x244002_7), (5), (([] : List Int)), (.slice none 0 0), (by first | rfl | (simp; done) | (simp [*]; done)), H', ⟨Nat.le_refl _⟩, ⟨by first | exact Kd.R_nil _ _ _ _ _ | exact Kd.N_nil _ _ _ _ _ | exact Kd.V_nil _ _ _ _ _ | exact Kd.Q_nil _ _ _ _ _ | exact Kd.S_nil _ _ _ _ _⟩, ⟨by (with_reducible repeat (first | refine blk_drewN ?_ _ | refine blk_drew ?_ | refine blk_alloc ?_ _)); refine blk_far ?_ NB243_246.out _; (with_reducible repeat (first | refine blk_drewN ?_ _ | refine blk_drew ?_ | refine blk_alloc ?_ _)); refine blk_far ?_ NB243_246.out _; (with_reducible repeat (first | refine blk_drewN ?_ _ | refine blk_drew ?_ | refine blk_alloc ?_ _)); refine blk_far ?_ NB243_246.out _; (with_reducible repeat (first | refine blk_drewN ?_ _ | refine blk_drew ?_ | refine blk_alloc ?_ _)); refine blk_far ?_ NB243_246.out _; (with_reducible repeat (first | refine blk_drewN ?_ _ | refine blk_drew ?_ | refine blk_alloc ?_ _)); exact BK243.out⟩, ⟨by (with_reducible repeat (first | refine blk_drewN ?_ _ | refine blk_drew ?_ | refine blk_alloc ?_ _)); refine blk_put (cs := #[.int .i64 5, .int .u8 0, .int .u8 (rd l0 a1), .slice none 0 0]) ?_ 3 _ rfl; (with_reducible repeat (first | refine blk_drewN ?_ _ | refine blk_drew ?_ | refine blk_alloc ?_ _)); refine blk_put (cs := #[.int .i64 5, .int .u8 0, .int .u8 0, .slice none 0 0]) ?_ 2 _ rfl; (with_reducible repeat (first | refine blk_drewN ?_ _ | refine blk_drew ?_ | refine blk_alloc ?_ _)); refine blk_put (cs := #[.int .i64 5, .int .u8 0, .int .u8 0, .slice none 0 0]) ?_ 1 _ rfl; (with_reducible repeat (first | refine blk_drewN ?_ _ | refine blk_drew ?_ | refine blk_alloc ?_ _)); refine blk_put (cs := #[.int .i64 0, .int .u8 0, .int .u8 0, .slice none 0 0]) ?_ 0 _ rfl; (with_reducible repeat (first | refine blk_drewN ?_ _ | refine blk_drew ?_ | refine blk_alloc ?_ _)); exact BK246.out⟩, ⟨by repeat (first | (with_reducible first | exact HB.out | apply below_alloc | apply pw_below_drewN | apply below_drew1 | refine below_set ?_ GE243.out | refine below_set ?_ GE246.out) | exact HB.out)⟩⟩
            case round =>
              clear H'
              try clear c1
              try clear p2
              try clear q2
              try clear hx2
              try clear c3
              try clear c3b0
              try clear c4
              try clear c6
              try clear c6b0
              try clear p6
              try clear c7
              try clear c7b0
              try clear c10
              try clear c10b0
              try clear c10b1
              try clear c11
              try clear c11b0
              try clear c14
              try clear c14b0
              try clear c15
              try clear c15b0
              try clear c16
              try clear c16b0
              try clear c16b1
              try clear c19
              try clear hcz12_0
              try clear hcz12_1
              try clear hcz12_2
              try clear hcz12_3
              try clear hcz17_0
              try clear hcz17_1
              try clear hcz17_2
              try clear hcz17_3
              try clear hcz20_0
              try clear hcz20_1
              try clear hcz20_2
              try clear hcz20_3
              try clear hcz5_0
              try clear hcz5_1
              try clear hcz5_2
              try clear hcz5_3
              try clear hfz12_0
              try clear hfz12_1
              try clear hfz12_2
              try clear hfz12_3
              try clear hfz17_0
              try clear hfz17_1
              try clear hfz17_2
              try clear hfz17_3
              try clear hfz20_0
              try clear hfz20_1
              try clear hfz20_2
              try clear hfz20_3
              try clear hfz5_0
              try clear hfz5_1
              try clear hfz5_2
              try clear hfz5_3
              try clear hx244_0
              try clear hx245_0
              try clear p2
              try clear p244
              try clear p245
              try clear p6
              try clear q2
              try clear q244
              try clear q245
              obtain ⟨x1_2, x244000_2, x244001_2, x244002_2, x247000_2, x247003_2, u247003, rfl, HA, HK2, HO_247003, BK243, BK246, HB⟩ := hrel
              cases gk with
              | zero => exact absurd HA.out (by simp [greenscreenref05_sub.l0])
              | succ k2 =>
                have H := HA.out
                clear HA
                simp only [greenscreenref05_sub.l0] at H
                by_cases c21 : x1_2 < (l0.length : Int)
                · rw [if_pos c21] at H
                  have c21b0 : decide (x1_2 < (l0.length : Int)) = true := decide_eq_true c21
                  clear c21
                  by_cases c22 : 0 ≤ x1_2
                  · rw [if_pos c22] at H
                    have c22b0 : decide (0 ≤ x1_2) = true := decide_eq_true c22
                    clear c22
                    by_cases c23 : (rd l0 x1_2) = 255
                    · rw [if_pos c23] at H
                      have c23b0 : ((rd l0 x1_2) == 255) = true := beq_iff_eq.mpr c23
                      have c23b1 : ((rd l0 x1_2) != 255) = false := bne_eq_false_iff_eq.mpr c23
                      clear c23
                      by_cases c24 : (wrap64 (x1_2 + 1)) ≥ (l0.length : Int)
                      · rw [if_pos c24] at H
                        have c24b0 : decide ((l0.length : Int) ≤ (wrap64 (x1_2 + 1))) = true := decide_eq_true c24
                        clear c24
                        simp only [Option.some.injEq, Prod.mk.injEq] at H
                        obtain ⟨rfl, rfl, rfl, rfl, rfl⟩ := H
                        have p247 : 0 ≤ (x1_2 : Int) := of_decide_eq_true (by first | (with_reducible assumption) | assumption)
                        have q247 : x1_2 < (l0.length : Int) := of_decide_eq_true (by first | (with_reducible assumption) | assumption)
                        obtain ⟨ad247, e247, hx247_0⟩ := Kd.at_int HR0.out x1_2 p247 q247
                        obtain rfl : ad244 = ad247 := (by injection e247)
                        replace hx247_0 := (HB.out.cell (World.block_lt_of_cell? w _ hx247_0)).trans hx247_0
                        replace p247 := eq_true p247
                        replace q247 := eq_true q247
                        have hnb25 := NB243_246.out
                        have hnc25 := NB246_243.out
                        have hcz26_0 : wr.cell? ⟨gb243, 0, none⟩ = some (.int .i64 x244000_2) := (blk_cell BK243.out 0).trans rfl
                        have hcz26_1 : wr.cell? ⟨gb243, 1, none⟩ = some (.int .u8 x244001_2) := (blk_cell BK243.out 1).trans rfl
                        have hcz26_2 : wr.cell? ⟨gb243, 2, none⟩ = some (.int .u8 x244002_2) := (blk_cell BK243.out 2).trans rfl
                        have hcz26_3 : wr.cell? ⟨gb243, 3, none⟩ = some (.slice none 0 0) := (blk_cell BK243.out 3).trans rfl
                        have hfz26_0 := blk_frozen BK243.out 0
                        have hfz26_1 := blk_frozen BK243.out 1
                        have hfz26_2 := blk_frozen BK243.out 2
                        have hfz26_3 := blk_frozen BK243.out 3
                        go_wp2
                        refine bodyPost_ret (results_ct rfl _ _ gb243 44 #[.int .i64 0, .int .u8 0, .int .u8 0, .slice none 0 0] (0, 0) _ rfl (by (with_reducible repeat (first | refine blk_drewN ?_ _ | refine blk_drew ?_ | refine blk_alloc ?_ _)); refine blk_put (cs := #[.int .i64 0, .int .u8 0, .int .u8 0, .slice none 0 0]) ?_ 3 _ rfl; (with_reducible repeat (first | refine blk_drewN ?_ _ | refine blk_drew ?_ | refine blk_alloc ?_ _)); refine blk_put (cs := #[.int .i64 0, .int .u8 0, .int .u8 x244002_2, .slice none 0 0]) ?_ 2 _ rfl; (with_reducible repeat (first | refine blk_drewN ?_ _ | refine blk_drew ?_ | refine blk_alloc ?_ _)); refine blk_put (cs := #[.int .i64 0, .int .u8 x244001_2, .int .u8 x244002_2, .slice none 0 0]) ?_ 1 _ rfl; (with_reducible repeat (first | refine blk_drewN ?_ _ | refine blk_drew ?_ | refine blk_alloc ?_ _)); refine blk_put (cs := #[.int .i64 x244000_2, .int .u8 x244001_2, .int .u8 x244002_2, .slice none 0 0]) ?_ 0 _ rfl; (with_reducible repeat (first | refine blk_drewN ?_ _ | refine blk_drew ?_ | refine blk_alloc ?_ _)); exact BK243.out) Try.underlying44 rfl (by kernel_rfl)) rfl ?_
                        exact ⟨_, by first | rfl | (simp [errW_none, errW_some] <;> rfl) | (simp [*, errW_none, errW_some] <;> rfl), by first | exact Kd.R_nil _ _ _ _ _ | exact Kd.N_nil _ _ _ _ _ | exact Kd.V_nil _ _ _ _ _ | exact Kd.Q_nil _ _ _ _ _ | exact Kd.S_nil _ _ _ _ _, by repeat (first | (with_reducible first | exact HB.out | apply below_alloc | apply pw_below_drewN | apply below_drew1 | refine below_set ?_ GE243.out | refine below_set ?_ GE246.out) | exact HB.out)⟩
                      · rw [if_neg c24] at H
                        have c24b0 : decide ((l0.length : Int) ≤ (wrap64 (x1_2 + 1))) = false := decide_eq_false c24
                        clear c24
                        obtain ⟨ji27, hji27⟩ : ∃ j_ : Int, (wrap64 (x1_2 + 1)) = j_ := ⟨_, rfl⟩
                        replace H : (if 0 ≤ (ji27) then (if (ji27) < (l0.length : Int) then (if (rd l0 (ji27)) = 240 then (some (x247000_2, 0, (rd l0 a1), x247003_2, wrap64 ((ji27) + 1))) else (if (rd l0 (ji27)) = 255 then (if (x247003_2.length : Int) ≥ 256 then (greenscreenref05_sub.l0 k2 l0 (wrap64 ((ji27) + 1)) (rd l0 a1) 6 0 (rd l0 a1) x247003_2) else (if x247003_2.length < 140737488355328 then (greenscreenref05_sub.l0 k2 l0 (wrap64 ((ji27) + 1)) (rd l0 a1) x247000_2 0 (rd l0 a1) (x247003_2 ++ [rd l0 x1_2])) else (none))) else (some (7, 0, (rd l0 a1), ([] : List Int), ji27)))) else (none)) else (none)) = some (r1, r2, r3, r4, r5) := by first | (rw [hji27] at H; exact H) | (simp only [hji27] at H ⊢; exact H)
                        (try rw [hji27] at c24b0)
                        have hji27w : (IntKind.i64.wrap (x1_2 + 1)) = ji27 := (i64_w _).trans hji27
                        by_cases c28 : 0 ≤ (ji27)
                        · rw [if_pos c28] at H
                          have c28b0 : decide (0 ≤ (ji27)) = true := decide_eq_true c28
                          clear c28
                          by_cases c29 : (ji27) < (l0.length : Int)
                          · rw [if_pos c29] at H
                            have c29b0 : decide ((ji27) < (l0.length : Int)) = true := decide_eq_true c29
                            clear c29
                            by_cases c30 : (rd l0 (ji27)) = 240
                            · rw [if_pos c30] at H
                              have c30b0 : ((rd l0 (ji27)) == 240) = true := beq_iff_eq.mpr c30
                              have c30b1 : ((rd l0 (ji27)) != 240) = false := bne_eq_false_iff_eq.mpr c30
                              clear c30
                              simp only [Option.some.injEq, Prod.mk.injEq] at H
                              obtain ⟨rfl, rfl, rfl, rfl, rfl⟩ := H
                              have p247 : 0 ≤ (x1_2 : Int) := of_decide_eq_true (by first | (with_reducible assumption) | assumption)
                              have q247 : x1_2 < (l0.length : Int) := of_decide_eq_true (by first | (with_reducible assumption) | assumption)
                              obtain ⟨ad247, e247, hx247_0⟩ := Kd.at_int HR0.out x1_2 p247 q247
                              obtain rfl : ad244 = ad247 := (by injection e247)
                              replace hx247_0 := (HB.out.cell (World.block_lt_of_cell? w _ hx247_0)).trans hx247_0
                              replace p247 := eq_true p247
                              replace q247 := eq_true q247
                              have p248 : 0 ≤ ((ji27) : Int) := of_decide_eq_true (by first | (with_reducible assumption) | assumption)
                              have q248 : (ji27) < (l0.length : Int) := of_decide_eq_true (by first | (with_reducible assumption) | assumption)
                              obtain ⟨ad248, e248, hx248_0⟩ := Kd.at_int HR0.out (ji27) p248 q248
                              obtain rfl : ad244 = ad248 := (by injection e248)
                              replace hx248_0 := (HB.out.cell (World.block_lt_of_cell? w _ hx248_0)).trans hx248_0
                              replace p248 := eq_true p248
                              replace q248 := eq_true q248
                              have hnb31 := NB246_243.out
                              have hnc31 := NB243_246.out
                              have hcz32_0 : wr.cell? ⟨gb246, 0, none⟩ = some (.int .i64 x247000_2) := (blk_cell BK246.out 0).trans rfl
                              have hcz32_1 : wr.cell? ⟨gb246, 1, none⟩ = some (.int .u8 0) := (blk_cell BK246.out 1).trans rfl
                              have hcz32_2 : wr.cell? ⟨gb246, 2, none⟩ = some (.int .u8 (rd l0 a1)) := (blk_cell BK246.out 2).trans rfl
                              have hcz32_3 : wr.cell? ⟨gb246, 3, none⟩ = some (u247003) := (blk_cell BK246.out 3).trans rfl
                              have hfz32_0 := blk_frozen BK246.out 0
                              have hfz32_1 := blk_frozen BK246.out 1
                              have hfz32_2 := blk_frozen BK246.out 2
                              have hfz32_3 := blk_frozen BK246.out 3
                              have hcz33_0 : wr.cell? ⟨gb243, 0, none⟩ = some (.int .i64 x244000_2) := (blk_cell BK243.out 0).trans rfl
                              have hcz33_1 : wr.cell? ⟨gb243, 1, none⟩ = some (.int .u8 x244001_2) := (blk_cell BK243.out 1).trans rfl
                              have hcz33_2 : wr.cell? ⟨gb243, 2, none⟩ = some (.int .u8 x244002_2) := (blk_cell BK243.out 2).trans rfl
                              have hcz33_3 : wr.cell? ⟨gb243, 3, none⟩ = some (.slice none 0 0) := (blk_cell BK243.out 3).trans rfl
                              have hfz33_0 := blk_frozen BK243.out 0
                              have hfz33_1 := blk_frozen BK243.out 1
                              have hfz33_2 := blk_frozen BK243.out 2
                              have hfz33_3 := blk_frozen BK243.out 3
                              obtain ⟨Ao34, co34, eo34⟩ := Kd.R_slice HO_247003.out
                              subst eo34
                              go_wp2
                              refine bodyPost_ret (results_ct rfl _ _ gb243 44 #[.int .i64 x247000_2, .int .u8 0, .int .u8 (rd l0 a1), .slice Ao34 x247003_2.length co34] (0, 0) _ rfl (by (with_reducible repeat (first | refine blk_drewN ?_ _ | refine blk_drew ?_ | refine blk_alloc ?_ _)); refine blk_put (cs := #[.int .i64 x247000_2, .int .u8 0, .int .u8 (rd l0 a1), .slice none 0 0]) ?_ 3 _ rfl; (with_reducible repeat (first | refine blk_drewN ?_ _ | refine blk_drew ?_ | refine blk_alloc ?_ _)); refine blk_put (cs := #[.int .i64 x247000_2, .int .u8 0, .int .u8 x244002_2, .slice none 0 0]) ?_ 2 _ rfl; (with_reducible repeat (first | refine blk_drewN ?_ _ | refine blk_drew ?_ | refine blk_alloc ?_ _)); refine blk_put (cs := #[.int .i64 x247000_2, .int .u8 x244001_2, .int .u8 x244002_2, .slice none 0 0]) ?_ 1 _ rfl; (with_reducible repeat (first | refine blk_drewN ?_ _ | refine blk_drew ?_ | refine blk_alloc ?_ _)); refine blk_put (cs := #[.int .i64 x244000_2, .int .u8 x244001_2, .int .u8 x244002_2, .slice none 0 0]) ?_ 0 _ rfl; (with_reducible repeat (first | refine blk_drewN ?_ _ | refine blk_drew ?_ | refine blk_alloc ?_ _)); exact BK243.out) Try.underlying44 rfl (by kernel_rfl)) rfl ?_
                              exact ⟨_, by first | rfl | (simp [errW_none, errW_some] <;> rfl) | (simp only [← hji27]; first | rfl | (simp [errW_none, errW_some] <;> rfl)) | (simp [*, errW_none, errW_some] <;> rfl), by (with_reducible repeat (first | apply Kd.R_alloc | apply Kd.R_drewN | apply Kd.R_drew)); exact Kd.R_mono (Kd.R_far (p := ⟨gb243, 3, none⟩) (Kd.R_far (p := ⟨gb243, 2, none⟩) (Kd.R_far (p := ⟨gb243, 1, none⟩) (Kd.R_far (p := ⟨gb243, 0, none⟩) (Kd.R_types HO_247003.out BK243.out (by decide)) (fun _ hk => hk.2) (.int .i64 x247000_2)) (fun _ hk => hk.2) (.int .u8 0)) (fun _ hk => hk.2) (.int .u8 (rd l0 a1))) (fun _ hk => hk.2) (.slice Ao34 x247003_2.length co34)) (fun _ hk => trivial), by repeat (first | (with_reducible first | exact HB.out | apply below_alloc | apply pw_below_drewN | apply below_drew1 | refine below_set ?_ GE243.out | refine below_set ?_ GE246.out) | exact HB.out)⟩
                            · rw [if_neg c30] at H
                              have c30b0 : ((rd l0 (ji27)) == 240) = false := beq_eq_false_iff_ne.mpr c30
                              have c30b1 : ((rd l0 (ji27)) != 240) = true := bne_iff_ne.mpr c30
                              by_cases c35 : (rd l0 (ji27)) = 255
                              · rw [if_pos c35] at H
                                have c35b0 : ((rd l0 (ji27)) == 255) = true := beq_iff_eq.mpr c35
                                have c35b1 : ((rd l0 (ji27)) != 255) = false := bne_eq_false_iff_eq.mpr c35
                                clear c35
                                by_cases c36 : (x247003_2.length : Int) ≥ 256
                                · rw [if_pos c36] at H
                                  have c36b0 : decide (256 ≤ (x247003_2.length : Int)) = true := decide_eq_true c36
                                  have c36b1 : decide (256 ≤ x247003_2.length) = true := decide_eq_true (by omega)
                                  clear c36
                                  have H' := Aside0.mk H
                                  clear H
                                  have p247 : 0 ≤ (x1_2 : Int) := of_decide_eq_true (by first | (with_reducible assumption) | assumption)
                                  have q247 : x1_2 < (l0.length : Int) := of_decide_eq_true (by first | (with_reducible assumption) | assumption)
                                  obtain ⟨ad247, e247, hx247_0⟩ := Kd.at_int HR0.out x1_2 p247 q247
                                  obtain rfl : ad244 = ad247 := (by injection e247)
                                  replace hx247_0 := (HB.out.cell (World.block_lt_of_cell? w _ hx247_0)).trans hx247_0
                                  replace p247 := eq_true p247
                                  replace q247 := eq_true q247
                                  have p248 : 0 ≤ ((ji27) : Int) := of_decide_eq_true (by first | (with_reducible assumption) | assumption)
                                  have q248 : (ji27) < (l0.length : Int) := of_decide_eq_true (by first | (with_reducible assumption) | assumption)
                                  obtain ⟨ad248, e248, hx248_0⟩ := Kd.at_int HR0.out (ji27) p248 q248
                                  obtain rfl : ad244 = ad248 := (by injection e248)
                                  replace hx248_0 := (HB.out.cell (World.block_lt_of_cell? w _ hx248_0)).trans hx248_0
                                  replace p248 := eq_true p248
                                  replace q248 := eq_true q248
                                  have p249 : 0 ≤ ((ji27) : Int) := of_decide_eq_true (by first | (with_reducible assumption) | assumption)
                                  have q249 : (ji27) < (l0.length : Int) := of_decide_eq_true (by first | (with_reducible assumption) | assumption)
                                  obtain ⟨ad249, e249, hx249_0⟩ := Kd.at_int HR0.out (ji27) p249 q249
                                  obtain rfl : ad244 = ad249 := (by injection e249)
                                  replace hx249_0 := (HB.out.cell (World.block_lt_of_cell? w _ hx249_0)).trans hx249_0
                                  replace p249 := eq_true p249
                                  replace q249 := eq_true q249
                                  have hnb37 := NB246_243.out
                                  have hnc37 := NB243_246.out
                                  have hcz38_0 : wr.cell? ⟨gb246, 0, none⟩ = some (.int .i64 x247000_2) := (blk_cell BK246.out 0).trans rfl
                                  have hcz38_1 : wr.cell? ⟨gb246, 1, none⟩ = some (.int .u8 0) := (blk_cell BK246.out 1).trans rfl
                                  have hcz38_2 : wr.cell? ⟨gb246, 2, none⟩ = some (.int .u8 (rd l0 a1)) := (blk_cell BK246.out 2).trans rfl
                                  have hcz38_3 : wr.cell? ⟨gb246, 3, none⟩ = some (u247003) := (blk_cell BK246.out 3).trans rfl
                                  have hfz38_0 := blk_frozen BK246.out 0
                                  have hfz38_1 := blk_frozen BK246.out 1
                                  have hfz38_2 := blk_frozen BK246.out 2
                                  have hfz38_3 := blk_frozen BK246.out 3
                                  obtain ⟨Ao39, co39, eo39⟩ := Kd.R_slice HO_247003.out
                                  subst eo39
                                  go_wp2
                                  go_roundg k2
                                  case measure => have := HJ7.out; have := HK2.out; omega
                                  case rel => exact ⟨(wrap64 ((ji27) + 1)), (x244000_2), (x244001_2), (x244002_2), (6), (x247003_2), (.slice Ao39 x247003_2.length co39), (by first | rfl | (simp; done) | (simp only [← hji27] <;> (first | rfl | simp)) | (simp [*]; done)), H', ⟨by have := HJ7.out; have := HK2.out; omega⟩, ⟨by (with_reducible repeat (first | apply Kd.R_alloc | apply Kd.R_drewN | apply Kd.R_drew)); exact Kd.R_mono (Kd.R_far (p := ⟨gb246, 0, none⟩) (Kd.R_types HO_247003.out BK246.out (by decide)) (fun _ hk => hk.2) (.int .i64 6)) (fun _ hk => trivial)⟩, ⟨by (with_reducible repeat (first | refine blk_drewN ?_ _ | refine blk_drew ?_ | refine blk_alloc ?_ _)); refine blk_far ?_ NB243_246.out _; (with_reducible repeat (first | refine blk_drewN ?_ _ | refine blk_drew ?_ | refine blk_alloc ?_ _)); exact BK243.out⟩, ⟨by (with_reducible repeat (first | refine blk_drewN ?_ _ | refine blk_drew ?_ | refine blk_alloc ?_ _)); refine blk_put (cs := #[.int .i64 x247000_2, .int .u8 0, .int .u8 (rd l0 a1), .slice Ao39 x247003_2.length co39]) ?_ 0 _ rfl; (with_reducible repeat (first | refine blk_drewN ?_ _ | refine blk_drew ?_ | refine blk_alloc ?_ _)); exact BK246.out⟩, ⟨by repeat (first | (with_reducible first | exact HB.out | apply below_alloc | apply pw_below_drewN | apply below_drew1 | refine below_set ?_ GE243.out | refine below_set ?_ GE246.out) | exact HB.out)⟩⟩
                                · rw [if_neg c36] at H
                                  have c36b0 : decide (256 ≤ (x247003_2.length : Int)) = false := decide_eq_false c36
                                  have c36b1 : decide (256 ≤ x247003_2.length) = false := decide_eq_false (by omega)
                                  clear c36
                                  by_cases c40 : x247003_2.length < 140737488355328
                                  · rw [if_pos c40] at H
                                    have LMc40 := Aside0.mk c40
                                    clear c40
                                    obtain ⟨y250, hy250⟩ : ∃ y_ : List Int, y_ = (x247003_2 ++ [rd l0 x1_2]) := ⟨_, rfl⟩
                                    replace H : (greenscreenref05_sub.l0 k2 l0 (wrap64 ((ji27) + 1)) (rd l0 a1) x247000_2 0 (rd l0 a1) y250) = some (r1, r2, r3, r4, r5) := by first | (rw [hy250]; with_reducible exact H) | (have H2_ := (Option.bind_some _ _).symm.trans H; rw [hy250]; with_reducible exact H2_) | (have H2_ := (Option.bind_some _ _).symm.trans H; with_reducible exact H2_) | with_reducible exact H | (rw [hy250]; exact H) | exact H
                                    have Ny250 := Aside0.mk hy250
                                    clear hy250
                                    have H' := Aside0.mk H
                                    clear H
                                    have p247 : 0 ≤ (x1_2 : Int) := of_decide_eq_true (by first | (with_reducible assumption) | assumption)
                                    have q247 : x1_2 < (l0.length : Int) := of_decide_eq_true (by first | (with_reducible assumption) | assumption)
                                    obtain ⟨ad247, e247, hx247_0⟩ := Kd.at_int HR0.out x1_2 p247 q247
                                    obtain rfl : ad244 = ad247 := (by injection e247)
                                    replace hx247_0 := (HB.out.cell (World.block_lt_of_cell? w _ hx247_0)).trans hx247_0
                                    replace p247 := eq_true p247
                                    replace q247 := eq_true q247
                                    have p248 : 0 ≤ ((ji27) : Int) := of_decide_eq_true (by first | (with_reducible assumption) | assumption)
                                    have q248 : (ji27) < (l0.length : Int) := of_decide_eq_true (by first | (with_reducible assumption) | assumption)
                                    obtain ⟨ad248, e248, hx248_0⟩ := Kd.at_int HR0.out (ji27) p248 q248
                                    obtain rfl : ad244 = ad248 := (by injection e248)
                                    replace hx248_0 := (HB.out.cell (World.block_lt_of_cell? w _ hx248_0)).trans hx248_0
                                    replace p248 := eq_true p248
                                    replace q248 := eq_true q248
                                    have p249 : 0 ≤ ((ji27) : Int) := of_decide_eq_true (by first | (with_reducible assumption) | assumption)
                                    have q249 : (ji27) < (l0.length : Int) := of_decide_eq_true (by first | (with_reducible assumption) | assumption)
                                    obtain ⟨ad249, e249, hx249_0⟩ := Kd.at_int HR0.out (ji27) p249 q249
                                    obtain rfl : ad244 = ad249 := (by injection e249)
                                    replace hx249_0 := (HB.out.cell (World.block_lt_of_cell? w _ hx249_0)).trans hx249_0
                                    replace p249 := eq_true p249
                                    replace q249 := eq_true q249
                                    have hnb41 := NB246_243.out
                                    have hnc41 := NB243_246.out
                                    have hcz42_0 : wr.cell? ⟨gb246, 0, none⟩ = some (.int .i64 x247000_2) := (blk_cell BK246.out 0).trans rfl
                                    have hcz42_1 : wr.cell? ⟨gb246, 1, none⟩ = some (.int .u8 0) := (blk_cell BK246.out 1).trans rfl
                                    have hcz42_2 : wr.cell? ⟨gb246, 2, none⟩ = some (.int .u8 (rd l0 a1)) := (blk_cell BK246.out 2).trans rfl
                                    have hcz42_3 : wr.cell? ⟨gb246, 3, none⟩ = some (u247003) := (blk_cell BK246.out 3).trans rfl
                                    have hfz42_0 := blk_frozen BK246.out 0
                                    have hfz42_1 := blk_frozen BK246.out 1
                                    have hfz42_2 := blk_frozen BK246.out 2
                                    have hfz42_3 := blk_frozen BK246.out 3
                                    obtain ⟨Ao43, co43, eo43⟩ := Kd.R_slice HO_247003.out
                                    subst eo43
                                    go_wp2_with (first | ((with_reducible refine gate_builtin (b := .append) (xs := #[.tmp 79, .tmp 81]) rfl ?_); at_builtin; refine Kd.R_append (Kd.int .u8) (w0 := w) w.heap.size rfl (.tmp 79) (.tmp 81) 24 5 (.int .u8 0) 1 rfl Try.underlying24 info5 rfl (by decide) (by omega) (.slice Ao43 x247003_2.length co43) x247003_2 (rd l0 x1_2) [.int .u8 (rd l0 x1_2)] (fun _ => True) (fun _ => False) rfl rfl ?aP (fun _ hk => hk.elim) ?aF ?aO ?aB ?aS ?aL ?_; (case aP => exact rfl); (case aB => exact (by repeat (first | (with_reducible first | exact HB.out | apply below_alloc | apply pw_below_drewN | apply below_drew1 | refine below_set ?_ GE243.out | refine below_set ?_ GE246.out) | exact HB.out))); (case aF => exact (fun _ _ => trivial)); (case aO => exact (by (with_reducible repeat (first | apply Kd.R_alloc | apply Kd.R_drewN | apply Kd.R_drew)); exact HO_247003.out)); (case aS => exact (below_size (by repeat (first | (with_reducible first | exact HB.out | apply below_alloc | apply pw_below_drewN | apply below_drew1 | refine below_set ?_ GE243.out | refine below_set ?_ GE246.out) | exact HB.out)))); (case aL => have := LMc40.out; omega); intro v251 w44 ho hb hg hat; rw [← Ny250.out] at ho; have n0_ := Aside0.mk (blk_grown (g := gb243) (o := .cells #[.int .i64 x244000_2, .int .u8 x244001_2, .int .u8 x244002_2, .slice none 0 0] 44 (0, 0)) (by (with_reducible repeat (first | refine blk_drewN ?_ _ | refine blk_drew ?_ | refine blk_alloc ?_ _)); exact BK243.out) hg (Kd.R_ne HO_247003.out BK243.out (by decide))); have n1_ := Aside0.mk (blk_grown (g := gb246) (o := .cells #[.int .i64 x247000_2, .int .u8 0, .int .u8 (rd l0 a1), .slice Ao43 x247003_2.length co43] 44 (0, 0)) (by (with_reducible repeat (first | refine blk_drewN ?_ _ | refine blk_drew ?_ | refine blk_alloc ?_ _)); exact BK246.out) hg (Kd.R_ne HO_247003.out BK246.out (by decide))); have n2_ := Aside0.mk (hb); have n3_ := Aside0.mk (ho); clear BK243; clear BK246; clear HB; clear HO_247003; have BK243 := n0_; have BK246 := n1_; have HB := n2_; have HO252 := n3_; clear n0_ n1_ n2_ n3_; clear ho hb hg hat; obtain ⟨Ao45, co45, eo45⟩ := Kd.R_slice HO252.out; subst eo45; have hcz46_0 : w44.cell? ⟨gb246, 0, none⟩ = some (.int .i64 x247000_2) := (blk_cell BK246.out 0).trans rfl; have hcz46_1 : w44.cell? ⟨gb246, 1, none⟩ = some (.int .u8 0) := (blk_cell BK246.out 1).trans rfl; have hcz46_2 : w44.cell? ⟨gb246, 2, none⟩ = some (.int .u8 (rd l0 a1)) := (blk_cell BK246.out 2).trans rfl; have hcz46_3 : w44.cell? ⟨gb246, 3, none⟩ = some (.slice Ao43 x247003_2.length co43) := (blk_cell BK246.out 3).trans rfl; have hfz46_0 := blk_frozen BK246.out 0; have hfz46_1 := blk_frozen BK246.out 1; have hfz46_2 := blk_frozen BK246.out 2; have hfz46_3 := blk_frozen BK246.out 3))
                                    go_roundg k2
                                    case measure => have := HJ7.out; have := HK2.out; omega
                                    case rel => exact ⟨(wrap64 ((ji27) + 1)), (x244000_2), (x244001_2), (x244002_2), (x247000_2), (y250), (.slice Ao45 y250.length co45), (by first | rfl | (simp; done) | (simp only [← hji27] <;> (first | rfl | simp)) | (simp [*]; done)), H', ⟨by have := HJ7.out; have := HK2.out; omega⟩, ⟨by (with_reducible repeat (first | apply Kd.R_alloc | apply Kd.R_drewN | apply Kd.R_drew)); exact Kd.R_mono (Kd.R_far (p := ⟨gb246, 3, none⟩) (Kd.R_types HO252.out BK246.out (by decide)) (fun _ hk => hk.2) (.slice Ao45 y250.length co45)) (fun _ hk => trivial)⟩, ⟨by (with_reducible repeat (first | refine blk_drewN ?_ _ | refine blk_drew ?_ | refine blk_alloc ?_ _)); refine blk_far ?_ NB243_246.out _; (with_reducible repeat (first | refine blk_drewN ?_ _ | refine blk_drew ?_ | refine blk_alloc ?_ _)); exact BK243.out⟩, ⟨by (with_reducible repeat (first | refine blk_drewN ?_ _ | refine blk_drew ?_ | refine blk_alloc ?_ _)); refine blk_put (cs := #[.int .i64 x247000_2, .int .u8 0, .int .u8 (rd l0 a1), .slice Ao43 x247003_2.length co43]) ?_ 3 _ rfl; (with_reducible repeat (first | refine blk_drewN ?_ _ | refine blk_drew ?_ | refine blk_alloc ?_ _)); exact BK246.out⟩, ⟨by repeat (first | (with_reducible first | exact HB.out | apply below_alloc | apply pw_below_drewN | apply below_drew1 | refine below_set ?_ GE243.out | refine below_set ?_ GE246.out) | exact HB.out)⟩⟩
                                  · rw [if_neg c40] at H
                                    exact absurd H (by simp)
                              · rw [if_neg c35] at H
                                have c35b0 : ((rd l0 (ji27)) == 255) = false := beq_eq_false_iff_ne.mpr c35
                                have c35b1 : ((rd l0 (ji27)) != 255) = true := bne_iff_ne.mpr c35
                                simp only [Option.some.injEq, Prod.mk.injEq] at H
                                obtain ⟨rfl, rfl, rfl, rfl, rfl⟩ := H
                                have p247 : 0 ≤ (x1_2 : Int) := of_decide_eq_true (by first | (with_reducible assumption) | assumption)
                                have q247 : x1_2 < (l0.length : Int) := of_decide_eq_true (by first | (with_reducible assumption) | assumption)
                                obtain ⟨ad247, e247, hx247_0⟩ := Kd.at_int HR0.out x1_2 p247 q247
                                obtain rfl : ad244 = ad247 := (by injection e247)
                                replace hx247_0 := (HB.out.cell (World.block_lt_of_cell? w _ hx247_0)).trans hx247_0
                                replace p247 := eq_true p247
                                replace q247 := eq_true q247
                                have p248 : 0 ≤ ((ji27) : Int) := of_decide_eq_true (by first | (with_reducible assumption) | assumption)
                                have q248 : (ji27) < (l0.length : Int) := of_decide_eq_true (by first | (with_reducible assumption) | assumption)
                                obtain ⟨ad248, e248, hx248_0⟩ := Kd.at_int HR0.out (ji27) p248 q248
                                obtain rfl : ad244 = ad248 := (by injection e248)
                                replace hx248_0 := (HB.out.cell (World.block_lt_of_cell? w _ hx248_0)).trans hx248_0
                                replace p248 := eq_true p248
                                replace q248 := eq_true q248
                                have p249 : 0 ≤ ((ji27) : Int) := of_decide_eq_true (by first | (with_reducible assumption) | assumption)
                                have q249 : (ji27) < (l0.length : Int) := of_decide_eq_true (by first | (with_reducible assumption) | assumption)
                                obtain ⟨ad249, e249, hx249_0⟩ := Kd.at_int HR0.out (ji27) p249 q249
                                obtain rfl : ad244 = ad249 := (by injection e249)
                                replace hx249_0 := (HB.out.cell (World.block_lt_of_cell? w _ hx249_0)).trans hx249_0
                                replace p249 := eq_true p249
                                replace q249 := eq_true q249
                                have hnb47 := NB243_246.out
                                have hnc47 := NB246_243.out
                                have hcz48_0 : wr.cell? ⟨gb243, 0, none⟩ = some (.int .i64 x244000_2) := (blk_cell BK243.out 0).trans rfl
                                have hcz48_1 : wr.cell? ⟨gb243, 1, none⟩ = some (.int .u8 x244001_2) := (blk_cell BK243.out 1).trans rfl
                                have hcz48_2 : wr.cell? ⟨gb243, 2, none⟩ = some (.int .u8 x244002_2) := (blk_cell BK243.out 2).trans rfl
                                have hcz48_3 : wr.cell? ⟨gb243, 3, none⟩ = some (.slice none 0 0) := (blk_cell BK243.out 3).trans rfl
                                have hfz48_0 := blk_frozen BK243.out 0
                                have hfz48_1 := blk_frozen BK243.out 1
                                have hfz48_2 := blk_frozen BK243.out 2
                                have hfz48_3 := blk_frozen BK243.out 3
                                go_wp2
                                refine bodyPost_ret (results_ct rfl _ _ gb243 44 #[.int .i64 7, .int .u8 0, .int .u8 (rd l0 a1), .slice none 0 0] (0, 0) _ rfl (by (with_reducible repeat (first | refine blk_drewN ?_ _ | refine blk_drew ?_ | refine blk_alloc ?_ _)); refine blk_put (cs := #[.int .i64 7, .int .u8 0, .int .u8 (rd l0 a1), .slice none 0 0]) ?_ 3 _ rfl; (with_reducible repeat (first | refine blk_drewN ?_ _ | refine blk_drew ?_ | refine blk_alloc ?_ _)); refine blk_put (cs := #[.int .i64 7, .int .u8 0, .int .u8 x244002_2, .slice none 0 0]) ?_ 2 _ rfl; (with_reducible repeat (first | refine blk_drewN ?_ _ | refine blk_drew ?_ | refine blk_alloc ?_ _)); refine blk_put (cs := #[.int .i64 7, .int .u8 x244001_2, .int .u8 x244002_2, .slice none 0 0]) ?_ 1 _ rfl; (with_reducible repeat (first | refine blk_drewN ?_ _ | refine blk_drew ?_ | refine blk_alloc ?_ _)); refine blk_put (cs := #[.int .i64 x244000_2, .int .u8 x244001_2, .int .u8 x244002_2, .slice none 0 0]) ?_ 0 _ rfl; (with_reducible repeat (first | refine blk_drewN ?_ _ | refine blk_drew ?_ | refine blk_alloc ?_ _)); exact BK243.out) Try.underlying44 rfl (by kernel_rfl)) rfl ?_
                                exact ⟨_, by first | rfl | (simp [errW_none, errW_some] <;> rfl) | (simp only [← hji27]; first | rfl | (simp [errW_none, errW_some] <;> rfl)) | (simp [*, errW_none, errW_some] <;> rfl), by first | exact Kd.R_nil _ _ _ _ _ | exact Kd.N_nil _ _ _ _ _ | exact Kd.V_nil _ _ _ _ _ | exact Kd.Q_nil _ _ _ _ _ | exact Kd.S_nil _ _ _ _ _, by repeat (first | (with_reducible first | exact HB.out | apply below_alloc | apply pw_below_drewN | apply below_drew1 | refine below_set ?_ GE243.out | refine below_set ?_ GE246.out) | exact HB.out)⟩
                          · rw [if_neg c29] at H
                            exact absurd H (by simp)
                        · rw [if_neg c28] at H
                          exact absurd H (by simp)
                    · rw [if_neg c23] at H
                      have c23b0 : ((rd l0 x1_2) == 255) = false := beq_eq_false_iff_ne.mpr c23
                      have c23b1 : ((rd l0 x1_2) != 255) = true := bne_iff_ne.mpr c23
                      by_cases c49 : (x247003_2.length : Int) ≥ 256
                      · rw [if_pos c49] at H
                        have c49b0 : decide (256 ≤ (x247003_2.length : Int)) = true := decide_eq_true c49
                        have c49b1 : decide (256 ≤ x247003_2.length) = true := decide_eq_true (by omega)
                        clear c49
                        have H' := Aside0.mk H
                        clear H
                        have p247 : 0 ≤ (x1_2 : Int) := of_decide_eq_true (by first | (with_reducible assumption) | assumption)
                        have q247 : x1_2 < (l0.length : Int) := of_decide_eq_true (by first | (with_reducible assumption) | assumption)
                        obtain ⟨ad247, e247, hx247_0⟩ := Kd.at_int HR0.out x1_2 p247 q247
                        obtain rfl : ad244 = ad247 := (by injection e247)
                        replace hx247_0 := (HB.out.cell (World.block_lt_of_cell? w _ hx247_0)).trans hx247_0
                        replace p247 := eq_true p247
                        replace q247 := eq_true q247
                        have hnb50 := NB246_243.out
                        have hnc50 := NB243_246.out
                        have hcz51_0 : wr.cell? ⟨gb246, 0, none⟩ = some (.int .i64 x247000_2) := (blk_cell BK246.out 0).trans rfl
                        have hcz51_1 : wr.cell? ⟨gb246, 1, none⟩ = some (.int .u8 0) := (blk_cell BK246.out 1).trans rfl
                        have hcz51_2 : wr.cell? ⟨gb246, 2, none⟩ = some (.int .u8 (rd l0 a1)) := (blk_cell BK246.out 2).trans rfl
                        have hcz51_3 : wr.cell? ⟨gb246, 3, none⟩ = some (u247003) := (blk_cell BK246.out 3).trans rfl
                        have hfz51_0 := blk_frozen BK246.out 0
                        have hfz51_1 := blk_frozen BK246.out 1
                        have hfz51_2 := blk_frozen BK246.out 2
                        have hfz51_3 := blk_frozen BK246.out 3
                        obtain ⟨Ao52, co52, eo52⟩ := Kd.R_slice HO_247003.out
                        subst eo52
                        go_wp2
                        go_roundg k2
                        case measure => have := HJ7.out; have := HK2.out; omega
                        case rel => exact ⟨(wrap64 (x1_2 + 1)), (x244000_2), (x244001_2), (x244002_2), (6), (x247003_2), (.slice Ao52 x247003_2.length co52), (by first | rfl | (simp; done) | (simp [*]; done)), H', ⟨by have := HJ7.out; have := HK2.out; omega⟩, ⟨by (with_reducible repeat (first | apply Kd.R_alloc | apply Kd.R_drewN | apply Kd.R_drew)); exact Kd.R_mono (Kd.R_far (p := ⟨gb246, 0, none⟩) (Kd.R_types HO_247003.out BK246.out (by decide)) (fun _ hk => hk.2) (.int .i64 6)) (fun _ hk => trivial)⟩, ⟨by (with_reducible repeat (first | refine blk_drewN ?_ _ | refine blk_drew ?_ | refine blk_alloc ?_ _)); refine blk_far ?_ NB243_246.out _; (with_reducible repeat (first | refine blk_drewN ?_ _ | refine blk_drew ?_ | refine blk_alloc ?_ _)); exact BK243.out⟩, ⟨by (with_reducible repeat (first | refine blk_drewN ?_ _ | refine blk_drew ?_ | refine blk_alloc ?_ _)); refine blk_put (cs := #[.int .i64 x247000_2, .int .u8 0, .int .u8 (rd l0 a1), .slice Ao52 x247003_2.length co52]) ?_ 0 _ rfl; (with_reducible repeat (first | refine blk_drewN ?_ _ | refine blk_drew ?_ | refine blk_alloc ?_ _)); exact BK246.out⟩, ⟨by repeat (first | (with_reducible first | exact HB.out | apply below_alloc | apply pw_below_drewN | apply below_drew1 | refine below_set ?_ GE243.out | refine below_set ?_ GE246.out) | exact HB.out)⟩⟩
                      · rw [if_neg c49] at H
                        have c49b0 : decide (256 ≤ (x247003_2.length : Int)) = false := decide_eq_false c49
                        have c49b1 : decide (256 ≤ x247003_2.length) = false := decide_eq_false (by omega)
                        clear c49
                        by_cases c53 : x247003_2.length < 140737488355328
                        · rw [if_pos c53] at H
                          have LMc53 := Aside0.mk c53
                          clear c53
                          obtain ⟨y253, hy253⟩ : ∃ y_ : List Int, y_ = (x247003_2 ++ [rd l0 x1_2]) := ⟨_, rfl⟩
                          replace H : (greenscreenref05_sub.l0 k2 l0 (wrap64 (x1_2 + 1)) (rd l0 a1) x247000_2 0 (rd l0 a1) y253) = some (r1, r2, r3, r4, r5) := by first | (rw [hy253]; with_reducible exact H) | (have H2_ := (Option.bind_some _ _).symm.trans H; rw [hy253]; with_reducible exact H2_) | (have H2_ := (Option.bind_some _ _).symm.trans H; with_reducible exact H2_) | with_reducible exact H | (rw [hy253]; exact H) | exact H
                          have Ny253 := Aside0.mk hy253
                          clear hy253
                          have H' := Aside0.mk H
                          clear H
                          have p247 : 0 ≤ (x1_2 : Int) := of_decide_eq_true (by first | (with_reducible assumption) | assumption)
                          have q247 : x1_2 < (l0.length : Int) := of_decide_eq_true (by first | (with_reducible assumption) | assumption)
                          obtain ⟨ad247, e247, hx247_0⟩ := Kd.at_int HR0.out x1_2 p247 q247
                          obtain rfl : ad244 = ad247 := (by injection e247)
                          replace hx247_0 := (HB.out.cell (World.block_lt_of_cell? w _ hx247_0)).trans hx247_0
                          replace p247 := eq_true p247
                          replace q247 := eq_true q247
                          have hnb54 := NB246_243.out
                          have hnc54 := NB243_246.out
                          have hcz55_0 : wr.cell? ⟨gb246, 0, none⟩ = some (.int .i64 x247000_2) := (blk_cell BK246.out 0).trans rfl
                          have hcz55_1 : wr.cell? ⟨gb246, 1, none⟩ = some (.int .u8 0) := (blk_cell BK246.out 1).trans rfl
                          have hcz55_2 : wr.cell? ⟨gb246, 2, none⟩ = some (.int .u8 (rd l0 a1)) := (blk_cell BK246.out 2).trans rfl
                          have hcz55_3 : wr.cell? ⟨gb246, 3, none⟩ = some (u247003) := (blk_cell BK246.out 3).trans rfl
                          have hfz55_0 := blk_frozen BK246.out 0
                          have hfz55_1 := blk_frozen BK246.out 1
                          have hfz55_2 := blk_frozen BK246.out 2
                          have hfz55_3 := blk_frozen BK246.out 3
                          obtain ⟨Ao56, co56, eo56⟩ := Kd.R_slice HO_247003.out
                          subst eo56
                          go_wp2_with (first | ((with_reducible refine gate_builtin (b := .append) (xs := #[.tmp 79, .tmp 81]) rfl ?_); at_builtin; refine Kd.R_append (Kd.int .u8) (w0 := w) w.heap.size rfl (.tmp 79) (.tmp 81) 24 5 (.int .u8 0) 1 rfl Try.underlying24 info5 rfl (by decide) (by omega) (.slice Ao56 x247003_2.length co56) x247003_2 (rd l0 x1_2) [.int .u8 (rd l0 x1_2)] (fun _ => True) (fun _ => False) rfl rfl ?aP (fun _ hk => hk.elim) ?aF ?aO ?aB ?aS ?aL ?_; (case aP => exact rfl); (case aB => exact (by repeat (first | (with_reducible first | exact HB.out | apply below_alloc | apply pw_below_drewN | apply below_drew1 | refine below_set ?_ GE243.out | refine below_set ?_ GE246.out) | exact HB.out))); (case aF => exact (fun _ _ => trivial)); (case aO => exact (by (with_reducible repeat (first | apply Kd.R_alloc | apply Kd.R_drewN | apply Kd.R_drew)); exact HO_247003.out)); (case aS => exact (below_size (by repeat (first | (with_reducible first | exact HB.out | apply below_alloc | apply pw_below_drewN | apply below_drew1 | refine below_set ?_ GE243.out | refine below_set ?_ GE246.out) | exact HB.out)))); (case aL => have := LMc53.out; omega); intro v254 w57 ho hb hg hat; rw [← Ny253.out] at ho; have n0_ := Aside0.mk (blk_grown (g := gb243) (o := .cells #[.int .i64 x244000_2, .int .u8 x244001_2, .int .u8 x244002_2, .slice none 0 0] 44 (0, 0)) (by (with_reducible repeat (first | refine blk_drewN ?_ _ | refine blk_drew ?_ | refine blk_alloc ?_ _)); exact BK243.out) hg (Kd.R_ne HO_247003.out BK243.out (by decide))); have n1_ := Aside0.mk (blk_grown (g := gb246) (o := .cells #[.int .i64 x247000_2, .int .u8 0, .int .u8 (rd l0 a1), .slice Ao56 x247003_2.length co56] 44 (0, 0)) (by (with_reducible repeat (first | refine blk_drewN ?_ _ | refine blk_drew ?_ | refine blk_alloc ?_ _)); exact BK246.out) hg (Kd.R_ne HO_247003.out BK246.out (by decide))); have n2_ := Aside0.mk (hb); have n3_ := Aside0.mk (ho); clear BK243; clear BK246; clear HB; clear HO_247003; have BK243 := n0_; have BK246 := n1_; have HB := n2_; have HO255 := n3_; clear n0_ n1_ n2_ n3_; clear ho hb hg hat; obtain ⟨Ao58, co58, eo58⟩ := Kd.R_slice HO255.out; subst eo58; have hcz59_0 : w57.cell? ⟨gb246, 0, none⟩ = some (.int .i64 x247000_2) := (blk_cell BK246.out 0).trans rfl; have hcz59_1 : w57.cell? ⟨gb246, 1, none⟩ = some (.int .u8 0) := (blk_cell BK246.out 1).trans rfl; have hcz59_2 : w57.cell? ⟨gb246, 2, none⟩ = some (.int .u8 (rd l0 a1)) := (blk_cell BK246.out 2).trans rfl; have hcz59_3 : w57.cell? ⟨gb246, 3, none⟩ = some (.slice Ao56 x247003_2.length co56) := (blk_cell BK246.out 3).trans rfl; have hfz59_0 := blk_frozen BK246.out 0; have hfz59_1 := blk_frozen BK246.out 1; have hfz59_2 := blk_frozen BK246.out 2; have hfz59_3 := blk_frozen BK246.out 3))
                          go_roundg k2
                          case measure => have := HJ7.out; have := HK2.out; omega
                          case rel => exact ⟨(wrap64 (x1_2 + 1)), (x244000_2), (x244001_2), (x244002_2), (x247000_2), (y253), (.slice Ao58 y253.length co58), (by first | rfl | (simp; done) | (simp [*]; done)), H', ⟨by have := HJ7.out; have := HK2.out; omega⟩, ⟨by (with_reducible repeat (first | apply Kd.R_alloc | apply Kd.R_drewN | apply Kd.R_drew)); exact Kd.R_mono (Kd.R_far (p := ⟨gb246, 3, none⟩) (Kd.R_types HO255.out BK246.out (by decide)) (fun _ hk => hk.2) (.slice Ao58 y253.length co58)) (fun _ hk => trivial)⟩, ⟨by (with_reducible repeat (first | refine blk_drewN ?_ _ | refine blk_drew ?_ | refine blk_alloc ?_ _)); refine blk_far ?_ NB243_246.out _; (with_reducible repeat (first | refine blk_drewN ?_ _ | refine blk_drew ?_ | refine blk_alloc ?_ _)); exact BK243.out⟩, ⟨by (with_reducible repeat (first | refine blk_drewN ?_ _ | refine blk_drew ?_ | refine blk_alloc ?_ _)); refine blk_put (cs := #[.int .i64 x247000_2, .int .u8 0, .int .u8 (rd l0 a1), .slice Ao56 x247003_2.length co56]) ?_ 3 _ rfl; (with_reducible repeat (first | refine blk_drewN ?_ _ | refine blk_drew ?_ | refine blk_alloc ?_ _)); exact BK246.out⟩, ⟨by repeat (first | (with_reducible first | exact HB.out | apply below_alloc | apply pw_below_drewN | apply below_drew1 | refine below_set ?_ GE243.out | refine below_set ?_ GE246.out) | exact HB.out)⟩⟩
                        · rw [if_neg c53] at H
                          exact absurd H (by simp)
                  · rw [if_neg c22] at H
                    exact absurd H (by simp)
                · rw [if_neg c21] at H
                  have c21b0 : decide (x1_2 < (l0.length : Int)) = false := decide_eq_false c21
                  clear c21
                  simp only [Option.some.injEq, Prod.mk.injEq] at H
                  obtain ⟨rfl, rfl, rfl, rfl, rfl⟩ := H
                  have hnb60 := NB243_246.out
                  have hnc60 := NB246_243.out
                  have hcz61_0 : wr.cell? ⟨gb243, 0, none⟩ = some (.int .i64 x244000_2) := (blk_cell BK243.out 0).trans rfl
                  have hcz61_1 : wr.cell? ⟨gb243, 1, none⟩ = some (.int .u8 x244001_2) := (blk_cell BK243.out 1).trans rfl
                  have hcz61_2 : wr.cell? ⟨gb243, 2, none⟩ = some (.int .u8 x244002_2) := (blk_cell BK243.out 2).trans rfl
                  have hcz61_3 : wr.cell? ⟨gb243, 3, none⟩ = some (.slice none 0 0) := (blk_cell BK243.out 3).trans rfl
                  have hfz61_0 := blk_frozen BK243.out 0
                  have hfz61_1 := blk_frozen BK243.out 1
                  have hfz61_2 := blk_frozen BK243.out 2
                  have hfz61_3 := blk_frozen BK243.out 3
                  go_wp2
                  refine bodyPost_ret (results_ct rfl _ _ gb243 44 #[.int .i64 0, .int .u8 0, .int .u8 0, .slice none 0 0] (0, 0) _ rfl (by (with_reducible repeat (first | refine blk_drewN ?_ _ | refine blk_drew ?_ | refine blk_alloc ?_ _)); refine blk_put (cs := #[.int .i64 0, .int .u8 0, .int .u8 0, .slice none 0 0]) ?_ 3 _ rfl; (with_reducible repeat (first | refine blk_drewN ?_ _ | refine blk_drew ?_ | refine blk_alloc ?_ _)); refine blk_put (cs := #[.int .i64 0, .int .u8 0, .int .u8 x244002_2, .slice none 0 0]) ?_ 2 _ rfl; (with_reducible repeat (first | refine blk_drewN ?_ _ | refine blk_drew ?_ | refine blk_alloc ?_ _)); refine blk_put (cs := #[.int .i64 0, .int .u8 x244001_2, .int .u8 x244002_2, .slice none 0 0]) ?_ 1 _ rfl; (with_reducible repeat (first | refine blk_drewN ?_ _ | refine blk_drew ?_ | refine blk_alloc ?_ _)); refine blk_put (cs := #[.int .i64 x244000_2, .int .u8 x244001_2, .int .u8 x244002_2, .slice none 0 0]) ?_ 0 _ rfl; (with_reducible repeat (first | refine blk_drewN ?_ _ | refine blk_drew ?_ | refine blk_alloc ?_ _)); exact BK243.out) Try.underlying44 rfl (by kernel_rfl)) rfl ?_
                  exact ⟨_, by first | rfl | (simp [errW_none, errW_some] <;> rfl) | (simp [*, errW_none, errW_some] <;> rfl), by first | exact Kd.R_nil _ _ _ _ _ | exact Kd.N_nil _ _ _ _ _ | exact Kd.V_nil _ _ _ _ _ | exact Kd.Q_nil _ _ _ _ _ | exact Kd.S_nil _ _ _ _ _, by repeat (first | (with_reducible first | exact HB.out | apply below_alloc | apply pw_below_drewN | apply below_drew1 | refine below_set ?_ GE243.out | refine below_set ?_ GE246.out) | exact HB.out)⟩
      · rw [if_neg c7] at H
        exact absurd H (by simp)
    · rw [if_neg c6] at H
      exact absurd H (by simp)

-- NOT PRINTED: function 27 (greenscreenref05_All)

end Go.Proofs.Ythkioahpnbahhaa.PIacFeeds
