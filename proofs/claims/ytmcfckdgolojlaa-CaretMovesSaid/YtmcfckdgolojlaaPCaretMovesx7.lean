-- PRINTED BY print.sh 35421559b90ae4d0a3588c463048766b98c2df88dd9212a6774a882060cdf62d: not written by this session
import Derived.Test.YtmcfckdgolojlaaPCaretMovesx0
import Derived.Test.YtmcfckdgolojlaaPCaretMovesx6
namespace Go.Proofs.Ytmcfckdgolojlaa.PCaretMoves
open Go.RowKit Go.Proofs.YtmcfckdgolojlaaW.PrintWords Go.Proofs.YtmcfckdgolojlaaW.PrintLast Go.Proofs.YtmcfckdgolojlaaW.PrintMore
attribute [local go_sem] max2_int min2_int max_two min_two max_three min_three max_four min_four   -- for this text's walks alone
set_option linter.unusedVariables false
set_option linter.unusedSimpArgs false

/-! ### greenscreenref11_Bit: function 53 -/
def greenscreenref11_Bit.f (a0 : Int) (a1 : Int) : Option (Bool) := if a1 = 0 then (none) else (some ((Int.tmod (wrap64 (Int.tdiv (wrap64 (a0)) a1)) 2) == 1))
set_option maxHeartbeats 8000000 in
set_option maxRecDepth 100000 in
theorem greenscreenref11_Bit.calls (a0 : Int) (a1 : Int) (r : Bool) (w : World) (h : greenscreenref11_Bit.f a0 a1 = some r) :
    Calls Try.prog 53 #[.int .u8 a0, .int .i64 a1] w fun e w' => e = .returned (.bool r) ∧ Drawn0 w w' := by
  have H : (if a1 = 0 then (none) else (some ((Int.tmod (wrap64 (Int.tdiv (wrap64 (a0)) a1)) 2) == 1))) = some r := h
  clear h
  by_cases c3 : a1 = 0
  · rw [if_pos c3] at H
    exact absurd H (by simp)
  · rw [if_neg c3] at H
    have c3b0 : (a1 == 0) = false := beq_eq_false_iff_ne.mpr c3
    have c3b1 : (a1 != 0) = true := bne_iff_ne.mpr c3
    obtain rfl := Option.some.inj H
    go_enter Try.func53, Try.ntmps53
    go_wp2
    go_ret
    exact ⟨by first | rfl | (simp; done) | (simp [*]; done), by repeat (first | exact Drawn0.refl _ | apply Drawn0.step)⟩

/-! ### greenscreenref19_Opens: function 15 -/
def greenscreenref19_Opens.l0 : Nat → List Int → List (S82) → Int → Option (List Int)
  | 0, _, _, _ => none
  | k + 1, x3, x4, x5 => if x5 < (x4.length : Int) then (if 0 ≤ x5 then (if ((rd_T82 x4 x5).f1) > 0 then ((greenscreenref11_Bit.f ((rd_T82 x4 x5).f2) 32).bind fun t449 => (if t449 = true then (greenscreenref19_Opens.l0 k x3 x4 (wrap64 (x5 + 1))) else (if x3.length < 17592186044416 then (greenscreenref19_Opens.l0 k (x3 ++ [(rd_T82 x4 x5).f0]) x4 (wrap64 (x5 + 1))) else (none)))) else (greenscreenref19_Opens.l0 k x3 x4 (wrap64 (x5 + 1)))) else (none)) else (some x3)
def greenscreenref19_Opens.f (k : Nat) (a0_0 : Int) (a0_1 : Int) (l0_2 : List (S38)) (a0_3 : Int) : Option (List Int) := (greenscreenref15_All.f k a0_0 a0_1 l0_2 a0_3).bind fun t444 => (greenscreenref19_Opens.l0 k (([] : List Int)) t444 0)
theorem greenscreenref19_Opens.mono_l : ∀ k, (∀ y0 y1 y2, LeO (greenscreenref19_Opens.l0 k y0 y1 y2) (greenscreenref19_Opens.l0 (k + 1) y0 y1 y2))
  | 0 => fun _ _ _ r h => by simp [greenscreenref19_Opens.l0] at h
  | k + 1 => by
    have ih0 := greenscreenref19_Opens.mono_l k
    · intro y0 y1 y2
      unfold greenscreenref19_Opens.l0
      repeat' first
      | (with_reducible exact ih0 _ _ _)
      | (with_reducible exact greenscreenref15_All.mono _ _ _ _ _)
      | (with_reducible exact LeO.refl _)
      | (with_reducible exact LeO.none _)
      | (with_reducible refine LeO.ite ?_ ?_)
      | (with_reducible refine LeO.bind ?_ (fun _ => ?_))
      | exact ih0 _ _ _
      | exact greenscreenref15_All.mono _ _ _ _ _
      | exact LeO.none _
      | refine LeO.ite ?_ ?_
      | refine LeO.bind ?_ (fun _ => ?_)
theorem greenscreenref19_Opens.mono : ∀ a0 a1 a2 a3 k, LeO (greenscreenref19_Opens.f k a0 a1 a2 a3) (greenscreenref19_Opens.f (k + 1) a0 a1 a2 a3) := by
  intro a0 a1 a2 a3 k
  have ih0 := greenscreenref19_Opens.mono_l k
  unfold greenscreenref19_Opens.f
  repeat' first
      | (with_reducible exact ih0 _ _ _)
      | (with_reducible exact greenscreenref15_All.mono _ _ _ _ _)
      | (with_reducible exact LeO.refl _)
      | (with_reducible exact LeO.none _)
      | (with_reducible refine LeO.ite ?_ ?_)
      | (with_reducible refine LeO.bind ?_ (fun _ => ?_))
      | exact ih0 _ _ _
      | exact greenscreenref15_All.mono _ _ _ _ _
      | exact LeO.none _
      | refine LeO.ite ?_ ?_
      | refine LeO.bind ?_ (fun _ => ?_)
set_option maxHeartbeats 8000000 in
set_option maxRecDepth 100000 in
theorem greenscreenref19_Opens.calls (k : Nat) (a0_0 : Int) (a0_1 : Int) (A0_2 : Option Addr) (c0_2 : Nat) (l0_2 : List (S38)) (a0_3 : Int) (r : List Int) (w : World) (hr0_2 : Kd.C k38 w A0_2 l0_2.length l0_2) (hc0_2 : l0_2.length ≤ c0_2) (h : greenscreenref19_Opens.f k a0_0 a0_1 l0_2 a0_3 = some r) :
    Calls Try.prog 15 #[.agg #[.int .i64 a0_0, .int .i64 a0_1, .slice A0_2 l0_2.length c0_2, .int .i64 a0_3]] w fun e w' => ∃ v0_ : Value, e = .returned (v0_) ∧ Kd.R (Kd.int .i64) 3 w' w.heap.size (fun _ => True) v0_ r ∧ Below w.heap.size w w' := by
  have hu28 := Try.underlying28
  have HR0_2 := Aside0.mk hr0_2
  have HC0_2 := Aside0.mk hc0_2
  clear hr0_2 hc0_2
  have HB := Aside0.mk (Below.refl w.heap.size w)
  have H : ((greenscreenref15_All.f k a0_0 a0_1 l0_2 a0_3).bind fun t444 => (greenscreenref19_Opens.l0 k (([] : List Int)) t444 0)) = some r := h
  clear h
  obtain ⟨y441, hy441⟩ : ∃ y_ : List Int, y_ = (([] : List Int)) := ⟨_, rfl⟩
  replace H : ((greenscreenref15_All.f k a0_0 a0_1 l0_2 a0_3).bind fun t444 => (greenscreenref19_Opens.l0 k y441 t444 0)) = some r := by first | (rw [hy441]; with_reducible exact H) | (have H2_ := (Option.bind_some _ _).symm.trans H; rw [hy441]; with_reducible exact H2_) | (have H2_ := (Option.bind_some _ _).symm.trans H; with_reducible exact H2_) | with_reducible exact H | (rw [hy441]; exact H) | exact H
  have Ny441 := Aside0.mk hy441
  clear hy441
  replace H := Option.bind_eq_some_iff.mp H
  obtain ⟨t444, A20, H⟩ := H
  replace H : (greenscreenref19_Opens.l0 k y441 t444 0) = some r := H
  have A2 := Aside0.mk A20
  clear A20
  have H' := Aside0.mk H
  clear H
  go_enter Try.func15, Try.ntmps15
  go_wp2_with (first | ((with_reducible refine gate_dst (N := 1) rfl ?_); refine box_event ?hg (N := 1) ?hd (cs := #[.int .i64 a0_0, .int .i64 a0_1, .slice A0_2 l0_2.length c0_2, .int .i64 a0_3]) (t := 28) ?hr ?_; (case hd => rfl); (case hg => rfl); (case hr => first | (go_simp; done) | (go_simp; rfl)); intro gb440 hg w3 hbox hb; have n0_ := Aside0.mk (below_step (by repeat (first | (with_reducible first | exact HB.out | apply below_alloc | apply pw_below_drewN | apply below_drew1) | exact HB.out)) hb); have n1_ := Aside0.mk (hbox); have n2_ := Aside0.mk ((by rw [hg]; exact (below_size (by repeat (first | (with_reducible first | exact HB.out | apply below_alloc | apply pw_below_drewN | apply below_drew1) | exact HB.out))) : w.heap.size ≤ gb440)); have n3_ := Aside0.mk ((by rw [hg]; exact (below_size (by repeat (first | (with_reducible first | exact HB.out | apply below_alloc | apply pw_below_drewN | apply below_drew1) | exact HB.out))) : w.heap.size ≤ gb440)); clear HB; have HB := n0_; have BK440 := n1_; have GW440 := n2_; have GE440 := n3_; clear n0_ n1_ n2_ n3_; clear hb hbox hg) | ((with_reducible refine gate_dst (N := 6) rfl ?_); refine Kd.R_lit (Kd.int .i64) _ 3 ?hg (N := 6) ?hd (xs := ([] : List Int)) (inner := []) (ok := fun _ => True) (okp := fun _ => True) ?hr ?hp (fun _ hk => hk) trivial (Below.refl _ _) (Nat.le_refl _) (by simp) ?_; (case hd => rfl); (case hg => rfl); (case hr => first | (go_simp; done) | (go_simp; rfl)); (case hp => exact (Reps.none _ _)); intro v442 w4 ho5 hb hg_ hnew_; clear hg_ hnew_; (first | rw [← Ny441.out] at ho5 | (simp only [Int.reduceToNat] at ho5; rw [← Ny441.out] at ho5)); have n0_ := Aside0.mk (Kd.R_lower ho5 (below_size (by repeat (first | (with_reducible first | exact HB.out | apply below_alloc | apply pw_below_drewN | apply below_drew1 | refine below_set ?_ GE440.out) | exact HB.out)))); have n1_ := Aside0.mk (blk_below (g := gb440) (o := .cells #[.int .i64 a0_0, .int .i64 a0_1, .slice A0_2 l0_2.length c0_2, .int .i64 a0_3] 28 (0, 0)) (by (with_reducible repeat (first | refine blk_drewN ?_ _ | refine blk_drew ?_ | refine blk_alloc ?_ _)); exact BK440.out) hb); have n2_ := Aside0.mk (below_step (by repeat (first | (with_reducible first | exact HB.out | apply below_alloc | apply pw_below_drewN | apply below_drew1 | refine below_set ?_ GE440.out) | exact HB.out)) hb); clear BK440; clear HB; have HO443 := n0_; have BK440 := n1_; have HB := n2_; clear n0_ n1_ n2_; clear hb ho5; have hcz6_0 : w4.cell? ⟨gb440, 0, none⟩ = some (.int .i64 a0_0) := (blk_cell BK440.out 0).trans rfl; have hcz6_1 : w4.cell? ⟨gb440, 1, none⟩ = some (.int .i64 a0_1) := (blk_cell BK440.out 1).trans rfl; have hcz6_2 : w4.cell? ⟨gb440, 2, none⟩ = some (.slice A0_2 l0_2.length c0_2) := (blk_cell BK440.out 2).trans rfl; have hcz6_3 : w4.cell? ⟨gb440, 3, none⟩ = some (.int .i64 a0_3) := (blk_cell BK440.out 3).trans rfl; have hfz6_0 := blk_frozen BK440.out 0; have hfz6_1 := blk_frozen BK440.out 1; have hfz6_2 := blk_frozen BK440.out 2; have hfz6_3 := blk_frozen BK440.out 3) | ((with_reducible refine gate_callee (f := 52) rfl ?_); refine goesL_ (some 8) rfl rfl Try.func52 (by kernel_rfl) rfl #[.agg #[.int .i64 a0_0, .int .i64 a0_1, .slice A0_2 l0_2.length c0_2, .int .i64 a0_3]] rfl (by (try simp only [List.map_toArray, List.map_cons, List.map_nil]); first | done | rfl | (simp only [List.length_drop, List.length_take]; rfl)) ?_; (with_reducible refine (greenscreenref15_All.calls k a0_0 a0_1 _ _ l0_2 a0_3 t444 _ ?side1 ?side2 A2.out).mono ?_); (case side1 => repeat (first | exact (Kd.C_below HR0_2.out HB.out) | (with_reducible refine Kd.C_alloc ?_ _) | (with_reducible refine Kd.C_drewN ?_ _) | (with_reducible refine Kd.C_drew ?_))); (case side2 => exact HC0_2.out); rintro e w7 ⟨v445, rfl, ho0, hb⟩; refine ⟨_, rfl, ?_⟩; have n0_ := Aside0.mk (Kd.R_below (by (with_reducible repeat (first | apply Kd.R_alloc | apply Kd.R_drewN | apply Kd.R_drew)); exact HO443.out) hb); have n1_ := Aside0.mk (Kd.R_lower ho0 (below_size (by repeat (first | (with_reducible first | exact HB.out | apply below_alloc | apply pw_below_drewN | apply below_drew1 | refine below_set ?_ GE440.out) | exact HB.out)))); have n2_ := Aside0.mk (blk_below (g := gb440) (o := .cells #[.int .i64 a0_0, .int .i64 a0_1, .slice A0_2 l0_2.length c0_2, .int .i64 a0_3] 28 (0, 0)) (by (with_reducible repeat (first | refine blk_drewN ?_ _ | refine blk_drew ?_ | refine blk_alloc ?_ _)); exact BK440.out) hb); have n3_ := Aside0.mk (below_step (by repeat (first | (with_reducible first | exact HB.out | apply below_alloc | apply pw_below_drewN | apply below_drew1 | refine below_set ?_ GE440.out) | exact HB.out)) hb); clear HO443; clear BK440; clear HB; have HO443 := n0_; have HO446 := n1_; have BK440 := n2_; have HB := n3_; clear n0_ n1_ n2_ n3_; (try clear hb); (try clear hb2); (try clear hk); (try clear hi); (try clear ho0)))
  go_loopg [3, 5] k (fun kq v3 v5 w' => ∃ (x3_1 : List Int) (x5_1 : Int), v5 = .int .i64 x5_1 ∧ Aside0 (greenscreenref19_Opens.l0 kq x3_1 t444 x5_1 = some r) ∧ Aside0 (kq ≤ k) ∧ Aside0 (Kd.R (Kd.int .i64) 3 w' w.heap.size (fun _ => True) v3 x3_1) ∧ Aside0 (Kd.R k82 82 w' w.heap.size (fun _ => True) v445 t444) ∧ Aside0 (w'.heap[gb440]? = some (.cells #[.int .i64 a0_0, .int .i64 a0_1, (.slice A0_2 l0_2.length c0_2), .int .i64 a0_3] 28 (0, 0))) ∧ Aside0 (Below w.heap.size w w'))
  case atStart => exact ⟨(y441), (0), (by first | rfl | (simp; done) | (simp [*]; done)), H', ⟨Nat.le_refl _⟩, ⟨by (with_reducible repeat (first | apply Kd.R_alloc | apply Kd.R_drewN | apply Kd.R_drew)); exact HO443.out⟩, ⟨by (with_reducible repeat (first | apply Kd.R_alloc | apply Kd.R_drewN | apply Kd.R_drew)); exact HO446.out⟩, ⟨by (with_reducible repeat (first | refine blk_drewN ?_ _ | refine blk_drew ?_ | refine blk_alloc ?_ _)); exact BK440.out⟩, ⟨by repeat (first | (with_reducible first | exact HB.out | apply below_alloc | apply pw_below_drewN | apply below_drew1 | refine below_set ?_ GE440.out) | exact HB.out)⟩⟩
  case round =>
    clear H'
    try clear c1
    try clear p2
    try clear c5
    try clear hcz6_0
    try clear hcz6_1
    try clear hcz6_2
    try clear hcz6_3
    try clear hfz6_0
    try clear hfz6_1
    try clear hfz6_2
    try clear hfz6_3
    obtain ⟨x3_1, x5_1, rfl, HA, HK1, HO_3, HO_4, BK440, HB⟩ := hrel
    cases gk with
    | zero => exact absurd HA.out (by simp [greenscreenref19_Opens.l0])
    | succ k1 =>
      have H := HA.out
      clear HA
      simp only [greenscreenref19_Opens.l0] at H
      by_cases c8 : x5_1 < (t444.length : Int)
      · rw [if_pos c8] at H
        have c8b0 : decide (x5_1 < (t444.length : Int)) = true := decide_eq_true c8
        clear c8
        by_cases c9 : 0 ≤ x5_1
        · rw [if_pos c9] at H
          have c9b0 : decide (0 ≤ x5_1) = true := decide_eq_true c9
          clear c9
          by_cases c10 : ((rd_T82 t444 x5_1).f1) > 0
          · rw [if_pos c10] at H
            have c10b0 : decide (0 < ((rd_T82 t444 x5_1).f1)) = true := decide_eq_true c10
            clear c10
            replace H := Option.bind_eq_some_iff.mp H
            obtain ⟨t449, A110, H⟩ := H
            replace H : (if t449 = true then (greenscreenref19_Opens.l0 k1 x3_1 t444 (wrap64 (x5_1 + 1))) else (if x3_1.length < 17592186044416 then (greenscreenref19_Opens.l0 k1 (x3_1 ++ [(rd_T82 t444 x5_1).f0]) t444 (wrap64 (x5_1 + 1))) else (none))) = some r := H
            have A11 := Aside0.mk A110
            clear A110
            by_cases c12 : t449 = true
            · subst c12
              have H1 : (greenscreenref19_Opens.l0 k1 x3_1 t444 (wrap64 (x5_1 + 1))) = some r := by rw [if_pos rfl] at H; exact H
              clear H
              have H := H1
              clear H1
              have H' := Aside0.mk H
              clear H
              obtain ⟨Ao13, co13, eo13⟩ := Kd.R_slice HO_4.out
              subst eo13
              have p447 : 0 ≤ (x5_1 : Int) := of_decide_eq_true (by first | (with_reducible assumption) | assumption)
              have q447 : x5_1 < (t444.length : Int) := of_decide_eq_true (by first | (with_reducible assumption) | assumption)
              obtain ⟨ad447, e447, hx447_0, hx447_1, hx447_2⟩ := at_T82 (Kd.R_reads' HO_4.out).2.2 x5_1 p447 q447
              cases e447
              replace p447 := eq_true p447
              replace q447 := eq_true q447
              have p448 : 0 ≤ (x5_1 : Int) := of_decide_eq_true (by first | (with_reducible assumption) | assumption)
              have q448 : x5_1 < (t444.length : Int) := of_decide_eq_true (by first | (with_reducible assumption) | assumption)
              obtain ⟨ad448, e448, hx448_0, hx448_1, hx448_2⟩ := at_T82 (Kd.R_reads' HO_4.out).2.2 x5_1 p448 q448
              obtain rfl : ad447 = ad448 := (by injection e448)
              replace p448 := eq_true p448
              replace q448 := eq_true q448
              go_wp2_with (first | (go_at_call 53; (with_reducible refine (greenscreenref11_Bit.calls ((rd_T82 t444 x5_1).f2) 32 true _ A11.out).mono ?_); rintro e w' ⟨rfl, ⟨nd, rfl⟩⟩))
              go_roundg k1
              case measure => have := HK1.out; omega
              case rel => exact ⟨(x3_1), (wrap64 (x5_1 + 1)), (by first | rfl | (simp; done) | (simp [*]; done)), H', ⟨by have := HK1.out; omega⟩, ⟨by (with_reducible repeat (first | apply Kd.R_alloc | apply Kd.R_drewN | apply Kd.R_drew)); exact HO_3.out⟩, ⟨by (with_reducible repeat (first | apply Kd.R_alloc | apply Kd.R_drewN | apply Kd.R_drew)); exact HO_4.out⟩, ⟨by (with_reducible repeat (first | refine blk_drewN ?_ _ | refine blk_drew ?_ | refine blk_alloc ?_ _)); exact BK440.out⟩, ⟨by repeat (first | (with_reducible first | exact HB.out | apply below_alloc | apply pw_below_drewN | apply below_drew1 | refine below_set ?_ GE440.out) | exact HB.out)⟩⟩
            · replace c12 := Bool.eq_false_iff.mpr c12
              subst c12
              have H1 : (if x3_1.length < 17592186044416 then (greenscreenref19_Opens.l0 k1 (x3_1 ++ [(rd_T82 t444 x5_1).f0]) t444 (wrap64 (x5_1 + 1))) else (none)) = some r := by rw [if_neg (show ¬ (false = true) by decide)] at H; exact H
              clear H
              have H := H1
              clear H1
              by_cases c14 : x3_1.length < 17592186044416
              · rw [if_pos c14] at H
                have LMc14 := Aside0.mk c14
                clear c14
                obtain ⟨y451, hy451⟩ : ∃ y_ : List Int, y_ = (x3_1 ++ [(rd_T82 t444 x5_1).f0]) := ⟨_, rfl⟩
                replace H : (greenscreenref19_Opens.l0 k1 y451 t444 (wrap64 (x5_1 + 1))) = some r := by first | (rw [hy451]; with_reducible exact H) | (have H2_ := (Option.bind_some _ _).symm.trans H; rw [hy451]; with_reducible exact H2_) | (have H2_ := (Option.bind_some _ _).symm.trans H; with_reducible exact H2_) | with_reducible exact H | (rw [hy451]; exact H) | exact H
                have Ny451 := Aside0.mk hy451
                clear hy451
                have H' := Aside0.mk H
                clear H
                obtain ⟨Ao15, co15, eo15⟩ := Kd.R_slice HO_4.out
                subst eo15
                have p447 : 0 ≤ (x5_1 : Int) := of_decide_eq_true (by first | (with_reducible assumption) | assumption)
                have q447 : x5_1 < (t444.length : Int) := of_decide_eq_true (by first | (with_reducible assumption) | assumption)
                obtain ⟨ad447, e447, hx447_0, hx447_1, hx447_2⟩ := at_T82 (Kd.R_reads' HO_4.out).2.2 x5_1 p447 q447
                cases e447
                replace p447 := eq_true p447
                replace q447 := eq_true q447
                have p448 : 0 ≤ (x5_1 : Int) := of_decide_eq_true (by first | (with_reducible assumption) | assumption)
                have q448 : x5_1 < (t444.length : Int) := of_decide_eq_true (by first | (with_reducible assumption) | assumption)
                obtain ⟨ad448, e448, hx448_0, hx448_1, hx448_2⟩ := at_T82 (Kd.R_reads' HO_4.out).2.2 x5_1 p448 q448
                obtain rfl : ad447 = ad448 := (by injection e448)
                replace p448 := eq_true p448
                replace q448 := eq_true q448
                go_wp2_with (first | (go_at_call 53; (with_reducible refine (greenscreenref11_Bit.calls ((rd_T82 t444 x5_1).f2) 32 false _ A11.out).mono ?_); rintro e w' ⟨rfl, ⟨nd, rfl⟩⟩; have p450 : 0 ≤ (x5_1 : Int) := of_decide_eq_true (by first | (with_reducible assumption) | assumption); have q450 : x5_1 < (t444.length : Int) := of_decide_eq_true (by first | (with_reducible assumption) | assumption); obtain ⟨ad450, e450, hx450_0, hx450_1, hx450_2⟩ := at_T82 (Kd.R_reads' HO_4.out).2.2 x5_1 p450 q450; obtain rfl : ad447 = ad450 := (by injection e450); replace p450 := eq_true p450; replace q450 := eq_true q450) | ((with_reducible refine gate_builtin (b := .append) (xs := #[.tmp 30, .tmp 36]) rfl ?_); at_builtin; refine Kd.R_append (Kd.int .i64) (w0 := w) w.heap.size rfl (.tmp 30) (.tmp 36) 31 3 (.int .i64 0) 8 rfl Try.underlying31 info3 rfl (by decide) (by omega) u3 x3_1 ((rd_T82 t444 x5_1).f0) [.int .i64 ((rd_T82 t444 x5_1).f0)] (fun _ => True) (fun _ => False) rfl rfl ?aP (fun _ hk => hk.elim) ?aF ?aO ?aB ?aS ?aL ?_; (case aP => exact rfl); (case aB => exact (by repeat (first | (with_reducible first | exact HB.out | apply below_alloc | apply pw_below_drewN | apply below_drew1 | refine below_set ?_ GE440.out) | exact HB.out))); (case aF => exact (fun _ _ => trivial)); (case aO => exact (by (with_reducible repeat (first | apply Kd.R_alloc | apply Kd.R_drewN | apply Kd.R_drew)); exact HO_3.out)); (case aS => exact (below_size (by repeat (first | (with_reducible first | exact HB.out | apply below_alloc | apply pw_below_drewN | apply below_drew1 | refine below_set ?_ GE440.out) | exact HB.out)))); (case aL => have := LMc14.out; omega); intro v452 w16 ho hb hg hat; rw [← Ny451.out] at ho; have n0_ := Aside0.mk (Kd.R_over' (by (with_reducible repeat (first | apply Kd.R_alloc | apply Kd.R_drewN | apply Kd.R_drew)); exact HO_4.out) (Kd.R_typed (by (with_reducible repeat (first | apply Kd.R_alloc | apply Kd.R_drewN | apply Kd.R_drew)); exact HO_3.out)) (by decide) hg); have n1_ := Aside0.mk (blk_grown (g := gb440) (o := .cells #[.int .i64 a0_0, .int .i64 a0_1, .slice A0_2 l0_2.length c0_2, .int .i64 a0_3] 28 (0, 0)) (by (with_reducible repeat (first | refine blk_drewN ?_ _ | refine blk_drew ?_ | refine blk_alloc ?_ _)); exact BK440.out) hg (Kd.R_ne HO_3.out BK440.out (by decide))); have n2_ := Aside0.mk (hb); have n3_ := Aside0.mk (ho); clear HO_4; clear BK440; clear HB; clear HO_3; have HO_4 := n0_; have BK440 := n1_; have HB := n2_; have HO453 := n3_; clear n0_ n1_ n2_ n3_; clear ho hb hg hat))
                go_roundg k1
                case measure => have := HK1.out; omega
                case rel => exact ⟨(y451), (wrap64 (x5_1 + 1)), (by first | rfl | (simp; done) | (simp [*]; done)), H', ⟨by have := HK1.out; omega⟩, ⟨by (with_reducible repeat (first | apply Kd.R_alloc | apply Kd.R_drewN | apply Kd.R_drew)); exact HO453.out⟩, ⟨by (with_reducible repeat (first | apply Kd.R_alloc | apply Kd.R_drewN | apply Kd.R_drew)); exact HO_4.out⟩, ⟨by (with_reducible repeat (first | refine blk_drewN ?_ _ | refine blk_drew ?_ | refine blk_alloc ?_ _)); exact BK440.out⟩, ⟨by repeat (first | (with_reducible first | exact HB.out | apply below_alloc | apply pw_below_drewN | apply below_drew1 | refine below_set ?_ GE440.out) | exact HB.out)⟩⟩
              · rw [if_neg c14] at H
                exact absurd H (by simp)
          · rw [if_neg c10] at H
            have c10b0 : decide (0 < ((rd_T82 t444 x5_1).f1)) = false := decide_eq_false c10
            clear c10
            have H' := Aside0.mk H
            clear H
            obtain ⟨Ao17, co17, eo17⟩ := Kd.R_slice HO_4.out
            subst eo17
            have p447 : 0 ≤ (x5_1 : Int) := of_decide_eq_true (by first | (with_reducible assumption) | assumption)
            have q447 : x5_1 < (t444.length : Int) := of_decide_eq_true (by first | (with_reducible assumption) | assumption)
            obtain ⟨ad447, e447, hx447_0, hx447_1, hx447_2⟩ := at_T82 (Kd.R_reads' HO_4.out).2.2 x5_1 p447 q447
            cases e447
            replace p447 := eq_true p447
            replace q447 := eq_true q447
            go_wp2
            go_roundg k1
            case measure => have := HK1.out; omega
            case rel => exact ⟨(x3_1), (wrap64 (x5_1 + 1)), (by first | rfl | (simp; done) | (simp [*]; done)), H', ⟨by have := HK1.out; omega⟩, ⟨by (with_reducible repeat (first | apply Kd.R_alloc | apply Kd.R_drewN | apply Kd.R_drew)); exact HO_3.out⟩, ⟨by (with_reducible repeat (first | apply Kd.R_alloc | apply Kd.R_drewN | apply Kd.R_drew)); exact HO_4.out⟩, ⟨by (with_reducible repeat (first | refine blk_drewN ?_ _ | refine blk_drew ?_ | refine blk_alloc ?_ _)); exact BK440.out⟩, ⟨by repeat (first | (with_reducible first | exact HB.out | apply below_alloc | apply pw_below_drewN | apply below_drew1 | refine below_set ?_ GE440.out) | exact HB.out)⟩⟩
        · rw [if_neg c9] at H
          exact absurd H (by simp)
      · rw [if_neg c8] at H
        have c8b0 : decide (x5_1 < (t444.length : Int)) = false := decide_eq_false c8
        clear c8
        obtain rfl := Option.some.inj H
        obtain ⟨Ao18, co18, eo18⟩ := Kd.R_slice HO_4.out
        subst eo18
        go_wp2
        go_ret
        exact ⟨_, by first | rfl | (simp [errW_none, errW_some] <;> rfl) | (simp [*, errW_none, errW_some] <;> rfl), by (with_reducible repeat (first | apply Kd.R_alloc | apply Kd.R_drewN | apply Kd.R_drew)); exact HO_3.out, by repeat (first | (with_reducible first | exact HB.out | apply below_alloc | apply pw_below_drewN | apply below_drew1 | refine below_set ?_ GE440.out) | exact HB.out)⟩

/-! ### greenscreenref19_Tab: function 29 -/
def greenscreenref19_Tab.l0 : Nat → Int → List Int → Int → Int → Int → Int → List (S38) → Int → Option (Int)
  | 0, _, _, _, _, _, _, _, _ => none
  | k + 1, x1, x5, x6, x7, x455000, x455001, x455002, x455003 => if x7 ≥ 0 then (if 0 ≤ x7 then (if x7 < (x5.length : Int) then (if (rd x5 x7) ≥ x1 then (greenscreenref19_Tab.l0 k x1 x5 (rd x5 x7) (wrap64 (x7 - 1)) x455000 x455001 x455002 x455003) else (greenscreenref19_Tab.l0 k x1 x5 x6 (wrap64 (x7 - 1)) x455000 x455001 x455002 x455003)) else (none)) else (none)) else (if (x455002.length : Int) = 0 then (none) else (some (Int.tmod (wrap64 (x6 + 1)) (x455002.length : Int))))
def greenscreenref19_Tab.f (k : Nat) (a0_0 : Int) (a0_1 : Int) (l0_2 : List (S38)) (a0_3 : Int) (a1 : Int) : Option (Int) := (greenscreenref19_Opens.f k a0_0 a0_1 l0_2 a0_3).bind fun t455 => (if (t455.length : Int) = 0 then (some 0) else (if 0 < (t455.length : Int) then (greenscreenref19_Tab.l0 k a1 t455 (rd t455 0) (wrap64 ((t455.length : Int) - 1)) a0_0 a0_1 l0_2 a0_3) else (none)))
theorem greenscreenref19_Tab.mono_l : ∀ k, (∀ y0 y1 y2 y3 y4 y5 y6 y7, LeO (greenscreenref19_Tab.l0 k y0 y1 y2 y3 y4 y5 y6 y7) (greenscreenref19_Tab.l0 (k + 1) y0 y1 y2 y3 y4 y5 y6 y7))
  | 0 => fun _ _ _ _ _ _ _ _ r h => by simp [greenscreenref19_Tab.l0] at h
  | k + 1 => by
    have ih0 := greenscreenref19_Tab.mono_l k
    · intro y0 y1 y2 y3 y4 y5 y6 y7
      unfold greenscreenref19_Tab.l0
      repeat' first
      | (with_reducible exact ih0 _ _ _ _ _ _ _ _)
      | (with_reducible exact greenscreenref19_Opens.mono _ _ _ _ _)
      | (with_reducible exact LeO.refl _)
      | (with_reducible exact LeO.none _)
      | (with_reducible refine LeO.ite ?_ ?_)
      | (with_reducible refine LeO.bind ?_ (fun _ => ?_))
      | exact ih0 _ _ _ _ _ _ _ _
      | exact greenscreenref19_Opens.mono _ _ _ _ _
      | exact LeO.none _
      | refine LeO.ite ?_ ?_
      | refine LeO.bind ?_ (fun _ => ?_)
theorem greenscreenref19_Tab.mono : ∀ a0 a1 a2 a3 a4 k, LeO (greenscreenref19_Tab.f k a0 a1 a2 a3 a4) (greenscreenref19_Tab.f (k + 1) a0 a1 a2 a3 a4) := by
  intro a0 a1 a2 a3 a4 k
  have ih0 := greenscreenref19_Tab.mono_l k
  unfold greenscreenref19_Tab.f
  repeat' first
      | (with_reducible exact ih0 _ _ _ _ _ _ _ _)
      | (with_reducible exact greenscreenref19_Opens.mono _ _ _ _ _)
      | (with_reducible exact LeO.refl _)
      | (with_reducible exact LeO.none _)
      | (with_reducible refine LeO.ite ?_ ?_)
      | (with_reducible refine LeO.bind ?_ (fun _ => ?_))
      | exact ih0 _ _ _ _ _ _ _ _
      | exact greenscreenref19_Opens.mono _ _ _ _ _
      | exact LeO.none _
      | refine LeO.ite ?_ ?_
      | refine LeO.bind ?_ (fun _ => ?_)
set_option maxHeartbeats 8000000 in
set_option maxRecDepth 100000 in
theorem greenscreenref19_Tab.calls (k : Nat) (a0_0 : Int) (a0_1 : Int) (A0_2 : Option Addr) (c0_2 : Nat) (l0_2 : List (S38)) (a0_3 : Int) (a1 : Int) (r : Int) (w : World) (hr0_2 : Kd.C k38 w A0_2 l0_2.length l0_2) (hc0_2 : l0_2.length ≤ c0_2) (h : greenscreenref19_Tab.f k a0_0 a0_1 l0_2 a0_3 a1 = some r) :
    Calls Try.prog 29 #[.agg #[.int .i64 a0_0, .int .i64 a0_1, .slice A0_2 l0_2.length c0_2, .int .i64 a0_3], .int .i64 a1] w fun e w' => e = .returned (.int .i64 r) ∧ Below w.heap.size w w' := by
  have hu28 := Try.underlying28
  have HR0_2 := Aside0.mk hr0_2
  have HC0_2 := Aside0.mk hc0_2
  clear hr0_2 hc0_2
  have HB := Aside0.mk (Below.refl w.heap.size w)
  have H : ((greenscreenref19_Opens.f k a0_0 a0_1 l0_2 a0_3).bind fun t455 => (if (t455.length : Int) = 0 then (some 0) else (if 0 < (t455.length : Int) then (greenscreenref19_Tab.l0 k a1 t455 (rd t455 0) (wrap64 ((t455.length : Int) - 1)) a0_0 a0_1 l0_2 a0_3) else (none)))) = some r := h
  clear h
  replace H := Option.bind_eq_some_iff.mp H
  obtain ⟨t455, A30, H⟩ := H
  replace H : (if (t455.length : Int) = 0 then (some 0) else (if 0 < (t455.length : Int) then (greenscreenref19_Tab.l0 k a1 t455 (rd t455 0) (wrap64 ((t455.length : Int) - 1)) a0_0 a0_1 l0_2 a0_3) else (none))) = some r := H
  have A3 := Aside0.mk A30
  clear A30
  by_cases c4 : (t455.length : Int) = 0
  · rw [if_pos c4] at H
    have c4b0 : ((t455.length : Int) == 0) = true := beq_iff_eq.mpr c4
    have c4b1 : ((t455.length : Int) != 0) = false := bne_eq_false_iff_eq.mpr c4
    clear c4
    obtain rfl := Option.some.inj H
    go_enter Try.func29, Try.ntmps29
    go_wp2_with (first | ((with_reducible refine gate_dst (N := 2) rfl ?_); refine box_event ?hg (N := 2) ?hd (cs := #[.int .i64 a0_0, .int .i64 a0_1, .slice A0_2 l0_2.length c0_2, .int .i64 a0_3]) (t := 28) ?hr ?_; (case hd => rfl); (case hg => rfl); (case hr => first | (go_simp; done) | (go_simp; rfl)); intro gb454 hg w5 hbox hb; have n0_ := Aside0.mk (below_step (by repeat (first | (with_reducible first | exact HB.out | apply below_alloc | apply pw_below_drewN | apply below_drew1) | exact HB.out)) hb); have n1_ := Aside0.mk (hbox); have n2_ := Aside0.mk ((by rw [hg]; exact (below_size (by repeat (first | (with_reducible first | exact HB.out | apply below_alloc | apply pw_below_drewN | apply below_drew1) | exact HB.out))) : w.heap.size ≤ gb454)); have n3_ := Aside0.mk ((by rw [hg]; exact (below_size (by repeat (first | (with_reducible first | exact HB.out | apply below_alloc | apply pw_below_drewN | apply below_drew1) | exact HB.out))) : w.heap.size ≤ gb454)); clear HB; have HB := n0_; have BK454 := n1_; have GW454 := n2_; have GE454 := n3_; clear n0_ n1_ n2_ n3_; clear hb hbox hg; have hcz6_0 : w5.cell? ⟨gb454, 0, none⟩ = some (.int .i64 a0_0) := (blk_cell BK454.out 0).trans rfl; have hcz6_1 : w5.cell? ⟨gb454, 1, none⟩ = some (.int .i64 a0_1) := (blk_cell BK454.out 1).trans rfl; have hcz6_2 : w5.cell? ⟨gb454, 2, none⟩ = some (.slice A0_2 l0_2.length c0_2) := (blk_cell BK454.out 2).trans rfl; have hcz6_3 : w5.cell? ⟨gb454, 3, none⟩ = some (.int .i64 a0_3) := (blk_cell BK454.out 3).trans rfl; have hfz6_0 := blk_frozen BK454.out 0; have hfz6_1 := blk_frozen BK454.out 1; have hfz6_2 := blk_frozen BK454.out 2; have hfz6_3 := blk_frozen BK454.out 3) | ((with_reducible refine gate_callee (f := 15) rfl ?_); refine goesL_ (some 9) rfl rfl Try.func15 (by kernel_rfl) rfl #[.agg #[.int .i64 a0_0, .int .i64 a0_1, .slice A0_2 l0_2.length c0_2, .int .i64 a0_3]] rfl (by (try simp only [List.map_toArray, List.map_cons, List.map_nil]); first | done | rfl | (simp only [List.length_drop, List.length_take]; rfl)) ?_; (with_reducible refine (greenscreenref19_Opens.calls k a0_0 a0_1 _ _ l0_2 a0_3 t455 _ ?side1 ?side2 A3.out).mono ?_); (case side1 => repeat (first | exact (Kd.C_below HR0_2.out HB.out) | (with_reducible refine Kd.C_alloc ?_ _) | (with_reducible refine Kd.C_drewN ?_ _) | (with_reducible refine Kd.C_drew ?_))); (case side2 => exact HC0_2.out); rintro e w7 ⟨v456, rfl, ho0, hb⟩; refine ⟨_, rfl, ?_⟩; have n0_ := Aside0.mk (Kd.R_lower ho0 (below_size (by repeat (first | (with_reducible first | exact HB.out | apply below_alloc | apply pw_below_drewN | apply below_drew1 | refine below_set ?_ GE454.out) | exact HB.out)))); have n1_ := Aside0.mk (blk_below (g := gb454) (o := .cells #[.int .i64 a0_0, .int .i64 a0_1, .slice A0_2 l0_2.length c0_2, .int .i64 a0_3] 28 (0, 0)) (by (with_reducible repeat (first | refine blk_drewN ?_ _ | refine blk_drew ?_ | refine blk_alloc ?_ _)); exact BK454.out) hb); have n2_ := Aside0.mk (below_step (by repeat (first | (with_reducible first | exact HB.out | apply below_alloc | apply pw_below_drewN | apply below_drew1 | refine below_set ?_ GE454.out) | exact HB.out)) hb); clear BK454; clear HB; have HO457 := n0_; have BK454 := n1_; have HB := n2_; clear n0_ n1_ n2_; (try clear hb); (try clear hb2); (try clear hk); (try clear hi); (try clear ho0); obtain ⟨Ao8, co8, eo8⟩ := Kd.R_slice HO457.out; subst eo8))
    go_ret
    exact ⟨by first | rfl | (simp [errW_none, errW_some] <;> rfl) | (simp [*, errW_none, errW_some] <;> rfl), by repeat (first | (with_reducible first | exact HB.out | apply below_alloc | apply pw_below_drewN | apply below_drew1 | refine below_set ?_ GE454.out) | exact HB.out)⟩
  · rw [if_neg c4] at H
    have c4b0 : ((t455.length : Int) == 0) = false := beq_eq_false_iff_ne.mpr c4
    have c4b1 : ((t455.length : Int) != 0) = true := bne_iff_ne.mpr c4
    have c4b2 : ¬ (t455 = []) := fun h_ => c4 (by rw [h_]; rfl)
    by_cases c9 : 0 < (t455.length : Int)
    · rw [if_pos c9] at H
      have c9b0 : decide (0 < (t455.length : Int)) = true := decide_eq_true c9
      have c9b1 : decide (0 < t455.length) = true := decide_eq_true (by omega)
      clear c9
      have H' := Aside0.mk H
      clear H
      go_enter Try.func29, Try.ntmps29
      go_wp2_with (first | ((with_reducible refine gate_dst (N := 2) rfl ?_); refine box_event ?hg (N := 2) ?hd (cs := #[.int .i64 a0_0, .int .i64 a0_1, .slice A0_2 l0_2.length c0_2, .int .i64 a0_3]) (t := 28) ?hr ?_; (case hd => rfl); (case hg => rfl); (case hr => first | (go_simp; done) | (go_simp; rfl)); intro gb454 hg w10 hbox hb; have n0_ := Aside0.mk (below_step (by repeat (first | (with_reducible first | exact HB.out | apply below_alloc | apply pw_below_drewN | apply below_drew1) | exact HB.out)) hb); have n1_ := Aside0.mk (hbox); have n2_ := Aside0.mk ((by rw [hg]; exact (below_size (by repeat (first | (with_reducible first | exact HB.out | apply below_alloc | apply pw_below_drewN | apply below_drew1) | exact HB.out))) : w.heap.size ≤ gb454)); have n3_ := Aside0.mk ((by rw [hg]; exact (below_size (by repeat (first | (with_reducible first | exact HB.out | apply below_alloc | apply pw_below_drewN | apply below_drew1) | exact HB.out))) : w.heap.size ≤ gb454)); clear HB; have HB := n0_; have BK454 := n1_; have GW454 := n2_; have GE454 := n3_; clear n0_ n1_ n2_ n3_; clear hb hbox hg; have hcz11_0 : w10.cell? ⟨gb454, 0, none⟩ = some (.int .i64 a0_0) := (blk_cell BK454.out 0).trans rfl; have hcz11_1 : w10.cell? ⟨gb454, 1, none⟩ = some (.int .i64 a0_1) := (blk_cell BK454.out 1).trans rfl; have hcz11_2 : w10.cell? ⟨gb454, 2, none⟩ = some (.slice A0_2 l0_2.length c0_2) := (blk_cell BK454.out 2).trans rfl; have hcz11_3 : w10.cell? ⟨gb454, 3, none⟩ = some (.int .i64 a0_3) := (blk_cell BK454.out 3).trans rfl; have hfz11_0 := blk_frozen BK454.out 0; have hfz11_1 := blk_frozen BK454.out 1; have hfz11_2 := blk_frozen BK454.out 2; have hfz11_3 := blk_frozen BK454.out 3) | ((with_reducible refine gate_callee (f := 15) rfl ?_); refine goesL_ (some 9) rfl rfl Try.func15 (by kernel_rfl) rfl #[.agg #[.int .i64 a0_0, .int .i64 a0_1, .slice A0_2 l0_2.length c0_2, .int .i64 a0_3]] rfl (by (try simp only [List.map_toArray, List.map_cons, List.map_nil]); first | done | rfl | (simp only [List.length_drop, List.length_take]; rfl)) ?_; (with_reducible refine (greenscreenref19_Opens.calls k a0_0 a0_1 _ _ l0_2 a0_3 t455 _ ?side1 ?side2 A3.out).mono ?_); (case side1 => repeat (first | exact (Kd.C_below HR0_2.out HB.out) | (with_reducible refine Kd.C_alloc ?_ _) | (with_reducible refine Kd.C_drewN ?_ _) | (with_reducible refine Kd.C_drew ?_))); (case side2 => exact HC0_2.out); rintro e w12 ⟨v456, rfl, ho0, hb⟩; refine ⟨_, rfl, ?_⟩; have n0_ := Aside0.mk (Kd.R_lower ho0 (below_size (by repeat (first | (with_reducible first | exact HB.out | apply below_alloc | apply pw_below_drewN | apply below_drew1 | refine below_set ?_ GE454.out) | exact HB.out)))); have n1_ := Aside0.mk (blk_below (g := gb454) (o := .cells #[.int .i64 a0_0, .int .i64 a0_1, .slice A0_2 l0_2.length c0_2, .int .i64 a0_3] 28 (0, 0)) (by (with_reducible repeat (first | refine blk_drewN ?_ _ | refine blk_drew ?_ | refine blk_alloc ?_ _)); exact BK454.out) hb); have n2_ := Aside0.mk (below_step (by repeat (first | (with_reducible first | exact HB.out | apply below_alloc | apply pw_below_drewN | apply below_drew1 | refine below_set ?_ GE454.out) | exact HB.out)) hb); clear BK454; clear HB; have HO457 := n0_; have BK454 := n1_; have HB := n2_; clear n0_ n1_ n2_; (try clear hb); (try clear hb2); (try clear hk); (try clear hi); (try clear ho0); obtain ⟨Ao13, co13, eo13⟩ := Kd.R_slice HO457.out; subst eo13; have p458 : 0 ≤ (0 : Int) := (by omega); have q458 : 0 < (t455.length : Int) := of_decide_eq_true (by first | (with_reducible assumption) | assumption); obtain ⟨ad458, e458, hx458_0⟩ := Kd.at_int (Kd.R_reads' HO457.out).2.2 0 p458 q458; cases e458; have qi458 : (0 < t455.length) = True := eq_true (by omega); (try rw [show ((0 : Int)).toNat = 0 from rfl] at hx458_0); (try rw [Addr.add_zero'] at hx458_0); replace p458 := eq_true p458; replace q458 := eq_true q458))
      go_loopg [6, 7] k (fun kq v6 v7 w' => ∃ (x6_1 : Int) (x7_1 : Int), v6 = .int .i64 x6_1 ∧ v7 = .int .i64 x7_1 ∧ Aside0 (greenscreenref19_Tab.l0 kq a1 t455 x6_1 x7_1 a0_0 a0_1 l0_2 a0_3 = some r) ∧ Aside0 (kq ≤ k) ∧ Aside0 (Kd.R (Kd.int .i64) 3 w' w.heap.size (fun _ => True) (.slice (some ad458) t455.length co13) t455) ∧ Aside0 (w'.heap[gb454]? = some (.cells #[.int .i64 a0_0, .int .i64 a0_1, (.slice A0_2 l0_2.length c0_2), .int .i64 a0_3] 28 (0, 0))) ∧ Aside0 (Below w.heap.size w w'))
      case atStart => exact ⟨(rd t455 0), (wrap64 ((t455.length : Int) - 1)), (by first | rfl | (simp; done) | (simp [*]; done)), (by first | rfl | (simp; done) | (simp [*]; done)), H', ⟨Nat.le_refl _⟩, ⟨by (with_reducible repeat (first | apply Kd.R_alloc | apply Kd.R_drewN | apply Kd.R_drew)); exact HO457.out⟩, ⟨by (with_reducible repeat (first | refine blk_drewN ?_ _ | refine blk_drew ?_ | refine blk_alloc ?_ _)); exact BK454.out⟩, ⟨by repeat (first | (with_reducible first | exact HB.out | apply below_alloc | apply pw_below_drewN | apply below_drew1 | refine below_set ?_ GE454.out) | exact HB.out)⟩⟩
      case round =>
        clear H'
        try clear c1
        try clear c2
        try clear p2
        try clear c4
        try clear c4b0
        try clear c4b1
        try clear c4b2
        try clear p4
        try clear q4
        try clear hx4
        try clear qi4
        try clear p6
        try clear c9
        try clear c9b0
        try clear c9b1
        try clear hcz11_0
        try clear hcz11_1
        try clear hcz11_2
        try clear hcz11_3
        try clear hcz6_0
        try clear hcz6_1
        try clear hcz6_2
        try clear hcz6_3
        try clear hfz11_0
        try clear hfz11_1
        try clear hfz11_2
        try clear hfz11_3
        try clear hfz6_0
        try clear hfz6_1
        try clear hfz6_2
        try clear hfz6_3
        try clear hx458_0
        try clear p458
        try clear q458
        obtain ⟨x6_1, x7_1, rfl, rfl, HA, HK1, HO_5, BK454, HB⟩ := hrel
        cases gk with
        | zero => exact absurd HA.out (by simp [greenscreenref19_Tab.l0])
        | succ k1 =>
          have H := HA.out
          clear HA
          simp only [greenscreenref19_Tab.l0] at H
          by_cases c14 : x7_1 ≥ 0
          · rw [if_pos c14] at H
            have c14b0 : decide (0 ≤ x7_1) = true := decide_eq_true c14
            clear c14
            by_cases c15 : 0 ≤ x7_1
            · rw [if_pos c15] at H
              have c15b0 : decide (0 ≤ x7_1) = true := decide_eq_true c15
              clear c15
              by_cases c16 : x7_1 < (t455.length : Int)
              · rw [if_pos c16] at H
                have c16b0 : decide (x7_1 < (t455.length : Int)) = true := decide_eq_true c16
                clear c16
                by_cases c17 : (rd t455 x7_1) ≥ a1
                · rw [if_pos c17] at H
                  have c17b0 : decide (a1 ≤ (rd t455 x7_1)) = true := decide_eq_true c17
                  clear c17
                  have H' := Aside0.mk H
                  clear H
                  have p459 : 0 ≤ (x7_1 : Int) := of_decide_eq_true (by first | (with_reducible assumption) | assumption)
                  have q459 : x7_1 < (t455.length : Int) := of_decide_eq_true (by first | (with_reducible assumption) | assumption)
                  obtain ⟨ad459, e459, hx459_0⟩ := Kd.at_int (Kd.R_reads' HO_5.out).2.2 x7_1 p459 q459
                  obtain rfl : ad458 = ad459 := (by injection e459)
                  replace p459 := eq_true p459
                  replace q459 := eq_true q459
                  have p460 : 0 ≤ (x7_1 : Int) := of_decide_eq_true (by first | (with_reducible assumption) | assumption)
                  have q460 : x7_1 < (t455.length : Int) := of_decide_eq_true (by first | (with_reducible assumption) | assumption)
                  obtain ⟨ad460, e460, hx460_0⟩ := Kd.at_int (Kd.R_reads' HO_5.out).2.2 x7_1 p460 q460
                  obtain rfl : ad458 = ad460 := (by injection e460)
                  replace p460 := eq_true p460
                  replace q460 := eq_true q460
                  go_wp2
                  go_roundg k1
                  case measure => have := HK1.out; omega
                  case rel => exact ⟨(rd t455 x7_1), (wrap64 (x7_1 - 1)), (by first | rfl | (simp; done) | (simp [*]; done)), (by first | rfl | (simp; done) | (simp [*]; done)), H', ⟨by have := HK1.out; omega⟩, ⟨by (with_reducible repeat (first | apply Kd.R_alloc | apply Kd.R_drewN | apply Kd.R_drew)); exact HO_5.out⟩, ⟨by (with_reducible repeat (first | refine blk_drewN ?_ _ | refine blk_drew ?_ | refine blk_alloc ?_ _)); exact BK454.out⟩, ⟨by repeat (first | (with_reducible first | exact HB.out | apply below_alloc | apply pw_below_drewN | apply below_drew1 | refine below_set ?_ GE454.out) | exact HB.out)⟩⟩
                · rw [if_neg c17] at H
                  have c17b0 : decide (a1 ≤ (rd t455 x7_1)) = false := decide_eq_false c17
                  clear c17
                  have H' := Aside0.mk H
                  clear H
                  have p459 : 0 ≤ (x7_1 : Int) := of_decide_eq_true (by first | (with_reducible assumption) | assumption)
                  have q459 : x7_1 < (t455.length : Int) := of_decide_eq_true (by first | (with_reducible assumption) | assumption)
                  obtain ⟨ad459, e459, hx459_0⟩ := Kd.at_int (Kd.R_reads' HO_5.out).2.2 x7_1 p459 q459
                  obtain rfl : ad458 = ad459 := (by injection e459)
                  replace p459 := eq_true p459
                  replace q459 := eq_true q459
                  go_wp2
                  go_roundg k1
                  case measure => have := HK1.out; omega
                  case rel => exact ⟨(x6_1), (wrap64 (x7_1 - 1)), (by first | rfl | (simp; done) | (simp [*]; done)), (by first | rfl | (simp; done) | (simp [*]; done)), H', ⟨by have := HK1.out; omega⟩, ⟨by (with_reducible repeat (first | apply Kd.R_alloc | apply Kd.R_drewN | apply Kd.R_drew)); exact HO_5.out⟩, ⟨by (with_reducible repeat (first | refine blk_drewN ?_ _ | refine blk_drew ?_ | refine blk_alloc ?_ _)); exact BK454.out⟩, ⟨by repeat (first | (with_reducible first | exact HB.out | apply below_alloc | apply pw_below_drewN | apply below_drew1 | refine below_set ?_ GE454.out) | exact HB.out)⟩⟩
              · rw [if_neg c16] at H
                exact absurd H (by simp)
            · rw [if_neg c15] at H
              exact absurd H (by simp)
          · rw [if_neg c14] at H
            have c14b0 : decide (0 ≤ x7_1) = false := decide_eq_false c14
            clear c14
            by_cases c18 : (l0_2.length : Int) = 0
            · rw [if_pos c18] at H
              exact absurd H (by simp)
            · rw [if_neg c18] at H
              have c18b0 : ((l0_2.length : Int) == 0) = false := beq_eq_false_iff_ne.mpr c18
              have c18b1 : ((l0_2.length : Int) != 0) = true := bne_iff_ne.mpr c18
              have c18b2 : ¬ (l0_2 = []) := fun h_ => c18 (by rw [h_]; rfl)
              obtain rfl := Option.some.inj H
              have hcz19_0 : wr.cell? ⟨gb454, 0, none⟩ = some (.int .i64 a0_0) := (blk_cell BK454.out 0).trans rfl
              have hcz19_1 : wr.cell? ⟨gb454, 1, none⟩ = some (.int .i64 a0_1) := (blk_cell BK454.out 1).trans rfl
              have hcz19_2 : wr.cell? ⟨gb454, 2, none⟩ = some (.slice A0_2 l0_2.length c0_2) := (blk_cell BK454.out 2).trans rfl
              have hcz19_3 : wr.cell? ⟨gb454, 3, none⟩ = some (.int .i64 a0_3) := (blk_cell BK454.out 3).trans rfl
              have hfz19_0 := blk_frozen BK454.out 0
              have hfz19_1 := blk_frozen BK454.out 1
              have hfz19_2 := blk_frozen BK454.out 2
              have hfz19_3 := blk_frozen BK454.out 3
              go_wp2
              go_ret
              exact ⟨by first | rfl | (simp [errW_none, errW_some] <;> rfl) | (simp [*, errW_none, errW_some] <;> rfl), by repeat (first | (with_reducible first | exact HB.out | apply below_alloc | apply pw_below_drewN | apply below_drew1 | refine below_set ?_ GE454.out) | exact HB.out)⟩
    · rw [if_neg c9] at H
      exact absurd H (by simp)

/-! ### greenscreenref14_Has: function 78 -/
def greenscreenref14_Has.f (a0_0 : Int) (a0_1 : Int) (l0_2 : List (S38)) (a0_3 : Int) (a1 : Int) : Option (Bool) := if a1 ≥ 0 then (some (decide (a1 < (l0_2.length : Int)))) else (some false)
set_option maxHeartbeats 8000000 in
set_option maxRecDepth 100000 in
theorem greenscreenref14_Has.calls (a0_0 : Int) (a0_1 : Int) (A0_2 : Option Addr) (c0_2 : Nat) (l0_2 : List (S38)) (a0_3 : Int) (a1 : Int) (r : Bool) (w : World) (hr0_2 : Kd.C k38 w A0_2 l0_2.length l0_2) (hc0_2 : l0_2.length ≤ c0_2) (h : greenscreenref14_Has.f a0_0 a0_1 l0_2 a0_3 a1 = some r) :
    Calls Try.prog 78 #[.agg #[.int .i64 a0_0, .int .i64 a0_1, .slice A0_2 l0_2.length c0_2, .int .i64 a0_3], .int .i64 a1] w fun e w' => e = .returned (.bool r) ∧ Below w.heap.size w w' := by
  have hu28 := Try.underlying28
  have HR0_2 := Aside0.mk hr0_2
  have HC0_2 := Aside0.mk hc0_2
  clear hr0_2 hc0_2
  have HB := Aside0.mk (Below.refl w.heap.size w)
  have H : (if a1 ≥ 0 then (some (decide (a1 < (l0_2.length : Int)))) else (some false)) = some r := h
  clear h
  by_cases c3 : a1 ≥ 0
  · rw [if_pos c3] at H
    have c3b0 : decide (0 ≤ a1) = true := decide_eq_true c3
    clear c3
    obtain rfl := Option.some.inj H
    go_enter Try.func78, Try.ntmps78
    go_wp2_with (first | ((with_reducible refine gate_dst (N := 2) rfl ?_); (try (refine gate_guard (by rfl) ?_; dsimp only)); refine box_event ?hg (N := 2) ?hd (cs := #[.int .i64 a0_0, .int .i64 a0_1, .slice A0_2 l0_2.length c0_2, .int .i64 a0_3]) (t := 28) ?hr ?_; (case hd => rfl); (case hg => rfl); (case hr => first | (go_simp; done) | (go_simp; rfl)); intro gb461 hg w4 hbox hb; have n0_ := Aside0.mk (below_step (by repeat (first | (with_reducible first | exact HB.out | apply below_alloc | apply pw_below_drewN | apply below_drew1) | exact HB.out)) hb); have n1_ := Aside0.mk (hbox); have n2_ := Aside0.mk ((by rw [hg]; exact (below_size (by repeat (first | (with_reducible first | exact HB.out | apply below_alloc | apply pw_below_drewN | apply below_drew1) | exact HB.out))) : w.heap.size ≤ gb461)); have n3_ := Aside0.mk ((by rw [hg]; exact (below_size (by repeat (first | (with_reducible first | exact HB.out | apply below_alloc | apply pw_below_drewN | apply below_drew1) | exact HB.out))) : w.heap.size ≤ gb461)); clear HB; have HB := n0_; have BK461 := n1_; have GW461 := n2_; have GE461 := n3_; clear n0_ n1_ n2_ n3_; clear hb hbox hg; have hcz5_0 : w4.cell? ⟨gb461, 0, none⟩ = some (.int .i64 a0_0) := (blk_cell BK461.out 0).trans rfl; have hcz5_1 : w4.cell? ⟨gb461, 1, none⟩ = some (.int .i64 a0_1) := (blk_cell BK461.out 1).trans rfl; have hcz5_2 : w4.cell? ⟨gb461, 2, none⟩ = some (.slice A0_2 l0_2.length c0_2) := (blk_cell BK461.out 2).trans rfl; have hcz5_3 : w4.cell? ⟨gb461, 3, none⟩ = some (.int .i64 a0_3) := (blk_cell BK461.out 3).trans rfl; have hfz5_0 := blk_frozen BK461.out 0; have hfz5_1 := blk_frozen BK461.out 1; have hfz5_2 := blk_frozen BK461.out 2; have hfz5_3 := blk_frozen BK461.out 3))
    go_ret
    exact ⟨by first | rfl | (simp [errW_none, errW_some] <;> rfl) | (simp [*, errW_none, errW_some] <;> rfl), by repeat (first | (with_reducible first | exact HB.out | apply below_alloc | apply pw_below_drewN | apply below_drew1 | refine below_set ?_ GE461.out) | exact HB.out)⟩
  · rw [if_neg c3] at H
    have c3b0 : decide (0 ≤ a1) = false := decide_eq_false c3
    clear c3
    obtain rfl := Option.some.inj H
    go_enter Try.func78, Try.ntmps78
    go_wp2_with (first | ((with_reducible refine gate_dst (N := 2) rfl ?_); (try (refine gate_guard (by rfl) ?_; dsimp only)); refine box_event ?hg (N := 2) ?hd (cs := #[.int .i64 a0_0, .int .i64 a0_1, .slice A0_2 l0_2.length c0_2, .int .i64 a0_3]) (t := 28) ?hr ?_; (case hd => rfl); (case hg => rfl); (case hr => first | (go_simp; done) | (go_simp; rfl)); intro gb461 hg w6 hbox hb; have n0_ := Aside0.mk (below_step (by repeat (first | (with_reducible first | exact HB.out | apply below_alloc | apply pw_below_drewN | apply below_drew1) | exact HB.out)) hb); have n1_ := Aside0.mk (hbox); have n2_ := Aside0.mk ((by rw [hg]; exact (below_size (by repeat (first | (with_reducible first | exact HB.out | apply below_alloc | apply pw_below_drewN | apply below_drew1) | exact HB.out))) : w.heap.size ≤ gb461)); have n3_ := Aside0.mk ((by rw [hg]; exact (below_size (by repeat (first | (with_reducible first | exact HB.out | apply below_alloc | apply pw_below_drewN | apply below_drew1) | exact HB.out))) : w.heap.size ≤ gb461)); clear HB; have HB := n0_; have BK461 := n1_; have GW461 := n2_; have GE461 := n3_; clear n0_ n1_ n2_ n3_; clear hb hbox hg))
    go_ret
    exact ⟨by first | rfl | (simp [errW_none, errW_some] <;> rfl) | (simp [*, errW_none, errW_some] <;> rfl), by repeat (first | (with_reducible first | exact HB.out | apply below_alloc | apply pw_below_drewN | apply below_drew1 | refine below_set ?_ GE461.out) | exact HB.out)⟩

/-! ### greenscreenref01_Held: function 108 -/
def greenscreenref01_Held.f (a0 : Int) (a1 : Int) (a2 : Int) : Option (Int) := if a0 < a1 then (some a1) else (if a0 > a2 then (some a2) else (some a0))
set_option maxHeartbeats 8000000 in
set_option maxRecDepth 100000 in
theorem greenscreenref01_Held.calls (a0 : Int) (a1 : Int) (a2 : Int) (r : Int) (w : World) (h : greenscreenref01_Held.f a0 a1 a2 = some r) :
    Calls Try.prog 108 #[.int .i64 a0, .int .i64 a1, .int .i64 a2] w fun e w' => e = .returned (.int .i64 r) ∧ Drawn0 w w' := by
  have H : (if a0 < a1 then (some a1) else (if a0 > a2 then (some a2) else (some a0))) = some r := h
  clear h
  by_cases c4 : a0 < a1
  · rw [if_pos c4] at H
    have c4b0 : decide (a0 < a1) = true := decide_eq_true c4
    clear c4
    obtain rfl := Option.some.inj H
    go_enter Try.func108, Try.ntmps108
    go_wp2
    go_ret
    exact ⟨by first | rfl | (simp; done) | (simp [*]; done), by repeat (first | exact Drawn0.refl _ | apply Drawn0.step)⟩
  · rw [if_neg c4] at H
    have c4b0 : decide (a0 < a1) = false := decide_eq_false c4
    clear c4
    by_cases c5 : a0 > a2
    · rw [if_pos c5] at H
      have c5b0 : decide (a2 < a0) = true := decide_eq_true c5
      clear c5
      obtain rfl := Option.some.inj H
      go_enter Try.func108, Try.ntmps108
      go_wp2
      go_ret
      exact ⟨by first | rfl | (simp; done) | (simp [*]; done), by repeat (first | exact Drawn0.refl _ | apply Drawn0.step)⟩
    · rw [if_neg c5] at H
      have c5b0 : decide (a2 < a0) = false := decide_eq_false c5
      clear c5
      obtain rfl := Option.some.inj H
      go_enter Try.func108, Try.ntmps108
      go_wp2
      go_ret
      exact ⟨by first | rfl | (simp; done) | (simp [*]; done), by repeat (first | exact Drawn0.refl _ | apply Drawn0.step)⟩

/-! ### greenscreenref15_Places: function 85 -/
def greenscreenref15_Places.l0 : Nat → List Int → Int → Int → Int → Int → List (S38) → Int → Int → Int → Int → Option (List Int)
  | 0, _, _, _, _, _, _, _, _, _, _ => none
  | k + 1, x5, x6, x7, x463000, x463001, x463002, x463003, x464000, x464001, x464002 => if x7 ≤ x6 then (if (x463002.length : Int) = 0 then (none) else (if x5.length < 17592186044416 then (greenscreenref15_Places.l0 k (x5 ++ [Int.tmod (wrap64 (x464000 + x7)) (x463002.length : Int)]) x6 (wrap64 (x7 + 1)) x463000 x463001 x463002 x463003 x464000 x464001 x464002) else (none))) else (some x5)
def greenscreenref15_Places.f (k : Nat) (a0_0 : Int) (a0_1 : Int) (l0_2 : List (S38)) (a0_3 : Int) (a1_0 : Int) (a1_1 : Int) (a1_2 : Int) : Option (List Int) := (some (([] : List Int) : List Int)).bind fun y464 => ((greenscreenref14_Has.f a0_0 a0_1 l0_2 a0_3 a1_0).bind fun t467 => (if t467 = true then ((greenscreenref01_Held.f a1_1 0 (l0_2.length : Int)).bind fun t468 => (greenscreenref15_Places.l0 k y464 t468 1 a0_0 a0_1 l0_2 a0_3 a1_0 a1_1 a1_2)) else (some y464)))
theorem greenscreenref15_Places.mono_l : ∀ k, (∀ y0 y1 y2 y3 y4 y5 y6 y7 y8 y9, LeO (greenscreenref15_Places.l0 k y0 y1 y2 y3 y4 y5 y6 y7 y8 y9) (greenscreenref15_Places.l0 (k + 1) y0 y1 y2 y3 y4 y5 y6 y7 y8 y9))
  | 0 => fun _ _ _ _ _ _ _ _ _ _ r h => by simp [greenscreenref15_Places.l0] at h
  | k + 1 => by
    have ih0 := greenscreenref15_Places.mono_l k
    · intro y0 y1 y2 y3 y4 y5 y6 y7 y8 y9
      unfold greenscreenref15_Places.l0
      repeat' first
      | (with_reducible exact ih0 _ _ _ _ _ _ _ _ _ _)
      | (with_reducible exact LeO.refl _)
      | (with_reducible exact LeO.none _)
      | (with_reducible refine LeO.ite ?_ ?_)
      | (with_reducible refine LeO.bind ?_ (fun _ => ?_))
      | exact ih0 _ _ _ _ _ _ _ _ _ _
      | exact LeO.none _
      | refine LeO.ite ?_ ?_
      | refine LeO.bind ?_ (fun _ => ?_)
theorem greenscreenref15_Places.mono : ∀ a0 a1 a2 a3 a4 a5 a6 k, LeO (greenscreenref15_Places.f k a0 a1 a2 a3 a4 a5 a6) (greenscreenref15_Places.f (k + 1) a0 a1 a2 a3 a4 a5 a6) := by
  intro a0 a1 a2 a3 a4 a5 a6 k
  have ih0 := greenscreenref15_Places.mono_l k
  unfold greenscreenref15_Places.f
  repeat' first
      | (with_reducible exact ih0 _ _ _ _ _ _ _ _ _ _)
      | (with_reducible exact LeO.refl _)
      | (with_reducible exact LeO.none _)
      | (with_reducible refine LeO.ite ?_ ?_)
      | (with_reducible refine LeO.bind ?_ (fun _ => ?_))
      | exact ih0 _ _ _ _ _ _ _ _ _ _
      | exact LeO.none _
      | refine LeO.ite ?_ ?_
      | refine LeO.bind ?_ (fun _ => ?_)
set_option maxHeartbeats 8000000 in
set_option maxRecDepth 100000 in
theorem greenscreenref15_Places.calls (k : Nat) (a0_0 : Int) (a0_1 : Int) (A0_2 : Option Addr) (c0_2 : Nat) (l0_2 : List (S38)) (a0_3 : Int) (a1_0 : Int) (a1_1 : Int) (a1_2 : Int) (r : List Int) (w : World) (hr0_2 : Kd.C k38 w A0_2 l0_2.length l0_2) (hc0_2 : l0_2.length ≤ c0_2) (h : greenscreenref15_Places.f k a0_0 a0_1 l0_2 a0_3 a1_0 a1_1 a1_2 = some r) :
    Calls Try.prog 85 #[.agg #[.int .i64 a0_0, .int .i64 a0_1, .slice A0_2 l0_2.length c0_2, .int .i64 a0_3], .agg #[.int .i64 a1_0, .int .i64 a1_1, .int .u8 a1_2]] w fun e w' => ∃ v0_ : Value, e = .returned (v0_) ∧ Kd.R (Kd.int .i64) 3 w' w.heap.size (fun _ => True) v0_ r ∧ Below w.heap.size w w' := by
  have hu28 := Try.underlying28
  have hu82 := Try.underlying82
  have HR0_2 := Aside0.mk hr0_2
  have HC0_2 := Aside0.mk hc0_2
  clear hr0_2 hc0_2
  have HB := Aside0.mk (Below.refl w.heap.size w)
  have H : ((some (([] : List Int) : List Int)).bind fun y464 => ((greenscreenref14_Has.f a0_0 a0_1 l0_2 a0_3 a1_0).bind fun t467 => (if t467 = true then ((greenscreenref01_Held.f a1_1 0 (l0_2.length : Int)).bind fun t468 => (greenscreenref15_Places.l0 k y464 t468 1 a0_0 a0_1 l0_2 a0_3 a1_0 a1_1 a1_2)) else (some y464)))) = some r := h
  clear h
  obtain ⟨y464, hy464⟩ : ∃ y_ : List Int, y_ = (([] : List Int)) := ⟨_, rfl⟩
  replace H : ((greenscreenref14_Has.f a0_0 a0_1 l0_2 a0_3 a1_0).bind fun t467 => (if t467 = true then ((greenscreenref01_Held.f a1_1 0 (l0_2.length : Int)).bind fun t468 => (greenscreenref15_Places.l0 k y464 t468 1 a0_0 a0_1 l0_2 a0_3 a1_0 a1_1 a1_2)) else (some y464))) = some r := by first | (rw [hy464]; with_reducible exact H) | (have H2_ := (Option.bind_some _ _).symm.trans H; rw [hy464]; with_reducible exact H2_) | (have H2_ := (Option.bind_some _ _).symm.trans H; with_reducible exact H2_) | with_reducible exact H | (rw [hy464]; exact H) | exact H
  have Ny464 := Aside0.mk hy464
  clear hy464
  replace H := Option.bind_eq_some_iff.mp H
  obtain ⟨t467, A30, H⟩ := H
  replace H : (if t467 = true then ((greenscreenref01_Held.f a1_1 0 (l0_2.length : Int)).bind fun t468 => (greenscreenref15_Places.l0 k y464 t468 1 a0_0 a0_1 l0_2 a0_3 a1_0 a1_1 a1_2)) else (some y464)) = some r := H
  have A3 := Aside0.mk A30
  clear A30
  by_cases c4 : t467 = true
  · subst c4
    have H1 : ((greenscreenref01_Held.f a1_1 0 (l0_2.length : Int)).bind fun t468 => (greenscreenref15_Places.l0 k y464 t468 1 a0_0 a0_1 l0_2 a0_3 a1_0 a1_1 a1_2)) = some r := by rw [if_pos rfl] at H; exact H
    clear H
    have H := H1
    clear H1
    replace H := Option.bind_eq_some_iff.mp H
    obtain ⟨t468, A50, H⟩ := H
    replace H : (greenscreenref15_Places.l0 k y464 t468 1 a0_0 a0_1 l0_2 a0_3 a1_0 a1_1 a1_2) = some r := H
    have A5 := Aside0.mk A50
    clear A50
    have H' := Aside0.mk H
    clear H
    go_enter Try.func85, Try.ntmps85
    go_wp2_with (first | ((with_reducible refine gate_dst (N := 2) rfl ?_); refine box_event ?hg (N := 2) ?hd (cs := #[.int .i64 a0_0, .int .i64 a0_1, .slice A0_2 l0_2.length c0_2, .int .i64 a0_3]) (t := 28) ?hr ?_; (case hd => rfl); (case hg => rfl); (case hr => first | (go_simp; done) | (go_simp; rfl)); intro gb462 hg w6 hbox hb; have n0_ := Aside0.mk (below_step (by repeat (first | (with_reducible first | exact HB.out | apply below_alloc | apply pw_below_drewN | apply below_drew1) | exact HB.out)) hb); have n1_ := Aside0.mk (hbox); have n2_ := Aside0.mk ((by rw [hg]; exact (below_size (by repeat (first | (with_reducible first | exact HB.out | apply below_alloc | apply pw_below_drewN | apply below_drew1) | exact HB.out))) : w.heap.size ≤ gb462)); have n3_ := Aside0.mk ((by rw [hg]; exact (below_size (by repeat (first | (with_reducible first | exact HB.out | apply below_alloc | apply pw_below_drewN | apply below_drew1) | exact HB.out))) : w.heap.size ≤ gb462)); clear HB; have HB := n0_; have BK462 := n1_; have GW462 := n2_; have GE462 := n3_; clear n0_ n1_ n2_ n3_; clear hb hbox hg) | ((with_reducible refine gate_dst (N := 3) rfl ?_); refine box_event ?hg (N := 3) ?hd (cs := #[.int .i64 a1_0, .int .i64 a1_1, .int .u8 a1_2]) (t := 82) ?hr ?_; (case hd => rfl); (case hg => rfl); (case hr => first | (go_simp; done) | (go_simp; rfl)); intro gb463 hg w7 hbox hb; have n0_ := Aside0.mk (blk_below (g := gb462) (o := .cells #[.int .i64 a0_0, .int .i64 a0_1, .slice A0_2 l0_2.length c0_2, .int .i64 a0_3] 28 (0, 0)) (by (with_reducible repeat (first | refine blk_drewN ?_ _ | refine blk_drew ?_ | refine blk_alloc ?_ _)); exact BK462.out) hb); have n1_ := Aside0.mk (below_step (by repeat (first | (with_reducible first | exact HB.out | apply below_alloc | apply pw_below_drewN | apply below_drew1 | refine below_set ?_ GE462.out) | exact HB.out)) hb); have n2_ := Aside0.mk (hbox); have n3_ := Aside0.mk ((by rw [hg]; exact (below_size (by repeat (first | (with_reducible first | exact HB.out | apply below_alloc | apply pw_below_drewN | apply below_drew1 | refine below_set ?_ GE462.out) | exact HB.out))) : w.heap.size ≤ gb463)); have n4_ := Aside0.mk ((by rw [hg]; exact (below_size (by repeat (first | (with_reducible first | exact HB.out | apply below_alloc | apply pw_below_drewN | apply below_drew1 | refine below_set ?_ GE462.out) | exact HB.out))) : w.heap.size ≤ gb463)); have n5_ := Aside0.mk ((by rw [hg]; exact Nat.ne_of_lt (blk_lt (g := gb462) (o := .cells #[.int .i64 a0_0, .int .i64 a0_1, .slice A0_2 l0_2.length c0_2, .int .i64 a0_3] 28 (0, 0)) (by (with_reducible repeat (first | refine blk_drewN ?_ _ | refine blk_drew ?_ | refine blk_alloc ?_ _)); exact BK462.out)) : gb462 ≠ gb463)); have n6_ := Aside0.mk ((by rw [hg]; exact Nat.ne_of_gt (blk_lt (g := gb462) (o := .cells #[.int .i64 a0_0, .int .i64 a0_1, .slice A0_2 l0_2.length c0_2, .int .i64 a0_3] 28 (0, 0)) (by (with_reducible repeat (first | refine blk_drewN ?_ _ | refine blk_drew ?_ | refine blk_alloc ?_ _)); exact BK462.out)) : gb463 ≠ gb462)); clear BK462; clear HB; have BK462 := n0_; have HB := n1_; have BK463 := n2_; have GW463 := n3_; have GE463 := n4_; have NB462_463 := n5_; have NB463_462 := n6_; clear n0_ n1_ n2_ n3_ n4_ n5_ n6_; clear hb hbox hg) | ((with_reducible refine gate_dst (N := 8) rfl ?_); refine Kd.R_lit (Kd.int .i64) _ 3 ?hg (N := 8) ?hd (xs := ([] : List Int)) (inner := []) (ok := fun _ => True) (okp := fun _ => True) ?hr ?hp (fun _ hk => hk) trivial (Below.refl _ _) (Nat.le_refl _) (by simp) ?_; (case hd => rfl); (case hg => rfl); (case hr => first | (go_simp; done) | (go_simp; rfl)); (case hp => exact (Reps.none _ _)); intro v465 w8 ho9 hb hg_ hnew_; clear hg_ hnew_; (first | rw [← Ny464.out] at ho9 | (simp only [Int.reduceToNat] at ho9; rw [← Ny464.out] at ho9)); have n0_ := Aside0.mk (Kd.R_lower ho9 (below_size (by repeat (first | (with_reducible first | exact HB.out | apply below_alloc | apply pw_below_drewN | apply below_drew1 | refine below_set ?_ GE462.out | refine below_set ?_ GE463.out) | exact HB.out)))); have n1_ := Aside0.mk (blk_below (g := gb462) (o := .cells #[.int .i64 a0_0, .int .i64 a0_1, .slice A0_2 l0_2.length c0_2, .int .i64 a0_3] 28 (0, 0)) (by (with_reducible repeat (first | refine blk_drewN ?_ _ | refine blk_drew ?_ | refine blk_alloc ?_ _)); exact BK462.out) hb); have n2_ := Aside0.mk (blk_below (g := gb463) (o := .cells #[.int .i64 a1_0, .int .i64 a1_1, .int .u8 a1_2] 82 (0, 0)) (by (with_reducible repeat (first | refine blk_drewN ?_ _ | refine blk_drew ?_ | refine blk_alloc ?_ _)); exact BK463.out) hb); have n3_ := Aside0.mk (below_step (by repeat (first | (with_reducible first | exact HB.out | apply below_alloc | apply pw_below_drewN | apply below_drew1 | refine below_set ?_ GE462.out | refine below_set ?_ GE463.out) | exact HB.out)) hb); clear BK462; clear BK463; clear HB; have HO466 := n0_; have BK462 := n1_; have BK463 := n2_; have HB := n3_; clear n0_ n1_ n2_ n3_; clear hb ho9; have hnb10 := NB462_463.out; have hnc10 := NB463_462.out; have hcz11_0 : w8.cell? ⟨gb462, 0, none⟩ = some (.int .i64 a0_0) := (blk_cell BK462.out 0).trans rfl; have hcz11_1 : w8.cell? ⟨gb462, 1, none⟩ = some (.int .i64 a0_1) := (blk_cell BK462.out 1).trans rfl; have hcz11_2 : w8.cell? ⟨gb462, 2, none⟩ = some (.slice A0_2 l0_2.length c0_2) := (blk_cell BK462.out 2).trans rfl; have hcz11_3 : w8.cell? ⟨gb462, 3, none⟩ = some (.int .i64 a0_3) := (blk_cell BK462.out 3).trans rfl; have hfz11_0 := blk_frozen BK462.out 0; have hfz11_1 := blk_frozen BK462.out 1; have hfz11_2 := blk_frozen BK462.out 2; have hfz11_3 := blk_frozen BK462.out 3; have hcz12_0 : w8.cell? ⟨gb463, 0, none⟩ = some (.int .i64 a1_0) := (blk_cell BK463.out 0).trans rfl; have hcz12_1 : w8.cell? ⟨gb463, 1, none⟩ = some (.int .i64 a1_1) := (blk_cell BK463.out 1).trans rfl; have hcz12_2 : w8.cell? ⟨gb463, 2, none⟩ = some (.int .u8 a1_2) := (blk_cell BK463.out 2).trans rfl; have hfz12_0 := blk_frozen BK463.out 0; have hfz12_1 := blk_frozen BK463.out 1; have hfz12_2 := blk_frozen BK463.out 2) | ((with_reducible refine gate_callee (f := 78) rfl ?_); refine goesL_ (some 12) rfl rfl Try.func78 (by kernel_rfl) rfl #[.agg #[.int .i64 a0_0, .int .i64 a0_1, .slice A0_2 l0_2.length c0_2, .int .i64 a0_3], .int .i64 a1_0] rfl (by (try simp only [List.map_toArray, List.map_cons, List.map_nil]); first | done | rfl | (simp only [List.length_drop, List.length_take]; rfl)) ?_; (with_reducible refine (greenscreenref14_Has.calls a0_0 a0_1 _ _ l0_2 a0_3 a1_0 true _ ?side1 ?side2 A3.out).mono ?_); (case side1 => repeat (first | exact (Kd.C_below HR0_2.out HB.out) | (with_reducible refine Kd.C_alloc ?_ _) | (with_reducible refine Kd.C_drewN ?_ _) | (with_reducible refine Kd.C_drew ?_))); (case side2 => exact HC0_2.out); rintro e w13 ⟨rfl, hb⟩; refine ⟨_, rfl, ?_⟩; have n0_ := Aside0.mk (Kd.R_below (by (with_reducible repeat (first | apply Kd.R_alloc | apply Kd.R_drewN | apply Kd.R_drew)); exact HO466.out) hb); have n1_ := Aside0.mk (blk_below (g := gb462) (o := .cells #[.int .i64 a0_0, .int .i64 a0_1, .slice A0_2 l0_2.length c0_2, .int .i64 a0_3] 28 (0, 0)) (by (with_reducible repeat (first | refine blk_drewN ?_ _ | refine blk_drew ?_ | refine blk_alloc ?_ _)); exact BK462.out) hb); have n2_ := Aside0.mk (blk_below (g := gb463) (o := .cells #[.int .i64 a1_0, .int .i64 a1_1, .int .u8 a1_2] 82 (0, 0)) (by (with_reducible repeat (first | refine blk_drewN ?_ _ | refine blk_drew ?_ | refine blk_alloc ?_ _)); exact BK463.out) hb); have n3_ := Aside0.mk (below_step (by repeat (first | (with_reducible first | exact HB.out | apply below_alloc | apply pw_below_drewN | apply below_drew1 | refine below_set ?_ GE462.out | refine below_set ?_ GE463.out) | exact HB.out)) hb); clear HO466; clear BK462; clear BK463; clear HB; have HO466 := n0_; have BK462 := n1_; have BK463 := n2_; have HB := n3_; clear n0_ n1_ n2_ n3_; (try clear hb); (try clear hb2); (try clear hk); (try clear hi); have hcz14_0 : w13.cell? ⟨gb463, 0, none⟩ = some (.int .i64 a1_0) := (blk_cell BK463.out 0).trans rfl; have hcz14_1 : w13.cell? ⟨gb463, 1, none⟩ = some (.int .i64 a1_1) := (blk_cell BK463.out 1).trans rfl; have hcz14_2 : w13.cell? ⟨gb463, 2, none⟩ = some (.int .u8 a1_2) := (blk_cell BK463.out 2).trans rfl; have hfz14_0 := blk_frozen BK463.out 0; have hfz14_1 := blk_frozen BK463.out 1; have hfz14_2 := blk_frozen BK463.out 2; have hcz15_0 : w13.cell? ⟨gb462, 0, none⟩ = some (.int .i64 a0_0) := (blk_cell BK462.out 0).trans rfl; have hcz15_1 : w13.cell? ⟨gb462, 1, none⟩ = some (.int .i64 a0_1) := (blk_cell BK462.out 1).trans rfl; have hcz15_2 : w13.cell? ⟨gb462, 2, none⟩ = some (.slice A0_2 l0_2.length c0_2) := (blk_cell BK462.out 2).trans rfl; have hcz15_3 : w13.cell? ⟨gb462, 3, none⟩ = some (.int .i64 a0_3) := (blk_cell BK462.out 3).trans rfl; have hfz15_0 := blk_frozen BK462.out 0; have hfz15_1 := blk_frozen BK462.out 1; have hfz15_2 := blk_frozen BK462.out 2; have hfz15_3 := blk_frozen BK462.out 3) | ((with_reducible refine gate_callee (f := 108) rfl ?_); refine goesL_ (some 20) rfl rfl Try.func108 (by kernel_rfl) rfl #[.int .i64 a1_1, .int .i64 0, .int .i64 (l0_2.length : Int)] rfl (by (try simp only [List.map_toArray, List.map_cons, List.map_nil]); first | done | rfl | (simp only [List.length_drop, List.length_take]; rfl)) ?_; (with_reducible refine (greenscreenref01_Held.calls a1_1 0 (l0_2.length : Int) t468 _ A5.out).mono ?_); rintro e w' ⟨rfl, ⟨nd, rfl⟩⟩; refine ⟨_, rfl, ?_⟩))
    go_loopg [5, 7] k (fun kq v5 v7 w' => ∃ (x5_1 : List Int) (x7_1 : Int), v7 = .int .i64 x7_1 ∧ Aside0 (greenscreenref15_Places.l0 kq x5_1 t468 x7_1 a0_0 a0_1 l0_2 a0_3 a1_0 a1_1 a1_2 = some r) ∧ Aside0 (kq ≤ k) ∧ Aside0 (Kd.R (Kd.int .i64) 3 w' w.heap.size (fun _ => True) v5 x5_1) ∧ Aside0 (w'.heap[gb462]? = some (.cells #[.int .i64 a0_0, .int .i64 a0_1, (.slice A0_2 l0_2.length c0_2), .int .i64 a0_3] 28 (0, 0))) ∧ Aside0 (w'.heap[gb463]? = some (.cells #[.int .i64 a1_0, .int .i64 a1_1, .int .u8 a1_2] 82 (0, 0))) ∧ Aside0 (Below w.heap.size w w'))
    case atStart => exact ⟨(y464), (1), (by first | rfl | (simp; done) | (simp [*]; done)), H', ⟨Nat.le_refl _⟩, ⟨by (with_reducible repeat (first | apply Kd.R_alloc | apply Kd.R_drewN | apply Kd.R_drew)); exact HO466.out⟩, ⟨by (with_reducible repeat (first | refine blk_drewN ?_ _ | refine blk_drew ?_ | refine blk_alloc ?_ _)); exact BK462.out⟩, ⟨by (with_reducible repeat (first | refine blk_drewN ?_ _ | refine blk_drew ?_ | refine blk_alloc ?_ _)); exact BK463.out⟩, ⟨by repeat (first | (with_reducible first | exact HB.out | apply below_alloc | apply pw_below_drewN | apply below_drew1 | refine below_set ?_ GE462.out | refine below_set ?_ GE463.out) | exact HB.out)⟩⟩
    case round =>
      clear H'
      try clear c1
      try clear p2
      try clear c4
      try clear c7
      try clear c8
      try clear c10
      try clear hcz11_0
      try clear hcz11_1
      try clear hcz11_2
      try clear hcz11_3
      try clear hcz12_0
      try clear hcz12_1
      try clear hcz12_2
      try clear hcz14_0
      try clear hcz14_1
      try clear hcz14_2
      try clear hcz15_0
      try clear hcz15_1
      try clear hcz15_2
      try clear hcz15_3
      try clear hfz11_0
      try clear hfz11_1
      try clear hfz11_2
      try clear hfz11_3
      try clear hfz12_0
      try clear hfz12_1
      try clear hfz12_2
      try clear hfz14_0
      try clear hfz14_1
      try clear hfz14_2
      try clear hfz15_0
      try clear hfz15_1
      try clear hfz15_2
      try clear hfz15_3
      obtain ⟨x5_1, x7_1, rfl, HA, HK1, HO_5, BK462, BK463, HB⟩ := hrel
      cases gk with
      | zero => exact absurd HA.out (by simp [greenscreenref15_Places.l0])
      | succ k1 =>
        have H := HA.out
        clear HA
        simp only [greenscreenref15_Places.l0] at H
        by_cases c16 : x7_1 ≤ t468
        · rw [if_pos c16] at H
          have c16b0 : decide (x7_1 ≤ t468) = true := decide_eq_true c16
          clear c16
          by_cases c17 : (l0_2.length : Int) = 0
          · rw [if_pos c17] at H
            exact absurd H (by simp)
          · rw [if_neg c17] at H
            have c17b0 : ((l0_2.length : Int) == 0) = false := beq_eq_false_iff_ne.mpr c17
            have c17b1 : ((l0_2.length : Int) != 0) = true := bne_iff_ne.mpr c17
            have c17b2 : ¬ (l0_2 = []) := fun h_ => c17 (by rw [h_]; rfl)
            by_cases c18 : x5_1.length < 17592186044416
            · rw [if_pos c18] at H
              have LMc18 := Aside0.mk c18
              clear c18
              obtain ⟨y469, hy469⟩ : ∃ y_ : List Int, y_ = (x5_1 ++ [Int.tmod (wrap64 (a1_0 + x7_1)) (l0_2.length : Int)]) := ⟨_, rfl⟩
              replace H : (greenscreenref15_Places.l0 k1 y469 t468 (wrap64 (x7_1 + 1)) a0_0 a0_1 l0_2 a0_3 a1_0 a1_1 a1_2) = some r := by first | (rw [hy469]; with_reducible exact H) | (have H2_ := (Option.bind_some _ _).symm.trans H; rw [hy469]; with_reducible exact H2_) | (have H2_ := (Option.bind_some _ _).symm.trans H; with_reducible exact H2_) | with_reducible exact H | (rw [hy469]; exact H) | exact H
              have Ny469 := Aside0.mk hy469
              clear hy469
              have H' := Aside0.mk H
              clear H
              have hnb19 := NB463_462.out
              have hnc19 := NB462_463.out
              have hcz20_0 : wr.cell? ⟨gb463, 0, none⟩ = some (.int .i64 a1_0) := (blk_cell BK463.out 0).trans rfl
              have hcz20_1 : wr.cell? ⟨gb463, 1, none⟩ = some (.int .i64 a1_1) := (blk_cell BK463.out 1).trans rfl
              have hcz20_2 : wr.cell? ⟨gb463, 2, none⟩ = some (.int .u8 a1_2) := (blk_cell BK463.out 2).trans rfl
              have hfz20_0 := blk_frozen BK463.out 0
              have hfz20_1 := blk_frozen BK463.out 1
              have hfz20_2 := blk_frozen BK463.out 2
              have hcz21_0 : wr.cell? ⟨gb462, 0, none⟩ = some (.int .i64 a0_0) := (blk_cell BK462.out 0).trans rfl
              have hcz21_1 : wr.cell? ⟨gb462, 1, none⟩ = some (.int .i64 a0_1) := (blk_cell BK462.out 1).trans rfl
              have hcz21_2 : wr.cell? ⟨gb462, 2, none⟩ = some (.slice A0_2 l0_2.length c0_2) := (blk_cell BK462.out 2).trans rfl
              have hcz21_3 : wr.cell? ⟨gb462, 3, none⟩ = some (.int .i64 a0_3) := (blk_cell BK462.out 3).trans rfl
              have hfz21_0 := blk_frozen BK462.out 0
              have hfz21_1 := blk_frozen BK462.out 1
              have hfz21_2 := blk_frozen BK462.out 2
              have hfz21_3 := blk_frozen BK462.out 3
              go_wp2_with (first | ((with_reducible refine gate_builtin (b := .append) (xs := #[.tmp 26, .tmp 35]) rfl ?_); at_builtin; refine Kd.R_append (Kd.int .i64) (w0 := w) w.heap.size rfl (.tmp 26) (.tmp 35) 31 3 (.int .i64 0) 8 rfl Try.underlying31 info3 rfl (by decide) (by omega) u5 x5_1 (Int.tmod (wrap64 (a1_0 + x7_1)) (l0_2.length : Int)) [.int .i64 (Int.tmod (wrap64 (a1_0 + x7_1)) (l0_2.length : Int))] (fun _ => True) (fun _ => False) rfl rfl ?aP (fun _ hk => hk.elim) ?aF ?aO ?aB ?aS ?aL ?_; (case aP => exact rfl); (case aB => exact (by repeat (first | (with_reducible first | exact HB.out | apply below_alloc | apply pw_below_drewN | apply below_drew1 | refine below_set ?_ GE462.out | refine below_set ?_ GE463.out) | exact HB.out))); (case aF => exact (fun _ _ => trivial)); (case aO => exact (by (with_reducible repeat (first | apply Kd.R_alloc | apply Kd.R_drewN | apply Kd.R_drew)); exact HO_5.out)); (case aS => exact (below_size (by repeat (first | (with_reducible first | exact HB.out | apply below_alloc | apply pw_below_drewN | apply below_drew1 | refine below_set ?_ GE462.out | refine below_set ?_ GE463.out) | exact HB.out)))); (case aL => have := LMc18.out; omega); intro v470 w22 ho hb hg hat; rw [← Ny469.out] at ho; have n0_ := Aside0.mk (blk_grown (g := gb462) (o := .cells #[.int .i64 a0_0, .int .i64 a0_1, .slice A0_2 l0_2.length c0_2, .int .i64 a0_3] 28 (0, 0)) (by (with_reducible repeat (first | refine blk_drewN ?_ _ | refine blk_drew ?_ | refine blk_alloc ?_ _)); exact BK462.out) hg (Kd.R_ne HO_5.out BK462.out (by decide))); have n1_ := Aside0.mk (blk_grown (g := gb463) (o := .cells #[.int .i64 a1_0, .int .i64 a1_1, .int .u8 a1_2] 82 (0, 0)) (by (with_reducible repeat (first | refine blk_drewN ?_ _ | refine blk_drew ?_ | refine blk_alloc ?_ _)); exact BK463.out) hg (Kd.R_ne HO_5.out BK463.out (by decide))); have n2_ := Aside0.mk (hb); have n3_ := Aside0.mk (ho); clear BK462; clear BK463; clear HB; clear HO_5; have BK462 := n0_; have BK463 := n1_; have HB := n2_; have HO471 := n3_; clear n0_ n1_ n2_ n3_; clear ho hb hg hat))
              go_roundg k1
              case measure => have := HK1.out; omega
              case rel => exact ⟨(y469), (wrap64 (x7_1 + 1)), (by first | rfl | (simp; done) | (simp [*]; done)), H', ⟨by have := HK1.out; omega⟩, ⟨by (with_reducible repeat (first | apply Kd.R_alloc | apply Kd.R_drewN | apply Kd.R_drew)); exact HO471.out⟩, ⟨by (with_reducible repeat (first | refine blk_drewN ?_ _ | refine blk_drew ?_ | refine blk_alloc ?_ _)); exact BK462.out⟩, ⟨by (with_reducible repeat (first | refine blk_drewN ?_ _ | refine blk_drew ?_ | refine blk_alloc ?_ _)); exact BK463.out⟩, ⟨by repeat (first | (with_reducible first | exact HB.out | apply below_alloc | apply pw_below_drewN | apply below_drew1 | refine below_set ?_ GE462.out | refine below_set ?_ GE463.out) | exact HB.out)⟩⟩
            · rw [if_neg c18] at H
              exact absurd H (by simp)
        · rw [if_neg c16] at H
          have c16b0 : decide (x7_1 ≤ t468) = false := decide_eq_false c16
          clear c16
          obtain rfl := Option.some.inj H
          go_wp2
          go_ret
          exact ⟨_, by first | rfl | (simp [errW_none, errW_some] <;> rfl) | (simp [*, errW_none, errW_some] <;> rfl), by (with_reducible repeat (first | apply Kd.R_alloc | apply Kd.R_drewN | apply Kd.R_drew)); exact HO_5.out, by repeat (first | (with_reducible first | exact HB.out | apply below_alloc | apply pw_below_drewN | apply below_drew1 | refine below_set ?_ GE462.out | refine below_set ?_ GE463.out) | exact HB.out)⟩
  · replace c4 := Bool.eq_false_iff.mpr c4
    subst c4
    have H1 : (some y464) = some r := by rw [if_neg (show ¬ (false = true) by decide)] at H; exact H
    clear H
    have H := H1
    clear H1
    obtain rfl := Option.some.inj H
    go_enter Try.func85, Try.ntmps85
    go_wp2_with (first | ((with_reducible refine gate_dst (N := 2) rfl ?_); refine box_event ?hg (N := 2) ?hd (cs := #[.int .i64 a0_0, .int .i64 a0_1, .slice A0_2 l0_2.length c0_2, .int .i64 a0_3]) (t := 28) ?hr ?_; (case hd => rfl); (case hg => rfl); (case hr => first | (go_simp; done) | (go_simp; rfl)); intro gb462 hg w23 hbox hb; have n0_ := Aside0.mk (below_step (by repeat (first | (with_reducible first | exact HB.out | apply below_alloc | apply pw_below_drewN | apply below_drew1) | exact HB.out)) hb); have n1_ := Aside0.mk (hbox); have n2_ := Aside0.mk ((by rw [hg]; exact (below_size (by repeat (first | (with_reducible first | exact HB.out | apply below_alloc | apply pw_below_drewN | apply below_drew1) | exact HB.out))) : w.heap.size ≤ gb462)); have n3_ := Aside0.mk ((by rw [hg]; exact (below_size (by repeat (first | (with_reducible first | exact HB.out | apply below_alloc | apply pw_below_drewN | apply below_drew1) | exact HB.out))) : w.heap.size ≤ gb462)); clear HB; have HB := n0_; have BK462 := n1_; have GW462 := n2_; have GE462 := n3_; clear n0_ n1_ n2_ n3_; clear hb hbox hg) | ((with_reducible refine gate_dst (N := 3) rfl ?_); refine box_event ?hg (N := 3) ?hd (cs := #[.int .i64 a1_0, .int .i64 a1_1, .int .u8 a1_2]) (t := 82) ?hr ?_; (case hd => rfl); (case hg => rfl); (case hr => first | (go_simp; done) | (go_simp; rfl)); intro gb463 hg w24 hbox hb; have n0_ := Aside0.mk (blk_below (g := gb462) (o := .cells #[.int .i64 a0_0, .int .i64 a0_1, .slice A0_2 l0_2.length c0_2, .int .i64 a0_3] 28 (0, 0)) (by (with_reducible repeat (first | refine blk_drewN ?_ _ | refine blk_drew ?_ | refine blk_alloc ?_ _)); exact BK462.out) hb); have n1_ := Aside0.mk (below_step (by repeat (first | (with_reducible first | exact HB.out | apply below_alloc | apply pw_below_drewN | apply below_drew1 | refine below_set ?_ GE462.out) | exact HB.out)) hb); have n2_ := Aside0.mk (hbox); have n3_ := Aside0.mk ((by rw [hg]; exact (below_size (by repeat (first | (with_reducible first | exact HB.out | apply below_alloc | apply pw_below_drewN | apply below_drew1 | refine below_set ?_ GE462.out) | exact HB.out))) : w.heap.size ≤ gb463)); have n4_ := Aside0.mk ((by rw [hg]; exact (below_size (by repeat (first | (with_reducible first | exact HB.out | apply below_alloc | apply pw_below_drewN | apply below_drew1 | refine below_set ?_ GE462.out) | exact HB.out))) : w.heap.size ≤ gb463)); have n5_ := Aside0.mk ((by rw [hg]; exact Nat.ne_of_lt (blk_lt (g := gb462) (o := .cells #[.int .i64 a0_0, .int .i64 a0_1, .slice A0_2 l0_2.length c0_2, .int .i64 a0_3] 28 (0, 0)) (by (with_reducible repeat (first | refine blk_drewN ?_ _ | refine blk_drew ?_ | refine blk_alloc ?_ _)); exact BK462.out)) : gb462 ≠ gb463)); have n6_ := Aside0.mk ((by rw [hg]; exact Nat.ne_of_gt (blk_lt (g := gb462) (o := .cells #[.int .i64 a0_0, .int .i64 a0_1, .slice A0_2 l0_2.length c0_2, .int .i64 a0_3] 28 (0, 0)) (by (with_reducible repeat (first | refine blk_drewN ?_ _ | refine blk_drew ?_ | refine blk_alloc ?_ _)); exact BK462.out)) : gb463 ≠ gb462)); clear BK462; clear HB; have BK462 := n0_; have HB := n1_; have BK463 := n2_; have GW463 := n3_; have GE463 := n4_; have NB462_463 := n5_; have NB463_462 := n6_; clear n0_ n1_ n2_ n3_ n4_ n5_ n6_; clear hb hbox hg) | ((with_reducible refine gate_dst (N := 8) rfl ?_); refine Kd.R_lit (Kd.int .i64) _ 3 ?hg (N := 8) ?hd (xs := ([] : List Int)) (inner := []) (ok := fun _ => True) (okp := fun _ => True) ?hr ?hp (fun _ hk => hk) trivial (Below.refl _ _) (Nat.le_refl _) (by simp) ?_; (case hd => rfl); (case hg => rfl); (case hr => first | (go_simp; done) | (go_simp; rfl)); (case hp => exact (Reps.none _ _)); intro v465 w25 ho26 hb hg_ hnew_; clear hg_ hnew_; (first | rw [← Ny464.out] at ho26 | (simp only [Int.reduceToNat] at ho26; rw [← Ny464.out] at ho26)); have n0_ := Aside0.mk (Kd.R_lower ho26 (below_size (by repeat (first | (with_reducible first | exact HB.out | apply below_alloc | apply pw_below_drewN | apply below_drew1 | refine below_set ?_ GE462.out | refine below_set ?_ GE463.out) | exact HB.out)))); have n1_ := Aside0.mk (blk_below (g := gb462) (o := .cells #[.int .i64 a0_0, .int .i64 a0_1, .slice A0_2 l0_2.length c0_2, .int .i64 a0_3] 28 (0, 0)) (by (with_reducible repeat (first | refine blk_drewN ?_ _ | refine blk_drew ?_ | refine blk_alloc ?_ _)); exact BK462.out) hb); have n2_ := Aside0.mk (blk_below (g := gb463) (o := .cells #[.int .i64 a1_0, .int .i64 a1_1, .int .u8 a1_2] 82 (0, 0)) (by (with_reducible repeat (first | refine blk_drewN ?_ _ | refine blk_drew ?_ | refine blk_alloc ?_ _)); exact BK463.out) hb); have n3_ := Aside0.mk (below_step (by repeat (first | (with_reducible first | exact HB.out | apply below_alloc | apply pw_below_drewN | apply below_drew1 | refine below_set ?_ GE462.out | refine below_set ?_ GE463.out) | exact HB.out)) hb); clear BK462; clear BK463; clear HB; have HO466 := n0_; have BK462 := n1_; have BK463 := n2_; have HB := n3_; clear n0_ n1_ n2_ n3_; clear hb ho26; have hnb27 := NB462_463.out; have hnc27 := NB463_462.out; have hcz28_0 : w25.cell? ⟨gb462, 0, none⟩ = some (.int .i64 a0_0) := (blk_cell BK462.out 0).trans rfl; have hcz28_1 : w25.cell? ⟨gb462, 1, none⟩ = some (.int .i64 a0_1) := (blk_cell BK462.out 1).trans rfl; have hcz28_2 : w25.cell? ⟨gb462, 2, none⟩ = some (.slice A0_2 l0_2.length c0_2) := (blk_cell BK462.out 2).trans rfl; have hcz28_3 : w25.cell? ⟨gb462, 3, none⟩ = some (.int .i64 a0_3) := (blk_cell BK462.out 3).trans rfl; have hfz28_0 := blk_frozen BK462.out 0; have hfz28_1 := blk_frozen BK462.out 1; have hfz28_2 := blk_frozen BK462.out 2; have hfz28_3 := blk_frozen BK462.out 3; have hcz29_0 : w25.cell? ⟨gb463, 0, none⟩ = some (.int .i64 a1_0) := (blk_cell BK463.out 0).trans rfl; have hcz29_1 : w25.cell? ⟨gb463, 1, none⟩ = some (.int .i64 a1_1) := (blk_cell BK463.out 1).trans rfl; have hcz29_2 : w25.cell? ⟨gb463, 2, none⟩ = some (.int .u8 a1_2) := (blk_cell BK463.out 2).trans rfl; have hfz29_0 := blk_frozen BK463.out 0; have hfz29_1 := blk_frozen BK463.out 1; have hfz29_2 := blk_frozen BK463.out 2) | ((with_reducible refine gate_callee (f := 78) rfl ?_); refine goesL_ (some 12) rfl rfl Try.func78 (by kernel_rfl) rfl #[.agg #[.int .i64 a0_0, .int .i64 a0_1, .slice A0_2 l0_2.length c0_2, .int .i64 a0_3], .int .i64 a1_0] rfl (by (try simp only [List.map_toArray, List.map_cons, List.map_nil]); first | done | rfl | (simp only [List.length_drop, List.length_take]; rfl)) ?_; (with_reducible refine (greenscreenref14_Has.calls a0_0 a0_1 _ _ l0_2 a0_3 a1_0 false _ ?side1 ?side2 A3.out).mono ?_); (case side1 => repeat (first | exact (Kd.C_below HR0_2.out HB.out) | (with_reducible refine Kd.C_alloc ?_ _) | (with_reducible refine Kd.C_drewN ?_ _) | (with_reducible refine Kd.C_drew ?_))); (case side2 => exact HC0_2.out); rintro e w30 ⟨rfl, hb⟩; refine ⟨_, rfl, ?_⟩; have n0_ := Aside0.mk (Kd.R_below (by (with_reducible repeat (first | apply Kd.R_alloc | apply Kd.R_drewN | apply Kd.R_drew)); exact HO466.out) hb); have n1_ := Aside0.mk (blk_below (g := gb462) (o := .cells #[.int .i64 a0_0, .int .i64 a0_1, .slice A0_2 l0_2.length c0_2, .int .i64 a0_3] 28 (0, 0)) (by (with_reducible repeat (first | refine blk_drewN ?_ _ | refine blk_drew ?_ | refine blk_alloc ?_ _)); exact BK462.out) hb); have n2_ := Aside0.mk (blk_below (g := gb463) (o := .cells #[.int .i64 a1_0, .int .i64 a1_1, .int .u8 a1_2] 82 (0, 0)) (by (with_reducible repeat (first | refine blk_drewN ?_ _ | refine blk_drew ?_ | refine blk_alloc ?_ _)); exact BK463.out) hb); have n3_ := Aside0.mk (below_step (by repeat (first | (with_reducible first | exact HB.out | apply below_alloc | apply pw_below_drewN | apply below_drew1 | refine below_set ?_ GE462.out | refine below_set ?_ GE463.out) | exact HB.out)) hb); clear HO466; clear BK462; clear BK463; clear HB; have HO466 := n0_; have BK462 := n1_; have BK463 := n2_; have HB := n3_; clear n0_ n1_ n2_ n3_; (try clear hb); (try clear hb2); (try clear hk); (try clear hi)))
    go_ret
    exact ⟨_, by first | rfl | (simp [errW_none, errW_some] <;> rfl) | (simp [*, errW_none, errW_some] <;> rfl), by (with_reducible repeat (first | apply Kd.R_alloc | apply Kd.R_drewN | apply Kd.R_drew)); exact HO466.out, by repeat (first | (with_reducible first | exact HB.out | apply below_alloc | apply pw_below_drewN | apply below_drew1 | refine below_set ?_ GE462.out | refine below_set ?_ GE463.out) | exact HB.out)⟩

end Go.Proofs.Ytmcfckdgolojlaa.PCaretMoves
