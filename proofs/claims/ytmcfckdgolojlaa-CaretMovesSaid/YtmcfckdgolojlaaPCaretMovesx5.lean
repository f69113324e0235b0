-- PRINTED BY print.sh 35421559b90ae4d0a3588c463048766b98c2df88dd9212a6774a882060cdf62d: not written by this session
import Derived.Test.YtmcfckdgolojlaaPCaretMovesx0
namespace Go.Proofs.Ytmcfckdgolojlaa.PCaretMoves
open Go.RowKit Go.Proofs.YtmcfckdgolojlaaW.PrintWords Go.Proofs.YtmcfckdgolojlaaW.PrintLast Go.Proofs.YtmcfckdgolojlaaW.PrintMore
attribute [local go_sem] max2_int min2_int max_two min_two max_three min_three max_four min_four   -- for this text's walks alone
set_option linter.unusedVariables false
set_option linter.unusedSimpArgs false

/-! ### greenscreenref02_Cells: function 81 -/
def greenscreenref02_Cells.f (a0_0 : Int) (a0_1 : Int) : Option (Int) := if a0_0 < 1 then (some 0) else (if a0_0 > 43 then (some 0) else (if a0_1 < 1 then (some 0) else (if a0_1 > 132 then (some 0) else (if (wrap64 (a0_0 * a0_1)) > 4096 then (some 0) else (some (wrap64 (a0_0 * a0_1)))))))
set_option maxHeartbeats 8000000 in
set_option maxRecDepth 100000 in
theorem greenscreenref02_Cells.calls (a0_0 : Int) (a0_1 : Int) (r : Int) (w : World) (h : greenscreenref02_Cells.f a0_0 a0_1 = some r) :
    Calls Try.prog 81 #[.agg #[.int .i64 a0_0, .int .i64 a0_1]] w fun e w' => e = .returned (.int .i64 r) ∧ Below w.heap.size w w' := by
  have hu23 := Try.underlying23
  have HB := Aside0.mk (Below.refl w.heap.size w)
  have H : (if a0_0 < 1 then (some 0) else (if a0_0 > 43 then (some 0) else (if a0_1 < 1 then (some 0) else (if a0_1 > 132 then (some 0) else (if (wrap64 (a0_0 * a0_1)) > 4096 then (some 0) else (some (wrap64 (a0_0 * a0_1)))))))) = some r := h
  clear h
  by_cases c2 : a0_0 < 1
  · rw [if_pos c2] at H
    have c2b0 : decide (a0_0 < 1) = true := decide_eq_true c2
    clear c2
    obtain rfl := Option.some.inj H
    go_enter Try.func81, Try.ntmps81
    go_wp2_with (first | ((with_reducible refine gate_dst (N := 1) rfl ?_); refine box_event ?hg (N := 1) ?hd (cs := #[.int .i64 a0_0, .int .i64 a0_1]) (t := 23) ?hr ?_; (case hd => rfl); (case hg => rfl); (case hr => first | (go_simp; done) | (go_simp; rfl)); intro gb397 hg w3 hbox hb; have n0_ := Aside0.mk (below_step (by repeat (first | (with_reducible first | exact HB.out | apply below_alloc | apply pw_below_drewN | apply below_drew1) | exact HB.out)) hb); have n1_ := Aside0.mk (hbox); have n2_ := Aside0.mk ((by rw [hg]; exact (below_size (by repeat (first | (with_reducible first | exact HB.out | apply below_alloc | apply pw_below_drewN | apply below_drew1) | exact HB.out))) : w.heap.size ≤ gb397)); have n3_ := Aside0.mk ((by rw [hg]; exact (below_size (by repeat (first | (with_reducible first | exact HB.out | apply below_alloc | apply pw_below_drewN | apply below_drew1) | exact HB.out))) : w.heap.size ≤ gb397)); clear HB; have HB := n0_; have BK397 := n1_; have GW397 := n2_; have GE397 := n3_; clear n0_ n1_ n2_ n3_; clear hb hbox hg; have hcz4_0 : w3.cell? ⟨gb397, 0, none⟩ = some (.int .i64 a0_0) := (blk_cell BK397.out 0).trans rfl; have hcz4_1 : w3.cell? ⟨gb397, 1, none⟩ = some (.int .i64 a0_1) := (blk_cell BK397.out 1).trans rfl; have hfz4_0 := blk_frozen BK397.out 0; have hfz4_1 := blk_frozen BK397.out 1))
    go_ret
    exact ⟨by first | rfl | (simp [errW_none, errW_some] <;> rfl) | (simp [*, errW_none, errW_some] <;> rfl), by repeat (first | (with_reducible first | exact HB.out | apply below_alloc | apply pw_below_drewN | apply below_drew1 | refine below_set ?_ GE397.out) | exact HB.out)⟩
  · rw [if_neg c2] at H
    have c2b0 : decide (a0_0 < 1) = false := decide_eq_false c2
    clear c2
    by_cases c5 : a0_0 > 43
    · rw [if_pos c5] at H
      have c5b0 : decide (43 < a0_0) = true := decide_eq_true c5
      clear c5
      obtain rfl := Option.some.inj H
      go_enter Try.func81, Try.ntmps81
      go_wp2_with (first | ((with_reducible refine gate_dst (N := 1) rfl ?_); refine box_event ?hg (N := 1) ?hd (cs := #[.int .i64 a0_0, .int .i64 a0_1]) (t := 23) ?hr ?_; (case hd => rfl); (case hg => rfl); (case hr => first | (go_simp; done) | (go_simp; rfl)); intro gb397 hg w6 hbox hb; have n0_ := Aside0.mk (below_step (by repeat (first | (with_reducible first | exact HB.out | apply below_alloc | apply pw_below_drewN | apply below_drew1) | exact HB.out)) hb); have n1_ := Aside0.mk (hbox); have n2_ := Aside0.mk ((by rw [hg]; exact (below_size (by repeat (first | (with_reducible first | exact HB.out | apply below_alloc | apply pw_below_drewN | apply below_drew1) | exact HB.out))) : w.heap.size ≤ gb397)); have n3_ := Aside0.mk ((by rw [hg]; exact (below_size (by repeat (first | (with_reducible first | exact HB.out | apply below_alloc | apply pw_below_drewN | apply below_drew1) | exact HB.out))) : w.heap.size ≤ gb397)); clear HB; have HB := n0_; have BK397 := n1_; have GW397 := n2_; have GE397 := n3_; clear n0_ n1_ n2_ n3_; clear hb hbox hg; have hcz7_0 : w6.cell? ⟨gb397, 0, none⟩ = some (.int .i64 a0_0) := (blk_cell BK397.out 0).trans rfl; have hcz7_1 : w6.cell? ⟨gb397, 1, none⟩ = some (.int .i64 a0_1) := (blk_cell BK397.out 1).trans rfl; have hfz7_0 := blk_frozen BK397.out 0; have hfz7_1 := blk_frozen BK397.out 1))
      go_ret
      exact ⟨by first | rfl | (simp [errW_none, errW_some] <;> rfl) | (simp [*, errW_none, errW_some] <;> rfl), by repeat (first | (with_reducible first | exact HB.out | apply below_alloc | apply pw_below_drewN | apply below_drew1 | refine below_set ?_ GE397.out) | exact HB.out)⟩
    · rw [if_neg c5] at H
      have c5b0 : decide (43 < a0_0) = false := decide_eq_false c5
      clear c5
      by_cases c8 : a0_1 < 1
      · rw [if_pos c8] at H
        have c8b0 : decide (a0_1 < 1) = true := decide_eq_true c8
        clear c8
        obtain rfl := Option.some.inj H
        go_enter Try.func81, Try.ntmps81
        go_wp2_with (first | ((with_reducible refine gate_dst (N := 1) rfl ?_); refine box_event ?hg (N := 1) ?hd (cs := #[.int .i64 a0_0, .int .i64 a0_1]) (t := 23) ?hr ?_; (case hd => rfl); (case hg => rfl); (case hr => first | (go_simp; done) | (go_simp; rfl)); intro gb397 hg w9 hbox hb; have n0_ := Aside0.mk (below_step (by repeat (first | (with_reducible first | exact HB.out | apply below_alloc | apply pw_below_drewN | apply below_drew1) | exact HB.out)) hb); have n1_ := Aside0.mk (hbox); have n2_ := Aside0.mk ((by rw [hg]; exact (below_size (by repeat (first | (with_reducible first | exact HB.out | apply below_alloc | apply pw_below_drewN | apply below_drew1) | exact HB.out))) : w.heap.size ≤ gb397)); have n3_ := Aside0.mk ((by rw [hg]; exact (below_size (by repeat (first | (with_reducible first | exact HB.out | apply below_alloc | apply pw_below_drewN | apply below_drew1) | exact HB.out))) : w.heap.size ≤ gb397)); clear HB; have HB := n0_; have BK397 := n1_; have GW397 := n2_; have GE397 := n3_; clear n0_ n1_ n2_ n3_; clear hb hbox hg; have hcz10_0 : w9.cell? ⟨gb397, 0, none⟩ = some (.int .i64 a0_0) := (blk_cell BK397.out 0).trans rfl; have hcz10_1 : w9.cell? ⟨gb397, 1, none⟩ = some (.int .i64 a0_1) := (blk_cell BK397.out 1).trans rfl; have hfz10_0 := blk_frozen BK397.out 0; have hfz10_1 := blk_frozen BK397.out 1))
        go_ret
        exact ⟨by first | rfl | (simp [errW_none, errW_some] <;> rfl) | (simp [*, errW_none, errW_some] <;> rfl), by repeat (first | (with_reducible first | exact HB.out | apply below_alloc | apply pw_below_drewN | apply below_drew1 | refine below_set ?_ GE397.out) | exact HB.out)⟩
      · rw [if_neg c8] at H
        have c8b0 : decide (a0_1 < 1) = false := decide_eq_false c8
        clear c8
        by_cases c11 : a0_1 > 132
        · rw [if_pos c11] at H
          have c11b0 : decide (132 < a0_1) = true := decide_eq_true c11
          clear c11
          obtain rfl := Option.some.inj H
          go_enter Try.func81, Try.ntmps81
          go_wp2_with (first | ((with_reducible refine gate_dst (N := 1) rfl ?_); refine box_event ?hg (N := 1) ?hd (cs := #[.int .i64 a0_0, .int .i64 a0_1]) (t := 23) ?hr ?_; (case hd => rfl); (case hg => rfl); (case hr => first | (go_simp; done) | (go_simp; rfl)); intro gb397 hg w12 hbox hb; have n0_ := Aside0.mk (below_step (by repeat (first | (with_reducible first | exact HB.out | apply below_alloc | apply pw_below_drewN | apply below_drew1) | exact HB.out)) hb); have n1_ := Aside0.mk (hbox); have n2_ := Aside0.mk ((by rw [hg]; exact (below_size (by repeat (first | (with_reducible first | exact HB.out | apply below_alloc | apply pw_below_drewN | apply below_drew1) | exact HB.out))) : w.heap.size ≤ gb397)); have n3_ := Aside0.mk ((by rw [hg]; exact (below_size (by repeat (first | (with_reducible first | exact HB.out | apply below_alloc | apply pw_below_drewN | apply below_drew1) | exact HB.out))) : w.heap.size ≤ gb397)); clear HB; have HB := n0_; have BK397 := n1_; have GW397 := n2_; have GE397 := n3_; clear n0_ n1_ n2_ n3_; clear hb hbox hg; have hcz13_0 : w12.cell? ⟨gb397, 0, none⟩ = some (.int .i64 a0_0) := (blk_cell BK397.out 0).trans rfl; have hcz13_1 : w12.cell? ⟨gb397, 1, none⟩ = some (.int .i64 a0_1) := (blk_cell BK397.out 1).trans rfl; have hfz13_0 := blk_frozen BK397.out 0; have hfz13_1 := blk_frozen BK397.out 1))
          go_ret
          exact ⟨by first | rfl | (simp [errW_none, errW_some] <;> rfl) | (simp [*, errW_none, errW_some] <;> rfl), by repeat (first | (with_reducible first | exact HB.out | apply below_alloc | apply pw_below_drewN | apply below_drew1 | refine below_set ?_ GE397.out) | exact HB.out)⟩
        · rw [if_neg c11] at H
          have c11b0 : decide (132 < a0_1) = false := decide_eq_false c11
          clear c11
          by_cases c14 : (wrap64 (a0_0 * a0_1)) > 4096
          · rw [if_pos c14] at H
            have c14b0 : decide (4096 < (wrap64 (a0_0 * a0_1))) = true := decide_eq_true c14
            clear c14
            obtain rfl := Option.some.inj H
            go_enter Try.func81, Try.ntmps81
            go_wp2_with (first | ((with_reducible refine gate_dst (N := 1) rfl ?_); refine box_event ?hg (N := 1) ?hd (cs := #[.int .i64 a0_0, .int .i64 a0_1]) (t := 23) ?hr ?_; (case hd => rfl); (case hg => rfl); (case hr => first | (go_simp; done) | (go_simp; rfl)); intro gb397 hg w15 hbox hb; have n0_ := Aside0.mk (below_step (by repeat (first | (with_reducible first | exact HB.out | apply below_alloc | apply pw_below_drewN | apply below_drew1) | exact HB.out)) hb); have n1_ := Aside0.mk (hbox); have n2_ := Aside0.mk ((by rw [hg]; exact (below_size (by repeat (first | (with_reducible first | exact HB.out | apply below_alloc | apply pw_below_drewN | apply below_drew1) | exact HB.out))) : w.heap.size ≤ gb397)); have n3_ := Aside0.mk ((by rw [hg]; exact (below_size (by repeat (first | (with_reducible first | exact HB.out | apply below_alloc | apply pw_below_drewN | apply below_drew1) | exact HB.out))) : w.heap.size ≤ gb397)); clear HB; have HB := n0_; have BK397 := n1_; have GW397 := n2_; have GE397 := n3_; clear n0_ n1_ n2_ n3_; clear hb hbox hg; have hcz16_0 : w15.cell? ⟨gb397, 0, none⟩ = some (.int .i64 a0_0) := (blk_cell BK397.out 0).trans rfl; have hcz16_1 : w15.cell? ⟨gb397, 1, none⟩ = some (.int .i64 a0_1) := (blk_cell BK397.out 1).trans rfl; have hfz16_0 := blk_frozen BK397.out 0; have hfz16_1 := blk_frozen BK397.out 1))
            go_ret
            exact ⟨by first | rfl | (simp [errW_none, errW_some] <;> rfl) | (simp [*, errW_none, errW_some] <;> rfl), by repeat (first | (with_reducible first | exact HB.out | apply below_alloc | apply pw_below_drewN | apply below_drew1 | refine below_set ?_ GE397.out) | exact HB.out)⟩
          · rw [if_neg c14] at H
            have c14b0 : decide (4096 < (wrap64 (a0_0 * a0_1))) = false := decide_eq_false c14
            clear c14
            obtain rfl := Option.some.inj H
            go_enter Try.func81, Try.ntmps81
            go_wp2_with (first | ((with_reducible refine gate_dst (N := 1) rfl ?_); refine box_event ?hg (N := 1) ?hd (cs := #[.int .i64 a0_0, .int .i64 a0_1]) (t := 23) ?hr ?_; (case hd => rfl); (case hg => rfl); (case hr => first | (go_simp; done) | (go_simp; rfl)); intro gb397 hg w17 hbox hb; have n0_ := Aside0.mk (below_step (by repeat (first | (with_reducible first | exact HB.out | apply below_alloc | apply pw_below_drewN | apply below_drew1) | exact HB.out)) hb); have n1_ := Aside0.mk (hbox); have n2_ := Aside0.mk ((by rw [hg]; exact (below_size (by repeat (first | (with_reducible first | exact HB.out | apply below_alloc | apply pw_below_drewN | apply below_drew1) | exact HB.out))) : w.heap.size ≤ gb397)); have n3_ := Aside0.mk ((by rw [hg]; exact (below_size (by repeat (first | (with_reducible first | exact HB.out | apply below_alloc | apply pw_below_drewN | apply below_drew1) | exact HB.out))) : w.heap.size ≤ gb397)); clear HB; have HB := n0_; have BK397 := n1_; have GW397 := n2_; have GE397 := n3_; clear n0_ n1_ n2_ n3_; clear hb hbox hg; have hcz18_0 : w17.cell? ⟨gb397, 0, none⟩ = some (.int .i64 a0_0) := (blk_cell BK397.out 0).trans rfl; have hcz18_1 : w17.cell? ⟨gb397, 1, none⟩ = some (.int .i64 a0_1) := (blk_cell BK397.out 1).trans rfl; have hfz18_0 := blk_frozen BK397.out 0; have hfz18_1 := blk_frozen BK397.out 1))
            go_ret
            exact ⟨by first | rfl | (simp [errW_none, errW_some] <;> rfl) | (simp [*, errW_none, errW_some] <;> rfl), by repeat (first | (with_reducible first | exact HB.out | apply below_alloc | apply pw_below_drewN | apply below_drew1 | refine below_set ?_ GE397.out) | exact HB.out)⟩

/-! ### greenscreenref14_New: function 51 -/
def greenscreenref14_New.f (a0_0 : Int) (a0_1 : Int) : Option (Int × Int × (List (S38)) × Int × Int) := (greenscreenref02_Cells.f a0_0 a0_1).bind fun t400 => (if t400 = 0 then (some (0, 0, ([] : List (S38)), 0, 1)) else (if 0 ≤ t400 then (if (t400 : Int).toNat ≤ 56294995342131 then (some (a0_0, a0_1, (List.replicate (t400 : Int).toNat z38), 0, 0)) else (none)) else (none)))
set_option maxHeartbeats 8000000 in
set_option maxRecDepth 100000 in
theorem greenscreenref14_New.calls (a0_0 : Int) (a0_1 : Int) (r1 : Int) (r2 : Int) (r3 : List (S38)) (r4 : Int) (r5 : Int) (w : World) (h : greenscreenref14_New.f a0_0 a0_1 = some (r1, r2, r3, r4, r5)) :
    Calls Try.prog 51 #[.agg #[.int .i64 a0_0, .int .i64 a0_1]] w fun e w' => ∃ v2_ : Value, e = .returned (.tuple #[.agg #[.int .i64 r1, .int .i64 r2, v2_, .int .i64 r4], .int .i64 r5]) ∧ Kd.R k38 38 w' w.heap.size (fun _ => True) v2_ r3 ∧ Below w.heap.size w w' := by
  have hu23 := Try.underlying23
  have hu28 := Try.underlying28
  have HB := Aside0.mk (Below.refl w.heap.size w)
  have H : ((greenscreenref02_Cells.f a0_0 a0_1).bind fun t400 => (if t400 = 0 then (some (0, 0, ([] : List (S38)), 0, 1)) else (if 0 ≤ t400 then (if (t400 : Int).toNat ≤ 56294995342131 then (some (a0_0, a0_1, (List.replicate (t400 : Int).toNat z38), 0, 0)) else (none)) else (none)))) = some (r1, r2, r3, r4, r5) := h
  clear h
  replace H := Option.bind_eq_some_iff.mp H
  obtain ⟨t400, A20, H⟩ := H
  replace H : (if t400 = 0 then (some (0, 0, ([] : List (S38)), 0, 1)) else (if 0 ≤ t400 then (if (t400 : Int).toNat ≤ 56294995342131 then (some (a0_0, a0_1, (List.replicate (t400 : Int).toNat z38), 0, 0)) else (none)) else (none))) = some (r1, r2, r3, r4, r5) := H
  have A2 := Aside0.mk A20
  clear A20
  by_cases c3 : t400 = 0
  · rw [if_pos c3] at H
    have c3b0 : (t400 == 0) = true := beq_iff_eq.mpr c3
    have c3b1 : (t400 != 0) = false := bne_eq_false_iff_eq.mpr c3
    clear c3
    simp only [Option.some.injEq, Prod.mk.injEq] at H
    obtain ⟨rfl, rfl, rfl, rfl, rfl⟩ := H
    go_enter Try.func51, Try.ntmps51
    go_wp2_with (first | ((with_reducible refine gate_dst (N := 1) rfl ?_); refine box_event ?hg (N := 1) ?hd (cs := #[.int .i64 a0_0, .int .i64 a0_1]) (t := 23) ?hr ?_; (case hd => rfl); (case hg => rfl); (case hr => first | (go_simp; done) | (go_simp; rfl)); intro gb398 hg w4 hbox hb; have n0_ := Aside0.mk (below_step (by repeat (first | (with_reducible first | exact HB.out | apply below_alloc | apply pw_below_drewN | apply below_drew1) | exact HB.out)) hb); have n1_ := Aside0.mk (hbox); have n2_ := Aside0.mk ((by rw [hg]; exact (below_size (by repeat (first | (with_reducible first | exact HB.out | apply below_alloc | apply pw_below_drewN | apply below_drew1) | exact HB.out))) : w.heap.size ≤ gb398)); have n3_ := Aside0.mk ((by rw [hg]; exact (below_size (by repeat (first | (with_reducible first | exact HB.out | apply below_alloc | apply pw_below_drewN | apply below_drew1) | exact HB.out))) : w.heap.size ≤ gb398)); clear HB; have HB := n0_; have BK398 := n1_; have GW398 := n2_; have GE398 := n3_; clear n0_ n1_ n2_ n3_; clear hb hbox hg) | ((with_reducible refine gate_dst (N := 2) rfl ?_); refine box_event ?hg (N := 2) ?hd (cs := #[.int .i64 0, .int .i64 0, .slice none 0 0, .int .i64 0]) (t := 28) ?hr ?_; (case hd => rfl); (case hg => rfl); (case hr => first | (go_simp; done) | (go_simp; rfl)); intro gb399 hg w5 hbox hb; have n0_ := Aside0.mk (blk_below (g := gb398) (o := .cells #[.int .i64 a0_0, .int .i64 a0_1] 23 (0, 0)) (by (with_reducible repeat (first | refine blk_drewN ?_ _ | refine blk_drew ?_ | refine blk_alloc ?_ _)); exact BK398.out) hb); have n1_ := Aside0.mk (below_step (by repeat (first | (with_reducible first | exact HB.out | apply below_alloc | apply pw_below_drewN | apply below_drew1 | refine below_set ?_ GE398.out) | exact HB.out)) hb); have n2_ := Aside0.mk (hbox); have n3_ := Aside0.mk ((by rw [hg]; exact (below_size (by repeat (first | (with_reducible first | exact HB.out | apply below_alloc | apply pw_below_drewN | apply below_drew1 | refine below_set ?_ GE398.out) | exact HB.out))) : w.heap.size ≤ gb399)); have n4_ := Aside0.mk ((by rw [hg]; exact (below_size (by repeat (first | (with_reducible first | exact HB.out | apply below_alloc | apply pw_below_drewN | apply below_drew1 | refine below_set ?_ GE398.out) | exact HB.out))) : w.heap.size ≤ gb399)); have n5_ := Aside0.mk ((by rw [hg]; exact Nat.ne_of_lt (blk_lt (g := gb398) (o := .cells #[.int .i64 a0_0, .int .i64 a0_1] 23 (0, 0)) (by (with_reducible repeat (first | refine blk_drewN ?_ _ | refine blk_drew ?_ | refine blk_alloc ?_ _)); exact BK398.out)) : gb398 ≠ gb399)); have n6_ := Aside0.mk ((by rw [hg]; exact Nat.ne_of_gt (blk_lt (g := gb398) (o := .cells #[.int .i64 a0_0, .int .i64 a0_1] 23 (0, 0)) (by (with_reducible repeat (first | refine blk_drewN ?_ _ | refine blk_drew ?_ | refine blk_alloc ?_ _)); exact BK398.out)) : gb399 ≠ gb398)); clear BK398; clear HB; have BK398 := n0_; have HB := n1_; have BK399 := n2_; have GW399 := n3_; have GE399 := n4_; have NB398_399 := n5_; have NB399_398 := n6_; clear n0_ n1_ n2_ n3_ n4_ n5_ n6_; clear hb hbox hg; have hnb6 := NB398_399.out; have hnc6 := NB399_398.out; have hcz7_0 : w5.cell? ⟨gb398, 0, none⟩ = some (.int .i64 a0_0) := (blk_cell BK398.out 0).trans rfl; have hcz7_1 : w5.cell? ⟨gb398, 1, none⟩ = some (.int .i64 a0_1) := (blk_cell BK398.out 1).trans rfl; have hfz7_0 := blk_frozen BK398.out 0; have hfz7_1 := blk_frozen BK398.out 1) | ((with_reducible refine gate_callee (f := 81) rfl ?_); refine goesL_ (some 6) rfl rfl Try.func81 (by kernel_rfl) rfl #[.agg #[.int .i64 a0_0, .int .i64 a0_1]] rfl (by (try simp only [List.map_toArray, List.map_cons, List.map_nil]); first | done | rfl | (simp only [List.length_drop, List.length_take]; rfl)) ?_; (with_reducible refine (greenscreenref02_Cells.calls a0_0 a0_1 t400 _ A2.out).mono ?_); rintro e w8 ⟨rfl, hb⟩; refine ⟨_, rfl, ?_⟩; have n0_ := Aside0.mk (blk_below (g := gb398) (o := .cells #[.int .i64 a0_0, .int .i64 a0_1] 23 (0, 0)) (by (with_reducible repeat (first | refine blk_drewN ?_ _ | refine blk_drew ?_ | refine blk_alloc ?_ _)); exact BK398.out) hb); have n1_ := Aside0.mk (blk_below (g := gb399) (o := .cells #[.int .i64 0, .int .i64 0, .slice none 0 0, .int .i64 0] 28 (0, 0)) (by (with_reducible repeat (first | refine blk_drewN ?_ _ | refine blk_drew ?_ | refine blk_alloc ?_ _)); exact BK399.out) hb); have n2_ := Aside0.mk (below_step (by repeat (first | (with_reducible first | exact HB.out | apply below_alloc | apply pw_below_drewN | apply below_drew1 | refine below_set ?_ GE398.out | refine below_set ?_ GE399.out) | exact HB.out)) hb); clear BK398; clear BK399; clear HB; have BK398 := n0_; have BK399 := n1_; have HB := n2_; clear n0_ n1_ n2_; (try clear hb); (try clear hb2); (try clear hk); (try clear hi); have hcz9_0 : w8.cell? ⟨gb399, 0, none⟩ = some (.int .i64 0) := (blk_cell BK399.out 0).trans rfl; have hcz9_1 : w8.cell? ⟨gb399, 1, none⟩ = some (.int .i64 0) := (blk_cell BK399.out 1).trans rfl; have hcz9_2 : w8.cell? ⟨gb399, 2, none⟩ = some (.slice none 0 0) := (blk_cell BK399.out 2).trans rfl; have hcz9_3 : w8.cell? ⟨gb399, 3, none⟩ = some (.int .i64 0) := (blk_cell BK399.out 3).trans rfl; have hfz9_0 := blk_frozen BK399.out 0; have hfz9_1 := blk_frozen BK399.out 1; have hfz9_2 := blk_frozen BK399.out 2; have hfz9_3 := blk_frozen BK399.out 3))
    refine bodyPost_ret (results_ct rfl _ _ gb399 28 #[.int .i64 0, .int .i64 0, .slice none 0 0, .int .i64 0] (0, 0) _ rfl (by (with_reducible repeat (first | refine blk_drewN ?_ _ | refine blk_drew ?_ | refine blk_alloc ?_ _)); refine blk_put (cs := #[.int .i64 0, .int .i64 0, .slice none 0 0, .int .i64 0]) ?_ 3 _ rfl; (with_reducible repeat (first | refine blk_drewN ?_ _ | refine blk_drew ?_ | refine blk_alloc ?_ _)); refine blk_put (cs := #[.int .i64 0, .int .i64 0, .slice none 0 0, .int .i64 0]) ?_ 2 _ rfl; (with_reducible repeat (first | refine blk_drewN ?_ _ | refine blk_drew ?_ | refine blk_alloc ?_ _)); refine blk_put (cs := #[.int .i64 0, .int .i64 0, .slice none 0 0, .int .i64 0]) ?_ 1 _ rfl; (with_reducible repeat (first | refine blk_drewN ?_ _ | refine blk_drew ?_ | refine blk_alloc ?_ _)); refine blk_put (cs := #[.int .i64 0, .int .i64 0, .slice none 0 0, .int .i64 0]) ?_ 0 _ rfl; (with_reducible repeat (first | refine blk_drewN ?_ _ | refine blk_drew ?_ | refine blk_alloc ?_ _)); exact BK399.out) Try.underlying28 rfl (by kernel_rfl)) rfl ?_
    exact ⟨_, by first | rfl | (simp [errW_none, errW_some] <;> rfl) | (simp [*, errW_none, errW_some] <;> rfl), by first | exact Kd.R_nil _ _ _ _ _ | exact Kd.N_nil _ _ _ _ _ | exact Kd.V_nil _ _ _ _ _ | exact Kd.Q_nil _ _ _ _ _ | exact Kd.S_nil _ _ _ _ _, by repeat (first | (with_reducible first | exact HB.out | apply below_alloc | apply pw_below_drewN | apply below_drew1 | refine below_set ?_ GE398.out | refine below_set ?_ GE399.out) | exact HB.out)⟩
  · rw [if_neg c3] at H
    have c3b0 : (t400 == 0) = false := beq_eq_false_iff_ne.mpr c3
    have c3b1 : (t400 != 0) = true := bne_iff_ne.mpr c3
    by_cases c10 : 0 ≤ t400
    · rw [if_pos c10] at H
      have c10b0 := eq_true c10
      have c10b1 : decide (0 ≤ t400) = true := decide_eq_true c10
      clear c10
      by_cases c11 : (t400 : Int).toNat ≤ 56294995342131
      · rw [if_pos c11] at H
        have c11b0 := eq_true c11
        have c11b1 : decide ((t400 : Int).toNat ≤ 56294995342131) = true := decide_eq_true c11
        clear c11
        obtain ⟨y401, hy401⟩ : ∃ y_ : List (S38), y_ = (List.replicate (t400 : Int).toNat z38) := ⟨_, rfl⟩
        replace H : (some (a0_0, a0_1, y401, 0, 0)) = some (r1, r2, r3, r4, r5) := by first | (rw [hy401]; with_reducible exact H) | (have H2_ := (Option.bind_some _ _).symm.trans H; rw [hy401]; with_reducible exact H2_) | (have H2_ := (Option.bind_some _ _).symm.trans H; with_reducible exact H2_) | with_reducible exact H | (rw [hy401]; exact H) | exact H
        have Ny401 := Aside0.mk hy401
        clear hy401
        simp only [Option.some.injEq, Prod.mk.injEq] at H
        obtain ⟨rfl, rfl, rfl, rfl, rfl⟩ := H
        go_enter Try.func51, Try.ntmps51
        try go_wp2_with (first | ((with_reducible refine gate_dst (N := 1) rfl ?_); refine box_event ?hg (N := 1) ?hd (cs := #[.int .i64 a0_0, .int .i64 a0_1]) (t := 23) ?hr ?_; (case hd => rfl); (case hg => rfl); (case hr => first | (go_simp; done) | (go_simp; rfl)); intro gb398 hg w12 hbox hb; have n0_ := Aside0.mk (below_step (by repeat (first | (with_reducible first | exact HB.out | apply below_alloc | apply pw_below_drewN | apply below_drew1) | exact HB.out)) hb); have n1_ := Aside0.mk (hbox); have n2_ := Aside0.mk ((by rw [hg]; exact (below_size (by repeat (first | (with_reducible first | exact HB.out | apply below_alloc | apply pw_below_drewN | apply below_drew1) | exact HB.out))) : w.heap.size ≤ gb398)); have n3_ := Aside0.mk ((by rw [hg]; exact (below_size (by repeat (first | (with_reducible first | exact HB.out | apply below_alloc | apply pw_below_drewN | apply below_drew1) | exact HB.out))) : w.heap.size ≤ gb398)); clear HB; have HB := n0_; have BK398 := n1_; have GW398 := n2_; have GE398 := n3_; clear n0_ n1_ n2_ n3_; clear hb hbox hg) | ((with_reducible refine gate_dst (N := 2) rfl ?_); refine box_event ?hg (N := 2) ?hd (cs := #[.int .i64 0, .int .i64 0, .slice none 0 0, .int .i64 0]) (t := 28) ?hr ?_; (case hd => rfl); (case hg => rfl); (case hr => first | (go_simp; done) | (go_simp; rfl)); intro gb399 hg w13 hbox hb; have n0_ := Aside0.mk (blk_below (g := gb398) (o := .cells #[.int .i64 a0_0, .int .i64 a0_1] 23 (0, 0)) (by (with_reducible repeat (first | refine blk_drewN ?_ _ | refine blk_drew ?_ | refine blk_alloc ?_ _)); exact BK398.out) hb); have n1_ := Aside0.mk (below_step (by repeat (first | (with_reducible first | exact HB.out | apply below_alloc | apply pw_below_drewN | apply below_drew1 | refine below_set ?_ GE398.out) | exact HB.out)) hb); have n2_ := Aside0.mk (hbox); have n3_ := Aside0.mk ((by rw [hg]; exact (below_size (by repeat (first | (with_reducible first | exact HB.out | apply below_alloc | apply pw_below_drewN | apply below_drew1 | refine below_set ?_ GE398.out) | exact HB.out))) : w.heap.size ≤ gb399)); have n4_ := Aside0.mk ((by rw [hg]; exact (below_size (by repeat (first | (with_reducible first | exact HB.out | apply below_alloc | apply pw_below_drewN | apply below_drew1 | refine below_set ?_ GE398.out) | exact HB.out))) : w.heap.size ≤ gb399)); have n5_ := Aside0.mk ((by rw [hg]; exact Nat.ne_of_lt (blk_lt (g := gb398) (o := .cells #[.int .i64 a0_0, .int .i64 a0_1] 23 (0, 0)) (by (with_reducible repeat (first | refine blk_drewN ?_ _ | refine blk_drew ?_ | refine blk_alloc ?_ _)); exact BK398.out)) : gb398 ≠ gb399)); have n6_ := Aside0.mk ((by rw [hg]; exact Nat.ne_of_gt (blk_lt (g := gb398) (o := .cells #[.int .i64 a0_0, .int .i64 a0_1] 23 (0, 0)) (by (with_reducible repeat (first | refine blk_drewN ?_ _ | refine blk_drew ?_ | refine blk_alloc ?_ _)); exact BK398.out)) : gb399 ≠ gb398)); clear BK398; clear HB; have BK398 := n0_; have HB := n1_; have BK399 := n2_; have GW399 := n3_; have GE399 := n4_; have NB398_399 := n5_; have NB399_398 := n6_; clear n0_ n1_ n2_ n3_ n4_ n5_ n6_; clear hb hbox hg; have hnb14 := NB398_399.out; have hnc14 := NB399_398.out; have hcz15_0 : w13.cell? ⟨gb398, 0, none⟩ = some (.int .i64 a0_0) := (blk_cell BK398.out 0).trans rfl; have hcz15_1 : w13.cell? ⟨gb398, 1, none⟩ = some (.int .i64 a0_1) := (blk_cell BK398.out 1).trans rfl; have hfz15_0 := blk_frozen BK398.out 0; have hfz15_1 := blk_frozen BK398.out 1) | ((with_reducible refine gate_callee (f := 81) rfl ?_); refine goesL_ (some 6) rfl rfl Try.func81 (by kernel_rfl) rfl #[.agg #[.int .i64 a0_0, .int .i64 a0_1]] rfl (by (try simp only [List.map_toArray, List.map_cons, List.map_nil]); first | done | rfl | (simp only [List.length_drop, List.length_take]; rfl)) ?_; (with_reducible refine (greenscreenref02_Cells.calls a0_0 a0_1 t400 _ A2.out).mono ?_); rintro e w16 ⟨rfl, hb⟩; refine ⟨_, rfl, ?_⟩; have n0_ := Aside0.mk (blk_below (g := gb398) (o := .cells #[.int .i64 a0_0, .int .i64 a0_1] 23 (0, 0)) (by (with_reducible repeat (first | refine blk_drewN ?_ _ | refine blk_drew ?_ | refine blk_alloc ?_ _)); exact BK398.out) hb); have n1_ := Aside0.mk (blk_below (g := gb399) (o := .cells #[.int .i64 0, .int .i64 0, .slice none 0 0, .int .i64 0] 28 (0, 0)) (by (with_reducible repeat (first | refine blk_drewN ?_ _ | refine blk_drew ?_ | refine blk_alloc ?_ _)); exact BK399.out) hb); have n2_ := Aside0.mk (below_step (by repeat (first | (with_reducible first | exact HB.out | apply below_alloc | apply pw_below_drewN | apply below_drew1 | refine below_set ?_ GE398.out | refine below_set ?_ GE399.out) | exact HB.out)) hb); clear BK398; clear BK399; clear HB; have BK398 := n0_; have BK399 := n1_; have HB := n2_; clear n0_ n1_ n2_; (try clear hb); (try clear hb2); (try clear hk); (try clear hi)))
        have n0_ := Aside0.mk (blk_drew BK398.out)
        have n1_ := Aside0.mk (blk_drew BK399.out)
        have n2_ := Aside0.mk (below_drew1 HB.out)
        clear BK398
        clear BK399
        clear HB
        have BK398 := n0_
        have BK399 := n1_
        have HB := n2_
        clear n0_ n1_ n2_
        refine start_ (n := 6) (S := fun w' => w'.cell? ⟨gb398, 0, none⟩ = some (.int .i64 a0_0) ∧ w'.cell? ⟨gb398, 1, none⟩ = some (.int .i64 a0_1)) (ds := []) #[false, false, false, false, false, false] (by kernel_rfl) rfl rfl ⟨(blk_cell BK398.out 0).trans rfl, (blk_cell BK398.out 1).trans rfl⟩ (fun hHeld => ?_)
        generalize w16.drew = w17 at BK398 BK399 HB hHeld ⊢
        refine pure_ (i := 1) (N := some 11) (v := ?_) (a' := ?_) #[false, true, false, false, false, false] rfl rfl (by kernel_rfl) (fun _ _ _ h => h) (Or.inl ⟨by rfl, ?_⟩) ?_ ?_
        rotate_left
        · intro w'
          go_simp
          with_reducible rfl
        rotate_left
        · simp only [Act.put, List.setIfInBounds_toArray, List.set_cons_zero, List.set_cons_succ, i64_w, i32_w]
          rfl
        refine take_ (i := 0) (N := some 10) (v := ?_) (a' := ?_) #[true, true, false, false, false, false] rfl rfl (by kernel_rfl) (fun _ _ _ h => h) (Or.inl ⟨by rfl, ?_⟩) hHeld ?_ ?_
        rotate_left
        · rintro w' ⟨s0, s1⟩
          go_simp
          with_reducible rfl
        rotate_left
        · simp only [Act.put, List.setIfInBounds_toArray, List.set_cons_zero, List.set_cons_succ, i64_w, i32_w]
          rfl
        refine one_ (i := 2) (N := some 12) #[true, true, true, false, false, false] rfl rfl (by kernel_rfl) (by decide) (fun K hK => ?_)
        refine Kd.R_make_step k38 _ 38 (by rfl) (N := 12) rfl 24 _ _ rfl t400 rfl rfl Try.underlying24 (.agg #[(.int .u8 0), (.bool false), (.bool false), (.int .u8 0), (.int .u8 0)]) 5 info38 rfl (by decide) (by omega) z38 (ok := fun _ => True) (okp := fun _ => True) (k38_mkM _ _ _ z38 ) (fun _ hk => hk) trivial (of_decide_eq_true (by first | (with_reducible assumption) | assumption)) (Nat.le_trans (Nat.mul_le_mul_right _ (of_decide_eq_true (by first | (with_reducible assumption) | assumption) : t400.toNat ≤ 56294995342131)) (by omega)) (Below.refl _ _) (Nat.le_refl _) ?_
        intro v402 w18 ho19 hb hg_ hnew_
        clear hg_ hnew_
        (first | rw [← Ny401.out] at ho19 | (simp only [Int.reduceToNat] at ho19; rw [← Ny401.out] at ho19))
        have n0_ := Aside0.mk (Kd.R_lower ho19 (below_size (by repeat (first | (with_reducible first | exact HB.out | apply below_alloc | apply pw_below_drewN | apply below_drew1 | refine below_set ?_ GE398.out | refine below_set ?_ GE399.out) | exact HB.out))))
        have n1_ := Aside0.mk (blk_below (g := gb398) (o := .cells #[.int .i64 a0_0, .int .i64 a0_1] 23 (0, 0)) (by (with_reducible repeat (first | refine blk_drewN ?_ _ | refine blk_drew ?_ | refine blk_alloc ?_ _)); exact BK398.out) hb)
        have n2_ := Aside0.mk (blk_below (g := gb399) (o := .cells #[.int .i64 0, .int .i64 0, .slice none 0 0, .int .i64 0] 28 (0, 0)) (by (with_reducible repeat (first | refine blk_drewN ?_ _ | refine blk_drew ?_ | refine blk_alloc ?_ _)); exact BK399.out) hb)
        have n3_ := Aside0.mk (below_step (by repeat (first | (with_reducible first | exact HB.out | apply below_alloc | apply pw_below_drewN | apply below_drew1 | refine below_set ?_ GE398.out | refine below_set ?_ GE399.out) | exact HB.out)) hb)
        clear BK398
        clear BK399
        clear HB
        have HO403 := n0_
        have BK398 := n1_
        have BK399 := n2_
        have HB := n3_
        clear n0_ n1_ n2_ n3_
        clear hb ho19
        obtain ⟨Ao20, co20, eo20⟩ := Kd.R_slice HO403.out
        (first | subst eo20 | (injection eo20 with f1_ f2_ f3_; have f4_ := f1_.symm; have f5_ := f3_.symm; clear f1_ f2_ f3_; subst f4_; subst f5_))
        refine hK.out _ _ ⟨(blk_cell BK398.out 0).trans rfl, (blk_cell BK398.out 1).trans rfl⟩ (fun hHeld => ?_)
        clear hK K
        refine norm_ (a' := ?_) ?_ ?_
        rotate_left
        · show Act.put _ (some 12) _ = _
          simp only [Act.put, List.setIfInBounds_toArray, List.set_cons_zero, List.set_cons_succ, i64_w, i32_w]
          rfl
        refine pure_ (i := 3) (N := some 13) (v := ?_) (a' := ?_) #[true, true, true, true, false, false] rfl rfl (by kernel_rfl) (fun _ _ _ h => h) (Or.inl ⟨by rfl, ?_⟩) ?_ ?_
        rotate_left
        · intro w'
          go_simp
          with_reducible rfl
        rotate_left
        · simp only [Act.put, List.setIfInBounds_toArray, List.set_cons_zero, List.set_cons_succ, i64_w, i32_w]
          rfl
        refine one_ (i := 4) (N := none) #[true, true, true, true, true, false] rfl rfl (by kernel_rfl) (by decide) (fun K hK => ?_)
        have hs21 : w18.cell? ⟨gb399, 0, none⟩ = some (.int .i64 0) := (blk_cell BK399.out 0).trans rfl
        have hfs21 := blk_frozen BK399.out 0
        have hns21_0 := NB398_399.out
        have hms21_0 := NB399_398.out
        have hs22 : w18.cell? ⟨gb399, 1, none⟩ = some (.int .i64 0) := (blk_cell BK399.out 1).trans rfl
        have hfs22 := blk_frozen BK399.out 1
        have hns22_0 := NB398_399.out
        have hms22_0 := NB399_398.out
        have hs23 : w18.cell? ⟨gb399, 2, none⟩ = some (.slice none 0 0) := (blk_cell BK399.out 2).trans rfl
        have hfs23 := blk_frozen BK399.out 2
        have hns23_0 := NB398_399.out
        have hms23_0 := NB399_398.out
        have hs24 : w18.cell? ⟨gb399, 3, none⟩ = some (.int .i64 0) := (blk_cell BK399.out 3).trans rfl
        have hfs24 := blk_frozen BK399.out 3
        have hns24_0 := NB398_399.out
        have hms24_0 := NB399_398.out
        refine skip_ (w1 := ?_) (by rfl) rfl ?_ ?_
        rotate_left
        · go_simp
          rfl
        refine hK.out _ _ ⟨((cell_far (p := ⟨gb399, _, none⟩) NB398_399.out _).trans (((cell_far (p := ⟨gb399, _, none⟩) NB398_399.out _).trans (((cell_far (p := ⟨gb399, _, none⟩) NB398_399.out _).trans (((cell_far (p := ⟨gb399, _, none⟩) NB398_399.out _).trans (hHeld.1)))))))), ((cell_far (p := ⟨gb399, _, none⟩) NB398_399.out _).trans (((cell_far (p := ⟨gb399, _, none⟩) NB398_399.out _).trans (((cell_far (p := ⟨gb399, _, none⟩) NB398_399.out _).trans (((cell_far (p := ⟨gb399, _, none⟩) NB398_399.out _).trans (hHeld.2))))))))⟩ (fun hHeld => ?_)
        clear hK K
        refine pure_ (i := 5) (N := some 3) (v := ?_) (a' := ?_) #[true, true, true, true, true, true] rfl rfl (by kernel_rfl) (fun _ _ _ h => h) (Or.inl ⟨by rfl, ?_⟩) ?_ ?_
        rotate_left
        · intro w'
          go_simp
          with_reducible rfl
        rotate_left
        · simp only [Act.put, List.setIfInBounds_toArray, List.set_cons_zero, List.set_cons_succ, i64_w, i32_w]
          rfl
        refine done_ (by kernel_rfl) ?_
        try go_wp2
        refine bodyPost_ret (results_ct rfl _ _ gb399 28 #[.int .i64 a0_0, .int .i64 a0_1, .slice Ao20 y401.length co20, .int .i64 0] (0, 0) _ rfl (by (with_reducible repeat (first | refine blk_drewN ?_ _ | refine blk_drew ?_ | refine blk_alloc ?_ _)); refine blk_put (cs := #[.int .i64 a0_0, .int .i64 a0_1, .slice Ao20 y401.length co20, .int .i64 0]) ?_ 3 _ rfl; (with_reducible repeat (first | refine blk_drewN ?_ _ | refine blk_drew ?_ | refine blk_alloc ?_ _)); refine blk_put (cs := #[.int .i64 a0_0, .int .i64 a0_1, .slice none 0 0, .int .i64 0]) ?_ 2 _ rfl; (with_reducible repeat (first | refine blk_drewN ?_ _ | refine blk_drew ?_ | refine blk_alloc ?_ _)); refine blk_put (cs := #[.int .i64 a0_0, .int .i64 0, .slice none 0 0, .int .i64 0]) ?_ 1 _ rfl; (with_reducible repeat (first | refine blk_drewN ?_ _ | refine blk_drew ?_ | refine blk_alloc ?_ _)); refine blk_put (cs := #[.int .i64 0, .int .i64 0, .slice none 0 0, .int .i64 0]) ?_ 0 _ rfl; (with_reducible repeat (first | refine blk_drewN ?_ _ | refine blk_drew ?_ | refine blk_alloc ?_ _)); exact BK399.out) Try.underlying28 rfl (by kernel_rfl)) rfl ?_
        exact ⟨_, by first | rfl | (simp [errW_none, errW_some] <;> rfl) | (simp [*, errW_none, errW_some] <;> rfl), by (with_reducible repeat (first | apply Kd.R_alloc | apply Kd.R_drewN | apply Kd.R_drew)); exact Kd.R_mono (Kd.R_far (p := ⟨gb399, 3, none⟩) (Kd.R_far (p := ⟨gb399, 2, none⟩) (Kd.R_far (p := ⟨gb399, 1, none⟩) (Kd.R_far (p := ⟨gb399, 0, none⟩) (Kd.R_types HO403.out BK399.out (by decide)) (fun _ hk => hk.2) (.int .i64 a0_0)) (fun _ hk => hk.2) (.int .i64 a0_1)) (fun _ hk => hk.2) (.slice Ao20 y401.length co20)) (fun _ hk => hk.2) (.int .i64 0)) (fun _ hk => trivial), by repeat (first | (with_reducible first | exact HB.out | apply below_alloc | apply pw_below_drewN | apply below_drew1 | refine below_set ?_ GE398.out | refine below_set ?_ GE399.out) | exact HB.out)⟩
      · rw [if_neg c11] at H
        exact absurd H (by simp)
    · rw [if_neg c10] at H
      exact absurd H (by simp)

-- NOT PRINTED: function 14 (greenscreenlaw19_made)

/-! ### greenscreenref02_Move: function 65 -/
def greenscreenref02_Move.l0 : Nat → Int → Int → Option (Int)
  | 0, _, _ => none
  | k + 1, x1, x7 => if x1 < 0 then (greenscreenref02_Move.l0 k (wrap64 (x1 + x7)) x7) else (if x7 = 0 then (none) else (some (Int.tmod x1 x7)))
def greenscreenref02_Move.f (k : Nat) (a0_0 : Int) (a0_1 : Int) (a1 : Int) (a2 : Int) : Option (Int) := (greenscreenref02_Cells.f a0_0 a0_1).bind fun t405 => (if t405 = 0 then (some 0) else (greenscreenref02_Move.l0 k (wrap64 ((Int.tmod a1 t405) + (Int.tmod a2 t405))) t405))
theorem greenscreenref02_Move.mono_l : ∀ k, (∀ y0 y1, LeO (greenscreenref02_Move.l0 k y0 y1) (greenscreenref02_Move.l0 (k + 1) y0 y1))
  | 0 => fun _ _ r h => by simp [greenscreenref02_Move.l0] at h
  | k + 1 => by
    have ih0 := greenscreenref02_Move.mono_l k
    · intro y0 y1
      unfold greenscreenref02_Move.l0
      repeat' first
      | (with_reducible exact ih0 _ _)
      | (with_reducible exact LeO.refl _)
      | (with_reducible exact LeO.none _)
      | (with_reducible refine LeO.ite ?_ ?_)
      | (with_reducible refine LeO.bind ?_ (fun _ => ?_))
      | exact ih0 _ _
      | exact LeO.none _
      | refine LeO.ite ?_ ?_
      | refine LeO.bind ?_ (fun _ => ?_)
theorem greenscreenref02_Move.mono : ∀ a0 a1 a2 a3 k, LeO (greenscreenref02_Move.f k a0 a1 a2 a3) (greenscreenref02_Move.f (k + 1) a0 a1 a2 a3) := by
  intro a0 a1 a2 a3 k
  have ih0 := greenscreenref02_Move.mono_l k
  unfold greenscreenref02_Move.f
  repeat' first
      | (with_reducible exact ih0 _ _)
      | (with_reducible exact LeO.refl _)
      | (with_reducible exact LeO.none _)
      | (with_reducible refine LeO.ite ?_ ?_)
      | (with_reducible refine LeO.bind ?_ (fun _ => ?_))
      | exact ih0 _ _
      | exact LeO.none _
      | refine LeO.ite ?_ ?_
      | refine LeO.bind ?_ (fun _ => ?_)
set_option maxHeartbeats 8000000 in
set_option maxRecDepth 100000 in
theorem greenscreenref02_Move.calls (k : Nat) (a0_0 : Int) (a0_1 : Int) (a1 : Int) (a2 : Int) (r : Int) (w : World) (h : greenscreenref02_Move.f k a0_0 a0_1 a1 a2 = some r) :
    Calls Try.prog 65 #[.agg #[.int .i64 a0_0, .int .i64 a0_1], .int .i64 a1, .int .i64 a2] w fun e w' => e = .returned (.int .i64 r) ∧ Below w.heap.size w w' := by
  have hu23 := Try.underlying23
  have HB := Aside0.mk (Below.refl w.heap.size w)
  have H : ((greenscreenref02_Cells.f a0_0 a0_1).bind fun t405 => (if t405 = 0 then (some 0) else (greenscreenref02_Move.l0 k (wrap64 ((Int.tmod a1 t405) + (Int.tmod a2 t405))) t405))) = some r := h
  clear h
  replace H := Option.bind_eq_some_iff.mp H
  obtain ⟨t405, A40, H⟩ := H
  replace H : (if t405 = 0 then (some 0) else (greenscreenref02_Move.l0 k (wrap64 ((Int.tmod a1 t405) + (Int.tmod a2 t405))) t405)) = some r := H
  have A4 := Aside0.mk A40
  clear A40
  by_cases c5 : t405 = 0
  · rw [if_pos c5] at H
    have c5b0 : (t405 == 0) = true := beq_iff_eq.mpr c5
    have c5b1 : (t405 != 0) = false := bne_eq_false_iff_eq.mpr c5
    clear c5
    obtain rfl := Option.some.inj H
    go_enter Try.func65, Try.ntmps65
    go_wp2_with (first | ((with_reducible refine gate_dst (N := 3) rfl ?_); refine box_event ?hg (N := 3) ?hd (cs := #[.int .i64 a0_0, .int .i64 a0_1]) (t := 23) ?hr ?_; (case hd => rfl); (case hg => rfl); (case hr => first | (go_simp; done) | (go_simp; rfl)); intro gb404 hg w6 hbox hb; have n0_ := Aside0.mk (below_step (by repeat (first | (with_reducible first | exact HB.out | apply below_alloc | apply pw_below_drewN | apply below_drew1) | exact HB.out)) hb); have n1_ := Aside0.mk (hbox); have n2_ := Aside0.mk ((by rw [hg]; exact (below_size (by repeat (first | (with_reducible first | exact HB.out | apply below_alloc | apply pw_below_drewN | apply below_drew1) | exact HB.out))) : w.heap.size ≤ gb404)); have n3_ := Aside0.mk ((by rw [hg]; exact (below_size (by repeat (first | (with_reducible first | exact HB.out | apply below_alloc | apply pw_below_drewN | apply below_drew1) | exact HB.out))) : w.heap.size ≤ gb404)); clear HB; have HB := n0_; have BK404 := n1_; have GW404 := n2_; have GE404 := n3_; clear n0_ n1_ n2_ n3_; clear hb hbox hg; have hcz7_0 : w6.cell? ⟨gb404, 0, none⟩ = some (.int .i64 a0_0) := (blk_cell BK404.out 0).trans rfl; have hcz7_1 : w6.cell? ⟨gb404, 1, none⟩ = some (.int .i64 a0_1) := (blk_cell BK404.out 1).trans rfl; have hfz7_0 := blk_frozen BK404.out 0; have hfz7_1 := blk_frozen BK404.out 1) | (go_at_call 81; (with_reducible refine (greenscreenref02_Cells.calls a0_0 a0_1 t405 _ A4.out).mono ?_); rintro e w8 ⟨rfl, hb⟩; have n0_ := Aside0.mk (blk_below (g := gb404) (o := .cells #[.int .i64 a0_0, .int .i64 a0_1] 23 (0, 0)) (by (with_reducible repeat (first | refine blk_drewN ?_ _ | refine blk_drew ?_ | refine blk_alloc ?_ _)); exact BK404.out) hb); have n1_ := Aside0.mk (below_step (by repeat (first | (with_reducible first | exact HB.out | apply below_alloc | apply pw_below_drewN | apply below_drew1 | refine below_set ?_ GE404.out) | exact HB.out)) hb); clear BK404; clear HB; have BK404 := n0_; have HB := n1_; clear n0_ n1_; (try clear hb); (try clear hb2); (try clear hk); (try clear hi)))
    repeat (go_quiet (first | ((with_reducible refine gate_dst (N := 3) rfl ?_); refine box_event ?hg (N := 3) ?hd (cs := #[.int .i64 a0_0, .int .i64 a0_1]) (t := 23) ?hr ?_; (case hd => rfl); (case hg => rfl); (case hr => first | (go_simp; done) | (go_simp; rfl)); intro gb404 hg w6 hbox hb; have n0_ := Aside0.mk (below_step (by repeat (first | (with_reducible first | exact HB.out | apply below_alloc | apply pw_below_drewN | apply below_drew1) | exact HB.out)) hb); have n1_ := Aside0.mk (hbox); have n2_ := Aside0.mk ((by rw [hg]; exact (below_size (by repeat (first | (with_reducible first | exact HB.out | apply below_alloc | apply pw_below_drewN | apply below_drew1) | exact HB.out))) : w.heap.size ≤ gb404)); have n3_ := Aside0.mk ((by rw [hg]; exact (below_size (by repeat (first | (with_reducible first | exact HB.out | apply below_alloc | apply pw_below_drewN | apply below_drew1) | exact HB.out))) : w.heap.size ≤ gb404)); clear HB; have HB := n0_; have BK404 := n1_; have GW404 := n2_; have GE404 := n3_; clear n0_ n1_ n2_ n3_; clear hb hbox hg; have hcz7_0 : w6.cell? ⟨gb404, 0, none⟩ = some (.int .i64 a0_0) := (blk_cell BK404.out 0).trans rfl; have hcz7_1 : w6.cell? ⟨gb404, 1, none⟩ = some (.int .i64 a0_1) := (blk_cell BK404.out 1).trans rfl; have hfz7_0 := blk_frozen BK404.out 0; have hfz7_1 := blk_frozen BK404.out 1) | (go_at_call 81; (with_reducible refine (greenscreenref02_Cells.calls a0_0 a0_1 t405 _ A4.out).mono ?_); rintro e w8 ⟨rfl, hb⟩; have n0_ := Aside0.mk (blk_below (g := gb404) (o := .cells #[.int .i64 a0_0, .int .i64 a0_1] 23 (0, 0)) (by (with_reducible repeat (first | refine blk_drewN ?_ _ | refine blk_drew ?_ | refine blk_alloc ?_ _)); exact BK404.out) hb); have n1_ := Aside0.mk (below_step (by repeat (first | (with_reducible first | exact HB.out | apply below_alloc | apply pw_below_drewN | apply below_drew1 | refine below_set ?_ GE404.out) | exact HB.out)) hb); clear BK404; clear HB; have BK404 := n0_; have HB := n1_; clear n0_ n1_; (try clear hb); (try clear hb2); (try clear hk); (try clear hi))); try go_wp2_with (first | ((with_reducible refine gate_dst (N := 3) rfl ?_); refine box_event ?hg (N := 3) ?hd (cs := #[.int .i64 a0_0, .int .i64 a0_1]) (t := 23) ?hr ?_; (case hd => rfl); (case hg => rfl); (case hr => first | (go_simp; done) | (go_simp; rfl)); intro gb404 hg w6 hbox hb; have n0_ := Aside0.mk (below_step (by repeat (first | (with_reducible first | exact HB.out | apply below_alloc | apply pw_below_drewN | apply below_drew1) | exact HB.out)) hb); have n1_ := Aside0.mk (hbox); have n2_ := Aside0.mk ((by rw [hg]; exact (below_size (by repeat (first | (with_reducible first | exact HB.out | apply below_alloc | apply pw_below_drewN | apply below_drew1) | exact HB.out))) : w.heap.size ≤ gb404)); have n3_ := Aside0.mk ((by rw [hg]; exact (below_size (by repeat (first | (with_reducible first | exact HB.out | apply below_alloc | apply pw_below_drewN | apply below_drew1) | exact HB.out))) : w.heap.size ≤ gb404)); clear HB; have HB := n0_; have BK404 := n1_; have GW404 := n2_; have GE404 := n3_; clear n0_ n1_ n2_ n3_; clear hb hbox hg; have hcz7_0 : w6.cell? ⟨gb404, 0, none⟩ = some (.int .i64 a0_0) := (blk_cell BK404.out 0).trans rfl; have hcz7_1 : w6.cell? ⟨gb404, 1, none⟩ = some (.int .i64 a0_1) := (blk_cell BK404.out 1).trans rfl; have hfz7_0 := blk_frozen BK404.out 0; have hfz7_1 := blk_frozen BK404.out 1) | (go_at_call 81; (with_reducible refine (greenscreenref02_Cells.calls a0_0 a0_1 t405 _ A4.out).mono ?_); rintro e w8 ⟨rfl, hb⟩; have n0_ := Aside0.mk (blk_below (g := gb404) (o := .cells #[.int .i64 a0_0, .int .i64 a0_1] 23 (0, 0)) (by (with_reducible repeat (first | refine blk_drewN ?_ _ | refine blk_drew ?_ | refine blk_alloc ?_ _)); exact BK404.out) hb); have n1_ := Aside0.mk (below_step (by repeat (first | (with_reducible first | exact HB.out | apply below_alloc | apply pw_below_drewN | apply below_drew1 | refine below_set ?_ GE404.out) | exact HB.out)) hb); clear BK404; clear HB; have BK404 := n0_; have HB := n1_; clear n0_ n1_; (try clear hb); (try clear hb2); (try clear hk); (try clear hi))))
    go_ret
    exact ⟨by first | rfl | (simp [errW_none, errW_some] <;> rfl) | (simp [*, errW_none, errW_some] <;> rfl), by repeat (first | (with_reducible first | exact HB.out | apply below_alloc | apply pw_below_drewN | apply below_drew1 | refine below_set ?_ GE404.out) | exact HB.out)⟩
  · rw [if_neg c5] at H
    have c5b0 : (t405 == 0) = false := beq_eq_false_iff_ne.mpr c5
    have c5b1 : (t405 != 0) = true := bne_iff_ne.mpr c5
    have H' := Aside0.mk H
    clear H
    go_enter Try.func65, Try.ntmps65
    go_wp2_with (first | ((with_reducible refine gate_dst (N := 3) rfl ?_); refine box_event ?hg (N := 3) ?hd (cs := #[.int .i64 a0_0, .int .i64 a0_1]) (t := 23) ?hr ?_; (case hd => rfl); (case hg => rfl); (case hr => first | (go_simp; done) | (go_simp; rfl)); intro gb404 hg w9 hbox hb; have n0_ := Aside0.mk (below_step (by repeat (first | (with_reducible first | exact HB.out | apply below_alloc | apply pw_below_drewN | apply below_drew1) | exact HB.out)) hb); have n1_ := Aside0.mk (hbox); have n2_ := Aside0.mk ((by rw [hg]; exact (below_size (by repeat (first | (with_reducible first | exact HB.out | apply below_alloc | apply pw_below_drewN | apply below_drew1) | exact HB.out))) : w.heap.size ≤ gb404)); have n3_ := Aside0.mk ((by rw [hg]; exact (below_size (by repeat (first | (with_reducible first | exact HB.out | apply below_alloc | apply pw_below_drewN | apply below_drew1) | exact HB.out))) : w.heap.size ≤ gb404)); clear HB; have HB := n0_; have BK404 := n1_; have GW404 := n2_; have GE404 := n3_; clear n0_ n1_ n2_ n3_; clear hb hbox hg; have hcz10_0 : w9.cell? ⟨gb404, 0, none⟩ = some (.int .i64 a0_0) := (blk_cell BK404.out 0).trans rfl; have hcz10_1 : w9.cell? ⟨gb404, 1, none⟩ = some (.int .i64 a0_1) := (blk_cell BK404.out 1).trans rfl; have hfz10_0 := blk_frozen BK404.out 0; have hfz10_1 := blk_frozen BK404.out 1) | (go_at_call 81; (with_reducible refine (greenscreenref02_Cells.calls a0_0 a0_1 t405 _ A4.out).mono ?_); rintro e w11 ⟨rfl, hb⟩; have n0_ := Aside0.mk (blk_below (g := gb404) (o := .cells #[.int .i64 a0_0, .int .i64 a0_1] 23 (0, 0)) (by (with_reducible repeat (first | refine blk_drewN ?_ _ | refine blk_drew ?_ | refine blk_alloc ?_ _)); exact BK404.out) hb); have n1_ := Aside0.mk (below_step (by repeat (first | (with_reducible first | exact HB.out | apply below_alloc | apply pw_below_drewN | apply below_drew1 | refine below_set ?_ GE404.out) | exact HB.out)) hb); clear BK404; clear HB; have BK404 := n0_; have HB := n1_; clear n0_ n1_; (try clear hb); (try clear hb2); (try clear hk); (try clear hi)))
    repeat (go_quiet (first | ((with_reducible refine gate_dst (N := 3) rfl ?_); refine box_event ?hg (N := 3) ?hd (cs := #[.int .i64 a0_0, .int .i64 a0_1]) (t := 23) ?hr ?_; (case hd => rfl); (case hg => rfl); (case hr => first | (go_simp; done) | (go_simp; rfl)); intro gb404 hg w9 hbox hb; have n0_ := Aside0.mk (below_step (by repeat (first | (with_reducible first | exact HB.out | apply below_alloc | apply pw_below_drewN | apply below_drew1) | exact HB.out)) hb); have n1_ := Aside0.mk (hbox); have n2_ := Aside0.mk ((by rw [hg]; exact (below_size (by repeat (first | (with_reducible first | exact HB.out | apply below_alloc | apply pw_below_drewN | apply below_drew1) | exact HB.out))) : w.heap.size ≤ gb404)); have n3_ := Aside0.mk ((by rw [hg]; exact (below_size (by repeat (first | (with_reducible first | exact HB.out | apply below_alloc | apply pw_below_drewN | apply below_drew1) | exact HB.out))) : w.heap.size ≤ gb404)); clear HB; have HB := n0_; have BK404 := n1_; have GW404 := n2_; have GE404 := n3_; clear n0_ n1_ n2_ n3_; clear hb hbox hg; have hcz10_0 : w9.cell? ⟨gb404, 0, none⟩ = some (.int .i64 a0_0) := (blk_cell BK404.out 0).trans rfl; have hcz10_1 : w9.cell? ⟨gb404, 1, none⟩ = some (.int .i64 a0_1) := (blk_cell BK404.out 1).trans rfl; have hfz10_0 := blk_frozen BK404.out 0; have hfz10_1 := blk_frozen BK404.out 1) | (go_at_call 81; (with_reducible refine (greenscreenref02_Cells.calls a0_0 a0_1 t405 _ A4.out).mono ?_); rintro e w11 ⟨rfl, hb⟩; have n0_ := Aside0.mk (blk_below (g := gb404) (o := .cells #[.int .i64 a0_0, .int .i64 a0_1] 23 (0, 0)) (by (with_reducible repeat (first | refine blk_drewN ?_ _ | refine blk_drew ?_ | refine blk_alloc ?_ _)); exact BK404.out) hb); have n1_ := Aside0.mk (below_step (by repeat (first | (with_reducible first | exact HB.out | apply below_alloc | apply pw_below_drewN | apply below_drew1 | refine below_set ?_ GE404.out) | exact HB.out)) hb); clear BK404; clear HB; have BK404 := n0_; have HB := n1_; clear n0_ n1_; (try clear hb); (try clear hb2); (try clear hk); (try clear hi))); try go_wp2_with (first | ((with_reducible refine gate_dst (N := 3) rfl ?_); refine box_event ?hg (N := 3) ?hd (cs := #[.int .i64 a0_0, .int .i64 a0_1]) (t := 23) ?hr ?_; (case hd => rfl); (case hg => rfl); (case hr => first | (go_simp; done) | (go_simp; rfl)); intro gb404 hg w9 hbox hb; have n0_ := Aside0.mk (below_step (by repeat (first | (with_reducible first | exact HB.out | apply below_alloc | apply pw_below_drewN | apply below_drew1) | exact HB.out)) hb); have n1_ := Aside0.mk (hbox); have n2_ := Aside0.mk ((by rw [hg]; exact (below_size (by repeat (first | (with_reducible first | exact HB.out | apply below_alloc | apply pw_below_drewN | apply below_drew1) | exact HB.out))) : w.heap.size ≤ gb404)); have n3_ := Aside0.mk ((by rw [hg]; exact (below_size (by repeat (first | (with_reducible first | exact HB.out | apply below_alloc | apply pw_below_drewN | apply below_drew1) | exact HB.out))) : w.heap.size ≤ gb404)); clear HB; have HB := n0_; have BK404 := n1_; have GW404 := n2_; have GE404 := n3_; clear n0_ n1_ n2_ n3_; clear hb hbox hg; have hcz10_0 : w9.cell? ⟨gb404, 0, none⟩ = some (.int .i64 a0_0) := (blk_cell BK404.out 0).trans rfl; have hcz10_1 : w9.cell? ⟨gb404, 1, none⟩ = some (.int .i64 a0_1) := (blk_cell BK404.out 1).trans rfl; have hfz10_0 := blk_frozen BK404.out 0; have hfz10_1 := blk_frozen BK404.out 1) | (go_at_call 81; (with_reducible refine (greenscreenref02_Cells.calls a0_0 a0_1 t405 _ A4.out).mono ?_); rintro e w11 ⟨rfl, hb⟩; have n0_ := Aside0.mk (blk_below (g := gb404) (o := .cells #[.int .i64 a0_0, .int .i64 a0_1] 23 (0, 0)) (by (with_reducible repeat (first | refine blk_drewN ?_ _ | refine blk_drew ?_ | refine blk_alloc ?_ _)); exact BK404.out) hb); have n1_ := Aside0.mk (below_step (by repeat (first | (with_reducible first | exact HB.out | apply below_alloc | apply pw_below_drewN | apply below_drew1 | refine below_set ?_ GE404.out) | exact HB.out)) hb); clear BK404; clear HB; have BK404 := n0_; have HB := n1_; clear n0_ n1_; (try clear hb); (try clear hb2); (try clear hk); (try clear hi))))
    go_loopg [1] k (fun kq v1 w' => ∃ (x1_1 : Int), v1 = .int .i64 x1_1 ∧ Aside0 (greenscreenref02_Move.l0 kq x1_1 t405 = some r) ∧ Aside0 (kq ≤ k) ∧ Aside0 (w'.heap[gb404]? = some (.cells #[.int .i64 a0_0, .int .i64 a0_1] 23 (0, 0))) ∧ Aside0 (Below w.heap.size w w'))
    case atStart => exact ⟨(wrap64 ((Int.tmod a1 t405) + (Int.tmod a2 t405))), (by first | rfl | (simp; done) | (simp [*]; done)), H', ⟨Nat.le_refl _⟩, ⟨by (with_reducible repeat (first | refine blk_drewN ?_ _ | refine blk_drew ?_ | refine blk_alloc ?_ _)); exact BK404.out⟩, ⟨by repeat (first | (with_reducible first | exact HB.out | apply below_alloc | apply pw_below_drewN | apply below_drew1 | refine below_set ?_ GE404.out) | exact HB.out)⟩⟩
    case round =>
      clear H'
      try clear p2
      try clear c5
      try clear c5b0
      try clear c5b1
      try clear c6
      try clear p6
      try clear hcz10_0
      try clear hcz10_1
      try clear hcz7_0
      try clear hcz7_1
      try clear hfz10_0
      try clear hfz10_1
      try clear hfz7_0
      try clear hfz7_1
      obtain ⟨x1_1, rfl, HA, HK1, BK404, HB⟩ := hrel
      cases gk with
      | zero => exact absurd HA.out (by simp [greenscreenref02_Move.l0])
      | succ k1 =>
        have H := HA.out
        clear HA
        simp only [greenscreenref02_Move.l0] at H
        by_cases c12 : x1_1 < 0
        · rw [if_pos c12] at H
          have c12b0 : decide (x1_1 < 0) = true := decide_eq_true c12
          clear c12
          have H' := Aside0.mk H
          clear H
          go_wp2
          repeat (go_quiet (fail); try go_wp2)
          go_roundg k1
          case measure => have := HK1.out; omega
          case rel => exact ⟨(wrap64 (x1_1 + t405)), (by first | rfl | (simp; done) | (simp [*]; done)), H', ⟨by have := HK1.out; omega⟩, ⟨by (with_reducible repeat (first | refine blk_drewN ?_ _ | refine blk_drew ?_ | refine blk_alloc ?_ _)); exact BK404.out⟩, ⟨by repeat (first | (with_reducible first | exact HB.out | apply below_alloc | apply pw_below_drewN | apply below_drew1 | refine below_set ?_ GE404.out) | exact HB.out)⟩⟩
        · rw [if_neg c12] at H
          have c12b0 : decide (x1_1 < 0) = false := decide_eq_false c12
          clear c12
          by_cases c13 : t405 = 0
          · rw [if_pos c13] at H
            exact absurd H (by simp)
          · rw [if_neg c13] at H
            have c13b0 : (t405 == 0) = false := beq_eq_false_iff_ne.mpr c13
            have c13b1 : (t405 != 0) = true := bne_iff_ne.mpr c13
            obtain rfl := Option.some.inj H
            go_wp2
            repeat (go_quiet (fail); try go_wp2)
            go_ret
            exact ⟨by first | rfl | (simp [errW_none, errW_some] <;> rfl) | (simp [*, errW_none, errW_some] <;> rfl), by repeat (first | (with_reducible first | exact HB.out | apply below_alloc | apply pw_below_drewN | apply below_drew1 | refine below_set ?_ GE404.out) | exact HB.out)⟩

/-! ### greenscreenref19_Move: function 28 -/
def greenscreenref19_Move.f (k : Nat) (a0_0 : Int) (a0_1 : Int) (l0_2 : List (S38)) (a0_3 : Int) (a1 : Int) (a2 : Int) : Option (Int) := if a0_0 = 0 then (none) else ((greenscreenref02_Move.f k a0_0 a0_1 a0_3 (wrap64 ((Int.tmod a1 a0_0) * a0_1))).bind fun t407 => ((greenscreenref02_Move.f k a0_0 a0_1 t407 a2).bind fun t408 => (some t408)))
theorem greenscreenref19_Move.mono : ∀ a0 a1 a2 a3 a4 a5 k, LeO (greenscreenref19_Move.f k a0 a1 a2 a3 a4 a5) (greenscreenref19_Move.f (k + 1) a0 a1 a2 a3 a4 a5) := by
  intro a0 a1 a2 a3 a4 a5 k
  unfold greenscreenref19_Move.f
  repeat' first
      | (with_reducible exact greenscreenref02_Move.mono _ _ _ _ _)
      | (with_reducible exact LeO.refl _)
      | (with_reducible exact LeO.none _)
      | (with_reducible refine LeO.ite ?_ ?_)
      | (with_reducible refine LeO.bind ?_ (fun _ => ?_))
      | exact greenscreenref02_Move.mono _ _ _ _ _
      | exact LeO.none _
      | refine LeO.ite ?_ ?_
      | refine LeO.bind ?_ (fun _ => ?_)
def greenscreenref19_Move.T1 : Bool × List (List Nat × List Nat) := (true, [([], []), ([0], [0]), ([], []), ([2], [2]), ([], []), ([], []), ([5], [5]), ([6], [6]), ([4, 7], [4, 7]), ([], []), ([9], [9]), ([10], [10]), ([8, 11], [8, 11]), ([1, 3, 12], [1, 3, 12]), ([13, 13, 0, 1, 2, 3, 4, 5, 6, 7, 8, 9, 10, 11, 12, 13], [13])])
def greenscreenref19_Move.B1 : List Nat := [0, 1, 0, 4, 0, 0, 32, 96, 240, 0, 512, 1536, 4080, 8191, 16383]
theorem greenscreenref19_Move.tab1 : rtab .any (opsOf Try.f28 1) = greenscreenref19_Move.T1 := by kernel_rfl
theorem greenscreenref19_Move.bits1 : waitsOk greenscreenref19_Move.T1.2 greenscreenref19_Move.B1 = true := by kernel_rfl
set_option maxHeartbeats 8000000 in
set_option maxRecDepth 100000 in
theorem greenscreenref19_Move.calls (k : Nat) (a0_0 : Int) (a0_1 : Int) (A0_2 : Option Addr) (c0_2 : Nat) (l0_2 : List (S38)) (a0_3 : Int) (a1 : Int) (a2 : Int) (r : Int) (w : World) (hr0_2 : Kd.C k38 w A0_2 l0_2.length l0_2) (hc0_2 : l0_2.length ≤ c0_2) (h : greenscreenref19_Move.f k a0_0 a0_1 l0_2 a0_3 a1 a2 = some r) :
    Calls Try.prog 28 #[.agg #[.int .i64 a0_0, .int .i64 a0_1, .slice A0_2 l0_2.length c0_2, .int .i64 a0_3], .int .i64 a1, .int .i64 a2] w fun e w' => e = .returned (.int .i64 r) ∧ Below w.heap.size w w' := by
  have hu28 := Try.underlying28
  have hu23 := Try.underlying23
  have HR0_2 := Aside0.mk hr0_2
  have HC0_2 := Aside0.mk hc0_2
  clear hr0_2 hc0_2
  have HB := Aside0.mk (Below.refl w.heap.size w)
  have H : (if a0_0 = 0 then (none) else ((greenscreenref02_Move.f k a0_0 a0_1 a0_3 (wrap64 ((Int.tmod a1 a0_0) * a0_1))).bind fun t407 => ((greenscreenref02_Move.f k a0_0 a0_1 t407 a2).bind fun t408 => (some t408)))) = some r := h
  clear h
  by_cases c4 : a0_0 = 0
  · rw [if_pos c4] at H
    exact absurd H (by simp)
  · rw [if_neg c4] at H
    have c4b0 : (a0_0 == 0) = false := beq_eq_false_iff_ne.mpr c4
    have c4b1 : (a0_0 != 0) = true := bne_iff_ne.mpr c4
    replace H := Option.bind_eq_some_iff.mp H
    obtain ⟨t407, A50, H⟩ := H
    replace H : ((greenscreenref02_Move.f k a0_0 a0_1 t407 a2).bind fun t408 => (some t408)) = some r := H
    have A5 := Aside0.mk A50
    clear A50
    replace H := Option.bind_eq_some_iff.mp H
    obtain ⟨t408, A60, H⟩ := H
    replace H : (some t408) = some r := H
    have A6 := Aside0.mk A60
    clear A60
    obtain rfl := Option.some.inj H
    go_enter Try.func28, Try.ntmps28
    try go_wp2_with (first | ((with_reducible refine gate_dst (N := 3) rfl ?_); refine box_event ?hg (N := 3) ?hd (cs := #[.int .i64 a0_0, .int .i64 a0_1, .slice A0_2 l0_2.length c0_2, .int .i64 a0_3]) (t := 28) ?hr ?_; (case hd => rfl); (case hg => rfl); (case hr => first | (go_simp; done) | (go_simp; rfl)); intro gb406 hg w7 hbox hb; have n0_ := Aside0.mk (below_step (by repeat (first | (with_reducible first | exact HB.out | apply below_alloc | apply pw_below_drewN | apply below_drew1) | exact HB.out)) hb); have n1_ := Aside0.mk (hbox); have n2_ := Aside0.mk ((by rw [hg]; exact (below_size (by repeat (first | (with_reducible first | exact HB.out | apply below_alloc | apply pw_below_drewN | apply below_drew1) | exact HB.out))) : w.heap.size ≤ gb406)); have n3_ := Aside0.mk ((by rw [hg]; exact (below_size (by repeat (first | (with_reducible first | exact HB.out | apply below_alloc | apply pw_below_drewN | apply below_drew1) | exact HB.out))) : w.heap.size ≤ gb406)); clear HB; have HB := n0_; have BK406 := n1_; have GW406 := n2_; have GE406 := n3_; clear n0_ n1_ n2_ n3_; clear hb hbox hg))
    have n0_ := Aside0.mk (blk_drew BK406.out)
    have n1_ := Aside0.mk (below_drew1 HB.out)
    clear BK406
    clear HB
    have BK406 := n0_
    have HB := n1_
    clear n0_ n1_
    refine start_ (n := 15) (S := fun w' => w'.cell? ⟨gb406, 0, none⟩ = some (.int .i64 a0_0) ∧ w'.cell? ⟨gb406, 1, none⟩ = some (.int .i64 a0_1) ∧ w'.cell? ⟨gb406, 2, none⟩ = some (.slice A0_2 l0_2.length c0_2) ∧ w'.cell? ⟨gb406, 3, none⟩ = some (.int .i64 a0_3)) (ds := []) #[false, false, false, false, false, false, false, false, false, false, false, false, false, false, false] (by kernel_rfl) rfl rfl ⟨(blk_cell BK406.out 0).trans rfl, (blk_cell BK406.out 1).trans rfl, (blk_cell BK406.out 2).trans rfl, (blk_cell BK406.out 3).trans rfl⟩ (fun hHeld => ?_); refine with_tabW greenscreenref19_Move.tab1 greenscreenref19_Move.bits1 (fun HT_ HW_ => ?_)
    generalize w7.drew = w8 at BK406 HB hHeld ⊢
    refine pure_ (i := 0) (N := some 8) (v := ?_) (a' := ?_) #[true, false, false, false, false, false, false, false, false, false, false, false, false, false, false] rfl rfl (any_of HT_.out (by kernel_rfl)) (fun _ _ _ h => h) (Or.inl ⟨by rfl, ?_⟩) ?_ ?_
    rotate_left
    · intro w'
      go_simp
      with_reducible rfl
    rotate_left
    · simp only [Act.put, List.setIfInBounds_toArray, List.set_cons_zero, List.set_cons_succ, i64_w, i32_w]
      rfl
    refine pure_ (i := 2) (N := some 10) (v := ?_) (a' := ?_) #[true, false, true, false, false, false, false, false, false, false, false, false, false, false, false] rfl rfl (any_of HT_.out (by kernel_rfl)) (fun _ _ _ h => h) (Or.inl ⟨by rfl, ?_⟩) ?_ ?_
    rotate_left
    · intro w'
      go_simp
      with_reducible rfl
    rotate_left
    · simp only [Act.put, List.setIfInBounds_toArray, List.set_cons_zero, List.set_cons_succ, i64_w, i32_w]
      rfl
    refine pure_ (i := 4) (N := some 12) (v := ?_) (a' := ?_) #[true, false, true, false, true, false, false, false, false, false, false, false, false, false, false] rfl rfl (any_of HT_.out (by kernel_rfl)) (fun _ _ _ h => h) (Or.inl ⟨by rfl, ?_⟩) ?_ ?_
    rotate_left
    · intro w'
      go_simp
      with_reducible rfl
    rotate_left
    · simp only [Act.put, List.setIfInBounds_toArray, List.set_cons_zero, List.set_cons_succ, i64_w, i32_w]
      rfl
    refine pure_ (i := 5) (N := some 13) (v := ?_) (a' := ?_) #[true, false, true, false, true, true, false, false, false, false, false, false, false, false, false] rfl rfl (any_of HT_.out (by kernel_rfl)) (fun _ _ _ h => h) (Or.inl ⟨by rfl, ?_⟩) ?_ ?_
    rotate_left
    · intro w'
      go_simp
      with_reducible rfl
    rotate_left
    · simp only [Act.put, List.setIfInBounds_toArray, List.set_cons_zero, List.set_cons_succ, i64_w, i32_w]
      rfl
    refine pure_ (i := 6) (N := some 14) (v := ?_) (a' := ?_) #[true, false, true, false, true, true, true, false, false, false, false, false, false, false, false] rfl rfl (any_of HT_.out (by kernel_rfl)) (fun _ _ _ h => h) (Or.inl ⟨by rfl, ?_⟩) ?_ ?_
    rotate_left
    · intro w'
      go_simp
      with_reducible rfl
    rotate_left
    · simp only [Act.put, List.setIfInBounds_toArray, List.set_cons_zero, List.set_cons_succ, i64_w, i32_w]
      rfl
    refine pure_ (i := 9) (N := some 17) (v := ?_) (a' := ?_) #[true, false, true, false, true, true, true, false, false, true, false, false, false, false, false] rfl rfl (any_of HT_.out (by kernel_rfl)) (fun _ _ _ h => h) (Or.inl ⟨by rfl, ?_⟩) ?_ ?_
    rotate_left
    · intro w'
      go_simp
      with_reducible rfl
    rotate_left
    · simp only [Act.put, List.setIfInBounds_toArray, List.set_cons_zero, List.set_cons_succ, i64_w, i32_w]
      rfl
    refine pure_ (i := 10) (N := some 18) (v := ?_) (a' := ?_) #[true, false, true, false, true, true, true, false, false, true, true, false, false, false, false] rfl rfl (any_of HT_.out (by kernel_rfl)) (fun _ _ _ h => h) (Or.inl ⟨by rfl, ?_⟩) ?_ ?_
    rotate_left
    · intro w'
      go_simp
      with_reducible rfl
    rotate_left
    · simp only [Act.put, List.setIfInBounds_toArray, List.set_cons_zero, List.set_cons_succ, i64_w, i32_w]
      rfl
    refine take_ (i := 1) (N := some 9) (v := ?_) (a' := ?_) #[true, true, true, false, true, true, true, false, false, true, true, false, false, false, false] rfl rfl (take_ofW HT_.out HW_.out (by kernel_rfl)) (fun _ _ _ h => h) (Or.inl ⟨by rfl, ?_⟩) hHeld ?_ ?_
    rotate_left
    · rintro w' ⟨s0, s1, s2, s3⟩
      go_simp
      with_reducible rfl
    rotate_left
    · simp only [Act.put, List.setIfInBounds_toArray, List.set_cons_zero, List.set_cons_succ, i64_w, i32_w]
      rfl
    refine take_ (i := 3) (N := some 11) (v := ?_) (a' := ?_) #[true, true, true, true, true, true, true, false, false, true, true, false, false, false, false] rfl rfl (take_ofW HT_.out HW_.out (by kernel_rfl)) (fun _ _ _ h => h) (Or.inl ⟨by rfl, ?_⟩) hHeld ?_ ?_
    rotate_left
    · rintro w' ⟨s0, s1, s2, s3⟩
      go_simp
      with_reducible rfl
    rotate_left
    · simp only [Act.put, List.setIfInBounds_toArray, List.set_cons_zero, List.set_cons_succ, i64_w, i32_w]
      rfl
    refine take_ (i := 7) (N := some 15) (v := ?_) (a' := ?_) #[true, true, true, true, true, true, true, true, false, true, true, false, false, false, false] rfl rfl (take_ofW HT_.out HW_.out (by kernel_rfl)) (fun _ _ _ h => h) (Or.inl ⟨by rfl, ?_⟩) hHeld ?_ ?_
    rotate_left
    · rintro w' ⟨s0, s1, s2, s3⟩
      go_simp
      with_reducible rfl
    rotate_left
    · simp only [Act.put, List.setIfInBounds_toArray, List.set_cons_zero, List.set_cons_succ, i64_w, i32_w]
      rfl
    refine pure_ (i := 8) (N := some 16) (v := ?_) (a' := ?_) #[true, true, true, true, true, true, true, true, true, true, true, false, false, false, false] rfl rfl (any_of HT_.out (by kernel_rfl)) (fun _ _ _ h => h) (Or.inl ⟨by rfl, ?_⟩) ?_ ?_
    rotate_left
    · intro w'
      go_simp
      with_reducible rfl
    rotate_left
    · simp only [Act.put, List.setIfInBounds_toArray, List.set_cons_zero, List.set_cons_succ, i64_w, i32_w]
      rfl
    refine take_ (i := 11) (N := some 19) (v := ?_) (a' := ?_) #[true, true, true, true, true, true, true, true, true, true, true, true, false, false, false] rfl rfl (take_ofW HT_.out HW_.out (by kernel_rfl)) (fun _ _ _ h => h) (Or.inl ⟨by rfl, ?_⟩) hHeld ?_ ?_
    rotate_left
    · rintro w' ⟨s0, s1, s2, s3⟩
      go_simp
      with_reducible rfl
    rotate_left
    · simp only [Act.put, List.setIfInBounds_toArray, List.set_cons_zero, List.set_cons_succ, i64_w, i32_w]
      rfl
    refine pure_ (i := 12) (N := some 20) (v := ?_) (a' := ?_) #[true, true, true, true, true, true, true, true, true, true, true, true, true, false, false] rfl rfl (any_of HT_.out (by kernel_rfl)) (fun _ _ _ h => h) (Or.inl ⟨by rfl, ?_⟩) ?_ ?_
    rotate_left
    · intro w'
      go_simp
      with_reducible rfl
    rotate_left
    · simp only [Act.put, List.setIfInBounds_toArray, List.set_cons_zero, List.set_cons_succ, i64_w, i32_w]
      rfl
    refine one_ (i := 13) (N := some 21) #[true, true, true, true, true, true, true, true, true, true, true, true, true, true, false] rfl rfl (one_of HT_.out (by kernel_rfl)) (by decide) (fun K hK => ?_)
    refine goes_ Try.func65 (by kernel_rfl) rfl #[.agg #[.int .i64 a0_0, .int .i64 a0_1], .int .i64 a0_3, .int .i64 (wrap64 ((Int.tmod a1 a0_0) * a0_1))] (by rfl) rfl rfl (by (try simp only [List.map_toArray, List.map_cons, List.map_nil]); first | done | rfl | (simp only [List.length_drop, List.length_take]; rfl)) ?_
    with_reducible refine (greenscreenref02_Move.calls k a0_0 a0_1 a0_3 (wrap64 ((Int.tmod a1 a0_0) * a0_1)) t407 _ A5.out).mono ?_
    rintro e w9 ⟨rfl, hb⟩
    refine ⟨_, rfl, ?_⟩
    have n0_ := Aside0.mk (blk_below (g := gb406) (o := .cells #[.int .i64 a0_0, .int .i64 a0_1, .slice A0_2 l0_2.length c0_2, .int .i64 a0_3] 28 (0, 0)) (by (with_reducible repeat (first | refine blk_drewN ?_ _ | refine blk_drew ?_ | refine blk_alloc ?_ _)); exact BK406.out) hb)
    have n1_ := Aside0.mk (below_step (by repeat (first | (with_reducible first | exact HB.out | apply below_alloc | apply pw_below_drewN | apply below_drew1 | refine below_set ?_ GE406.out) | exact HB.out)) hb)
    clear BK406
    clear HB
    have BK406 := n0_
    have HB := n1_
    clear n0_ n1_
    (try clear hb)
    (try clear hb2)
    (try clear hk)
    (try clear hi)
    refine hK.out _ _ ⟨(blk_cell BK406.out 0).trans rfl, (blk_cell BK406.out 1).trans rfl, (blk_cell BK406.out 2).trans rfl, (blk_cell BK406.out 3).trans rfl⟩ (fun hHeld => ?_)
    clear hK K
    refine norm_ (a' := ?_) ?_ ?_
    rotate_left
    · show Act.put _ (some 21) _ = _
      simp only [Act.put, List.setIfInBounds_toArray, List.set_cons_zero, List.set_cons_succ, i64_w, i32_w]
      rfl
    refine pure_ (i := 14) (N := some 7) (v := ?_) (a' := ?_) #[true, true, true, true, true, true, true, true, true, true, true, true, true, true, true] rfl rfl (any_of HT_.out (by kernel_rfl)) (fun _ _ _ h => h) (Or.inl ⟨by rfl, ?_⟩) ?_ ?_
    rotate_left
    · intro w'
      go_simp
      with_reducible rfl
    rotate_left
    · simp only [Act.put, List.setIfInBounds_toArray, List.set_cons_zero, List.set_cons_succ, i64_w, i32_w]
      rfl
    refine done_ (done_of HT_.out (by kernel_rfl)) ?_
    have hcz10_0 : w9.cell? ⟨gb406, 0, none⟩ = some (.int .i64 a0_0) := (blk_cell BK406.out 0).trans rfl
    have hcz10_1 : w9.cell? ⟨gb406, 1, none⟩ = some (.int .i64 a0_1) := (blk_cell BK406.out 1).trans rfl
    have hcz10_2 : w9.cell? ⟨gb406, 2, none⟩ = some (.slice A0_2 l0_2.length c0_2) := (blk_cell BK406.out 2).trans rfl
    have hcz10_3 : w9.cell? ⟨gb406, 3, none⟩ = some (.int .i64 a0_3) := (blk_cell BK406.out 3).trans rfl
    have hfz10_0 := blk_frozen BK406.out 0
    have hfz10_1 := blk_frozen BK406.out 1
    have hfz10_2 := blk_frozen BK406.out 2
    have hfz10_3 := blk_frozen BK406.out 3
    try go_wp2_with (first | ((with_reducible refine gate_callee (f := 65) rfl ?_); refine goesL_ (some 26) rfl rfl Try.func65 (by kernel_rfl) rfl #[.agg #[.int .i64 a0_0, .int .i64 a0_1], .int .i64 t407, .int .i64 a2] rfl (by (try simp only [List.map_toArray, List.map_cons, List.map_nil]); first | done | rfl | (simp only [List.length_drop, List.length_take]; rfl)) ?_; (with_reducible refine (greenscreenref02_Move.calls k a0_0 a0_1 t407 a2 t408 _ A6.out).mono ?_); rintro e w11 ⟨rfl, hb⟩; refine ⟨_, rfl, ?_⟩; have n0_ := Aside0.mk (blk_below (g := gb406) (o := .cells #[.int .i64 a0_0, .int .i64 a0_1, .slice A0_2 l0_2.length c0_2, .int .i64 a0_3] 28 (0, 0)) (by (with_reducible repeat (first | refine blk_drewN ?_ _ | refine blk_drew ?_ | refine blk_alloc ?_ _)); exact BK406.out) hb); have n1_ := Aside0.mk (below_step (by repeat (first | (with_reducible first | exact HB.out | apply below_alloc | apply pw_below_drewN | apply below_drew1 | refine below_set ?_ GE406.out) | exact HB.out)) hb); clear BK406; clear HB; have BK406 := n0_; have HB := n1_; clear n0_ n1_; (try clear hb); (try clear hb2); (try clear hk); (try clear hi)))
    go_ret
    exact ⟨by first | rfl | (simp [errW_none, errW_some] <;> rfl) | (simp [*, errW_none, errW_some] <;> rfl), by repeat (first | (with_reducible first | exact HB.out | apply below_alloc | apply pw_below_drewN | apply below_drew1 | refine below_set ?_ GE406.out) | exact HB.out)⟩

/-! ### greenscreenref15_Starts: function 82 -/
def greenscreenref15_Starts.l0 : Nat → List Int → Int → Int → Int → List (S38) → Int → Option (List Int)
  | 0, _, _, _, _, _, _ => none
  | k + 1, x3, x4, x410000, x410001, x410002, x410003 => if x4 < (x410002.length : Int) then (if 0 ≤ x4 then (if (rd_T38 x410002 x4).f2 = true then (if x3.length < 17592186044416 then (greenscreenref15_Starts.l0 k (x3 ++ [x4]) (wrap64 (x4 + 1)) x410000 x410001 x410002 x410003) else (none)) else (greenscreenref15_Starts.l0 k x3 (wrap64 (x4 + 1)) x410000 x410001 x410002 x410003)) else (none)) else (some x3)
def greenscreenref15_Starts.f (k : Nat) (a0_0 : Int) (a0_1 : Int) (l0_2 : List (S38)) (a0_3 : Int) : Option (List Int) := greenscreenref15_Starts.l0 k (([] : List Int)) 0 a0_0 a0_1 l0_2 a0_3
theorem greenscreenref15_Starts.mono_l : ∀ k, (∀ y0 y1 y2 y3 y4 y5, LeO (greenscreenref15_Starts.l0 k y0 y1 y2 y3 y4 y5) (greenscreenref15_Starts.l0 (k + 1) y0 y1 y2 y3 y4 y5))
  | 0 => fun _ _ _ _ _ _ r h => by simp [greenscreenref15_Starts.l0] at h
  | k + 1 => by
    have ih0 := greenscreenref15_Starts.mono_l k
    · intro y0 y1 y2 y3 y4 y5
      unfold greenscreenref15_Starts.l0
      repeat' first
      | (with_reducible exact ih0 _ _ _ _ _ _)
      | (with_reducible exact LeO.refl _)
      | (with_reducible exact LeO.none _)
      | (with_reducible refine LeO.ite ?_ ?_)
      | (with_reducible refine LeO.bind ?_ (fun _ => ?_))
      | exact ih0 _ _ _ _ _ _
      | exact LeO.none _
      | refine LeO.ite ?_ ?_
      | refine LeO.bind ?_ (fun _ => ?_)
theorem greenscreenref15_Starts.mono : ∀ a0 a1 a2 a3 k, LeO (greenscreenref15_Starts.f k a0 a1 a2 a3) (greenscreenref15_Starts.f (k + 1) a0 a1 a2 a3) := by
  intro a0 a1 a2 a3 k
  have ih0 := greenscreenref15_Starts.mono_l k
  unfold greenscreenref15_Starts.f
  repeat' first
      | (with_reducible exact ih0 _ _ _ _ _ _)
      | (with_reducible exact LeO.refl _)
      | (with_reducible exact LeO.none _)
      | (with_reducible refine LeO.ite ?_ ?_)
      | (with_reducible refine LeO.bind ?_ (fun _ => ?_))
      | exact ih0 _ _ _ _ _ _
      | exact LeO.none _
      | refine LeO.ite ?_ ?_
      | refine LeO.bind ?_ (fun _ => ?_)
set_option maxHeartbeats 8000000 in
set_option maxRecDepth 100000 in
theorem greenscreenref15_Starts.calls (k : Nat) (a0_0 : Int) (a0_1 : Int) (A0_2 : Option Addr) (c0_2 : Nat) (l0_2 : List (S38)) (a0_3 : Int) (r : List Int) (w : World) (hr0_2 : Kd.C k38 w A0_2 l0_2.length l0_2) (hc0_2 : l0_2.length ≤ c0_2) (h : greenscreenref15_Starts.f k a0_0 a0_1 l0_2 a0_3 = some r) :
    Calls Try.prog 82 #[.agg #[.int .i64 a0_0, .int .i64 a0_1, .slice A0_2 l0_2.length c0_2, .int .i64 a0_3]] w fun e w' => ∃ v0_ : Value, e = .returned (v0_) ∧ Kd.R (Kd.int .i64) 3 w' w.heap.size (fun _ => True) v0_ r ∧ Below w.heap.size w w' := by
  have hu28 := Try.underlying28
  have HR0_2 := Aside0.mk hr0_2
  have HC0_2 := Aside0.mk hc0_2
  clear hr0_2 hc0_2
  have HB := Aside0.mk (Below.refl w.heap.size w)
  have H : (greenscreenref15_Starts.l0 k (([] : List Int)) 0 a0_0 a0_1 l0_2 a0_3) = some r := h
  clear h
  obtain ⟨y410, hy410⟩ : ∃ y_ : List Int, y_ = (([] : List Int)) := ⟨_, rfl⟩
  replace H : (greenscreenref15_Starts.l0 k y410 0 a0_0 a0_1 l0_2 a0_3) = some r := by first | (rw [hy410]; with_reducible exact H) | (have H2_ := (Option.bind_some _ _).symm.trans H; rw [hy410]; with_reducible exact H2_) | (have H2_ := (Option.bind_some _ _).symm.trans H; with_reducible exact H2_) | with_reducible exact H | (rw [hy410]; exact H) | exact H
  have Ny410 := Aside0.mk hy410
  clear hy410
  have H' := Aside0.mk H
  clear H
  go_enter Try.func82, Try.ntmps82
  go_wp2_with (first | ((with_reducible refine gate_dst (N := 1) rfl ?_); refine box_event ?hg (N := 1) ?hd (cs := #[.int .i64 a0_0, .int .i64 a0_1, .slice A0_2 l0_2.length c0_2, .int .i64 a0_3]) (t := 28) ?hr ?_; (case hd => rfl); (case hg => rfl); (case hr => first | (go_simp; done) | (go_simp; rfl)); intro gb409 hg w2 hbox hb; have n0_ := Aside0.mk (below_step (by repeat (first | (with_reducible first | exact HB.out | apply below_alloc | apply pw_below_drewN | apply below_drew1) | exact HB.out)) hb); have n1_ := Aside0.mk (hbox); have n2_ := Aside0.mk ((by rw [hg]; exact (below_size (by repeat (first | (with_reducible first | exact HB.out | apply below_alloc | apply pw_below_drewN | apply below_drew1) | exact HB.out))) : w.heap.size ≤ gb409)); have n3_ := Aside0.mk ((by rw [hg]; exact (below_size (by repeat (first | (with_reducible first | exact HB.out | apply below_alloc | apply pw_below_drewN | apply below_drew1) | exact HB.out))) : w.heap.size ≤ gb409)); clear HB; have HB := n0_; have BK409 := n1_; have GW409 := n2_; have GE409 := n3_; clear n0_ n1_ n2_ n3_; clear hb hbox hg) | ((with_reducible refine gate_dst (N := 5) rfl ?_); refine Kd.R_lit (Kd.int .i64) _ 3 ?hg (N := 5) ?hd (xs := ([] : List Int)) (inner := []) (ok := fun _ => True) (okp := fun _ => True) ?hr ?hp (fun _ hk => hk) trivial (Below.refl _ _) (Nat.le_refl _) (by simp) ?_; (case hd => rfl); (case hg => rfl); (case hr => first | (go_simp; done) | (go_simp; rfl)); (case hp => exact (Reps.none _ _)); intro v411 w3 ho4 hb hg_ hnew_; clear hg_ hnew_; (first | rw [← Ny410.out] at ho4 | (simp only [Int.reduceToNat] at ho4; rw [← Ny410.out] at ho4)); have n0_ := Aside0.mk (Kd.R_lower ho4 (below_size (by repeat (first | (with_reducible first | exact HB.out | apply below_alloc | apply pw_below_drewN | apply below_drew1 | refine below_set ?_ GE409.out) | exact HB.out)))); have n1_ := Aside0.mk (blk_below (g := gb409) (o := .cells #[.int .i64 a0_0, .int .i64 a0_1, .slice A0_2 l0_2.length c0_2, .int .i64 a0_3] 28 (0, 0)) (by (with_reducible repeat (first | refine blk_drewN ?_ _ | refine blk_drew ?_ | refine blk_alloc ?_ _)); exact BK409.out) hb); have n2_ := Aside0.mk (below_step (by repeat (first | (with_reducible first | exact HB.out | apply below_alloc | apply pw_below_drewN | apply below_drew1 | refine below_set ?_ GE409.out) | exact HB.out)) hb); clear BK409; clear HB; have HO412 := n0_; have BK409 := n1_; have HB := n2_; clear n0_ n1_ n2_; clear hb ho4))
  go_loopg [3, 4] k (fun kq v3 v4 w' => ∃ (x3_1 : List Int) (x4_1 : Int), v4 = .int .i64 x4_1 ∧ Aside0 (greenscreenref15_Starts.l0 kq x3_1 x4_1 a0_0 a0_1 l0_2 a0_3 = some r) ∧ Aside0 (kq ≤ k) ∧ Aside0 (Kd.R (Kd.int .i64) 3 w' w.heap.size (fun _ => True) v3 x3_1) ∧ Aside0 (w'.heap[gb409]? = some (.cells #[.int .i64 a0_0, .int .i64 a0_1, (.slice A0_2 l0_2.length c0_2), .int .i64 a0_3] 28 (0, 0))) ∧ Aside0 (Below w.heap.size w w'))
  case atStart => exact ⟨(y410), (0), (by first | rfl | (simp; done) | (simp [*]; done)), H', ⟨Nat.le_refl _⟩, ⟨by (with_reducible repeat (first | apply Kd.R_alloc | apply Kd.R_drewN | apply Kd.R_drew)); exact HO412.out⟩, ⟨by (with_reducible repeat (first | refine blk_drewN ?_ _ | refine blk_drew ?_ | refine blk_alloc ?_ _)); exact BK409.out⟩, ⟨by repeat (first | (with_reducible first | exact HB.out | apply below_alloc | apply pw_below_drewN | apply below_drew1 | refine below_set ?_ GE409.out) | exact HB.out)⟩⟩
  case round =>
    clear H'
    try clear p2
    obtain ⟨x3_1, x4_1, rfl, HA, HK1, HO_3, BK409, HB⟩ := hrel
    cases gk with
    | zero => exact absurd HA.out (by simp [greenscreenref15_Starts.l0])
    | succ k1 =>
      have H := HA.out
      clear HA
      simp only [greenscreenref15_Starts.l0] at H
      by_cases c5 : x4_1 < (l0_2.length : Int)
      · rw [if_pos c5] at H
        have c5b0 : decide (x4_1 < (l0_2.length : Int)) = true := decide_eq_true c5
        clear c5
        by_cases c6 : 0 ≤ x4_1
        · rw [if_pos c6] at H
          have c6b0 : decide (0 ≤ x4_1) = true := decide_eq_true c6
          clear c6
          obtain ⟨bq7, hbq7⟩ : ∃ b_ : Bool, b_ = ((rd_T38 l0_2 x4_1).f2) := ⟨_, rfl⟩
          replace H : (if bq7 = true then (if x3_1.length < 17592186044416 then (greenscreenref15_Starts.l0 k1 (x3_1 ++ [x4_1]) (wrap64 (x4_1 + 1)) a0_0 a0_1 l0_2 a0_3) else (none)) else (greenscreenref15_Starts.l0 k1 x3_1 (wrap64 (x4_1 + 1)) a0_0 a0_1 l0_2 a0_3)) = some r := by rw [← hbq7] at H; exact H
          have Nbq7 := Aside0.mk hbq7
          clear hbq7
          by_cases c8 : bq7 = true
          · subst c8
            have H1 : (if x3_1.length < 17592186044416 then (greenscreenref15_Starts.l0 k1 (x3_1 ++ [x4_1]) (wrap64 (x4_1 + 1)) a0_0 a0_1 l0_2 a0_3) else (none)) = some r := by rw [if_pos rfl] at H; exact H
            clear H
            have H := H1
            clear H1
            by_cases c9 : x3_1.length < 17592186044416
            · rw [if_pos c9] at H
              have LMc9 := Aside0.mk c9
              clear c9
              obtain ⟨y414, hy414⟩ : ∃ y_ : List Int, y_ = (x3_1 ++ [x4_1]) := ⟨_, rfl⟩
              replace H : (greenscreenref15_Starts.l0 k1 y414 (wrap64 (x4_1 + 1)) a0_0 a0_1 l0_2 a0_3) = some r := by first | (rw [hy414]; with_reducible exact H) | (have H2_ := (Option.bind_some _ _).symm.trans H; rw [hy414]; with_reducible exact H2_) | (have H2_ := (Option.bind_some _ _).symm.trans H; with_reducible exact H2_) | with_reducible exact H | (rw [hy414]; exact H) | exact H
              have Ny414 := Aside0.mk hy414
              clear hy414
              have H' := Aside0.mk H
              clear H
              have hcz10_0 : wr.cell? ⟨gb409, 0, none⟩ = some (.int .i64 a0_0) := (blk_cell BK409.out 0).trans rfl
              have hcz10_1 : wr.cell? ⟨gb409, 1, none⟩ = some (.int .i64 a0_1) := (blk_cell BK409.out 1).trans rfl
              have hcz10_2 : wr.cell? ⟨gb409, 2, none⟩ = some (.slice A0_2 l0_2.length c0_2) := (blk_cell BK409.out 2).trans rfl
              have hcz10_3 : wr.cell? ⟨gb409, 3, none⟩ = some (.int .i64 a0_3) := (blk_cell BK409.out 3).trans rfl
              have hfz10_0 := blk_frozen BK409.out 0
              have hfz10_1 := blk_frozen BK409.out 1
              have hfz10_2 := blk_frozen BK409.out 2
              have hfz10_3 := blk_frozen BK409.out 3
              have p413 : 0 ≤ (x4_1 : Int) := of_decide_eq_true (by first | (with_reducible assumption) | assumption)
              have q413 : x4_1 < (l0_2.length : Int) := of_decide_eq_true (by first | (with_reducible assumption) | assumption)
              obtain ⟨ad413, e413, hx413_0, hx413_1, hx413_2, hx413_3, hx413_4⟩ := at_T38 HR0_2.out x4_1 p413 q413
              (try rw [← Nbq7.out] at hx413_1)
              (try rw [← Nbq7.out] at hx413_2)
              cases e413
              replace hx413_0 := (HB.out.cell (World.block_lt_of_cell? w _ hx413_0)).trans hx413_0
              replace hx413_1 := (HB.out.cell (World.block_lt_of_cell? w _ hx413_1)).trans hx413_1
              replace hx413_2 := (HB.out.cell (World.block_lt_of_cell? w _ hx413_2)).trans hx413_2
              replace hx413_3 := (HB.out.cell (World.block_lt_of_cell? w _ hx413_3)).trans hx413_3
              replace hx413_4 := (HB.out.cell (World.block_lt_of_cell? w _ hx413_4)).trans hx413_4
              replace p413 := eq_true p413
              replace q413 := eq_true q413
              go_wp2_with (first | ((with_reducible refine gate_builtin (b := .append) (xs := #[.tmp 19, .tmp 21]) rfl ?_); at_builtin; refine Kd.R_append (Kd.int .i64) (w0 := w) w.heap.size rfl (.tmp 19) (.tmp 21) 31 3 (.int .i64 0) 8 rfl Try.underlying31 info3 rfl (by decide) (by omega) u3 x3_1 x4_1 [.int .i64 x4_1] (fun _ => True) (fun _ => False) rfl rfl ?aP (fun _ hk => hk.elim) ?aF ?aO ?aB ?aS ?aL ?_; (case aP => exact rfl); (case aB => exact (by repeat (first | (with_reducible first | exact HB.out | apply below_alloc | apply pw_below_drewN | apply below_drew1 | refine below_set ?_ GE409.out) | exact HB.out))); (case aF => exact (fun _ _ => trivial)); (case aO => exact (by (with_reducible repeat (first | apply Kd.R_alloc | apply Kd.R_drewN | apply Kd.R_drew)); exact HO_3.out)); (case aS => exact (below_size (by repeat (first | (with_reducible first | exact HB.out | apply below_alloc | apply pw_below_drewN | apply below_drew1 | refine below_set ?_ GE409.out) | exact HB.out)))); (case aL => have := LMc9.out; omega); intro v415 w11 ho hb hg hat; rw [← Ny414.out] at ho; have n0_ := Aside0.mk (blk_grown (g := gb409) (o := .cells #[.int .i64 a0_0, .int .i64 a0_1, .slice (some ad413) l0_2.length c0_2, .int .i64 a0_3] 28 (0, 0)) (by (with_reducible repeat (first | refine blk_drewN ?_ _ | refine blk_drew ?_ | refine blk_alloc ?_ _)); exact BK409.out) hg (Kd.R_ne HO_3.out BK409.out (by decide))); have n1_ := Aside0.mk (hb); have n2_ := Aside0.mk (ho); clear BK409; clear HB; clear HO_3; have BK409 := n0_; have HB := n1_; have HO416 := n2_; clear n0_ n1_ n2_; clear ho hb hg hat))
              go_roundg k1
              case measure => have := HK1.out; omega
              case rel => exact ⟨(y414), (wrap64 (x4_1 + 1)), (by first | rfl | (simp; done) | (simp [*]; done)), H', ⟨by have := HK1.out; omega⟩, ⟨by (with_reducible repeat (first | apply Kd.R_alloc | apply Kd.R_drewN | apply Kd.R_drew)); exact HO416.out⟩, ⟨by (with_reducible repeat (first | refine blk_drewN ?_ _ | refine blk_drew ?_ | refine blk_alloc ?_ _)); exact BK409.out⟩, ⟨by repeat (first | (with_reducible first | exact HB.out | apply below_alloc | apply pw_below_drewN | apply below_drew1 | refine below_set ?_ GE409.out) | exact HB.out)⟩⟩
            · rw [if_neg c9] at H
              exact absurd H (by simp)
          · replace c8 := Bool.eq_false_iff.mpr c8
            subst c8
            have H1 : (greenscreenref15_Starts.l0 k1 x3_1 (wrap64 (x4_1 + 1)) a0_0 a0_1 l0_2 a0_3) = some r := by rw [if_neg (show ¬ (false = true) by decide)] at H; exact H
            clear H
            have H := H1
            clear H1
            have H' := Aside0.mk H
            clear H
            have hcz12_0 : wr.cell? ⟨gb409, 0, none⟩ = some (.int .i64 a0_0) := (blk_cell BK409.out 0).trans rfl
            have hcz12_1 : wr.cell? ⟨gb409, 1, none⟩ = some (.int .i64 a0_1) := (blk_cell BK409.out 1).trans rfl
            have hcz12_2 : wr.cell? ⟨gb409, 2, none⟩ = some (.slice A0_2 l0_2.length c0_2) := (blk_cell BK409.out 2).trans rfl
            have hcz12_3 : wr.cell? ⟨gb409, 3, none⟩ = some (.int .i64 a0_3) := (blk_cell BK409.out 3).trans rfl
            have hfz12_0 := blk_frozen BK409.out 0
            have hfz12_1 := blk_frozen BK409.out 1
            have hfz12_2 := blk_frozen BK409.out 2
            have hfz12_3 := blk_frozen BK409.out 3
            have p413 : 0 ≤ (x4_1 : Int) := of_decide_eq_true (by first | (with_reducible assumption) | assumption)
            have q413 : x4_1 < (l0_2.length : Int) := of_decide_eq_true (by first | (with_reducible assumption) | assumption)
            obtain ⟨ad413, e413, hx413_0, hx413_1, hx413_2, hx413_3, hx413_4⟩ := at_T38 HR0_2.out x4_1 p413 q413
            (try rw [← Nbq7.out] at hx413_1)
            (try rw [← Nbq7.out] at hx413_2)
            cases e413
            replace hx413_0 := (HB.out.cell (World.block_lt_of_cell? w _ hx413_0)).trans hx413_0
            replace hx413_1 := (HB.out.cell (World.block_lt_of_cell? w _ hx413_1)).trans hx413_1
            replace hx413_2 := (HB.out.cell (World.block_lt_of_cell? w _ hx413_2)).trans hx413_2
            replace hx413_3 := (HB.out.cell (World.block_lt_of_cell? w _ hx413_3)).trans hx413_3
            replace hx413_4 := (HB.out.cell (World.block_lt_of_cell? w _ hx413_4)).trans hx413_4
            replace p413 := eq_true p413
            replace q413 := eq_true q413
            go_wp2
            go_roundg k1
            case measure => have := HK1.out; omega
            case rel => exact ⟨(x3_1), (wrap64 (x4_1 + 1)), (by first | rfl | (simp; done) | (simp [*]; done)), H', ⟨by have := HK1.out; omega⟩, ⟨by (with_reducible repeat (first | apply Kd.R_alloc | apply Kd.R_drewN | apply Kd.R_drew)); exact HO_3.out⟩, ⟨by (with_reducible repeat (first | refine blk_drewN ?_ _ | refine blk_drew ?_ | refine blk_alloc ?_ _)); exact BK409.out⟩, ⟨by repeat (first | (with_reducible first | exact HB.out | apply below_alloc | apply pw_below_drewN | apply below_drew1 | refine below_set ?_ GE409.out) | exact HB.out)⟩⟩
        · rw [if_neg c6] at H
          exact absurd H (by simp)
      · rw [if_neg c5] at H
        have c5b0 : decide (x4_1 < (l0_2.length : Int)) = false := decide_eq_false c5
        clear c5
        obtain rfl := Option.some.inj H
        have hcz13_0 : wr.cell? ⟨gb409, 0, none⟩ = some (.int .i64 a0_0) := (blk_cell BK409.out 0).trans rfl
        have hcz13_1 : wr.cell? ⟨gb409, 1, none⟩ = some (.int .i64 a0_1) := (blk_cell BK409.out 1).trans rfl
        have hcz13_2 : wr.cell? ⟨gb409, 2, none⟩ = some (.slice A0_2 l0_2.length c0_2) := (blk_cell BK409.out 2).trans rfl
        have hcz13_3 : wr.cell? ⟨gb409, 3, none⟩ = some (.int .i64 a0_3) := (blk_cell BK409.out 3).trans rfl
        have hfz13_0 := blk_frozen BK409.out 0
        have hfz13_1 := blk_frozen BK409.out 1
        have hfz13_2 := blk_frozen BK409.out 2
        have hfz13_3 := blk_frozen BK409.out 3
        go_wp2
        go_ret
        exact ⟨_, by first | rfl | (simp [errW_none, errW_some] <;> rfl) | (simp [*, errW_none, errW_some] <;> rfl), by (with_reducible repeat (first | apply Kd.R_alloc | apply Kd.R_drewN | apply Kd.R_drew)); exact HO_3.out, by repeat (first | (with_reducible first | exact HB.out | apply below_alloc | apply pw_below_drewN | apply below_drew1 | refine below_set ?_ GE409.out) | exact HB.out)⟩

end Go.Proofs.Ytmcfckdgolojlaa.PCaretMoves
