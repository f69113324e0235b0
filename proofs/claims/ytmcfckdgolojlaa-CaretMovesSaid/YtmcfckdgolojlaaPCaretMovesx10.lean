-- PRINTED BY print.sh 35421559b90ae4d0a3588c463048766b98c2df88dd9212a6774a882060cdf62d: not written by this session
import Derived.Test.YtmcfckdgolojlaaPCaretMovesx0
import Derived.Test.YtmcfckdgolojlaaPCaretMovesx1
import Derived.Test.YtmcfckdgolojlaaPCaretMovesx6
import Derived.Test.YtmcfckdgolojlaaPCaretMovesx7
import Derived.Test.YtmcfckdgolojlaaPCaretMovesx9
namespace Go.Proofs.Ytmcfckdgolojlaa.PCaretMoves
open Go.RowKit Go.Proofs.YtmcfckdgolojlaaW.PrintWords Go.Proofs.YtmcfckdgolojlaaW.PrintLast Go.Proofs.YtmcfckdgolojlaaW.PrintMore
attribute [local go_sem] max2_int min2_int max_two min_two max_three min_three max_four min_four   -- for this text's walks alone
set_option linter.unusedVariables false
set_option linter.unusedSimpArgs false

attribute [local go_sem high] eqA38
/-! ### greenscreenref19_Newline: function 31 -/
def greenscreenref19_Newline.l0 : Nat → Int → Int → Int → Int → Int → List (S38) → Int → Option (Int)
  | 0, _, _, _, _, _, _, _ => none
  | k + 1, x3, x4, x5, x508000, x508001, x508002, x508003 => if x5 < x3 then (if x3 = 0 then (none) else ((greenscreenref15_Open.f k x508000 x508001 x508002 x508003 (Int.tmod (wrap64 (x4 + x5)) x3)).bind fun t508 => (if t508 = true then (some (Int.tmod (wrap64 (x4 + x5)) x3)) else (greenscreenref19_Newline.l0 k x3 x4 (wrap64 (x5 + 1)) x508000 x508001 x508002 x508003)))) else (some 0)
def greenscreenref19_Newline.f (k : Nat) (a0_0 : Int) (a0_1 : Int) (l0_2 : List (S38)) (a0_3 : Int) : Option (Int) := if a0_1 = 0 then (none) else (greenscreenref19_Newline.l0 k (l0_2.length : Int) (wrap64 ((wrap64 ((wrap64 (Int.tdiv a0_3 a0_1)) + 1)) * a0_1)) 0 a0_0 a0_1 l0_2 a0_3)
theorem greenscreenref19_Newline.mono_l : ∀ k, (∀ y0 y1 y2 y3 y4 y5 y6, LeO (greenscreenref19_Newline.l0 k y0 y1 y2 y3 y4 y5 y6) (greenscreenref19_Newline.l0 (k + 1) y0 y1 y2 y3 y4 y5 y6))
  | 0 => fun _ _ _ _ _ _ _ r h => by simp [greenscreenref19_Newline.l0] at h
  | k + 1 => by
    have ih0 := greenscreenref19_Newline.mono_l k
    · intro y0 y1 y2 y3 y4 y5 y6
      unfold greenscreenref19_Newline.l0
      repeat' first
      | (with_reducible exact ih0 _ _ _ _ _ _ _)
      | (with_reducible exact greenscreenref15_Open.mono _ _ _ _ _ _)
      | (with_reducible exact LeO.refl _)
      | (with_reducible exact LeO.none _)
      | (with_reducible refine LeO.ite ?_ ?_)
      | (with_reducible refine LeO.bind ?_ (fun _ => ?_))
      | exact ih0 _ _ _ _ _ _ _
      | exact greenscreenref15_Open.mono _ _ _ _ _ _
      | exact LeO.none _
      | refine LeO.ite ?_ ?_
      | refine LeO.bind ?_ (fun _ => ?_)
theorem greenscreenref19_Newline.mono : ∀ a0 a1 a2 a3 k, LeO (greenscreenref19_Newline.f k a0 a1 a2 a3) (greenscreenref19_Newline.f (k + 1) a0 a1 a2 a3) := by
  intro a0 a1 a2 a3 k
  have ih0 := greenscreenref19_Newline.mono_l k
  unfold greenscreenref19_Newline.f
  repeat' first
      | (with_reducible exact ih0 _ _ _ _ _ _ _)
      | (with_reducible exact greenscreenref15_Open.mono _ _ _ _ _ _)
      | (with_reducible exact LeO.refl _)
      | (with_reducible exact LeO.none _)
      | (with_reducible refine LeO.ite ?_ ?_)
      | (with_reducible refine LeO.bind ?_ (fun _ => ?_))
      | exact ih0 _ _ _ _ _ _ _
      | exact greenscreenref15_Open.mono _ _ _ _ _ _
      | exact LeO.none _
      | refine LeO.ite ?_ ?_
      | refine LeO.bind ?_ (fun _ => ?_)
def greenscreenref19_Newline.T2 : Bool × List (List Nat × List Nat) := (true, [([], []), ([0], [0]), ([], []), ([2], [2]), ([3], [3]), ([1, 4], [1, 4]), ([5], [5]), ([], []), ([7], [7]), ([8], [8]), ([6, 9], [6, 9]), ([10, 0, 1, 2, 3, 4, 5, 6, 7, 8, 9, 10], [10])])
def greenscreenref19_Newline.B2 : List Nat := [0, 1, 0, 4, 12, 31, 63, 0, 128, 384, 1023, 2047]
theorem greenscreenref19_Newline.tab2 : rtab .any (opsOf Try.f31 2) = greenscreenref19_Newline.T2 := by kernel_rfl
theorem greenscreenref19_Newline.bits2 : waitsOk greenscreenref19_Newline.T2.2 greenscreenref19_Newline.B2 = true := by kernel_rfl
set_option maxHeartbeats 8000000 in
set_option maxRecDepth 100000 in
theorem greenscreenref19_Newline.calls (k : Nat) (a0_0 : Int) (a0_1 : Int) (A0_2 : Option Addr) (c0_2 : Nat) (l0_2 : List (S38)) (a0_3 : Int) (r : Int) (w : World) (hr0_2 : Kd.C k38 w A0_2 l0_2.length l0_2) (hc0_2 : l0_2.length ≤ c0_2) (h : greenscreenref19_Newline.f k a0_0 a0_1 l0_2 a0_3 = some r) :
    Calls Try.prog 31 #[.agg #[.int .i64 a0_0, .int .i64 a0_1, .slice A0_2 l0_2.length c0_2, .int .i64 a0_3]] w fun e w' => e = .returned (.int .i64 r) ∧ Below w.heap.size w w' := by
  have hu28 := Try.underlying28
  have HR0_2 := Aside0.mk hr0_2
  have HC0_2 := Aside0.mk hc0_2
  clear hr0_2 hc0_2
  have HB := Aside0.mk (Below.refl w.heap.size w)
  have H : (if a0_1 = 0 then (none) else (greenscreenref19_Newline.l0 k (l0_2.length : Int) (wrap64 ((wrap64 ((wrap64 (Int.tdiv a0_3 a0_1)) + 1)) * a0_1)) 0 a0_0 a0_1 l0_2 a0_3)) = some r := h
  clear h
  by_cases c2 : a0_1 = 0
  · rw [if_pos c2] at H
    exact absurd H (by simp)
  · rw [if_neg c2] at H
    have c2b0 : (a0_1 == 0) = false := beq_eq_false_iff_ne.mpr c2
    have c2b1 : (a0_1 != 0) = true := bne_iff_ne.mpr c2
    have H' := Aside0.mk H
    clear H
    go_enter Try.func31, Try.ntmps31
    try go_wp2_with (first | ((with_reducible refine gate_dst (N := 1) rfl ?_); refine box_event ?hg (N := 1) ?hd (cs := #[.int .i64 a0_0, .int .i64 a0_1, .slice A0_2 l0_2.length c0_2, .int .i64 a0_3]) (t := 28) ?hr ?_; (case hd => rfl); (case hg => rfl); (case hr => first | (go_simp; done) | (go_simp; rfl)); intro gb507 hg w3 hbox hb; have n0_ := Aside0.mk (below_step (by repeat (first | (with_reducible first | exact HB.out | apply below_alloc | apply pw_below_drewN | apply below_drew1) | exact HB.out)) hb); have n1_ := Aside0.mk (hbox); have n2_ := Aside0.mk ((by rw [hg]; exact (below_size (by repeat (first | (with_reducible first | exact HB.out | apply below_alloc | apply pw_below_drewN | apply below_drew1) | exact HB.out))) : w.heap.size ≤ gb507)); have n3_ := Aside0.mk ((by rw [hg]; exact (below_size (by repeat (first | (with_reducible first | exact HB.out | apply below_alloc | apply pw_below_drewN | apply below_drew1) | exact HB.out))) : w.heap.size ≤ gb507)); clear HB; have HB := n0_; have BK507 := n1_; have GW507 := n2_; have GE507 := n3_; clear n0_ n1_ n2_ n3_; clear hb hbox hg; have hcz4_0 : w3.cell? ⟨gb507, 0, none⟩ = some (.int .i64 a0_0) := (blk_cell BK507.out 0).trans rfl; have hcz4_1 : w3.cell? ⟨gb507, 1, none⟩ = some (.int .i64 a0_1) := (blk_cell BK507.out 1).trans rfl; have hcz4_2 : w3.cell? ⟨gb507, 2, none⟩ = some (.slice A0_2 l0_2.length c0_2) := (blk_cell BK507.out 2).trans rfl; have hcz4_3 : w3.cell? ⟨gb507, 3, none⟩ = some (.int .i64 a0_3) := (blk_cell BK507.out 3).trans rfl; have hfz4_0 := blk_frozen BK507.out 0; have hfz4_1 := blk_frozen BK507.out 1; have hfz4_2 := blk_frozen BK507.out 2; have hfz4_3 := blk_frozen BK507.out 3))
    have n0_ := Aside0.mk (blk_drew BK507.out)
    have n1_ := Aside0.mk (below_drew1 HB.out)
    clear BK507
    clear HB
    have BK507 := n0_
    have HB := n1_
    clear n0_ n1_
    refine start_ (n := 12) (S := fun w' => w'.cell? ⟨gb507, 0, none⟩ = some (.int .i64 a0_0) ∧ w'.cell? ⟨gb507, 1, none⟩ = some (.int .i64 a0_1) ∧ w'.cell? ⟨gb507, 2, none⟩ = some (.slice A0_2 l0_2.length c0_2) ∧ w'.cell? ⟨gb507, 3, none⟩ = some (.int .i64 a0_3)) (ds := []) #[false, false, false, false, false, false, false, false, false, false, false, false] (by kernel_rfl) rfl rfl ⟨(blk_cell BK507.out 0).trans rfl, (blk_cell BK507.out 1).trans rfl, (blk_cell BK507.out 2).trans rfl, (blk_cell BK507.out 3).trans rfl⟩ (fun hHeld => ?_); refine with_tabW greenscreenref19_Newline.tab2 greenscreenref19_Newline.bits2 (fun HT_ HW_ => ?_)
    generalize w3.drew = w5 at BK507 HB hHeld ⊢
    refine pure_ (i := 0) (N := some 9) (v := ?_) (a' := ?_) #[true, false, false, false, false, false, false, false, false, false, false, false] rfl rfl (any_of HT_.out (by kernel_rfl)) (fun _ _ _ h => h) (Or.inl ⟨by rfl, ?_⟩) ?_ ?_
    rotate_left
    · intro w'
      go_simp
      with_reducible rfl
    rotate_left
    · simp only [Act.put, List.setIfInBounds_toArray, List.set_cons_zero, List.set_cons_succ, i64_w, i32_w]
      rfl
    refine pure_ (i := 2) (N := some 11) (v := ?_) (a' := ?_) #[true, false, true, false, false, false, false, false, false, false, false, false] rfl rfl (any_of HT_.out (by kernel_rfl)) (fun _ _ _ h => h) (Or.inl ⟨by rfl, ?_⟩) ?_ ?_
    rotate_left
    · intro w'
      go_simp
      with_reducible rfl
    rotate_left
    · simp only [Act.put, List.setIfInBounds_toArray, List.set_cons_zero, List.set_cons_succ, i64_w, i32_w]
      rfl
    refine pure_ (i := 3) (N := some 12) (v := ?_) (a' := ?_) #[true, false, true, true, false, false, false, false, false, false, false, false] rfl rfl (any_of HT_.out (by kernel_rfl)) (fun _ _ _ h => h) (Or.inl ⟨by rfl, ?_⟩) ?_ ?_
    rotate_left
    · intro w'
      go_simp
      with_reducible rfl
    rotate_left
    · simp only [Act.put, List.setIfInBounds_toArray, List.set_cons_zero, List.set_cons_succ, i64_w, i32_w]
      rfl
    refine pure_ (i := 7) (N := some 16) (v := ?_) (a' := ?_) #[true, false, true, true, false, false, false, true, false, false, false, false] rfl rfl (any_of HT_.out (by kernel_rfl)) (fun _ _ _ h => h) (Or.inl ⟨by rfl, ?_⟩) ?_ ?_
    rotate_left
    · intro w'
      go_simp
      with_reducible rfl
    rotate_left
    · simp only [Act.put, List.setIfInBounds_toArray, List.set_cons_zero, List.set_cons_succ, i64_w, i32_w]
      rfl
    refine pure_ (i := 8) (N := some 17) (v := ?_) (a' := ?_) #[true, false, true, true, false, false, false, true, true, false, false, false] rfl rfl (any_of HT_.out (by kernel_rfl)) (fun _ _ _ h => h) (Or.inl ⟨by rfl, ?_⟩) ?_ ?_
    rotate_left
    · intro w'
      go_simp
      with_reducible rfl
    rotate_left
    · simp only [Act.put, List.setIfInBounds_toArray, List.set_cons_zero, List.set_cons_succ, i64_w, i32_w]
      rfl
    refine take_ (i := 1) (N := some 10) (v := ?_) (a' := ?_) #[true, true, true, true, false, false, false, true, true, false, false, false] rfl rfl (take_ofW HT_.out HW_.out (by kernel_rfl)) (fun _ _ _ h => h) (Or.inl ⟨by rfl, ?_⟩) hHeld ?_ ?_
    rotate_left
    · rintro w' ⟨s0, s1, s2, s3⟩
      go_simp
      with_reducible rfl
    rotate_left
    · simp only [Act.put, List.setIfInBounds_toArray, List.set_cons_zero, List.set_cons_succ, i64_w, i32_w]
      rfl
    refine take_ (i := 4) (N := some 13) (v := ?_) (a' := ?_) #[true, true, true, true, true, false, false, true, true, false, false, false] rfl rfl (take_ofW HT_.out HW_.out (by kernel_rfl)) (fun _ _ _ h => h) (Or.inl ⟨by rfl, ?_⟩) hHeld ?_ ?_
    rotate_left
    · rintro w' ⟨s0, s1, s2, s3⟩
      go_simp
      with_reducible rfl
    rotate_left
    · simp only [Act.put, List.setIfInBounds_toArray, List.set_cons_zero, List.set_cons_succ, i64_w, i32_w]
      rfl
    refine pure_ (i := 5) (N := some 14) (v := ?_) (a' := ?_) #[true, true, true, true, true, true, false, true, true, false, false, false] rfl rfl (any_of HT_.out (by kernel_rfl)) (fun _ _ _ h => h) (Or.inl ⟨by rfl, ?_⟩) ?_ ?_
    rotate_left
    · intro w'
      go_simp
      with_reducible rfl
    rotate_left
    · simp only [Act.put, List.setIfInBounds_toArray, List.set_cons_zero, List.set_cons_succ, i64_w, i32_w]
      rfl
    refine pure_ (i := 6) (N := some 15) (v := ?_) (a' := ?_) #[true, true, true, true, true, true, true, true, true, false, false, false] rfl rfl (any_of HT_.out (by kernel_rfl)) (fun _ _ _ h => h) (Or.inl ⟨by rfl, ?_⟩) ?_ ?_
    rotate_left
    · intro w'
      go_simp
      with_reducible rfl
    rotate_left
    · simp only [Act.put, List.setIfInBounds_toArray, List.set_cons_zero, List.set_cons_succ, i64_w, i32_w]
      rfl
    refine take_ (i := 9) (N := some 18) (v := ?_) (a' := ?_) #[true, true, true, true, true, true, true, true, true, true, false, false] rfl rfl (take_ofW HT_.out HW_.out (by kernel_rfl)) (fun _ _ _ h => h) (Or.inl ⟨by rfl, ?_⟩) hHeld ?_ ?_
    rotate_left
    · rintro w' ⟨s0, s1, s2, s3⟩
      go_simp
      with_reducible rfl
    rotate_left
    · simp only [Act.put, List.setIfInBounds_toArray, List.set_cons_zero, List.set_cons_succ, i64_w, i32_w]
      rfl
    refine pure_ (i := 10) (N := some 19) (v := ?_) (a' := ?_) #[true, true, true, true, true, true, true, true, true, true, true, false] rfl rfl (any_of HT_.out (by kernel_rfl)) (fun _ _ _ h => h) (Or.inl ⟨by rfl, ?_⟩) ?_ ?_
    rotate_left
    · intro w'
      go_simp
      with_reducible rfl
    rotate_left
    · simp only [Act.put, List.setIfInBounds_toArray, List.set_cons_zero, List.set_cons_succ, i64_w, i32_w]
      rfl
    refine pure_ (i := 11) (N := some 4) (v := ?_) (a' := ?_) #[true, true, true, true, true, true, true, true, true, true, true, true] rfl rfl (any_of HT_.out (by kernel_rfl)) (fun _ _ _ h => h) (Or.inl ⟨by rfl, ?_⟩) ?_ ?_
    rotate_left
    · intro w'
      go_simp
      with_reducible rfl
    rotate_left
    · simp only [Act.put, List.setIfInBounds_toArray, List.set_cons_zero, List.set_cons_succ, i64_w, i32_w]
      rfl
    refine done_ (done_of HT_.out (by kernel_rfl)) ?_
    try go_wp2
    go_loopg [5] k (fun kq v5 w' => ∃ (x5_1 : Int), v5 = .int .i64 x5_1 ∧ Aside0 (greenscreenref19_Newline.l0 kq (l0_2.length : Int) (wrap64 ((wrap64 ((wrap64 (Int.tdiv a0_3 a0_1)) + 1)) * a0_1)) x5_1 a0_0 a0_1 l0_2 a0_3 = some r) ∧ Aside0 (kq ≤ k) ∧ Aside0 (w'.heap[gb507]? = some (.cells #[.int .i64 a0_0, .int .i64 a0_1, (.slice A0_2 l0_2.length c0_2), .int .i64 a0_3] 28 (0, 0))) ∧ Aside0 (Below w.heap.size w w'))
    case atStart => exact ⟨(0), (by first | rfl | (simp; done) | (simp [*]; done)), H', ⟨Nat.le_refl _⟩, ⟨by (with_reducible repeat (first | refine blk_drewN ?_ _ | refine blk_drew ?_ | refine blk_alloc ?_ _)); exact BK507.out⟩, ⟨by repeat (first | (with_reducible first | exact HB.out | apply below_alloc | apply pw_below_drewN | apply below_drew1 | refine below_set ?_ GE507.out) | exact HB.out)⟩⟩
    case round =>
      clear H'
      try clear c2
      try clear c2b0
      try clear c2b1
      try clear p2
      try clear c3
      try clear hcz4_0
      try clear hcz4_1
      try clear hcz4_2
      try clear hcz4_3
      try clear hfz4_0
      try clear hfz4_1
      try clear hfz4_2
      try clear hfz4_3
      obtain ⟨x5_1, rfl, HA, HK1, BK507, HB⟩ := hrel
      cases gk with
      | zero => exact absurd HA.out (by simp [greenscreenref19_Newline.l0])
      | succ k1 =>
        have H := HA.out
        clear HA
        simp only [greenscreenref19_Newline.l0] at H
        by_cases c6 : x5_1 < (l0_2.length : Int)
        · rw [if_pos c6] at H
          have c6b0 : decide (x5_1 < (l0_2.length : Int)) = true := decide_eq_true c6
          clear c6
          by_cases c7 : (l0_2.length : Int) = 0
          · rw [if_pos c7] at H
            exact absurd H (by simp)
          · rw [if_neg c7] at H
            have c7b0 : ((l0_2.length : Int) == 0) = false := beq_eq_false_iff_ne.mpr c7
            have c7b1 : ((l0_2.length : Int) != 0) = true := bne_iff_ne.mpr c7
            have c7b2 : ¬ (l0_2 = []) := fun h_ => c7 (by rw [h_]; rfl)
            replace H := Option.bind_eq_some_iff.mp H
            obtain ⟨t508, A80, H⟩ := H
            replace H : (if t508 = true then (some (Int.tmod (wrap64 ((wrap64 ((wrap64 ((wrap64 (Int.tdiv a0_3 a0_1)) + 1)) * a0_1)) + x5_1)) (l0_2.length : Int))) else (greenscreenref19_Newline.l0 k1 (l0_2.length : Int) (wrap64 ((wrap64 ((wrap64 (Int.tdiv a0_3 a0_1)) + 1)) * a0_1)) (wrap64 (x5_1 + 1)) a0_0 a0_1 l0_2 a0_3)) = some r := H
            have A8 := Aside0.mk A80
            clear A80
            by_cases c9 : t508 = true
            · subst c9
              have H1 : (some (Int.tmod (wrap64 ((wrap64 ((wrap64 ((wrap64 (Int.tdiv a0_3 a0_1)) + 1)) * a0_1)) + x5_1)) (l0_2.length : Int))) = some r := by rw [if_pos rfl] at H; exact H
              clear H
              have H := H1
              clear H1
              obtain rfl := Option.some.inj H
              try go_wp2
              have n0_ := Aside0.mk (blk_drew BK507.out)
              have n1_ := Aside0.mk (below_drew1 HB.out)
              clear BK507
              clear HB
              have BK507 := n0_
              have HB := n1_
              clear n0_ n1_
              refine start_ (n := 7) (S := fun w' => w'.cell? ⟨gb507, 0, none⟩ = some (.int .i64 a0_0) ∧ w'.cell? ⟨gb507, 1, none⟩ = some (.int .i64 a0_1) ∧ w'.cell? ⟨gb507, 2, none⟩ = some (.slice A0_2 l0_2.length c0_2) ∧ w'.cell? ⟨gb507, 3, none⟩ = some (.int .i64 a0_3)) (ds := []) #[false, false, false, false, false, false, false] (by kernel_rfl) rfl rfl ⟨(blk_cell BK507.out 0).trans rfl, (blk_cell BK507.out 1).trans rfl, (blk_cell BK507.out 2).trans rfl, (blk_cell BK507.out 3).trans rfl⟩ (fun hHeld => ?_)
              generalize wr.drew = w10 at BK507 HB hHeld ⊢
              refine pure_ (i := 1) (N := some 26) (v := ?_) (a' := ?_) #[false, true, false, false, false, false, false] rfl rfl (by kernel_rfl) (fun _ _ _ h => h) (Or.inl ⟨by rfl, ?_⟩) ?_ ?_
              rotate_left
              · intro w'
                go_simp
                with_reducible rfl
              rotate_left
              · simp only [Act.put, List.setIfInBounds_toArray, List.set_cons_zero, List.set_cons_succ, i64_w, i32_w]
                rfl
              refine pure_ (i := 2) (N := some 27) (v := ?_) (a' := ?_) #[false, true, true, false, false, false, false] rfl rfl (by kernel_rfl) (fun _ _ _ h => h) (Or.inl ⟨by rfl, ?_⟩) ?_ ?_
              rotate_left
              · intro w'
                go_simp
                with_reducible rfl
              rotate_left
              · simp only [Act.put, List.setIfInBounds_toArray, List.set_cons_zero, List.set_cons_succ, i64_w, i32_w]
                rfl
              refine pure_ (i := 3) (N := some 28) (v := ?_) (a' := ?_) #[false, true, true, true, false, false, false] rfl rfl (by kernel_rfl) (fun _ _ _ h => h) (Or.inl ⟨by rfl, ?_⟩) ?_ ?_
              rotate_left
              · intro w'
                go_simp
                with_reducible rfl
              rotate_left
              · simp only [Act.put, List.setIfInBounds_toArray, List.set_cons_zero, List.set_cons_succ, i64_w, i32_w]
                rfl
              refine pure_ (i := 4) (N := some 29) (v := ?_) (a' := ?_) #[false, true, true, true, true, false, false] rfl rfl (by kernel_rfl) (fun _ _ _ h => h) (Or.inl ⟨by rfl, ?_⟩) ?_ ?_
              rotate_left
              · intro w'
                go_simp
                with_reducible rfl
              rotate_left
              · simp only [Act.put, List.setIfInBounds_toArray, List.set_cons_zero, List.set_cons_succ, i64_w, i32_w]
                rfl
              refine pure_ (i := 5) (N := some 30) (v := ?_) (a' := ?_) #[false, true, true, true, true, true, false] rfl rfl (by kernel_rfl) (fun _ _ _ h => h) (Or.inl ⟨by rfl, ?_⟩) ?_ ?_
              rotate_left
              · intro w'
                go_simp
                with_reducible rfl
              rotate_left
              · simp only [Act.put, List.setIfInBounds_toArray, List.set_cons_zero, List.set_cons_succ, i64_w, i32_w]
                rfl
              refine take_ (i := 0) (N := some 25) (v := ?_) (a' := ?_) #[true, true, true, true, true, true, false] rfl rfl (by kernel_rfl) (fun _ _ _ h => h) (Or.inl ⟨by rfl, ?_⟩) hHeld ?_ ?_
              rotate_left
              · rintro w' ⟨s0, s1, s2, s3⟩
                go_simp
                with_reducible rfl
              rotate_left
              · simp only [Act.put, List.setIfInBounds_toArray, List.set_cons_zero, List.set_cons_succ, i64_w, i32_w]
                rfl
              refine one_ (i := 6) (N := some 31) #[true, true, true, true, true, true, true] rfl rfl (by kernel_rfl) (by decide) (fun K hK => ?_)
              refine goes_ Try.func67 (by kernel_rfl) rfl #[.agg #[.int .i64 a0_0, .int .i64 a0_1, .slice A0_2 l0_2.length c0_2, .int .i64 a0_3], .int .i64 (Int.tmod (wrap64 ((wrap64 ((wrap64 ((wrap64 (Int.tdiv a0_3 a0_1)) + 1)) * a0_1)) + x5_1)) (l0_2.length : Int))] (by rfl) rfl rfl (by (try simp only [List.map_toArray, List.map_cons, List.map_nil]); first | done | rfl | (simp only [List.length_drop, List.length_take]; rfl)) ?_
              with_reducible refine (greenscreenref15_Open.calls k1 a0_0 a0_1 _ _ l0_2 a0_3 (Int.tmod (wrap64 ((wrap64 ((wrap64 ((wrap64 (Int.tdiv a0_3 a0_1)) + 1)) * a0_1)) + x5_1)) (l0_2.length : Int)) true _ ?side1 ?side2 A8.out).mono ?_
              (case side1 => repeat (first | exact (Kd.C_below HR0_2.out HB.out) | (with_reducible refine Kd.C_alloc ?_ _) | (with_reducible refine Kd.C_drewN ?_ _) | (with_reducible refine Kd.C_drew ?_)))
              (case side2 => exact HC0_2.out)
              rintro e w11 ⟨rfl, hb⟩
              refine ⟨_, rfl, ?_⟩
              have n0_ := Aside0.mk (blk_below (g := gb507) (o := .cells #[.int .i64 a0_0, .int .i64 a0_1, .slice A0_2 l0_2.length c0_2, .int .i64 a0_3] 28 (0, 0)) (by (with_reducible repeat (first | refine blk_drewN ?_ _ | refine blk_drew ?_ | refine blk_alloc ?_ _)); exact BK507.out) hb)
              have n1_ := Aside0.mk (below_step (by repeat (first | (with_reducible first | exact HB.out | apply below_alloc | apply pw_below_drewN | apply below_drew1 | refine below_set ?_ GE507.out) | exact HB.out)) hb)
              clear BK507
              clear HB
              have BK507 := n0_
              have HB := n1_
              clear n0_ n1_
              (try clear hb)
              (try clear hb2)
              (try clear hk)
              (try clear hi)
              refine hK.out _ _ ⟨(blk_cell BK507.out 0).trans rfl, (blk_cell BK507.out 1).trans rfl, (blk_cell BK507.out 2).trans rfl, (blk_cell BK507.out 3).trans rfl⟩ (fun hHeld => ?_)
              clear hK K
              refine norm_ (a' := ?_) ?_ ?_
              rotate_left
              · show Act.put _ (some 31) _ = _
                simp only [Act.put, List.setIfInBounds_toArray, List.set_cons_zero, List.set_cons_succ, i64_w, i32_w]
                rfl
              refine done_ (by kernel_rfl) ?_
              try go_wp2
              go_ret
              exact ⟨by first | rfl | (simp [errW_none, errW_some] <;> rfl) | (simp [*, errW_none, errW_some] <;> rfl), by repeat (first | (with_reducible first | exact HB.out | apply below_alloc | apply pw_below_drewN | apply below_drew1 | refine below_set ?_ GE507.out) | exact HB.out)⟩
            · replace c9 := Bool.eq_false_iff.mpr c9
              subst c9
              have H1 : (greenscreenref19_Newline.l0 k1 (l0_2.length : Int) (wrap64 ((wrap64 ((wrap64 (Int.tdiv a0_3 a0_1)) + 1)) * a0_1)) (wrap64 (x5_1 + 1)) a0_0 a0_1 l0_2 a0_3) = some r := by rw [if_neg (show ¬ (false = true) by decide)] at H; exact H
              clear H
              have H := H1
              clear H1
              have H' := Aside0.mk H
              clear H
              try go_wp2
              have n0_ := Aside0.mk (blk_drew BK507.out)
              have n1_ := Aside0.mk (below_drew1 HB.out)
              clear BK507
              clear HB
              have BK507 := n0_
              have HB := n1_
              clear n0_ n1_
              refine start_ (n := 7) (S := fun w' => w'.cell? ⟨gb507, 0, none⟩ = some (.int .i64 a0_0) ∧ w'.cell? ⟨gb507, 1, none⟩ = some (.int .i64 a0_1) ∧ w'.cell? ⟨gb507, 2, none⟩ = some (.slice A0_2 l0_2.length c0_2) ∧ w'.cell? ⟨gb507, 3, none⟩ = some (.int .i64 a0_3)) (ds := []) #[false, false, false, false, false, false, false] (by kernel_rfl) rfl rfl ⟨(blk_cell BK507.out 0).trans rfl, (blk_cell BK507.out 1).trans rfl, (blk_cell BK507.out 2).trans rfl, (blk_cell BK507.out 3).trans rfl⟩ (fun hHeld => ?_)
              generalize wr.drew = w12 at BK507 HB hHeld ⊢
              refine pure_ (i := 1) (N := some 26) (v := ?_) (a' := ?_) #[false, true, false, false, false, false, false] rfl rfl (by kernel_rfl) (fun _ _ _ h => h) (Or.inl ⟨by rfl, ?_⟩) ?_ ?_
              rotate_left
              · intro w'
                go_simp
                with_reducible rfl
              rotate_left
              · simp only [Act.put, List.setIfInBounds_toArray, List.set_cons_zero, List.set_cons_succ, i64_w, i32_w]
                rfl
              refine pure_ (i := 2) (N := some 27) (v := ?_) (a' := ?_) #[false, true, true, false, false, false, false] rfl rfl (by kernel_rfl) (fun _ _ _ h => h) (Or.inl ⟨by rfl, ?_⟩) ?_ ?_
              rotate_left
              · intro w'
                go_simp
                with_reducible rfl
              rotate_left
              · simp only [Act.put, List.setIfInBounds_toArray, List.set_cons_zero, List.set_cons_succ, i64_w, i32_w]
                rfl
              refine pure_ (i := 3) (N := some 28) (v := ?_) (a' := ?_) #[false, true, true, true, false, false, false] rfl rfl (by kernel_rfl) (fun _ _ _ h => h) (Or.inl ⟨by rfl, ?_⟩) ?_ ?_
              rotate_left
              · intro w'
                go_simp
                with_reducible rfl
              rotate_left
              · simp only [Act.put, List.setIfInBounds_toArray, List.set_cons_zero, List.set_cons_succ, i64_w, i32_w]
                rfl
              refine pure_ (i := 4) (N := some 29) (v := ?_) (a' := ?_) #[false, true, true, true, true, false, false] rfl rfl (by kernel_rfl) (fun _ _ _ h => h) (Or.inl ⟨by rfl, ?_⟩) ?_ ?_
              rotate_left
              · intro w'
                go_simp
                with_reducible rfl
              rotate_left
              · simp only [Act.put, List.setIfInBounds_toArray, List.set_cons_zero, List.set_cons_succ, i64_w, i32_w]
                rfl
              refine pure_ (i := 5) (N := some 30) (v := ?_) (a' := ?_) #[false, true, true, true, true, true, false] rfl rfl (by kernel_rfl) (fun _ _ _ h => h) (Or.inl ⟨by rfl, ?_⟩) ?_ ?_
              rotate_left
              · intro w'
                go_simp
                with_reducible rfl
              rotate_left
              · simp only [Act.put, List.setIfInBounds_toArray, List.set_cons_zero, List.set_cons_succ, i64_w, i32_w]
                rfl
              refine take_ (i := 0) (N := some 25) (v := ?_) (a' := ?_) #[true, true, true, true, true, true, false] rfl rfl (by kernel_rfl) (fun _ _ _ h => h) (Or.inl ⟨by rfl, ?_⟩) hHeld ?_ ?_
              rotate_left
              · rintro w' ⟨s0, s1, s2, s3⟩
                go_simp
                with_reducible rfl
              rotate_left
              · simp only [Act.put, List.setIfInBounds_toArray, List.set_cons_zero, List.set_cons_succ, i64_w, i32_w]
                rfl
              refine one_ (i := 6) (N := some 31) #[true, true, true, true, true, true, true] rfl rfl (by kernel_rfl) (by decide) (fun K hK => ?_)
              refine goes_ Try.func67 (by kernel_rfl) rfl #[.agg #[.int .i64 a0_0, .int .i64 a0_1, .slice A0_2 l0_2.length c0_2, .int .i64 a0_3], .int .i64 (Int.tmod (wrap64 ((wrap64 ((wrap64 ((wrap64 (Int.tdiv a0_3 a0_1)) + 1)) * a0_1)) + x5_1)) (l0_2.length : Int))] (by rfl) rfl rfl (by (try simp only [List.map_toArray, List.map_cons, List.map_nil]); first | done | rfl | (simp only [List.length_drop, List.length_take]; rfl)) ?_
              with_reducible refine (greenscreenref15_Open.calls k1 a0_0 a0_1 _ _ l0_2 a0_3 (Int.tmod (wrap64 ((wrap64 ((wrap64 ((wrap64 (Int.tdiv a0_3 a0_1)) + 1)) * a0_1)) + x5_1)) (l0_2.length : Int)) false _ ?side1 ?side2 A8.out).mono ?_
              (case side1 => repeat (first | exact (Kd.C_below HR0_2.out HB.out) | (with_reducible refine Kd.C_alloc ?_ _) | (with_reducible refine Kd.C_drewN ?_ _) | (with_reducible refine Kd.C_drew ?_)))
              (case side2 => exact HC0_2.out)
              rintro e w13 ⟨rfl, hb⟩
              refine ⟨_, rfl, ?_⟩
              have n0_ := Aside0.mk (blk_below (g := gb507) (o := .cells #[.int .i64 a0_0, .int .i64 a0_1, .slice A0_2 l0_2.length c0_2, .int .i64 a0_3] 28 (0, 0)) (by (with_reducible repeat (first | refine blk_drewN ?_ _ | refine blk_drew ?_ | refine blk_alloc ?_ _)); exact BK507.out) hb)
              have n1_ := Aside0.mk (below_step (by repeat (first | (with_reducible first | exact HB.out | apply below_alloc | apply pw_below_drewN | apply below_drew1 | refine below_set ?_ GE507.out) | exact HB.out)) hb)
              clear BK507
              clear HB
              have BK507 := n0_
              have HB := n1_
              clear n0_ n1_
              (try clear hb)
              (try clear hb2)
              (try clear hk)
              (try clear hi)
              refine hK.out _ _ ⟨(blk_cell BK507.out 0).trans rfl, (blk_cell BK507.out 1).trans rfl, (blk_cell BK507.out 2).trans rfl, (blk_cell BK507.out 3).trans rfl⟩ (fun hHeld => ?_)
              clear hK K
              refine norm_ (a' := ?_) ?_ ?_
              rotate_left
              · show Act.put _ (some 31) _ = _
                simp only [Act.put, List.setIfInBounds_toArray, List.set_cons_zero, List.set_cons_succ, i64_w, i32_w]
                rfl
              refine done_ (by kernel_rfl) ?_
              try go_wp2
              go_roundg k1
              case measure => have := HK1.out; omega
              case rel => exact ⟨(wrap64 (x5_1 + 1)), (by first | rfl | (simp; done) | (simp [*]; done)), H', ⟨by have := HK1.out; omega⟩, ⟨by (with_reducible repeat (first | refine blk_drewN ?_ _ | refine blk_drew ?_ | refine blk_alloc ?_ _)); exact BK507.out⟩, ⟨by repeat (first | (with_reducible first | exact HB.out | apply below_alloc | apply pw_below_drewN | apply below_drew1 | refine below_set ?_ GE507.out) | exact HB.out)⟩⟩
        · rw [if_neg c6] at H
          have c6b0 : decide (x5_1 < (l0_2.length : Int)) = false := decide_eq_false c6
          clear c6
          obtain rfl := Option.some.inj H
          go_wp2
          go_ret
          exact ⟨by first | rfl | (simp [errW_none, errW_some] <;> rfl) | (simp [*, errW_none, errW_some] <;> rfl), by repeat (first | (with_reducible first | exact HB.out | apply below_alloc | apply pw_below_drewN | apply below_drew1 | refine below_set ?_ GE507.out) | exact HB.out)⟩

/-! ### greenscreenref15_Home: function 32 -/
def greenscreenref15_Home.l0 : Nat → List (S82) → Int → Int → Int → List (S38) → Int → Option (Int)
  | 0, _, _, _, _, _, _ => none
  | k + 1, x3, x4, x510000, x510001, x510002, x510003 => if x4 < (x3.length : Int) then (if 0 ≤ x4 then (if ((rd_T82 x3 x4).f1) > 0 then ((greenscreenref11_Bit.f ((rd_T82 x3 x4).f2) 32).bind fun t515 => (if t515 = true then (greenscreenref15_Home.l0 k x3 (wrap64 (x4 + 1)) x510000 x510001 x510002 x510003) else (if (x510002.length : Int) = 0 then (none) else (some (Int.tmod (wrap64 (((rd_T82 x3 x4).f0) + 1)) (x510002.length : Int)))))) else (greenscreenref15_Home.l0 k x3 (wrap64 (x4 + 1)) x510000 x510001 x510002 x510003)) else (none)) else (some 0)
def greenscreenref15_Home.f (k : Nat) (a0_0 : Int) (a0_1 : Int) (l0_2 : List (S38)) (a0_3 : Int) : Option (Int) := (greenscreenref15_All.f k a0_0 a0_1 l0_2 a0_3).bind fun t510 => (greenscreenref15_Home.l0 k t510 0 a0_0 a0_1 l0_2 a0_3)
theorem greenscreenref15_Home.mono_l : ∀ k, (∀ y0 y1 y2 y3 y4 y5, LeO (greenscreenref15_Home.l0 k y0 y1 y2 y3 y4 y5) (greenscreenref15_Home.l0 (k + 1) y0 y1 y2 y3 y4 y5))
  | 0 => fun _ _ _ _ _ _ r h => by simp [greenscreenref15_Home.l0] at h
  | k + 1 => by
    have ih0 := greenscreenref15_Home.mono_l k
    · intro y0 y1 y2 y3 y4 y5
      unfold greenscreenref15_Home.l0
      repeat' first
      | (with_reducible exact ih0 _ _ _ _ _ _)
      | (with_reducible exact greenscreenref15_All.mono _ _ _ _ _)
      | (with_reducible exact LeO.refl _)
      | (with_reducible exact LeO.none _)
      | (with_reducible refine LeO.ite ?_ ?_)
      | (with_reducible refine LeO.bind ?_ (fun _ => ?_))
      | exact ih0 _ _ _ _ _ _
      | exact greenscreenref15_All.mono _ _ _ _ _
      | exact LeO.none _
      | refine LeO.ite ?_ ?_
      | refine LeO.bind ?_ (fun _ => ?_)
theorem greenscreenref15_Home.mono : ∀ a0 a1 a2 a3 k, LeO (greenscreenref15_Home.f k a0 a1 a2 a3) (greenscreenref15_Home.f (k + 1) a0 a1 a2 a3) := by
  intro a0 a1 a2 a3 k
  have ih0 := greenscreenref15_Home.mono_l k
  unfold greenscreenref15_Home.f
  repeat' first
      | (with_reducible exact ih0 _ _ _ _ _ _)
      | (with_reducible exact greenscreenref15_All.mono _ _ _ _ _)
      | (with_reducible exact LeO.refl _)
      | (with_reducible exact LeO.none _)
      | (with_reducible refine LeO.ite ?_ ?_)
      | (with_reducible refine LeO.bind ?_ (fun _ => ?_))
      | exact ih0 _ _ _ _ _ _
      | exact greenscreenref15_All.mono _ _ _ _ _
      | exact LeO.none _
      | refine LeO.ite ?_ ?_
      | refine LeO.bind ?_ (fun _ => ?_)
set_option maxHeartbeats 8000000 in
set_option maxRecDepth 100000 in
theorem greenscreenref15_Home.calls (k : Nat) (a0_0 : Int) (a0_1 : Int) (A0_2 : Option Addr) (c0_2 : Nat) (l0_2 : List (S38)) (a0_3 : Int) (r : Int) (w : World) (hr0_2 : Kd.C k38 w A0_2 l0_2.length l0_2) (hc0_2 : l0_2.length ≤ c0_2) (h : greenscreenref15_Home.f k a0_0 a0_1 l0_2 a0_3 = some r) :
    Calls Try.prog 32 #[.agg #[.int .i64 a0_0, .int .i64 a0_1, .slice A0_2 l0_2.length c0_2, .int .i64 a0_3]] w fun e w' => e = .returned (.int .i64 r) ∧ Below w.heap.size w w' := by
  have hu28 := Try.underlying28
  have HR0_2 := Aside0.mk hr0_2
  have HC0_2 := Aside0.mk hc0_2
  clear hr0_2 hc0_2
  have HB := Aside0.mk (Below.refl w.heap.size w)
  have H : ((greenscreenref15_All.f k a0_0 a0_1 l0_2 a0_3).bind fun t510 => (greenscreenref15_Home.l0 k t510 0 a0_0 a0_1 l0_2 a0_3)) = some r := h
  clear h
  replace H := Option.bind_eq_some_iff.mp H
  obtain ⟨t510, A20, H⟩ := H
  replace H : (greenscreenref15_Home.l0 k t510 0 a0_0 a0_1 l0_2 a0_3) = some r := H
  have A2 := Aside0.mk A20
  clear A20
  have H' := Aside0.mk H
  clear H
  go_enter Try.func32, Try.ntmps32
  go_wp2_with (first | ((with_reducible refine gate_dst (N := 1) rfl ?_); refine box_event ?hg (N := 1) ?hd (cs := #[.int .i64 a0_0, .int .i64 a0_1, .slice A0_2 l0_2.length c0_2, .int .i64 a0_3]) (t := 28) ?hr ?_; (case hd => rfl); (case hg => rfl); (case hr => first | (go_simp; done) | (go_simp; rfl)); intro gb509 hg w3 hbox hb; have n0_ := Aside0.mk (below_step (by repeat (first | (with_reducible first | exact HB.out | apply below_alloc | apply pw_below_drewN | apply below_drew1) | exact HB.out)) hb); have n1_ := Aside0.mk (hbox); have n2_ := Aside0.mk ((by rw [hg]; exact (below_size (by repeat (first | (with_reducible first | exact HB.out | apply below_alloc | apply pw_below_drewN | apply below_drew1) | exact HB.out))) : w.heap.size ≤ gb509)); have n3_ := Aside0.mk ((by rw [hg]; exact (below_size (by repeat (first | (with_reducible first | exact HB.out | apply below_alloc | apply pw_below_drewN | apply below_drew1) | exact HB.out))) : w.heap.size ≤ gb509)); clear HB; have HB := n0_; have BK509 := n1_; have GW509 := n2_; have GE509 := n3_; clear n0_ n1_ n2_ n3_; clear hb hbox hg; have hcz4_0 : w3.cell? ⟨gb509, 0, none⟩ = some (.int .i64 a0_0) := (blk_cell BK509.out 0).trans rfl; have hcz4_1 : w3.cell? ⟨gb509, 1, none⟩ = some (.int .i64 a0_1) := (blk_cell BK509.out 1).trans rfl; have hcz4_2 : w3.cell? ⟨gb509, 2, none⟩ = some (.slice A0_2 l0_2.length c0_2) := (blk_cell BK509.out 2).trans rfl; have hcz4_3 : w3.cell? ⟨gb509, 3, none⟩ = some (.int .i64 a0_3) := (blk_cell BK509.out 3).trans rfl; have hfz4_0 := blk_frozen BK509.out 0; have hfz4_1 := blk_frozen BK509.out 1; have hfz4_2 := blk_frozen BK509.out 2; have hfz4_3 := blk_frozen BK509.out 3) | (go_at_call 52; (with_reducible refine (greenscreenref15_All.calls k a0_0 a0_1 _ _ l0_2 a0_3 t510 _ ?side1 ?side2 A2.out).mono ?_); (case side1 => repeat (first | exact (Kd.C_below HR0_2.out HB.out) | (with_reducible refine Kd.C_alloc ?_ _) | (with_reducible refine Kd.C_drewN ?_ _) | (with_reducible refine Kd.C_drew ?_))); (case side2 => exact HC0_2.out); rintro e w5 ⟨v511, rfl, ho0, hb⟩; have n0_ := Aside0.mk (Kd.R_lower ho0 (below_size (by repeat (first | (with_reducible first | exact HB.out | apply below_alloc | apply pw_below_drewN | apply below_drew1 | refine below_set ?_ GE509.out) | exact HB.out)))); have n1_ := Aside0.mk (blk_below (g := gb509) (o := .cells #[.int .i64 a0_0, .int .i64 a0_1, .slice A0_2 l0_2.length c0_2, .int .i64 a0_3] 28 (0, 0)) (by (with_reducible repeat (first | refine blk_drewN ?_ _ | refine blk_drew ?_ | refine blk_alloc ?_ _)); exact BK509.out) hb); have n2_ := Aside0.mk (below_step (by repeat (first | (with_reducible first | exact HB.out | apply below_alloc | apply pw_below_drewN | apply below_drew1 | refine below_set ?_ GE509.out) | exact HB.out)) hb); clear BK509; clear HB; have HO512 := n0_; have BK509 := n1_; have HB := n2_; clear n0_ n1_ n2_; (try clear hb); (try clear hb2); (try clear hk); (try clear hi); (try clear ho0)))
  repeat (go_quiet (first | ((with_reducible refine gate_dst (N := 1) rfl ?_); refine box_event ?hg (N := 1) ?hd (cs := #[.int .i64 a0_0, .int .i64 a0_1, .slice A0_2 l0_2.length c0_2, .int .i64 a0_3]) (t := 28) ?hr ?_; (case hd => rfl); (case hg => rfl); (case hr => first | (go_simp; done) | (go_simp; rfl)); intro gb509 hg w3 hbox hb; have n0_ := Aside0.mk (below_step (by repeat (first | (with_reducible first | exact HB.out | apply below_alloc | apply pw_below_drewN | apply below_drew1) | exact HB.out)) hb); have n1_ := Aside0.mk (hbox); have n2_ := Aside0.mk ((by rw [hg]; exact (below_size (by repeat (first | (with_reducible first | exact HB.out | apply below_alloc | apply pw_below_drewN | apply below_drew1) | exact HB.out))) : w.heap.size ≤ gb509)); have n3_ := Aside0.mk ((by rw [hg]; exact (below_size (by repeat (first | (with_reducible first | exact HB.out | apply below_alloc | apply pw_below_drewN | apply below_drew1) | exact HB.out))) : w.heap.size ≤ gb509)); clear HB; have HB := n0_; have BK509 := n1_; have GW509 := n2_; have GE509 := n3_; clear n0_ n1_ n2_ n3_; clear hb hbox hg; have hcz4_0 : w3.cell? ⟨gb509, 0, none⟩ = some (.int .i64 a0_0) := (blk_cell BK509.out 0).trans rfl; have hcz4_1 : w3.cell? ⟨gb509, 1, none⟩ = some (.int .i64 a0_1) := (blk_cell BK509.out 1).trans rfl; have hcz4_2 : w3.cell? ⟨gb509, 2, none⟩ = some (.slice A0_2 l0_2.length c0_2) := (blk_cell BK509.out 2).trans rfl; have hcz4_3 : w3.cell? ⟨gb509, 3, none⟩ = some (.int .i64 a0_3) := (blk_cell BK509.out 3).trans rfl; have hfz4_0 := blk_frozen BK509.out 0; have hfz4_1 := blk_frozen BK509.out 1; have hfz4_2 := blk_frozen BK509.out 2; have hfz4_3 := blk_frozen BK509.out 3) | (go_at_call 52; (with_reducible refine (greenscreenref15_All.calls k a0_0 a0_1 _ _ l0_2 a0_3 t510 _ ?side1 ?side2 A2.out).mono ?_); (case side1 => repeat (first | exact (Kd.C_below HR0_2.out HB.out) | (with_reducible refine Kd.C_alloc ?_ _) | (with_reducible refine Kd.C_drewN ?_ _) | (with_reducible refine Kd.C_drew ?_))); (case side2 => exact HC0_2.out); rintro e w5 ⟨v511, rfl, ho0, hb⟩; have n0_ := Aside0.mk (Kd.R_lower ho0 (below_size (by repeat (first | (with_reducible first | exact HB.out | apply below_alloc | apply pw_below_drewN | apply below_drew1 | refine below_set ?_ GE509.out) | exact HB.out)))); have n1_ := Aside0.mk (blk_below (g := gb509) (o := .cells #[.int .i64 a0_0, .int .i64 a0_1, .slice A0_2 l0_2.length c0_2, .int .i64 a0_3] 28 (0, 0)) (by (with_reducible repeat (first | refine blk_drewN ?_ _ | refine blk_drew ?_ | refine blk_alloc ?_ _)); exact BK509.out) hb); have n2_ := Aside0.mk (below_step (by repeat (first | (with_reducible first | exact HB.out | apply below_alloc | apply pw_below_drewN | apply below_drew1 | refine below_set ?_ GE509.out) | exact HB.out)) hb); clear BK509; clear HB; have HO512 := n0_; have BK509 := n1_; have HB := n2_; clear n0_ n1_ n2_; (try clear hb); (try clear hb2); (try clear hk); (try clear hi); (try clear ho0))); try go_wp2_with (first | ((with_reducible refine gate_dst (N := 1) rfl ?_); refine box_event ?hg (N := 1) ?hd (cs := #[.int .i64 a0_0, .int .i64 a0_1, .slice A0_2 l0_2.length c0_2, .int .i64 a0_3]) (t := 28) ?hr ?_; (case hd => rfl); (case hg => rfl); (case hr => first | (go_simp; done) | (go_simp; rfl)); intro gb509 hg w3 hbox hb; have n0_ := Aside0.mk (below_step (by repeat (first | (with_reducible first | exact HB.out | apply below_alloc | apply pw_below_drewN | apply below_drew1) | exact HB.out)) hb); have n1_ := Aside0.mk (hbox); have n2_ := Aside0.mk ((by rw [hg]; exact (below_size (by repeat (first | (with_reducible first | exact HB.out | apply below_alloc | apply pw_below_drewN | apply below_drew1) | exact HB.out))) : w.heap.size ≤ gb509)); have n3_ := Aside0.mk ((by rw [hg]; exact (below_size (by repeat (first | (with_reducible first | exact HB.out | apply below_alloc | apply pw_below_drewN | apply below_drew1) | exact HB.out))) : w.heap.size ≤ gb509)); clear HB; have HB := n0_; have BK509 := n1_; have GW509 := n2_; have GE509 := n3_; clear n0_ n1_ n2_ n3_; clear hb hbox hg; have hcz4_0 : w3.cell? ⟨gb509, 0, none⟩ = some (.int .i64 a0_0) := (blk_cell BK509.out 0).trans rfl; have hcz4_1 : w3.cell? ⟨gb509, 1, none⟩ = some (.int .i64 a0_1) := (blk_cell BK509.out 1).trans rfl; have hcz4_2 : w3.cell? ⟨gb509, 2, none⟩ = some (.slice A0_2 l0_2.length c0_2) := (blk_cell BK509.out 2).trans rfl; have hcz4_3 : w3.cell? ⟨gb509, 3, none⟩ = some (.int .i64 a0_3) := (blk_cell BK509.out 3).trans rfl; have hfz4_0 := blk_frozen BK509.out 0; have hfz4_1 := blk_frozen BK509.out 1; have hfz4_2 := blk_frozen BK509.out 2; have hfz4_3 := blk_frozen BK509.out 3) | (go_at_call 52; (with_reducible refine (greenscreenref15_All.calls k a0_0 a0_1 _ _ l0_2 a0_3 t510 _ ?side1 ?side2 A2.out).mono ?_); (case side1 => repeat (first | exact (Kd.C_below HR0_2.out HB.out) | (with_reducible refine Kd.C_alloc ?_ _) | (with_reducible refine Kd.C_drewN ?_ _) | (with_reducible refine Kd.C_drew ?_))); (case side2 => exact HC0_2.out); rintro e w5 ⟨v511, rfl, ho0, hb⟩; have n0_ := Aside0.mk (Kd.R_lower ho0 (below_size (by repeat (first | (with_reducible first | exact HB.out | apply below_alloc | apply pw_below_drewN | apply below_drew1 | refine below_set ?_ GE509.out) | exact HB.out)))); have n1_ := Aside0.mk (blk_below (g := gb509) (o := .cells #[.int .i64 a0_0, .int .i64 a0_1, .slice A0_2 l0_2.length c0_2, .int .i64 a0_3] 28 (0, 0)) (by (with_reducible repeat (first | refine blk_drewN ?_ _ | refine blk_drew ?_ | refine blk_alloc ?_ _)); exact BK509.out) hb); have n2_ := Aside0.mk (below_step (by repeat (first | (with_reducible first | exact HB.out | apply below_alloc | apply pw_below_drewN | apply below_drew1 | refine below_set ?_ GE509.out) | exact HB.out)) hb); clear BK509; clear HB; have HO512 := n0_; have BK509 := n1_; have HB := n2_; clear n0_ n1_ n2_; (try clear hb); (try clear hb2); (try clear hk); (try clear hi); (try clear ho0))))
  go_loopg [4] k (fun kq v4 w' => ∃ (x4_1 : Int), v4 = .int .i64 x4_1 ∧ Aside0 (greenscreenref15_Home.l0 kq t510 x4_1 a0_0 a0_1 l0_2 a0_3 = some r) ∧ Aside0 (kq ≤ k) ∧ Aside0 (Kd.R k82 82 w' w.heap.size (fun _ => True) v511 t510) ∧ Aside0 (w'.heap[gb509]? = some (.cells #[.int .i64 a0_0, .int .i64 a0_1, (.slice A0_2 l0_2.length c0_2), .int .i64 a0_3] 28 (0, 0))) ∧ Aside0 (Below w.heap.size w w'))
  case atStart => exact ⟨(0), (by first | rfl | (simp; done) | (simp [*]; done)), H', ⟨Nat.le_refl _⟩, ⟨by (with_reducible repeat (first | apply Kd.R_alloc | apply Kd.R_drewN | apply Kd.R_drew)); exact HO512.out⟩, ⟨by (with_reducible repeat (first | refine blk_drewN ?_ _ | refine blk_drew ?_ | refine blk_alloc ?_ _)); exact BK509.out⟩, ⟨by repeat (first | (with_reducible first | exact HB.out | apply below_alloc | apply pw_below_drewN | apply below_drew1 | refine below_set ?_ GE509.out) | exact HB.out)⟩⟩
  case round =>
    clear H'
    try clear p2
    try clear c3
    try clear hcz4_0
    try clear hcz4_1
    try clear hcz4_2
    try clear hcz4_3
    try clear hfz4_0
    try clear hfz4_1
    try clear hfz4_2
    try clear hfz4_3
    obtain ⟨x4_1, rfl, HA, HK1, HO_3, BK509, HB⟩ := hrel
    cases gk with
    | zero => exact absurd HA.out (by simp [greenscreenref15_Home.l0])
    | succ k1 =>
      have H := HA.out
      clear HA
      simp only [greenscreenref15_Home.l0] at H
      by_cases c6 : x4_1 < (t510.length : Int)
      · rw [if_pos c6] at H
        have c6b0 : decide (x4_1 < (t510.length : Int)) = true := decide_eq_true c6
        clear c6
        by_cases c7 : 0 ≤ x4_1
        · rw [if_pos c7] at H
          have c7b0 : decide (0 ≤ x4_1) = true := decide_eq_true c7
          clear c7
          by_cases c8 : ((rd_T82 t510 x4_1).f1) > 0
          · rw [if_pos c8] at H
            have c8b0 : decide (0 < ((rd_T82 t510 x4_1).f1)) = true := decide_eq_true c8
            clear c8
            replace H := Option.bind_eq_some_iff.mp H
            obtain ⟨t515, A90, H⟩ := H
            replace H : (if t515 = true then (greenscreenref15_Home.l0 k1 t510 (wrap64 (x4_1 + 1)) a0_0 a0_1 l0_2 a0_3) else (if (l0_2.length : Int) = 0 then (none) else (some (Int.tmod (wrap64 (((rd_T82 t510 x4_1).f0) + 1)) (l0_2.length : Int))))) = some r := H
            have A9 := Aside0.mk A90
            clear A90
            by_cases c10 : t515 = true
            · subst c10
              have H1 : (greenscreenref15_Home.l0 k1 t510 (wrap64 (x4_1 + 1)) a0_0 a0_1 l0_2 a0_3) = some r := by rw [if_pos rfl] at H; exact H
              clear H
              have H := H1
              clear H1
              have H' := Aside0.mk H
              clear H
              obtain ⟨Ao11, co11, eo11⟩ := Kd.R_slice HO_3.out
              subst eo11
              have p513 : 0 ≤ (x4_1 : Int) := of_decide_eq_true (by first | (with_reducible assumption) | assumption)
              have q513 : x4_1 < (t510.length : Int) := of_decide_eq_true (by first | (with_reducible assumption) | assumption)
              obtain ⟨ad513, e513, hx513_0, hx513_1, hx513_2⟩ := at_T82 (Kd.R_reads' HO_3.out).2.2 x4_1 p513 q513
              cases e513
              replace p513 := eq_true p513
              replace q513 := eq_true q513
              have p514 : 0 ≤ (x4_1 : Int) := of_decide_eq_true (by first | (with_reducible assumption) | assumption)
              have q514 : x4_1 < (t510.length : Int) := of_decide_eq_true (by first | (with_reducible assumption) | assumption)
              obtain ⟨ad514, e514, hx514_0, hx514_1, hx514_2⟩ := at_T82 (Kd.R_reads' HO_3.out).2.2 x4_1 p514 q514
              obtain rfl : ad513 = ad514 := (by injection e514)
              replace p514 := eq_true p514
              replace q514 := eq_true q514
              go_wp2_with (first | (go_at_call 53; (with_reducible refine (greenscreenref11_Bit.calls ((rd_T82 t510 x4_1).f2) 32 true _ A9.out).mono ?_); rintro e w' ⟨rfl, ⟨nd, rfl⟩⟩; (try first | exact ⟨rfl, _, World.drewN_drewN _ _ _⟩ | exact ⟨rfl, _, Eq.trans (World.drewN_drewN _ _ _) (congrArg (World.drewN _) (Nat.add_assoc _ _ _))⟩)))
              repeat (go_quiet (first | (go_at_call 53; (with_reducible refine (greenscreenref11_Bit.calls ((rd_T82 t510 x4_1).f2) 32 true _ A9.out).mono ?_); rintro e w' ⟨rfl, ⟨nd, rfl⟩⟩; (try first | exact ⟨rfl, _, World.drewN_drewN _ _ _⟩ | exact ⟨rfl, _, Eq.trans (World.drewN_drewN _ _ _) (congrArg (World.drewN _) (Nat.add_assoc _ _ _))⟩))); try go_wp2_with (first | (go_at_call 53; (with_reducible refine (greenscreenref11_Bit.calls ((rd_T82 t510 x4_1).f2) 32 true _ A9.out).mono ?_); rintro e w' ⟨rfl, ⟨nd, rfl⟩⟩; (try first | exact ⟨rfl, _, World.drewN_drewN _ _ _⟩ | exact ⟨rfl, _, Eq.trans (World.drewN_drewN _ _ _) (congrArg (World.drewN _) (Nat.add_assoc _ _ _))⟩))))
              go_roundg k1
              case measure => have := HK1.out; omega
              case rel => exact ⟨(wrap64 (x4_1 + 1)), (by first | rfl | (simp; done) | (simp [*]; done)), H', ⟨by have := HK1.out; omega⟩, ⟨by (with_reducible repeat (first | apply Kd.R_alloc | apply Kd.R_drewN | apply Kd.R_drew)); exact HO_3.out⟩, ⟨by (with_reducible repeat (first | refine blk_drewN ?_ _ | refine blk_drew ?_ | refine blk_alloc ?_ _)); exact BK509.out⟩, ⟨by repeat (first | (with_reducible first | exact HB.out | apply below_alloc | apply pw_below_drewN | apply below_drew1 | refine below_set ?_ GE509.out) | exact HB.out)⟩⟩
            · replace c10 := Bool.eq_false_iff.mpr c10
              subst c10
              have H1 : (if (l0_2.length : Int) = 0 then (none) else (some (Int.tmod (wrap64 (((rd_T82 t510 x4_1).f0) + 1)) (l0_2.length : Int)))) = some r := by rw [if_neg (show ¬ (false = true) by decide)] at H; exact H
              clear H
              have H := H1
              clear H1
              by_cases c12 : (l0_2.length : Int) = 0
              · rw [if_pos c12] at H
                exact absurd H (by simp)
              · rw [if_neg c12] at H
                have c12b0 : ((l0_2.length : Int) == 0) = false := beq_eq_false_iff_ne.mpr c12
                have c12b1 : ((l0_2.length : Int) != 0) = true := bne_iff_ne.mpr c12
                have c12b2 : ¬ (l0_2 = []) := fun h_ => c12 (by rw [h_]; rfl)
                obtain rfl := Option.some.inj H
                obtain ⟨Ao13, co13, eo13⟩ := Kd.R_slice HO_3.out
                subst eo13
                have p513 : 0 ≤ (x4_1 : Int) := of_decide_eq_true (by first | (with_reducible assumption) | assumption)
                have q513 : x4_1 < (t510.length : Int) := of_decide_eq_true (by first | (with_reducible assumption) | assumption)
                obtain ⟨ad513, e513, hx513_0, hx513_1, hx513_2⟩ := at_T82 (Kd.R_reads' HO_3.out).2.2 x4_1 p513 q513
                cases e513
                replace p513 := eq_true p513
                replace q513 := eq_true q513
                have p514 : 0 ≤ (x4_1 : Int) := of_decide_eq_true (by first | (with_reducible assumption) | assumption)
                have q514 : x4_1 < (t510.length : Int) := of_decide_eq_true (by first | (with_reducible assumption) | assumption)
                obtain ⟨ad514, e514, hx514_0, hx514_1, hx514_2⟩ := at_T82 (Kd.R_reads' HO_3.out).2.2 x4_1 p514 q514
                obtain rfl : ad513 = ad514 := (by injection e514)
                replace p514 := eq_true p514
                replace q514 := eq_true q514
                go_wp2_with (first | (go_at_call 53; (with_reducible refine (greenscreenref11_Bit.calls ((rd_T82 t510 x4_1).f2) 32 false _ A9.out).mono ?_); rintro e w' ⟨rfl, ⟨nd, rfl⟩⟩; (try first | exact ⟨rfl, _, World.drewN_drewN _ _ _⟩ | exact ⟨rfl, _, Eq.trans (World.drewN_drewN _ _ _) (congrArg (World.drewN _) (Nat.add_assoc _ _ _))⟩); have p516 : 0 ≤ (x4_1 : Int) := of_decide_eq_true (by first | (with_reducible assumption) | assumption); have q516 : x4_1 < (t510.length : Int) := of_decide_eq_true (by first | (with_reducible assumption) | assumption); obtain ⟨ad516, e516, hx516_0, hx516_1, hx516_2⟩ := at_T82 (Kd.R_reads' HO_3.out).2.2 x4_1 p516 q516; obtain rfl : ad513 = ad516 := (by injection e516); replace p516 := eq_true p516; replace q516 := eq_true q516; have hcz14_0 : wr.cell? ⟨gb509, 0, none⟩ = some (.int .i64 a0_0) := (blk_cell BK509.out 0).trans rfl; have hcz14_1 : wr.cell? ⟨gb509, 1, none⟩ = some (.int .i64 a0_1) := (blk_cell BK509.out 1).trans rfl; have hcz14_2 : wr.cell? ⟨gb509, 2, none⟩ = some (.slice A0_2 l0_2.length c0_2) := (blk_cell BK509.out 2).trans rfl; have hcz14_3 : wr.cell? ⟨gb509, 3, none⟩ = some (.int .i64 a0_3) := (blk_cell BK509.out 3).trans rfl; have hfz14_0 := blk_frozen BK509.out 0; have hfz14_1 := blk_frozen BK509.out 1; have hfz14_2 := blk_frozen BK509.out 2; have hfz14_3 := blk_frozen BK509.out 3))
                repeat (go_quiet (first | (go_at_call 53; (with_reducible refine (greenscreenref11_Bit.calls ((rd_T82 t510 x4_1).f2) 32 false _ A9.out).mono ?_); rintro e w' ⟨rfl, ⟨nd, rfl⟩⟩; (try first | exact ⟨rfl, _, World.drewN_drewN _ _ _⟩ | exact ⟨rfl, _, Eq.trans (World.drewN_drewN _ _ _) (congrArg (World.drewN _) (Nat.add_assoc _ _ _))⟩); have p516 : 0 ≤ (x4_1 : Int) := of_decide_eq_true (by first | (with_reducible assumption) | assumption); have q516 : x4_1 < (t510.length : Int) := of_decide_eq_true (by first | (with_reducible assumption) | assumption); obtain ⟨ad516, e516, hx516_0, hx516_1, hx516_2⟩ := at_T82 (Kd.R_reads' HO_3.out).2.2 x4_1 p516 q516; obtain rfl : ad513 = ad516 := (by injection e516); replace p516 := eq_true p516; replace q516 := eq_true q516; have hcz14_0 : wr.cell? ⟨gb509, 0, none⟩ = some (.int .i64 a0_0) := (blk_cell BK509.out 0).trans rfl; have hcz14_1 : wr.cell? ⟨gb509, 1, none⟩ = some (.int .i64 a0_1) := (blk_cell BK509.out 1).trans rfl; have hcz14_2 : wr.cell? ⟨gb509, 2, none⟩ = some (.slice A0_2 l0_2.length c0_2) := (blk_cell BK509.out 2).trans rfl; have hcz14_3 : wr.cell? ⟨gb509, 3, none⟩ = some (.int .i64 a0_3) := (blk_cell BK509.out 3).trans rfl; have hfz14_0 := blk_frozen BK509.out 0; have hfz14_1 := blk_frozen BK509.out 1; have hfz14_2 := blk_frozen BK509.out 2; have hfz14_3 := blk_frozen BK509.out 3)); try go_wp2_with (first | (go_at_call 53; (with_reducible refine (greenscreenref11_Bit.calls ((rd_T82 t510 x4_1).f2) 32 false _ A9.out).mono ?_); rintro e w' ⟨rfl, ⟨nd, rfl⟩⟩; (try first | exact ⟨rfl, _, World.drewN_drewN _ _ _⟩ | exact ⟨rfl, _, Eq.trans (World.drewN_drewN _ _ _) (congrArg (World.drewN _) (Nat.add_assoc _ _ _))⟩); have p516 : 0 ≤ (x4_1 : Int) := of_decide_eq_true (by first | (with_reducible assumption) | assumption); have q516 : x4_1 < (t510.length : Int) := of_decide_eq_true (by first | (with_reducible assumption) | assumption); obtain ⟨ad516, e516, hx516_0, hx516_1, hx516_2⟩ := at_T82 (Kd.R_reads' HO_3.out).2.2 x4_1 p516 q516; obtain rfl : ad513 = ad516 := (by injection e516); replace p516 := eq_true p516; replace q516 := eq_true q516; have hcz14_0 : wr.cell? ⟨gb509, 0, none⟩ = some (.int .i64 a0_0) := (blk_cell BK509.out 0).trans rfl; have hcz14_1 : wr.cell? ⟨gb509, 1, none⟩ = some (.int .i64 a0_1) := (blk_cell BK509.out 1).trans rfl; have hcz14_2 : wr.cell? ⟨gb509, 2, none⟩ = some (.slice A0_2 l0_2.length c0_2) := (blk_cell BK509.out 2).trans rfl; have hcz14_3 : wr.cell? ⟨gb509, 3, none⟩ = some (.int .i64 a0_3) := (blk_cell BK509.out 3).trans rfl; have hfz14_0 := blk_frozen BK509.out 0; have hfz14_1 := blk_frozen BK509.out 1; have hfz14_2 := blk_frozen BK509.out 2; have hfz14_3 := blk_frozen BK509.out 3)))
                go_ret
                exact ⟨by first | rfl | (simp [errW_none, errW_some] <;> rfl) | (simp [*, errW_none, errW_some] <;> rfl), by repeat (first | (with_reducible first | exact HB.out | apply below_alloc | apply pw_below_drewN | apply below_drew1 | refine below_set ?_ GE509.out) | exact HB.out)⟩
          · rw [if_neg c8] at H
            have c8b0 : decide (0 < ((rd_T82 t510 x4_1).f1)) = false := decide_eq_false c8
            clear c8
            have H' := Aside0.mk H
            clear H
            obtain ⟨Ao15, co15, eo15⟩ := Kd.R_slice HO_3.out
            subst eo15
            have p513 : 0 ≤ (x4_1 : Int) := of_decide_eq_true (by first | (with_reducible assumption) | assumption)
            have q513 : x4_1 < (t510.length : Int) := of_decide_eq_true (by first | (with_reducible assumption) | assumption)
            obtain ⟨ad513, e513, hx513_0, hx513_1, hx513_2⟩ := at_T82 (Kd.R_reads' HO_3.out).2.2 x4_1 p513 q513
            cases e513
            replace p513 := eq_true p513
            replace q513 := eq_true q513
            go_wp2
            repeat (go_quiet (fail); try go_wp2)
            go_roundg k1
            case measure => have := HK1.out; omega
            case rel => exact ⟨(wrap64 (x4_1 + 1)), (by first | rfl | (simp; done) | (simp [*]; done)), H', ⟨by have := HK1.out; omega⟩, ⟨by (with_reducible repeat (first | apply Kd.R_alloc | apply Kd.R_drewN | apply Kd.R_drew)); exact HO_3.out⟩, ⟨by (with_reducible repeat (first | refine blk_drewN ?_ _ | refine blk_drew ?_ | refine blk_alloc ?_ _)); exact BK509.out⟩, ⟨by repeat (first | (with_reducible first | exact HB.out | apply below_alloc | apply pw_below_drewN | apply below_drew1 | refine below_set ?_ GE509.out) | exact HB.out)⟩⟩
        · rw [if_neg c7] at H
          exact absurd H (by simp)
      · rw [if_neg c6] at H
        have c6b0 : decide (x4_1 < (t510.length : Int)) = false := decide_eq_false c6
        clear c6
        obtain rfl := Option.some.inj H
        obtain ⟨Ao16, co16, eo16⟩ := Kd.R_slice HO_3.out
        subst eo16
        go_wp2
        repeat (go_quiet (fail); try go_wp2)
        go_ret
        exact ⟨by first | rfl | (simp [errW_none, errW_some] <;> rfl) | (simp [*, errW_none, errW_some] <;> rfl), by repeat (first | (with_reducible first | exact HB.out | apply below_alloc | apply pw_below_drewN | apply below_drew1 | refine below_set ?_ GE509.out) | exact HB.out)⟩

/-! ### greenscreenref19_On: function 33 -/
def greenscreenref19_On.f (k : Nat) (a0_0 : Int) (a0_1 : Int) (l0_2 : List (S38)) (a0_3 : Int) : Option (Int) := if (l0_2.length : Int) = 0 then (none) else (if 0 ≤ (Int.tmod (wrap64 (a0_3 + 1)) (l0_2.length : Int)) then (if (Int.tmod (wrap64 (a0_3 + 1)) (l0_2.length : Int)) < (l0_2.length : Int) then (if ((rd_T38 l0_2 (Int.tmod (wrap64 (a0_3 + 1)) (l0_2.length : Int))).f2 = true) then ((greenscreenref11_Bit.f ((rd_T38 l0_2 (Int.tmod (wrap64 (a0_3 + 1)) (l0_2.length : Int))).f0) 32).bind fun t520 => (if t520 = true then ((greenscreenref11_Bit.f ((rd_T38 l0_2 (Int.tmod (wrap64 (a0_3 + 1)) (l0_2.length : Int))).f0) 16).bind fun t521 => (if t521 = true then ((greenscreenref19_Tab.f k a0_0 a0_1 l0_2 a0_3 (Int.tmod (wrap64 (a0_3 + 1)) (l0_2.length : Int))).bind fun t522 => (some t522)) else (some (Int.tmod (wrap64 ((Int.tmod (wrap64 (a0_3 + 1)) (l0_2.length : Int)) + 1)) (l0_2.length : Int))))) else (some (Int.tmod (wrap64 ((Int.tmod (wrap64 (a0_3 + 1)) (l0_2.length : Int)) + 1)) (l0_2.length : Int))))) else (some (Int.tmod (wrap64 (a0_3 + 1)) (l0_2.length : Int)))) else (none)) else (none))
theorem greenscreenref19_On.mono : ∀ a0 a1 a2 a3 k, LeO (greenscreenref19_On.f k a0 a1 a2 a3) (greenscreenref19_On.f (k + 1) a0 a1 a2 a3) := by
  intro a0 a1 a2 a3 k
  unfold greenscreenref19_On.f
  repeat' first
      | (with_reducible exact greenscreenref19_Tab.mono _ _ _ _ _ _)
      | (with_reducible exact LeO.refl _)
      | (with_reducible exact LeO.none _)
      | (with_reducible refine LeO.ite ?_ ?_)
      | (with_reducible refine LeO.bind ?_ (fun _ => ?_))
      | exact greenscreenref19_Tab.mono _ _ _ _ _ _
      | exact LeO.none _
      | refine LeO.ite ?_ ?_
      | refine LeO.bind ?_ (fun _ => ?_)
set_option maxHeartbeats 8000000 in
set_option maxRecDepth 100000 in
theorem greenscreenref19_On.calls (k : Nat) (a0_0 : Int) (a0_1 : Int) (A0_2 : Option Addr) (c0_2 : Nat) (l0_2 : List (S38)) (a0_3 : Int) (r : Int) (w : World) (hr0_2 : Kd.C k38 w A0_2 l0_2.length l0_2) (hc0_2 : l0_2.length ≤ c0_2) (h : greenscreenref19_On.f k a0_0 a0_1 l0_2 a0_3 = some r) :
    Calls Try.prog 33 #[.agg #[.int .i64 a0_0, .int .i64 a0_1, .slice A0_2 l0_2.length c0_2, .int .i64 a0_3]] w fun e w' => e = .returned (.int .i64 r) ∧ Below w.heap.size w w' := by
  have hu28 := Try.underlying28
  have hu38 := Try.underlying38
  have HR0_2 := Aside0.mk hr0_2
  have HC0_2 := Aside0.mk hc0_2
  clear hr0_2 hc0_2
  have HB := Aside0.mk (Below.refl w.heap.size w)
  have H : (if (l0_2.length : Int) = 0 then (none) else (if 0 ≤ (Int.tmod (wrap64 (a0_3 + 1)) (l0_2.length : Int)) then (if (Int.tmod (wrap64 (a0_3 + 1)) (l0_2.length : Int)) < (l0_2.length : Int) then (if ((rd_T38 l0_2 (Int.tmod (wrap64 (a0_3 + 1)) (l0_2.length : Int))).f2 = true) then ((greenscreenref11_Bit.f ((rd_T38 l0_2 (Int.tmod (wrap64 (a0_3 + 1)) (l0_2.length : Int))).f0) 32).bind fun t520 => (if t520 = true then ((greenscreenref11_Bit.f ((rd_T38 l0_2 (Int.tmod (wrap64 (a0_3 + 1)) (l0_2.length : Int))).f0) 16).bind fun t521 => (if t521 = true then ((greenscreenref19_Tab.f k a0_0 a0_1 l0_2 a0_3 (Int.tmod (wrap64 (a0_3 + 1)) (l0_2.length : Int))).bind fun t522 => (some t522)) else (some (Int.tmod (wrap64 ((Int.tmod (wrap64 (a0_3 + 1)) (l0_2.length : Int)) + 1)) (l0_2.length : Int))))) else (some (Int.tmod (wrap64 ((Int.tmod (wrap64 (a0_3 + 1)) (l0_2.length : Int)) + 1)) (l0_2.length : Int))))) else (some (Int.tmod (wrap64 (a0_3 + 1)) (l0_2.length : Int)))) else (none)) else (none))) = some r := h
  clear h
  by_cases c2 : (l0_2.length : Int) = 0
  · rw [if_pos c2] at H
    exact absurd H (by simp)
  · rw [if_neg c2] at H
    have c2b0 : ((l0_2.length : Int) == 0) = false := beq_eq_false_iff_ne.mpr c2
    have c2b1 : ((l0_2.length : Int) != 0) = true := bne_iff_ne.mpr c2
    have c2b2 : ¬ (l0_2 = []) := fun h_ => c2 (by rw [h_]; rfl)
    obtain ⟨ji3, hji3⟩ : ∃ j_ : Int, (Int.tmod (wrap64 (a0_3 + 1)) (l0_2.length : Int)) = j_ := ⟨_, rfl⟩
    replace H : (if 0 ≤ (ji3) then (if (ji3) < (l0_2.length : Int) then (if ((rd_T38 l0_2 (ji3)).f2 = true) then ((greenscreenref11_Bit.f ((rd_T38 l0_2 (ji3)).f0) 32).bind fun t520 => (if t520 = true then ((greenscreenref11_Bit.f ((rd_T38 l0_2 (ji3)).f0) 16).bind fun t521 => (if t521 = true then ((greenscreenref19_Tab.f k a0_0 a0_1 l0_2 a0_3 (ji3)).bind fun t522 => (some t522)) else (some (Int.tmod (wrap64 ((ji3) + 1)) (l0_2.length : Int))))) else (some (Int.tmod (wrap64 ((ji3) + 1)) (l0_2.length : Int))))) else (some ji3)) else (none)) else (none)) = some r := by first | (rw [hji3] at H; exact H) | (simp only [hji3] at H ⊢; exact H)
    by_cases c4 : 0 ≤ (ji3)
    · rw [if_pos c4] at H
      have c4b0 : decide (0 ≤ (ji3)) = true := decide_eq_true c4
      clear c4
      by_cases c5 : (ji3) < (l0_2.length : Int)
      · rw [if_pos c5] at H
        have c5b0 : decide ((ji3) < (l0_2.length : Int)) = true := decide_eq_true c5
        clear c5
        obtain ⟨bq6, hbq6⟩ : ∃ b_ : Bool, b_ = ((rd_T38 l0_2 (ji3)).f2) := ⟨_, rfl⟩
        replace H : (if (bq6 = true) then ((greenscreenref11_Bit.f ((rd_T38 l0_2 (ji3)).f0) 32).bind fun t520 => (if t520 = true then ((greenscreenref11_Bit.f ((rd_T38 l0_2 (ji3)).f0) 16).bind fun t521 => (if t521 = true then ((greenscreenref19_Tab.f k a0_0 a0_1 l0_2 a0_3 (ji3)).bind fun t522 => (some t522)) else (some (Int.tmod (wrap64 ((ji3) + 1)) (l0_2.length : Int))))) else (some (Int.tmod (wrap64 ((ji3) + 1)) (l0_2.length : Int))))) else (some ji3)) = some r := by rw [← hbq6] at H; exact H
        have Nbq6 := Aside0.mk hbq6
        clear hbq6
        by_cases c7 : (bq6 = true)
        · subst c7
          have H1 : ((greenscreenref11_Bit.f ((rd_T38 l0_2 (ji3)).f0) 32).bind fun t520 => (if t520 = true then ((greenscreenref11_Bit.f ((rd_T38 l0_2 (ji3)).f0) 16).bind fun t521 => (if t521 = true then ((greenscreenref19_Tab.f k a0_0 a0_1 l0_2 a0_3 (ji3)).bind fun t522 => (some t522)) else (some (Int.tmod (wrap64 ((ji3) + 1)) (l0_2.length : Int))))) else (some (Int.tmod (wrap64 ((ji3) + 1)) (l0_2.length : Int))))) = some r := by rw [if_pos rfl] at H; exact H
          clear H
          have H := H1
          clear H1
          replace H := Option.bind_eq_some_iff.mp H
          obtain ⟨t520, A80, H⟩ := H
          replace H : (if t520 = true then ((greenscreenref11_Bit.f ((rd_T38 l0_2 (ji3)).f0) 16).bind fun t521 => (if t521 = true then ((greenscreenref19_Tab.f k a0_0 a0_1 l0_2 a0_3 (ji3)).bind fun t522 => (some t522)) else (some (Int.tmod (wrap64 ((ji3) + 1)) (l0_2.length : Int))))) else (some (Int.tmod (wrap64 ((ji3) + 1)) (l0_2.length : Int)))) = some r := H
          have A8 := Aside0.mk A80
          clear A80
          by_cases c9 : t520 = true
          · subst c9
            have H1 : ((greenscreenref11_Bit.f ((rd_T38 l0_2 (ji3)).f0) 16).bind fun t521 => (if t521 = true then ((greenscreenref19_Tab.f k a0_0 a0_1 l0_2 a0_3 (ji3)).bind fun t522 => (some t522)) else (some (Int.tmod (wrap64 ((ji3) + 1)) (l0_2.length : Int))))) = some r := by rw [if_pos rfl] at H; exact H
            clear H
            have H := H1
            clear H1
            replace H := Option.bind_eq_some_iff.mp H
            obtain ⟨t521, A100, H⟩ := H
            replace H : (if t521 = true then ((greenscreenref19_Tab.f k a0_0 a0_1 l0_2 a0_3 (ji3)).bind fun t522 => (some t522)) else (some (Int.tmod (wrap64 ((ji3) + 1)) (l0_2.length : Int)))) = some r := H
            have A10 := Aside0.mk A100
            clear A100
            by_cases c11 : t521 = true
            · subst c11
              have H1 : ((greenscreenref19_Tab.f k a0_0 a0_1 l0_2 a0_3 (ji3)).bind fun t522 => (some t522)) = some r := by rw [if_pos rfl] at H; exact H
              clear H
              have H := H1
              clear H1
              replace H := Option.bind_eq_some_iff.mp H
              obtain ⟨t522, A120, H⟩ := H
              replace H : (some t522) = some r := H
              have A12 := Aside0.mk A120
              clear A120
              obtain rfl := Option.some.inj H
              go_enter Try.func33, Try.ntmps33
              go_wp2_with (first | ((with_reducible refine gate_dst (N := 1) rfl ?_); refine box_event ?hg (N := 1) ?hd (cs := #[.int .i64 a0_0, .int .i64 a0_1, .slice A0_2 l0_2.length c0_2, .int .i64 a0_3]) (t := 28) ?hr ?_; (case hd => rfl); (case hg => rfl); (case hr => first | (go_simp; done) | (go_simp; rfl)); intro gb517 hg w13 hbox hb; have n0_ := Aside0.mk (below_step (by repeat (first | (with_reducible first | exact HB.out | apply below_alloc | apply pw_below_drewN | apply below_drew1) | exact HB.out)) hb); have n1_ := Aside0.mk (hbox); have n2_ := Aside0.mk ((by rw [hg]; exact (below_size (by repeat (first | (with_reducible first | exact HB.out | apply below_alloc | apply pw_below_drewN | apply below_drew1) | exact HB.out))) : w.heap.size ≤ gb517)); have n3_ := Aside0.mk ((by rw [hg]; exact (below_size (by repeat (first | (with_reducible first | exact HB.out | apply below_alloc | apply pw_below_drewN | apply below_drew1) | exact HB.out))) : w.heap.size ≤ gb517)); clear HB; have HB := n0_; have BK517 := n1_; have GW517 := n2_; have GE517 := n3_; clear n0_ n1_ n2_ n3_; clear hb hbox hg; have hcz14_0 : w13.cell? ⟨gb517, 0, none⟩ = some (.int .i64 a0_0) := (blk_cell BK517.out 0).trans rfl; have hcz14_1 : w13.cell? ⟨gb517, 1, none⟩ = some (.int .i64 a0_1) := (blk_cell BK517.out 1).trans rfl; have hcz14_2 : w13.cell? ⟨gb517, 2, none⟩ = some (.slice A0_2 l0_2.length c0_2) := (blk_cell BK517.out 2).trans rfl; have hcz14_3 : w13.cell? ⟨gb517, 3, none⟩ = some (.int .i64 a0_3) := (blk_cell BK517.out 3).trans rfl; have hfz14_0 := blk_frozen BK517.out 0; have hfz14_1 := blk_frozen BK517.out 1; have hfz14_2 := blk_frozen BK517.out 2; have hfz14_3 := blk_frozen BK517.out 3; have p518 : 0 ≤ ((ji3) : Int) := of_decide_eq_true (by first | (with_reducible assumption) | assumption); have q518 : (ji3) < (l0_2.length : Int) := of_decide_eq_true (by first | (with_reducible assumption) | assumption); obtain ⟨ad518, e518, hx518_0, hx518_1, hx518_2, hx518_3, hx518_4⟩ := at_T38 HR0_2.out (ji3) p518 q518; (try rw [← Nbq6.out] at hx518_1); (try rw [← Nbq6.out] at hx518_2); cases e518; replace hx518_0 := (HB.out.cell (World.block_lt_of_cell? w _ hx518_0)).trans hx518_0; replace hx518_1 := (HB.out.cell (World.block_lt_of_cell? w _ hx518_1)).trans hx518_1; replace hx518_2 := (HB.out.cell (World.block_lt_of_cell? w _ hx518_2)).trans hx518_2; replace hx518_3 := (HB.out.cell (World.block_lt_of_cell? w _ hx518_3)).trans hx518_3; replace hx518_4 := (HB.out.cell (World.block_lt_of_cell? w _ hx518_4)).trans hx518_4; replace p518 := eq_true p518; replace q518 := eq_true q518) | ((with_reducible refine gate_dst (N := 5) rfl ?_); refine box_event ?hg (N := 5) ?hd (cs := #[.int .u8 0, .bool false, .bool false, .int .u8 0, .int .u8 0]) (t := 38) ?hr ?_; (case hd => rfl); (case hg => rfl); (case hr => first | (go_simp; done) | (go_simp; rfl)); intro gb519 hg w15 hbox hb; have n0_ := Aside0.mk (blk_below (g := gb517) (o := .cells #[.int .i64 a0_0, .int .i64 a0_1, .slice (some ad518) l0_2.length c0_2, .int .i64 a0_3] 28 (0, 0)) (by (with_reducible repeat (first | refine blk_drewN ?_ _ | refine blk_drew ?_ | refine blk_alloc ?_ _)); exact BK517.out) hb); have n1_ := Aside0.mk (below_step (by repeat (first | (with_reducible first | exact HB.out | apply below_alloc | apply pw_below_drewN | apply below_drew1 | refine below_set ?_ GE517.out) | exact HB.out)) hb); have n2_ := Aside0.mk (hbox); have n3_ := Aside0.mk ((by rw [hg]; exact (below_size (by repeat (first | (with_reducible first | exact HB.out | apply below_alloc | apply pw_below_drewN | apply below_drew1 | refine below_set ?_ GE517.out) | exact HB.out))) : w.heap.size ≤ gb519)); have n4_ := Aside0.mk ((by rw [hg]; exact (below_size (by repeat (first | (with_reducible first | exact HB.out | apply below_alloc | apply pw_below_drewN | apply below_drew1 | refine below_set ?_ GE517.out) | exact HB.out))) : w.heap.size ≤ gb519)); have n5_ := Aside0.mk ((by rw [hg]; exact Nat.ne_of_lt (blk_lt (g := gb517) (o := .cells #[.int .i64 a0_0, .int .i64 a0_1, .slice (some ad518) l0_2.length c0_2, .int .i64 a0_3] 28 (0, 0)) (by (with_reducible repeat (first | refine blk_drewN ?_ _ | refine blk_drew ?_ | refine blk_alloc ?_ _)); exact BK517.out)) : gb517 ≠ gb519)); have n6_ := Aside0.mk ((by rw [hg]; exact Nat.ne_of_gt (blk_lt (g := gb517) (o := .cells #[.int .i64 a0_0, .int .i64 a0_1, .slice (some ad518) l0_2.length c0_2, .int .i64 a0_3] 28 (0, 0)) (by (with_reducible repeat (first | refine blk_drewN ?_ _ | refine blk_drew ?_ | refine blk_alloc ?_ _)); exact BK517.out)) : gb519 ≠ gb517)); clear BK517; clear HB; have BK517 := n0_; have HB := n1_; have BK519 := n2_; have GW519 := n3_; have GE519 := n4_; have NB517_519 := n5_; have NB519_517 := n6_; clear n0_ n1_ n2_ n3_ n4_ n5_ n6_; clear hb hbox hg; have hnb16 := NB519_517.out; have hnc16 := NB517_519.out; have hcz17_0 : w15.cell? ⟨gb519, 0, none⟩ = some (.int .u8 0) := (blk_cell BK519.out 0).trans rfl; have hcz17_1 : w15.cell? ⟨gb519, 1, none⟩ = some (.bool false) := (blk_cell BK519.out 1).trans rfl; have hcz17_2 : w15.cell? ⟨gb519, 2, none⟩ = some (.bool false) := (blk_cell BK519.out 2).trans rfl; have hcz17_3 : w15.cell? ⟨gb519, 3, none⟩ = some (.int .u8 0) := (blk_cell BK519.out 3).trans rfl; have hcz17_4 : w15.cell? ⟨gb519, 4, none⟩ = some (.int .u8 0) := (blk_cell BK519.out 4).trans rfl; have hfz17_0 := blk_frozen BK519.out 0; have hfz17_1 := blk_frozen BK519.out 1; have hfz17_2 := blk_frozen BK519.out 2; have hfz17_3 := blk_frozen BK519.out 3; have hfz17_4 := blk_frozen BK519.out 4) | ((with_reducible refine gate_callee (f := 53) rfl ?_); refine goesL_ (some 25) rfl rfl Try.func53 (by kernel_rfl) rfl #[.int .u8 ((rd_T38 l0_2 (ji3)).f0), .int .i64 32] rfl (by (try simp only [List.map_toArray, List.map_cons, List.map_nil]); first | done | (simp only [hji3]; rfl) | rfl | (simp only [List.length_drop, List.length_take]; rfl)) ?_; (with_reducible refine (greenscreenref11_Bit.calls ((rd_T38 l0_2 (ji3)).f0) 32 true _ A8.out).mono ?_); rintro e w' ⟨rfl, ⟨nd, rfl⟩⟩; refine ⟨_, rfl, ?_⟩) | (go_at_call 53; (with_reducible refine (greenscreenref11_Bit.calls ((rd_T38 l0_2 (ji3)).f0) 16 true _ A10.out).mono ?_); rintro e w' ⟨rfl, ⟨nd, rfl⟩⟩; have hcz18_0 : w15.cell? ⟨gb517, 0, none⟩ = some (.int .i64 a0_0) := (blk_cell BK517.out 0).trans rfl; have hcz18_1 : w15.cell? ⟨gb517, 1, none⟩ = some (.int .i64 a0_1) := (blk_cell BK517.out 1).trans rfl; have hcz18_2 : w15.cell? ⟨gb517, 2, none⟩ = some (.slice (some ad518) l0_2.length c0_2) := (blk_cell BK517.out 2).trans rfl; have hcz18_3 : w15.cell? ⟨gb517, 3, none⟩ = some (.int .i64 a0_3) := (blk_cell BK517.out 3).trans rfl; have hfz18_0 := blk_frozen BK517.out 0; have hfz18_1 := blk_frozen BK517.out 1; have hfz18_2 := blk_frozen BK517.out 2; have hfz18_3 := blk_frozen BK517.out 3) | ((with_reducible refine gate_callee (f := 29) rfl ?_); refine goesL_ (some 33) rfl rfl Try.func29 (by kernel_rfl) rfl #[.agg #[.int .i64 a0_0, .int .i64 a0_1, .slice (some ad518) l0_2.length c0_2, .int .i64 a0_3], .int .i64 ji3] rfl (by (try simp only [List.map_toArray, List.map_cons, List.map_nil]); first | done | (simp only [hji3]; rfl) | rfl | (simp only [List.length_drop, List.length_take]; rfl)) ?_; (with_reducible refine (greenscreenref19_Tab.calls k a0_0 a0_1 _ _ l0_2 a0_3 ji3 t522 _ ?side1 ?side2 A12.out).mono ?_); (case side1 => exact Kd.C_below HR0_2.out (by repeat (first | (with_reducible first | exact HB.out | apply below_alloc | apply pw_below_drewN | apply below_drew1 | refine below_set ?_ GE517.out | refine below_set ?_ GE519.out) | exact HB.out))); (case side2 => exact HC0_2.out); rintro e w19 ⟨rfl, hb⟩; refine ⟨_, rfl, ?_⟩; have n0_ := Aside0.mk (blk_below (g := gb517) (o := .cells #[.int .i64 a0_0, .int .i64 a0_1, .slice (some ad518) l0_2.length c0_2, .int .i64 a0_3] 28 (0, 0)) (by (with_reducible repeat (first | refine blk_drewN ?_ _ | refine blk_drew ?_ | refine blk_alloc ?_ _)); refine blk_far ?_ NB517_519.out _; (with_reducible repeat (first | refine blk_drewN ?_ _ | refine blk_drew ?_ | refine blk_alloc ?_ _)); refine blk_far ?_ NB517_519.out _; (with_reducible repeat (first | refine blk_drewN ?_ _ | refine blk_drew ?_ | refine blk_alloc ?_ _)); refine blk_far ?_ NB517_519.out _; (with_reducible repeat (first | refine blk_drewN ?_ _ | refine blk_drew ?_ | refine blk_alloc ?_ _)); refine blk_far ?_ NB517_519.out _; (with_reducible repeat (first | refine blk_drewN ?_ _ | refine blk_drew ?_ | refine blk_alloc ?_ _)); refine blk_far ?_ NB517_519.out _; (with_reducible repeat (first | refine blk_drewN ?_ _ | refine blk_drew ?_ | refine blk_alloc ?_ _)); exact BK517.out) hb); have n1_ := Aside0.mk (blk_below (g := gb519) (o := .cells #[.int .u8 ((rd_T38 l0_2 (ji3)).f0), .bool ((rd_T38 l0_2 (ji3)).f1), .bool true, .int .u8 ((rd_T38 l0_2 (ji3)).f3), .int .u8 ((rd_T38 l0_2 (ji3)).f4)] 38 (0, 0)) (by (with_reducible repeat (first | refine blk_drewN ?_ _ | refine blk_drew ?_ | refine blk_alloc ?_ _)); refine blk_put (cs := #[.int .u8 ((rd_T38 l0_2 (ji3)).f0), .bool ((rd_T38 l0_2 (ji3)).f1), .bool true, .int .u8 ((rd_T38 l0_2 (ji3)).f3), .int .u8 0]) ?_ 4 _ rfl; (with_reducible repeat (first | refine blk_drewN ?_ _ | refine blk_drew ?_ | refine blk_alloc ?_ _)); refine blk_put (cs := #[.int .u8 ((rd_T38 l0_2 (ji3)).f0), .bool ((rd_T38 l0_2 (ji3)).f1), .bool true, .int .u8 0, .int .u8 0]) ?_ 3 _ rfl; (with_reducible repeat (first | refine blk_drewN ?_ _ | refine blk_drew ?_ | refine blk_alloc ?_ _)); refine blk_put (cs := #[.int .u8 ((rd_T38 l0_2 (ji3)).f0), .bool ((rd_T38 l0_2 (ji3)).f1), .bool false, .int .u8 0, .int .u8 0]) ?_ 2 _ rfl; (with_reducible repeat (first | refine blk_drewN ?_ _ | refine blk_drew ?_ | refine blk_alloc ?_ _)); refine blk_put (cs := #[.int .u8 ((rd_T38 l0_2 (ji3)).f0), .bool false, .bool false, .int .u8 0, .int .u8 0]) ?_ 1 _ rfl; (with_reducible repeat (first | refine blk_drewN ?_ _ | refine blk_drew ?_ | refine blk_alloc ?_ _)); refine blk_put (cs := #[.int .u8 0, .bool false, .bool false, .int .u8 0, .int .u8 0]) ?_ 0 _ rfl; (with_reducible repeat (first | refine blk_drewN ?_ _ | refine blk_drew ?_ | refine blk_alloc ?_ _)); exact BK519.out) hb); have n2_ := Aside0.mk (below_step (by repeat (first | (with_reducible first | exact HB.out | apply below_alloc | apply pw_below_drewN | apply below_drew1 | refine below_set ?_ GE517.out | refine below_set ?_ GE519.out) | exact HB.out)) hb); clear BK517; clear BK519; clear HB; have BK517 := n0_; have BK519 := n1_; have HB := n2_; clear n0_ n1_ n2_; (try clear hb); (try clear hb2); (try clear hk); (try clear hi)))
              go_ret
              exact ⟨by first | rfl | (simp [errW_none, errW_some] <;> rfl) | (simp only [← hji3]; first | rfl | (simp [errW_none, errW_some] <;> rfl)) | (simp [*, errW_none, errW_some] <;> rfl), by repeat (first | (with_reducible first | exact HB.out | apply below_alloc | apply pw_below_drewN | apply below_drew1 | refine below_set ?_ GE517.out | refine below_set ?_ GE519.out) | exact HB.out)⟩
            · replace c11 := Bool.eq_false_iff.mpr c11
              subst c11
              have H1 : (some (Int.tmod (wrap64 ((ji3) + 1)) (l0_2.length : Int))) = some r := by rw [if_neg (show ¬ (false = true) by decide)] at H; exact H
              clear H
              have H := H1
              clear H1
              obtain rfl := Option.some.inj H
              go_enter Try.func33, Try.ntmps33
              go_wp2_with (first | ((with_reducible refine gate_dst (N := 1) rfl ?_); refine box_event ?hg (N := 1) ?hd (cs := #[.int .i64 a0_0, .int .i64 a0_1, .slice A0_2 l0_2.length c0_2, .int .i64 a0_3]) (t := 28) ?hr ?_; (case hd => rfl); (case hg => rfl); (case hr => first | (go_simp; done) | (go_simp; rfl)); intro gb517 hg w20 hbox hb; have n0_ := Aside0.mk (below_step (by repeat (first | (with_reducible first | exact HB.out | apply below_alloc | apply pw_below_drewN | apply below_drew1) | exact HB.out)) hb); have n1_ := Aside0.mk (hbox); have n2_ := Aside0.mk ((by rw [hg]; exact (below_size (by repeat (first | (with_reducible first | exact HB.out | apply below_alloc | apply pw_below_drewN | apply below_drew1) | exact HB.out))) : w.heap.size ≤ gb517)); have n3_ := Aside0.mk ((by rw [hg]; exact (below_size (by repeat (first | (with_reducible first | exact HB.out | apply below_alloc | apply pw_below_drewN | apply below_drew1) | exact HB.out))) : w.heap.size ≤ gb517)); clear HB; have HB := n0_; have BK517 := n1_; have GW517 := n2_; have GE517 := n3_; clear n0_ n1_ n2_ n3_; clear hb hbox hg; have hcz21_0 : w20.cell? ⟨gb517, 0, none⟩ = some (.int .i64 a0_0) := (blk_cell BK517.out 0).trans rfl; have hcz21_1 : w20.cell? ⟨gb517, 1, none⟩ = some (.int .i64 a0_1) := (blk_cell BK517.out 1).trans rfl; have hcz21_2 : w20.cell? ⟨gb517, 2, none⟩ = some (.slice A0_2 l0_2.length c0_2) := (blk_cell BK517.out 2).trans rfl; have hcz21_3 : w20.cell? ⟨gb517, 3, none⟩ = some (.int .i64 a0_3) := (blk_cell BK517.out 3).trans rfl; have hfz21_0 := blk_frozen BK517.out 0; have hfz21_1 := blk_frozen BK517.out 1; have hfz21_2 := blk_frozen BK517.out 2; have hfz21_3 := blk_frozen BK517.out 3; have p518 : 0 ≤ ((ji3) : Int) := of_decide_eq_true (by first | (with_reducible assumption) | assumption); have q518 : (ji3) < (l0_2.length : Int) := of_decide_eq_true (by first | (with_reducible assumption) | assumption); obtain ⟨ad518, e518, hx518_0, hx518_1, hx518_2, hx518_3, hx518_4⟩ := at_T38 HR0_2.out (ji3) p518 q518; (try rw [← Nbq6.out] at hx518_1); (try rw [← Nbq6.out] at hx518_2); cases e518; replace hx518_0 := (HB.out.cell (World.block_lt_of_cell? w _ hx518_0)).trans hx518_0; replace hx518_1 := (HB.out.cell (World.block_lt_of_cell? w _ hx518_1)).trans hx518_1; replace hx518_2 := (HB.out.cell (World.block_lt_of_cell? w _ hx518_2)).trans hx518_2; replace hx518_3 := (HB.out.cell (World.block_lt_of_cell? w _ hx518_3)).trans hx518_3; replace hx518_4 := (HB.out.cell (World.block_lt_of_cell? w _ hx518_4)).trans hx518_4; replace p518 := eq_true p518; replace q518 := eq_true q518) | ((with_reducible refine gate_dst (N := 5) rfl ?_); refine box_event ?hg (N := 5) ?hd (cs := #[.int .u8 0, .bool false, .bool false, .int .u8 0, .int .u8 0]) (t := 38) ?hr ?_; (case hd => rfl); (case hg => rfl); (case hr => first | (go_simp; done) | (go_simp; rfl)); intro gb519 hg w22 hbox hb; have n0_ := Aside0.mk (blk_below (g := gb517) (o := .cells #[.int .i64 a0_0, .int .i64 a0_1, .slice (some ad518) l0_2.length c0_2, .int .i64 a0_3] 28 (0, 0)) (by (with_reducible repeat (first | refine blk_drewN ?_ _ | refine blk_drew ?_ | refine blk_alloc ?_ _)); exact BK517.out) hb); have n1_ := Aside0.mk (below_step (by repeat (first | (with_reducible first | exact HB.out | apply below_alloc | apply pw_below_drewN | apply below_drew1 | refine below_set ?_ GE517.out) | exact HB.out)) hb); have n2_ := Aside0.mk (hbox); have n3_ := Aside0.mk ((by rw [hg]; exact (below_size (by repeat (first | (with_reducible first | exact HB.out | apply below_alloc | apply pw_below_drewN | apply below_drew1 | refine below_set ?_ GE517.out) | exact HB.out))) : w.heap.size ≤ gb519)); have n4_ := Aside0.mk ((by rw [hg]; exact (below_size (by repeat (first | (with_reducible first | exact HB.out | apply below_alloc | apply pw_below_drewN | apply below_drew1 | refine below_set ?_ GE517.out) | exact HB.out))) : w.heap.size ≤ gb519)); have n5_ := Aside0.mk ((by rw [hg]; exact Nat.ne_of_lt (blk_lt (g := gb517) (o := .cells #[.int .i64 a0_0, .int .i64 a0_1, .slice (some ad518) l0_2.length c0_2, .int .i64 a0_3] 28 (0, 0)) (by (with_reducible repeat (first | refine blk_drewN ?_ _ | refine blk_drew ?_ | refine blk_alloc ?_ _)); exact BK517.out)) : gb517 ≠ gb519)); have n6_ := Aside0.mk ((by rw [hg]; exact Nat.ne_of_gt (blk_lt (g := gb517) (o := .cells #[.int .i64 a0_0, .int .i64 a0_1, .slice (some ad518) l0_2.length c0_2, .int .i64 a0_3] 28 (0, 0)) (by (with_reducible repeat (first | refine blk_drewN ?_ _ | refine blk_drew ?_ | refine blk_alloc ?_ _)); exact BK517.out)) : gb519 ≠ gb517)); clear BK517; clear HB; have BK517 := n0_; have HB := n1_; have BK519 := n2_; have GW519 := n3_; have GE519 := n4_; have NB517_519 := n5_; have NB519_517 := n6_; clear n0_ n1_ n2_ n3_ n4_ n5_ n6_; clear hb hbox hg; have hnb23 := NB519_517.out; have hnc23 := NB517_519.out; have hcz24_0 : w22.cell? ⟨gb519, 0, none⟩ = some (.int .u8 0) := (blk_cell BK519.out 0).trans rfl; have hcz24_1 : w22.cell? ⟨gb519, 1, none⟩ = some (.bool false) := (blk_cell BK519.out 1).trans rfl; have hcz24_2 : w22.cell? ⟨gb519, 2, none⟩ = some (.bool false) := (blk_cell BK519.out 2).trans rfl; have hcz24_3 : w22.cell? ⟨gb519, 3, none⟩ = some (.int .u8 0) := (blk_cell BK519.out 3).trans rfl; have hcz24_4 : w22.cell? ⟨gb519, 4, none⟩ = some (.int .u8 0) := (blk_cell BK519.out 4).trans rfl; have hfz24_0 := blk_frozen BK519.out 0; have hfz24_1 := blk_frozen BK519.out 1; have hfz24_2 := blk_frozen BK519.out 2; have hfz24_3 := blk_frozen BK519.out 3; have hfz24_4 := blk_frozen BK519.out 4) | ((with_reducible refine gate_callee (f := 53) rfl ?_); refine goesL_ (some 25) rfl rfl Try.func53 (by kernel_rfl) rfl #[.int .u8 ((rd_T38 l0_2 (ji3)).f0), .int .i64 32] rfl (by (try simp only [List.map_toArray, List.map_cons, List.map_nil]); first | done | (simp only [hji3]; rfl) | rfl | (simp only [List.length_drop, List.length_take]; rfl)) ?_; (with_reducible refine (greenscreenref11_Bit.calls ((rd_T38 l0_2 (ji3)).f0) 32 true _ A8.out).mono ?_); rintro e w' ⟨rfl, ⟨nd, rfl⟩⟩; refine ⟨_, rfl, ?_⟩) | (go_at_call 53; (with_reducible refine (greenscreenref11_Bit.calls ((rd_T38 l0_2 (ji3)).f0) 16 false _ A10.out).mono ?_); rintro e w' ⟨rfl, ⟨nd, rfl⟩⟩))
              go_ret
              exact ⟨by first | rfl | (simp [errW_none, errW_some] <;> rfl) | (simp only [← hji3]; first | rfl | (simp [errW_none, errW_some] <;> rfl)) | (simp [*, errW_none, errW_some] <;> rfl), by repeat (first | (with_reducible first | exact HB.out | apply below_alloc | apply pw_below_drewN | apply below_drew1 | refine below_set ?_ GE517.out | refine below_set ?_ GE519.out) | exact HB.out)⟩
          · replace c9 := Bool.eq_false_iff.mpr c9
            subst c9
            have H1 : (some (Int.tmod (wrap64 ((ji3) + 1)) (l0_2.length : Int))) = some r := by rw [if_neg (show ¬ (false = true) by decide)] at H; exact H
            clear H
            have H := H1
            clear H1
            obtain rfl := Option.some.inj H
            go_enter Try.func33, Try.ntmps33
            go_wp2_with (first | ((with_reducible refine gate_dst (N := 1) rfl ?_); refine box_event ?hg (N := 1) ?hd (cs := #[.int .i64 a0_0, .int .i64 a0_1, .slice A0_2 l0_2.length c0_2, .int .i64 a0_3]) (t := 28) ?hr ?_; (case hd => rfl); (case hg => rfl); (case hr => first | (go_simp; done) | (go_simp; rfl)); intro gb517 hg w25 hbox hb; have n0_ := Aside0.mk (below_step (by repeat (first | (with_reducible first | exact HB.out | apply below_alloc | apply pw_below_drewN | apply below_drew1) | exact HB.out)) hb); have n1_ := Aside0.mk (hbox); have n2_ := Aside0.mk ((by rw [hg]; exact (below_size (by repeat (first | (with_reducible first | exact HB.out | apply below_alloc | apply pw_below_drewN | apply below_drew1) | exact HB.out))) : w.heap.size ≤ gb517)); have n3_ := Aside0.mk ((by rw [hg]; exact (below_size (by repeat (first | (with_reducible first | exact HB.out | apply below_alloc | apply pw_below_drewN | apply below_drew1) | exact HB.out))) : w.heap.size ≤ gb517)); clear HB; have HB := n0_; have BK517 := n1_; have GW517 := n2_; have GE517 := n3_; clear n0_ n1_ n2_ n3_; clear hb hbox hg; have hcz26_0 : w25.cell? ⟨gb517, 0, none⟩ = some (.int .i64 a0_0) := (blk_cell BK517.out 0).trans rfl; have hcz26_1 : w25.cell? ⟨gb517, 1, none⟩ = some (.int .i64 a0_1) := (blk_cell BK517.out 1).trans rfl; have hcz26_2 : w25.cell? ⟨gb517, 2, none⟩ = some (.slice A0_2 l0_2.length c0_2) := (blk_cell BK517.out 2).trans rfl; have hcz26_3 : w25.cell? ⟨gb517, 3, none⟩ = some (.int .i64 a0_3) := (blk_cell BK517.out 3).trans rfl; have hfz26_0 := blk_frozen BK517.out 0; have hfz26_1 := blk_frozen BK517.out 1; have hfz26_2 := blk_frozen BK517.out 2; have hfz26_3 := blk_frozen BK517.out 3; have p518 : 0 ≤ ((ji3) : Int) := of_decide_eq_true (by first | (with_reducible assumption) | assumption); have q518 : (ji3) < (l0_2.length : Int) := of_decide_eq_true (by first | (with_reducible assumption) | assumption); obtain ⟨ad518, e518, hx518_0, hx518_1, hx518_2, hx518_3, hx518_4⟩ := at_T38 HR0_2.out (ji3) p518 q518; (try rw [← Nbq6.out] at hx518_1); (try rw [← Nbq6.out] at hx518_2); cases e518; replace hx518_0 := (HB.out.cell (World.block_lt_of_cell? w _ hx518_0)).trans hx518_0; replace hx518_1 := (HB.out.cell (World.block_lt_of_cell? w _ hx518_1)).trans hx518_1; replace hx518_2 := (HB.out.cell (World.block_lt_of_cell? w _ hx518_2)).trans hx518_2; replace hx518_3 := (HB.out.cell (World.block_lt_of_cell? w _ hx518_3)).trans hx518_3; replace hx518_4 := (HB.out.cell (World.block_lt_of_cell? w _ hx518_4)).trans hx518_4; replace p518 := eq_true p518; replace q518 := eq_true q518) | ((with_reducible refine gate_dst (N := 5) rfl ?_); refine box_event ?hg (N := 5) ?hd (cs := #[.int .u8 0, .bool false, .bool false, .int .u8 0, .int .u8 0]) (t := 38) ?hr ?_; (case hd => rfl); (case hg => rfl); (case hr => first | (go_simp; done) | (go_simp; rfl)); intro gb519 hg w27 hbox hb; have n0_ := Aside0.mk (blk_below (g := gb517) (o := .cells #[.int .i64 a0_0, .int .i64 a0_1, .slice (some ad518) l0_2.length c0_2, .int .i64 a0_3] 28 (0, 0)) (by (with_reducible repeat (first | refine blk_drewN ?_ _ | refine blk_drew ?_ | refine blk_alloc ?_ _)); exact BK517.out) hb); have n1_ := Aside0.mk (below_step (by repeat (first | (with_reducible first | exact HB.out | apply below_alloc | apply pw_below_drewN | apply below_drew1 | refine below_set ?_ GE517.out) | exact HB.out)) hb); have n2_ := Aside0.mk (hbox); have n3_ := Aside0.mk ((by rw [hg]; exact (below_size (by repeat (first | (with_reducible first | exact HB.out | apply below_alloc | apply pw_below_drewN | apply below_drew1 | refine below_set ?_ GE517.out) | exact HB.out))) : w.heap.size ≤ gb519)); have n4_ := Aside0.mk ((by rw [hg]; exact (below_size (by repeat (first | (with_reducible first | exact HB.out | apply below_alloc | apply pw_below_drewN | apply below_drew1 | refine below_set ?_ GE517.out) | exact HB.out))) : w.heap.size ≤ gb519)); have n5_ := Aside0.mk ((by rw [hg]; exact Nat.ne_of_lt (blk_lt (g := gb517) (o := .cells #[.int .i64 a0_0, .int .i64 a0_1, .slice (some ad518) l0_2.length c0_2, .int .i64 a0_3] 28 (0, 0)) (by (with_reducible repeat (first | refine blk_drewN ?_ _ | refine blk_drew ?_ | refine blk_alloc ?_ _)); exact BK517.out)) : gb517 ≠ gb519)); have n6_ := Aside0.mk ((by rw [hg]; exact Nat.ne_of_gt (blk_lt (g := gb517) (o := .cells #[.int .i64 a0_0, .int .i64 a0_1, .slice (some ad518) l0_2.length c0_2, .int .i64 a0_3] 28 (0, 0)) (by (with_reducible repeat (first | refine blk_drewN ?_ _ | refine blk_drew ?_ | refine blk_alloc ?_ _)); exact BK517.out)) : gb519 ≠ gb517)); clear BK517; clear HB; have BK517 := n0_; have HB := n1_; have BK519 := n2_; have GW519 := n3_; have GE519 := n4_; have NB517_519 := n5_; have NB519_517 := n6_; clear n0_ n1_ n2_ n3_ n4_ n5_ n6_; clear hb hbox hg; have hnb28 := NB519_517.out; have hnc28 := NB517_519.out; have hcz29_0 : w27.cell? ⟨gb519, 0, none⟩ = some (.int .u8 0) := (blk_cell BK519.out 0).trans rfl; have hcz29_1 : w27.cell? ⟨gb519, 1, none⟩ = some (.bool false) := (blk_cell BK519.out 1).trans rfl; have hcz29_2 : w27.cell? ⟨gb519, 2, none⟩ = some (.bool false) := (blk_cell BK519.out 2).trans rfl; have hcz29_3 : w27.cell? ⟨gb519, 3, none⟩ = some (.int .u8 0) := (blk_cell BK519.out 3).trans rfl; have hcz29_4 : w27.cell? ⟨gb519, 4, none⟩ = some (.int .u8 0) := (blk_cell BK519.out 4).trans rfl; have hfz29_0 := blk_frozen BK519.out 0; have hfz29_1 := blk_frozen BK519.out 1; have hfz29_2 := blk_frozen BK519.out 2; have hfz29_3 := blk_frozen BK519.out 3; have hfz29_4 := blk_frozen BK519.out 4) | ((with_reducible refine gate_callee (f := 53) rfl ?_); refine goesL_ (some 25) rfl rfl Try.func53 (by kernel_rfl) rfl #[.int .u8 ((rd_T38 l0_2 (ji3)).f0), .int .i64 32] rfl (by (try simp only [List.map_toArray, List.map_cons, List.map_nil]); first | done | (simp only [hji3]; rfl) | rfl | (simp only [List.length_drop, List.length_take]; rfl)) ?_; (with_reducible refine (greenscreenref11_Bit.calls ((rd_T38 l0_2 (ji3)).f0) 32 false _ A8.out).mono ?_); rintro e w' ⟨rfl, ⟨nd, rfl⟩⟩; refine ⟨_, rfl, ?_⟩))
            go_ret
            exact ⟨by first | rfl | (simp [errW_none, errW_some] <;> rfl) | (simp only [← hji3]; first | rfl | (simp [errW_none, errW_some] <;> rfl)) | (simp [*, errW_none, errW_some] <;> rfl), by repeat (first | (with_reducible first | exact HB.out | apply below_alloc | apply pw_below_drewN | apply below_drew1 | refine below_set ?_ GE517.out | refine below_set ?_ GE519.out) | exact HB.out)⟩
        · replace c7 := Bool.eq_false_iff.mpr c7
          subst c7
          have H1 : (some ji3) = some r := by rw [if_neg (show ¬ (false = true) by decide)] at H; exact H
          clear H
          have H := H1
          clear H1
          obtain rfl := Option.some.inj H
          go_enter Try.func33, Try.ntmps33
          go_wp2_with (first | ((with_reducible refine gate_dst (N := 1) rfl ?_); refine box_event ?hg (N := 1) ?hd (cs := #[.int .i64 a0_0, .int .i64 a0_1, .slice A0_2 l0_2.length c0_2, .int .i64 a0_3]) (t := 28) ?hr ?_; (case hd => rfl); (case hg => rfl); (case hr => first | (go_simp; done) | (go_simp; rfl)); intro gb517 hg w30 hbox hb; have n0_ := Aside0.mk (below_step (by repeat (first | (with_reducible first | exact HB.out | apply below_alloc | apply pw_below_drewN | apply below_drew1) | exact HB.out)) hb); have n1_ := Aside0.mk (hbox); have n2_ := Aside0.mk ((by rw [hg]; exact (below_size (by repeat (first | (with_reducible first | exact HB.out | apply below_alloc | apply pw_below_drewN | apply below_drew1) | exact HB.out))) : w.heap.size ≤ gb517)); have n3_ := Aside0.mk ((by rw [hg]; exact (below_size (by repeat (first | (with_reducible first | exact HB.out | apply below_alloc | apply pw_below_drewN | apply below_drew1) | exact HB.out))) : w.heap.size ≤ gb517)); clear HB; have HB := n0_; have BK517 := n1_; have GW517 := n2_; have GE517 := n3_; clear n0_ n1_ n2_ n3_; clear hb hbox hg; have hcz31_0 : w30.cell? ⟨gb517, 0, none⟩ = some (.int .i64 a0_0) := (blk_cell BK517.out 0).trans rfl; have hcz31_1 : w30.cell? ⟨gb517, 1, none⟩ = some (.int .i64 a0_1) := (blk_cell BK517.out 1).trans rfl; have hcz31_2 : w30.cell? ⟨gb517, 2, none⟩ = some (.slice A0_2 l0_2.length c0_2) := (blk_cell BK517.out 2).trans rfl; have hcz31_3 : w30.cell? ⟨gb517, 3, none⟩ = some (.int .i64 a0_3) := (blk_cell BK517.out 3).trans rfl; have hfz31_0 := blk_frozen BK517.out 0; have hfz31_1 := blk_frozen BK517.out 1; have hfz31_2 := blk_frozen BK517.out 2; have hfz31_3 := blk_frozen BK517.out 3; have p518 : 0 ≤ ((ji3) : Int) := of_decide_eq_true (by first | (with_reducible assumption) | assumption); have q518 : (ji3) < (l0_2.length : Int) := of_decide_eq_true (by first | (with_reducible assumption) | assumption); obtain ⟨ad518, e518, hx518_0, hx518_1, hx518_2, hx518_3, hx518_4⟩ := at_T38 HR0_2.out (ji3) p518 q518; (try rw [← Nbq6.out] at hx518_1); (try rw [← Nbq6.out] at hx518_2); cases e518; replace hx518_0 := (HB.out.cell (World.block_lt_of_cell? w _ hx518_0)).trans hx518_0; replace hx518_1 := (HB.out.cell (World.block_lt_of_cell? w _ hx518_1)).trans hx518_1; replace hx518_2 := (HB.out.cell (World.block_lt_of_cell? w _ hx518_2)).trans hx518_2; replace hx518_3 := (HB.out.cell (World.block_lt_of_cell? w _ hx518_3)).trans hx518_3; replace hx518_4 := (HB.out.cell (World.block_lt_of_cell? w _ hx518_4)).trans hx518_4; replace p518 := eq_true p518; replace q518 := eq_true q518) | ((with_reducible refine gate_dst (N := 5) rfl ?_); refine box_event ?hg (N := 5) ?hd (cs := #[.int .u8 0, .bool false, .bool false, .int .u8 0, .int .u8 0]) (t := 38) ?hr ?_; (case hd => rfl); (case hg => rfl); (case hr => first | (go_simp; done) | (go_simp; rfl)); intro gb519 hg w32 hbox hb; have n0_ := Aside0.mk (blk_below (g := gb517) (o := .cells #[.int .i64 a0_0, .int .i64 a0_1, .slice (some ad518) l0_2.length c0_2, .int .i64 a0_3] 28 (0, 0)) (by (with_reducible repeat (first | refine blk_drewN ?_ _ | refine blk_drew ?_ | refine blk_alloc ?_ _)); exact BK517.out) hb); have n1_ := Aside0.mk (below_step (by repeat (first | (with_reducible first | exact HB.out | apply below_alloc | apply pw_below_drewN | apply below_drew1 | refine below_set ?_ GE517.out) | exact HB.out)) hb); have n2_ := Aside0.mk (hbox); have n3_ := Aside0.mk ((by rw [hg]; exact (below_size (by repeat (first | (with_reducible first | exact HB.out | apply below_alloc | apply pw_below_drewN | apply below_drew1 | refine below_set ?_ GE517.out) | exact HB.out))) : w.heap.size ≤ gb519)); have n4_ := Aside0.mk ((by rw [hg]; exact (below_size (by repeat (first | (with_reducible first | exact HB.out | apply below_alloc | apply pw_below_drewN | apply below_drew1 | refine below_set ?_ GE517.out) | exact HB.out))) : w.heap.size ≤ gb519)); have n5_ := Aside0.mk ((by rw [hg]; exact Nat.ne_of_lt (blk_lt (g := gb517) (o := .cells #[.int .i64 a0_0, .int .i64 a0_1, .slice (some ad518) l0_2.length c0_2, .int .i64 a0_3] 28 (0, 0)) (by (with_reducible repeat (first | refine blk_drewN ?_ _ | refine blk_drew ?_ | refine blk_alloc ?_ _)); exact BK517.out)) : gb517 ≠ gb519)); have n6_ := Aside0.mk ((by rw [hg]; exact Nat.ne_of_gt (blk_lt (g := gb517) (o := .cells #[.int .i64 a0_0, .int .i64 a0_1, .slice (some ad518) l0_2.length c0_2, .int .i64 a0_3] 28 (0, 0)) (by (with_reducible repeat (first | refine blk_drewN ?_ _ | refine blk_drew ?_ | refine blk_alloc ?_ _)); exact BK517.out)) : gb519 ≠ gb517)); clear BK517; clear HB; have BK517 := n0_; have HB := n1_; have BK519 := n2_; have GW519 := n3_; have GE519 := n4_; have NB517_519 := n5_; have NB519_517 := n6_; clear n0_ n1_ n2_ n3_ n4_ n5_ n6_; clear hb hbox hg; have hnb33 := NB519_517.out; have hnc33 := NB517_519.out; have hcz34_0 : w32.cell? ⟨gb519, 0, none⟩ = some (.int .u8 0) := (blk_cell BK519.out 0).trans rfl; have hcz34_1 : w32.cell? ⟨gb519, 1, none⟩ = some (.bool false) := (blk_cell BK519.out 1).trans rfl; have hcz34_2 : w32.cell? ⟨gb519, 2, none⟩ = some (.bool false) := (blk_cell BK519.out 2).trans rfl; have hcz34_3 : w32.cell? ⟨gb519, 3, none⟩ = some (.int .u8 0) := (blk_cell BK519.out 3).trans rfl; have hcz34_4 : w32.cell? ⟨gb519, 4, none⟩ = some (.int .u8 0) := (blk_cell BK519.out 4).trans rfl; have hfz34_0 := blk_frozen BK519.out 0; have hfz34_1 := blk_frozen BK519.out 1; have hfz34_2 := blk_frozen BK519.out 2; have hfz34_3 := blk_frozen BK519.out 3; have hfz34_4 := blk_frozen BK519.out 4))
          go_ret
          exact ⟨by first | rfl | (simp [errW_none, errW_some] <;> rfl) | (simp only [← hji3]; first | rfl | (simp [errW_none, errW_some] <;> rfl)) | (simp [*, errW_none, errW_some] <;> rfl), by repeat (first | (with_reducible first | exact HB.out | apply below_alloc | apply pw_below_drewN | apply below_drew1 | refine below_set ?_ GE517.out | refine below_set ?_ GE519.out) | exact HB.out)⟩
      · rw [if_neg c5] at H
        exact absurd H (by simp)
    · rw [if_neg c4] at H
      exact absurd H (by simp)

-- NOT PRINTED: function 68 (api_Cell_68)

-- NOT PRINTED: function 34 (plane_Plane_Clone)

/-! ### api_Cell_69: function 69 -/
def api_Cell_69.l0 : Nat → List (S38) → List (S38) → Int → Int → Option (Bool)
  | 0, _, _, _, _ => none
  | k + 1, x0, x1, x12, x13 => if x13 < x12 then (if 0 ≤ x13 then (if x13 < (x0.length : Int) then (if x13 < (x1.length : Int) then (if (!(((rd_T38 x0 x13).f0) == ((rd_T38 x1 x13).f0)) || (!(((rd_T38 x0 x13).f1) == ((rd_T38 x1 x13).f1)) || (!(((rd_T38 x0 x13).f2) == ((rd_T38 x1 x13).f2)) || (!(((rd_T38 x0 x13).f3) == ((rd_T38 x1 x13).f3)) || (!(((rd_T38 x0 x13).f4) == ((rd_T38 x1 x13).f4))))))) = true then (some false) else (api_Cell_69.l0 k x0 x1 x12 (wrap64 (x13 + 1)))) else (none)) else (none)) else (none)) else (some true)
def api_Cell_69.f (k : Nat) (l0 : List (S38)) (l1 : List (S38)) : Option (Bool) := if (l0.length : Int) = (l1.length : Int) then (api_Cell_69.l0 k l0 l1 (l0.length : Int) 0) else (some false)
theorem api_Cell_69.mono_l : ∀ k, (∀ y0 y1 y2 y3, LeO (api_Cell_69.l0 k y0 y1 y2 y3) (api_Cell_69.l0 (k + 1) y0 y1 y2 y3))
  | 0 => fun _ _ _ _ r h => by simp [api_Cell_69.l0] at h
  | k + 1 => by
    have ih0 := api_Cell_69.mono_l k
    · intro y0 y1 y2 y3
      unfold api_Cell_69.l0
      repeat' first
      | (with_reducible exact ih0 _ _ _ _)
      | (with_reducible exact LeO.refl _)
      | (with_reducible exact LeO.none _)
      | (with_reducible refine LeO.ite ?_ ?_)
      | (with_reducible refine LeO.bind ?_ (fun _ => ?_))
      | exact ih0 _ _ _ _
      | exact LeO.none _
      | refine LeO.ite ?_ ?_
      | refine LeO.bind ?_ (fun _ => ?_)
theorem api_Cell_69.mono : ∀ a0 a1 k, LeO (api_Cell_69.f k a0 a1) (api_Cell_69.f (k + 1) a0 a1) := by
  intro a0 a1 k
  have ih0 := api_Cell_69.mono_l k
  unfold api_Cell_69.f
  repeat' first
      | (with_reducible exact ih0 _ _ _ _)
      | (with_reducible exact LeO.refl _)
      | (with_reducible exact LeO.none _)
      | (with_reducible refine LeO.ite ?_ ?_)
      | (with_reducible refine LeO.bind ?_ (fun _ => ?_))
      | exact ih0 _ _ _ _
      | exact LeO.none _
      | refine LeO.ite ?_ ?_
      | refine LeO.bind ?_ (fun _ => ?_)
set_option maxHeartbeats 8000000 in
set_option maxRecDepth 100000 in
theorem api_Cell_69.calls (k : Nat) (A0 : Option Addr) (c0 : Nat) (l0 : List (S38)) (A1 : Option Addr) (c1 : Nat) (l1 : List (S38)) (r : Bool) (w : World) (hr0 : Kd.C k38 w A0 l0.length l0) (hc0 : l0.length ≤ c0) (hr1 : Kd.C k38 w A1 l1.length l1) (hc1 : l1.length ≤ c1) (h : api_Cell_69.f k l0 l1 = some r) :
    Calls Try.prog 69 #[.slice A0 l0.length c0, .slice A1 l1.length c1] w fun e w' => e = .returned (.bool r) ∧ Drawn0 w w' := by
  have hu38 := Try.underlying38
  have HR0 := Aside0.mk hr0
  have HC0 := Aside0.mk hc0
  clear hr0 hc0
  have HR1 := Aside0.mk hr1
  have HC1 := Aside0.mk hc1
  clear hr1 hc1
  have H : (if (l0.length : Int) = (l1.length : Int) then (api_Cell_69.l0 k l0 l1 (l0.length : Int) 0) else (some false)) = some r := h
  clear h
  by_cases c3 : (l0.length : Int) = (l1.length : Int)
  · rw [if_pos c3] at H
    have c3b0 : ((l0.length : Int) == (l1.length : Int)) = true := beq_iff_eq.mpr c3
    have c3b1 : ((l0.length : Int) != (l1.length : Int)) = false := bne_eq_false_iff_eq.mpr c3
    have c3b2 : (l0.length == l1.length) = true := by first | simpa using c3 | (simp at c3 ⊢; omega)
    clear c3
    have H' := Aside0.mk H
    clear H
    go_enter Try.func69, Try.ntmps69
    go_wp2
    repeat (go_quiet (fail); try go_wp2)
    go_loopg [13] k (fun kq v13 w' => ∃ (x13_1 : Int), v13 = .int .i64 x13_1 ∧ Aside0 (api_Cell_69.l0 kq l0 l1 (l0.length : Int) x13_1 = some r) ∧ Aside0 (kq ≤ k) ∧ Drawn0 w w')
    case atStart => exact ⟨(0), (by first | rfl | (simp; done) | (simp [*]; done)), H', ⟨Nat.le_refl _⟩, by repeat (first | exact Drawn0.refl _ | apply Drawn0.step)⟩
    case round =>
      clear H'
      try clear c1
      try clear p2
      try clear c3
      try clear c3b0
      try clear c3b1
      try clear c3b2
      obtain ⟨x13_1, rfl, HA, HK1, ⟨m1, rfl⟩⟩ := hrel
      cases gk with
      | zero => exact absurd HA.out (by simp [api_Cell_69.l0])
      | succ k1 =>
        have H := HA.out
        clear HA
        simp only [api_Cell_69.l0] at H
        by_cases c4 : x13_1 < (l0.length : Int)
        · rw [if_pos c4] at H
          have c4b0 : decide (x13_1 < (l0.length : Int)) = true := decide_eq_true c4
          clear c4
          by_cases c5 : 0 ≤ x13_1
          · rw [if_pos c5] at H
            have c5b0 : decide (0 ≤ x13_1) = true := decide_eq_true c5
            clear c5
            by_cases c6 : x13_1 < (l0.length : Int)
            · rw [if_pos c6] at H
              have c6b0 : decide (x13_1 < (l0.length : Int)) = true := decide_eq_true c6
              clear c6
              by_cases c7 : x13_1 < (l1.length : Int)
              · rw [if_pos c7] at H
                have c7b0 : decide (x13_1 < (l1.length : Int)) = true := decide_eq_true c7
                clear c7
                by_cases c8 : (!(((rd_T38 l0 x13_1).f0) == ((rd_T38 l1 x13_1).f0)) || (!(((rd_T38 l0 x13_1).f1) == ((rd_T38 l1 x13_1).f1)) || (!(((rd_T38 l0 x13_1).f2) == ((rd_T38 l1 x13_1).f2)) || (!(((rd_T38 l0 x13_1).f3) == ((rd_T38 l1 x13_1).f3)) || (!(((rd_T38 l0 x13_1).f4) == ((rd_T38 l1 x13_1).f4))))))) = true
                · rw [if_pos c8] at H
                  have c8b0 : (!(((rd_T38 l0 x13_1).f0) == ((rd_T38 l1 x13_1).f0)) || (!(((rd_T38 l0 x13_1).f1) == ((rd_T38 l1 x13_1).f1)) || (!(((rd_T38 l0 x13_1).f2) == ((rd_T38 l1 x13_1).f2)) || (!(((rd_T38 l0 x13_1).f3) == ((rd_T38 l1 x13_1).f3)) || (!(((rd_T38 l0 x13_1).f4) == ((rd_T38 l1 x13_1).f4))))))) = true := c8
                  clear c8
                  obtain rfl := Option.some.inj H
                  have p523 : 0 ≤ (x13_1 : Int) := of_decide_eq_true (by first | (with_reducible assumption) | assumption)
                  have q523 : x13_1 < (l0.length : Int) := of_decide_eq_true (by first | (with_reducible assumption) | assumption)
                  obtain ⟨ad523, e523, hx523_0, hx523_1, hx523_2, hx523_3, hx523_4⟩ := at_T38 HR0.out x13_1 p523 q523
                  cases e523
                  replace p523 := eq_true p523
                  replace q523 := eq_true q523
                  have p524 : 0 ≤ (x13_1 : Int) := of_decide_eq_true (by first | (with_reducible assumption) | assumption)
                  have q524 : x13_1 < (l1.length : Int) := of_decide_eq_true (by first | (with_reducible assumption) | assumption)
                  obtain ⟨ad524, e524, hx524_0, hx524_1, hx524_2, hx524_3, hx524_4⟩ := at_T38 HR1.out x13_1 p524 q524
                  cases e524
                  replace p524 := eq_true p524
                  replace q524 := eq_true q524
                  go_wp2
                  repeat (go_quiet (fail); try go_wp2)
                  go_ret
                  exact ⟨by first | rfl | (simp; done) | (simp [*]; done), by repeat (first | exact Drawn0.refl _ | apply Drawn0.step)⟩
                · rw [if_neg c8] at H
                  have c8b0 : (!(((rd_T38 l0 x13_1).f0) == ((rd_T38 l1 x13_1).f0)) || (!(((rd_T38 l0 x13_1).f1) == ((rd_T38 l1 x13_1).f1)) || (!(((rd_T38 l0 x13_1).f2) == ((rd_T38 l1 x13_1).f2)) || (!(((rd_T38 l0 x13_1).f3) == ((rd_T38 l1 x13_1).f3)) || (!(((rd_T38 l0 x13_1).f4) == ((rd_T38 l1 x13_1).f4))))))) = false := by simpa using c8
                  clear c8
                  have H' := Aside0.mk H
                  clear H
                  have p523 : 0 ≤ (x13_1 : Int) := of_decide_eq_true (by first | (with_reducible assumption) | assumption)
                  have q523 : x13_1 < (l0.length : Int) := of_decide_eq_true (by first | (with_reducible assumption) | assumption)
                  obtain ⟨ad523, e523, hx523_0, hx523_1, hx523_2, hx523_3, hx523_4⟩ := at_T38 HR0.out x13_1 p523 q523
                  cases e523
                  replace p523 := eq_true p523
                  replace q523 := eq_true q523
                  have p524 : 0 ≤ (x13_1 : Int) := of_decide_eq_true (by first | (with_reducible assumption) | assumption)
                  have q524 : x13_1 < (l1.length : Int) := of_decide_eq_true (by first | (with_reducible assumption) | assumption)
                  obtain ⟨ad524, e524, hx524_0, hx524_1, hx524_2, hx524_3, hx524_4⟩ := at_T38 HR1.out x13_1 p524 q524
                  cases e524
                  replace p524 := eq_true p524
                  replace q524 := eq_true q524
                  go_wp2
                  repeat (go_quiet (fail); try go_wp2)
                  go_roundg k1
                  case measure => have := HK1.out; omega
                  case rel => exact ⟨(wrap64 (x13_1 + 1)), (by first | rfl | (simp; done) | (simp [*]; done)), H', ⟨by have := HK1.out; omega⟩, by repeat (first | exact Drawn0.refl _ | apply Drawn0.step)⟩
              · rw [if_neg c7] at H
                exact absurd H (by simp)
            · rw [if_neg c6] at H
              exact absurd H (by simp)
          · rw [if_neg c5] at H
            exact absurd H (by simp)
        · rw [if_neg c4] at H
          have c4b0 : decide (x13_1 < (l0.length : Int)) = false := decide_eq_false c4
          clear c4
          obtain rfl := Option.some.inj H
          go_wp2
          repeat (go_quiet (fail); try go_wp2)
          go_ret
          exact ⟨by first | rfl | (simp; done) | (simp [*]; done), by repeat (first | exact Drawn0.refl _ | apply Drawn0.step)⟩
  · rw [if_neg c3] at H
    have c3b0 : ((l0.length : Int) == (l1.length : Int)) = false := beq_eq_false_iff_ne.mpr c3
    have c3b1 : ((l0.length : Int) != (l1.length : Int)) = true := bne_iff_ne.mpr c3
    have c3b2 : (l0.length == l1.length) = false := by first | simpa using c3 | (simp at c3 ⊢; omega)
    obtain rfl := Option.some.inj H
    go_enter Try.func69, Try.ntmps69
    go_wp2
    repeat (go_quiet (fail); try go_wp2)
    go_ret
    exact ⟨by first | rfl | (simp; done) | (simp [*]; done), by repeat (first | exact Drawn0.refl _ | apply Drawn0.step)⟩

-- NOT PRINTED: function 35 (plane_Same)

-- NOT PRINTED: function 6 (greenscreenlaw19_CaretMoves)

end Go.Proofs.Ytmcfckdgolojlaa.PCaretMoves
