/- The law's plain: an event that may be. -/
import Derived.Test.YthkioahpnbahhaaD5x
namespace Go.Proofs.Ythkioahpnbahhaa
set_option linter.unusedVariables false
set_option linter.unusedSimpArgs false
open Go.RowKit Go.Proofs.YthkioahpnbahhaaW.PrintWords
set_option maxRecDepth 100000 in
set_option maxHeartbeats 4000000 in
theorem plain_any (m : Em) (w : World) : Calls Try.prog 32 #[.agg m.enc.toArray] w (fun e w' => e = .returned (.tuple #[.agg (plainE m).1.enc.toArray, .bool (plainE m).2]) ∧ Ext w w') := by
  obtain ⟨⟨kd, co, op, bs⟩, A, c⟩ := m
  show Calls Try.prog _ #[.agg #[.int .i64 kd, .int .u8 co, .int .u8 op, .slice A bs.length c]] w _
  by_cases c1 : kd = 1
  · have hp : plainE ⟨⟨kd, co, op, bs⟩, A, c⟩ = (⟨⟨1, 0, 0, bs⟩, A, c⟩, true) := by unfold plainE; rw [if_pos c1]
    rw [hp]
    subst c1
    clear hp
    go_enter Try.func32, Try.ntmps32
    go_wp2_with fail
    refine bodyPost_ret (v := .tuple #[.agg #[.int .i64 1, .int .u8 0, .int .u8 0, .slice A bs.length c], .bool true]) (by simp [results, Try.results32, go_sem]) rfl ?_
    exact ⟨rfl, Ext_alloc (Ext_alloc (Ext_refl w))⟩
  have b1 : (kd == 1) = false := by simpa using c1
  by_cases c2 : kd = 2
  · have hp : plainE ⟨⟨kd, co, op, bs⟩, A, c⟩ = (⟨⟨2, 0, 0, []⟩, none, 0⟩, true) := by unfold plainE; rw [if_neg c1, if_pos c2]
    rw [hp]
    subst c2
    clear hp c1
    go_enter Try.func32, Try.ntmps32
    go_wp2_with fail
    refine bodyPost_ret (v := .tuple #[.agg #[.int .i64 2, .int .u8 0, .int .u8 0, .slice none 0 0], .bool true]) (by simp [results, Try.results32, go_sem]) rfl ?_
    exact ⟨rfl, Ext_alloc (Ext_alloc (Ext_refl w))⟩
  have b2 : (kd == 2) = false := by simpa using c2
  by_cases c3 : kd = 3
  · have hp : plainE ⟨⟨kd, co, op, bs⟩, A, c⟩ = (⟨⟨3, co, 0, []⟩, none, 0⟩, decide (co < 250) && decide (co ≠ 239)) := by unfold plainE; rw [if_neg c1, if_neg c2, if_pos c3]
    rw [hp]
    subst c3
    clear hp c1 c2
    go_enter Try.func32, Try.ntmps32
    by_cases d1 : co < 250
    · have e1 : decide (co < 250) = true := decide_eq_true d1
      by_cases d2 : co = 239
      · subst d2
        rw [show (decide ((239 : Int) < 250) && decide ((239 : Int) ≠ 239)) = false from by decide]
        go_upto_region 7 with (fail)
        go_region
        all_goals
          go_wp2_with fail
          refine bodyPost_ret (v := .tuple #[.agg #[.int .i64 3, .int .u8 239, .int .u8 0, .slice none 0 0], .bool false]) (by simp [results, Try.results32, go_sem]) rfl ?_
          exact ⟨rfl, Ext_drew (Ext_alloc (Ext_alloc (Ext_refl w)))⟩
      · have e2 : (co != 239) = true := by simpa using d2
        rw [show (decide (co < 250) && decide (co ≠ 239)) = true from by simp [d1, d2]]
        go_upto_region 7 with (fail)
        go_region
        all_goals
          go_wp2_with fail
          refine bodyPost_ret (v := .tuple #[.agg #[.int .i64 3, .int .u8 co, .int .u8 0, .slice none 0 0], .bool true]) (by simp [results, Try.results32, go_sem]) rfl ?_
          exact ⟨rfl, Ext_drew (Ext_alloc (Ext_alloc (Ext_refl w)))⟩
    · have e1 : decide (co < 250) = false := decide_eq_false d1
      rw [show (decide (co < 250) && decide (co ≠ 239)) = false from by simp [d1]]
      go_upto_region 7 with (fail)
      go_region
      all_goals
        go_wp2_with fail
        refine bodyPost_ret (v := .tuple #[.agg #[.int .i64 3, .int .u8 co, .int .u8 0, .slice none 0 0], .bool false]) (by simp [results, Try.results32, go_sem]) rfl ?_
        exact ⟨rfl, Ext_drew (Ext_alloc (Ext_alloc (Ext_refl w)))⟩
  have b3 : (kd == 3) = false := by simpa using c3
  by_cases c4 : kd = 4
  · have hp : plainE ⟨⟨kd, co, op, bs⟩, A, c⟩ = (⟨⟨4, co, op, []⟩, none, 0⟩, decide (251 ≤ co) && decide (co ≤ 254)) := by unfold plainE; rw [if_neg c1, if_neg c2, if_neg c3, if_pos c4]
    rw [hp]
    subst c4
    clear hp c1 c2 c3
    go_enter Try.func32, Try.ntmps32
    by_cases d1 : 251 ≤ co
    · have e1 : decide (251 ≤ co) = true := decide_eq_true d1
      by_cases d2 : co ≤ 254
      · have e2 : decide (co ≤ 254) = true := decide_eq_true d2
        rw [show (decide (251 ≤ co) && decide (co ≤ 254)) = true from by simp [d1, d2]]
        go_upto_region 9 with (fail)
        go_region
        all_goals
          go_wp2_with fail
          refine bodyPost_ret (v := .tuple #[.agg #[.int .i64 4, .int .u8 co, .int .u8 op, .slice none 0 0], .bool true]) (by simp [results, Try.results32, go_sem]) rfl ?_
          exact ⟨rfl, Ext_drew (Ext_alloc (Ext_alloc (Ext_refl w)))⟩
      · have e2 : decide (co ≤ 254) = false := decide_eq_false d2
        rw [show (decide (251 ≤ co) && decide (co ≤ 254)) = false from by simp [d2]]
        go_upto_region 9 with (fail)
        go_region
        all_goals
          go_wp2_with fail
          refine bodyPost_ret (v := .tuple #[.agg #[.int .i64 4, .int .u8 co, .int .u8 op, .slice none 0 0], .bool false]) (by simp [results, Try.results32, go_sem]) rfl ?_
          exact ⟨rfl, Ext_drew (Ext_alloc (Ext_alloc (Ext_refl w)))⟩
    · have e1 : decide (251 ≤ co) = false := decide_eq_false d1
      rw [show (decide (251 ≤ co) && decide (co ≤ 254)) = false from by simp [d1]]
      go_upto_region 9 with (fail)
      go_region
      all_goals
        go_wp2_with fail
        refine bodyPost_ret (v := .tuple #[.agg #[.int .i64 4, .int .u8 co, .int .u8 op, .slice none 0 0], .bool false]) (by simp [results, Try.results32, go_sem]) rfl ?_
        exact ⟨rfl, Ext_drew (Ext_alloc (Ext_alloc (Ext_refl w)))⟩
  have b4 : (kd == 4) = false := by simpa using c4
  by_cases c5 : kd = 5
  · have hp : plainE ⟨⟨kd, co, op, bs⟩, A, c⟩ = (⟨⟨5, 0, op, bs⟩, A, c⟩, true) := by unfold plainE; rw [if_neg c1, if_neg c2, if_neg c3, if_neg c4, if_pos c5]
    rw [hp]
    subst c5
    clear hp c1 c2 c3 c4
    go_enter Try.func32, Try.ntmps32
    go_wp2_with fail
    refine bodyPost_ret (v := .tuple #[.agg #[.int .i64 5, .int .u8 0, .int .u8 op, .slice A bs.length c], .bool true]) (by simp [results, Try.results32, go_sem]) rfl ?_
    exact ⟨rfl, Ext_alloc (Ext_alloc (Ext_refl w))⟩
  have b5 : (kd == 5) = false := by simpa using c5
  have hp : plainE ⟨⟨kd, co, op, bs⟩, A, c⟩ = (⟨⟨0, 0, 0, []⟩, none, 0⟩, false) := by unfold plainE; rw [if_neg c1, if_neg c2, if_neg c3, if_neg c4, if_neg c5]
  rw [hp]
  clear hp c1 c2 c3 c4 c5
  go_enter Try.func32, Try.ntmps32
  go_wp2_with fail
  refine bodyPost_ret (v := .tuple #[.agg #[.int .i64 0, .int .u8 0, .int .u8 0, .slice none 0 0], .bool false]) (by simp [results, Try.results32, go_sem]) rfl ?_
  exact ⟨rfl, Ext_alloc (Ext_alloc (Ext_refl w))⟩
end Go.Proofs.Ythkioahpnbahhaa
