/- Chapter 16, plain: orders cut into two rows. -/
import Derived.Test.YtmcfckdgolojlaaGB
namespace Go.Proofs.Ytmcfckdgolojlaa
set_option linter.unusedVariables false
set_option linter.unusedSimpArgs false
theorem run_ok (b : Br) (o : Ord) (h : (b.do o).2 = 0) (m : List Ord) : b.run (o :: m) = (((b.do o).1.run m).1, ((b.do o).1.run m).2.1 + 1, ((b.do o).1.run m).2.2) := by rw [Br.run, if_pos h]
theorem run_bad (b : Br) (o : Ord) (h : (b.do o).2 ≠ 0) (m : List Ord) : b.run (o :: m) = ((b.do o).1, 0, (b.do o).2) := by rw [Br.run, if_neg h]
theorem run_append (l1 l2 : List Ord) : ∀ b : Br, b.run (l1 ++ l2) = if (b.run l1).2.2 = 0 then (((b.run l1).1.run l2).1, (b.run l1).2.1 + ((b.run l1).1.run l2).2.1, ((b.run l1).1.run l2).2.2) else b.run l1 := by
  induction l1 with
  | nil => intro b; simp [Br.run]
  | cons o l1 ih =>
    intro b
    by_cases h : (b.do o).2 = 0
    · rw [List.cons_append, run_ok b o h, run_ok b o h, ih]
      simp only
      split
      · refine Prod.ext rfl (Prod.ext ?_ rfl)
        show _ + _ + 1 = _ + 1 + _
        omega
      · rfl
    · rw [List.cons_append, run_bad b o h, run_bad b o h]
      exact (if_neg h).symm
theorem run_len (l : List Ord) : ∀ b : Br, (b.run l).2.1 ≤ l.length := by
  induction l with
  | nil => intro b; simp [Br.run]
  | cons o l ih =>
    intro b
    unfold Br.run
    split
    · have := ih (b.do o).1
      simp only [List.length_cons]
      omega
    · simp
theorem act_elim (b : Br) (o : Ord) {P : Option (Br × Int) → Prop}
    (h0 : o.k = 0 → P (some (b.data o.da, 0)))
    (h8 : o.k = 8 → P (some (b.lay (b.char o.b true), 0)))
    (h17 : o.k = 17 → (0 ≤ o.a ∧ o.a < b.p.n) → P (some ({ b with at_ := o.a }, 0)))
    (h17n : o.k = 17 → ¬ (0 ≤ o.a ∧ o.a < b.p.n) → P (some (b, 32)))
    (h29 : o.k = 29 → P (some (b.lay o.attr, 0)))
    (h41 : o.k = 41 → P (some (b.lay o.attr, 0)))
    (h40 : o.k = 40 → P (some ({ b with look := b.look.dress o.ps }, 0)))
    (h44 : o.k = 44 → (b.p.at b.at_).st = true → P (some (b.lay ((b.p.at b.at_).dress o.ps), 0)))
    (h44n : o.k = 44 → ¬ (b.p.at b.at_).st = true → P (some (b, 31)))
    (h19 : o.k = 19 → P (some ({ b with p := b.p.point b.at_ }, 0)))
    (h5 : o.k = 5 → P (some (b.tab, 0)))
    (h60 : o.k = 60 → (0 ≤ o.a ∧ o.a < b.p.n) → P (some (b.fill o, 0)))
    (h60n : o.k = 60 → ¬ (0 ≤ o.a ∧ o.a < b.p.n) → P (some (b, 32)))
    (h18 : o.k = 18 → (0 ≤ o.a ∧ o.a < b.p.n) → P (some (b.wipe o, 0)))
    (h18n : o.k = 18 → ¬ (0 ≤ o.a ∧ o.a < b.p.n) → P (some (b, 32)))
    (hn : o.k ≠ 0 → o.k ≠ 8 → o.k ≠ 17 → o.k ≠ 29 → o.k ≠ 41 → o.k ≠ 40 → o.k ≠ 44 → o.k ≠ 19 → o.k ≠ 5 → o.k ≠ 60 → o.k ≠ 18 → P none) : P (b.act o) := by
  unfold Br.act
  by_cases k0 : o.k = 0
  · rw [if_pos k0]; exact h0 k0
  by_cases k8 : o.k = 8
  · rw [if_neg k0, if_pos k8]; exact h8 k8
  by_cases k17 : o.k = 17
  · rw [if_neg k0, if_neg k8, if_pos k17]
    by_cases hc : 0 ≤ o.a ∧ o.a < b.p.n
    · rw [if_pos hc]; exact h17 k17 hc
    · rw [if_neg hc]; exact h17n k17 hc
  by_cases k29 : o.k = 29
  · rw [if_neg k0, if_neg k8, if_neg k17, if_pos k29]; exact h29 k29
  by_cases k41 : o.k = 41
  · rw [if_neg k0, if_neg k8, if_neg k17, if_neg k29, if_pos k41]; exact h41 k41
  by_cases k40 : o.k = 40
  · rw [if_neg k0, if_neg k8, if_neg k17, if_neg k29, if_neg k41, if_pos k40]; exact h40 k40
  by_cases k44 : o.k = 44
  · rw [if_neg k0, if_neg k8, if_neg k17, if_neg k29, if_neg k41, if_neg k40, if_pos k44]
    by_cases hc : (b.p.at b.at_).st = true
    · rw [if_pos hc]; exact h44 k44 hc
    · rw [if_neg hc]; exact h44n k44 hc
  by_cases k19 : o.k = 19
  · rw [if_neg k0, if_neg k8, if_neg k17, if_neg k29, if_neg k41, if_neg k40, if_neg k44, if_pos k19]; exact h19 k19
  by_cases k5 : o.k = 5
  · rw [if_neg k0, if_neg k8, if_neg k17, if_neg k29, if_neg k41, if_neg k40, if_neg k44, if_neg k19, if_pos k5]; exact h5 k5
  by_cases k60 : o.k = 60
  · rw [if_neg k0, if_neg k8, if_neg k17, if_neg k29, if_neg k41, if_neg k40, if_neg k44, if_neg k19, if_neg k5, if_pos k60]
    by_cases hc : 0 ≤ o.a ∧ o.a < b.p.n
    · rw [if_pos hc]; exact h60 k60 hc
    · rw [if_neg hc]; exact h60n k60 hc
  by_cases k18 : o.k = 18
  · rw [if_neg k0, if_neg k8, if_neg k17, if_neg k29, if_neg k41, if_neg k40, if_neg k44, if_neg k19, if_neg k5, if_neg k60, if_pos k18]
    by_cases hc : 0 ≤ o.a ∧ o.a < b.p.n
    · rw [if_pos hc]; exact h18 k18 hc
    · rw [if_neg hc]; exact h18n k18 hc
  rw [if_neg k0, if_neg k8, if_neg k17, if_neg k29, if_neg k41, if_neg k40, if_neg k44, if_neg k19, if_neg k5, if_neg k60, if_neg k18]
  exact hn k0 k8 k17 k29 k41 k40 k44 k19 k5 k60 k18
theorem do_err (b : Br) (o : Ord) (h : (b.do o).2 ≠ 0) : (b.do o).1.p = b.p ∧ (b.do o).1.at_ = b.at_ := by
  revert h
  unfold Br.do
  refine act_elim b o (P := fun r => (match r with | none => (b, 31) | some (b', e) => (({ b' with laid := o.laid } : Br), e)).2 ≠ 0 → (match r with | none => (b, 31) | some (b', e) => (({ b' with laid := o.laid } : Br), e)).1.p = b.p ∧ (match r with | none => (b, 31) | some (b', e) => (({ b' with laid := o.laid } : Br), e)).1.at_ = b.at_) ?h0 ?h8 ?h17 ?h17n ?h29 ?h41 ?h40 ?h44 ?h44n ?h19 ?h5 ?h60 ?h60n ?h18 ?h18n ?hn
  all_goals (intros; first | exact ⟨rfl, rfl⟩ | (rename_i h; exact absurd rfl h))
theorem run_take (l : List Ord) : ∀ b : Br, (b.run (l.take (b.run l).2.1)).2.1 = (b.run l).2.1 ∧ (b.run (l.take (b.run l).2.1)).2.2 = 0 ∧ (b.run (l.take (b.run l).2.1)).1.p = (b.run l).1.p ∧ (b.run (l.take (b.run l).2.1)).1.at_ = (b.run l).1.at_ := by
  induction l with
  | nil => intro b; simp [Br.run]
  | cons o l ih =>
    intro b
    by_cases h : (b.do o).2 = 0
    · have hr : b.run (o :: l) = (((b.do o).1.run l).1, ((b.do o).1.run l).2.1 + 1, ((b.do o).1.run l).2.2) := by rw [Br.run, if_pos h]
      rw [hr]
      simp only
      rw [List.take_succ_cons]
      have hr2 : ∀ m, b.run (o :: m) = (((b.do o).1.run m).1, ((b.do o).1.run m).2.1 + 1, ((b.do o).1.run m).2.2) := fun m => by rw [Br.run, if_pos h]
      rw [hr2]
      obtain ⟨i1, i2, i3, i4⟩ := ih (b.do o).1
      exact ⟨by simp only; omega, i2, i3, i4⟩
    · have hr : b.run (o :: l) = ((b.do o).1, 0, (b.do o).2) := by rw [Br.run, if_neg h]
      rw [hr]
      simp only [List.take_zero, Br.run]
      obtain ⟨e1, e2⟩ := do_err b o h
      exact ⟨trivial, trivial, e1.symm, e2.symm⟩
theorem data_look (l : List Int) : ∀ b : Br, (b.data l).look = b.look := by
  induction l with
  | nil => exact fun b => rfl
  | cons x l ih => exact fun b => ih _
theorem data_laid (l : List Int) (x : Bool) : ∀ b : Br, Br.data { b with laid := x } l = { b.data l with laid := x } := by
  induction l with
  | nil => exact fun b => rfl
  | cons y l ih => exact fun b => ih (b.lay (b.char y false))
theorem rested_look (b : Br) : b.rested.look = b.look := by unfold Br.rested; split <;> rfl
theorem do_look (b : Br) (o : Ord) (h : o.k ≠ 40) : (b.do o).1.look = b.look := by
  unfold Br.do
  refine act_elim b o (P := fun r => (match r with | none => (b, 31) | some (b', e) => (({ b' with laid := o.laid } : Br), e)).1.look = b.look) ?h0 ?h8 ?h17 ?h17n ?h29 ?h41 ?h40 ?h44 ?h44n ?h19 ?h5 ?h60 ?h60n ?h18 ?h18n ?hn
  all_goals intros
  all_goals (first | contradiction | exact data_look _ _ | exact rested_look _ | rfl)
theorem run_look (l : List Ord) : ∀ b : Br, (∀ o ∈ l, o.k ≠ 40) → (b.run l).1.look = b.look := by
  induction l with
  | nil => exact fun b _ => rfl
  | cons o l ih =>
    intro b h
    unfold Br.run
    split
    · exact (ih _ (fun x hx => h x (by simp [hx]))).trans (do_look b o (h o (by simp)))
    · exact do_look b o (h o (by simp))
theorem do_laid (b : Br) (o : Ord) (h : o.k ≠ 5) (x : Bool) : Br.do { b with laid := x } o = b.do o ∨ (b.do o = (b, 31) ∧ Br.do { b with laid := x } o = ({ b with laid := x }, 31)) := by
  have hd := data_laid o.da x b
  have key : (b.act o = none ∧ Br.act { b with laid := x } o = none) ∨ ∃ b' e, b.act o = some (b', e) ∧ Br.act { b with laid := x } o = some ({ b' with laid := x }, e) := by
    refine act_elim b o (P := fun r => (r = none ∧ Br.act { b with laid := x } o = none) ∨ ∃ b' e, r = some (b', e) ∧ Br.act { b with laid := x } o = some ({ b' with laid := x }, e)) ?h0 ?h8 ?h17 ?h17n ?h29 ?h41 ?h40 ?h44 ?h44n ?h19 ?h5 ?h60 ?h60n ?h18 ?h18n ?hn
    case h0 => intro k; exact .inr ⟨_, _, rfl, by unfold Br.act; rw [if_pos k, hd]⟩
    case h5 => intro k; exact absurd k h
    case h8 => intro k; exact .inr ⟨_, _, rfl, by unfold Br.act; rw [if_neg (by omega), if_pos k]; try rfl⟩
    case h17 => intro k hc; exact .inr ⟨_, _, rfl, by unfold Br.act; rw [if_neg (by omega), if_neg (by omega), if_pos k]; exact if_pos hc⟩
    case h17n => intro k hc; exact .inr ⟨_, _, rfl, by unfold Br.act; rw [if_neg (by omega), if_neg (by omega), if_pos k]; exact if_neg hc⟩
    case h29 => intro k; exact .inr ⟨_, _, rfl, by unfold Br.act; rw [if_neg (by omega), if_neg (by omega), if_neg (by omega), if_pos k]; try rfl⟩
    case h41 => intro k; exact .inr ⟨_, _, rfl, by unfold Br.act; rw [if_neg (by omega), if_neg (by omega), if_neg (by omega), if_neg (by omega), if_pos k]; try rfl⟩
    case h40 => intro k; exact .inr ⟨_, _, rfl, by unfold Br.act; rw [if_neg (by omega), if_neg (by omega), if_neg (by omega), if_neg (by omega), if_neg (by omega), if_pos k]; try rfl⟩
    case h44 => intro k hc; exact .inr ⟨_, _, rfl, by unfold Br.act; rw [if_neg (by omega), if_neg (by omega), if_neg (by omega), if_neg (by omega), if_neg (by omega), if_neg (by omega), if_pos k]; exact if_pos hc⟩
    case h44n => intro k hc; exact .inr ⟨_, _, rfl, by unfold Br.act; rw [if_neg (by omega), if_neg (by omega), if_neg (by omega), if_neg (by omega), if_neg (by omega), if_neg (by omega), if_pos k]; exact if_neg hc⟩
    case h19 => intro k; exact .inr ⟨_, _, rfl, by unfold Br.act; rw [if_neg (by omega), if_neg (by omega), if_neg (by omega), if_neg (by omega), if_neg (by omega), if_neg (by omega), if_neg (by omega), if_pos k]; try rfl⟩
    case h60 => intro k hc; exact .inr ⟨_, _, rfl, by unfold Br.act; rw [if_neg (by omega), if_neg (by omega), if_neg (by omega), if_neg (by omega), if_neg (by omega), if_neg (by omega), if_neg (by omega), if_neg (by omega), if_neg (by omega), if_pos k]; exact if_pos hc⟩
    case h60n => intro k hc; exact .inr ⟨_, _, rfl, by unfold Br.act; rw [if_neg (by omega), if_neg (by omega), if_neg (by omega), if_neg (by omega), if_neg (by omega), if_neg (by omega), if_neg (by omega), if_neg (by omega), if_neg (by omega), if_pos k]; exact if_neg hc⟩
    case h18 => intro k hc; exact .inr ⟨_, _, rfl, by unfold Br.act; rw [if_neg (by omega), if_neg (by omega), if_neg (by omega), if_neg (by omega), if_neg (by omega), if_neg (by omega), if_neg (by omega), if_neg (by omega), if_neg (by omega), if_neg (by omega), if_pos k]; exact if_pos hc⟩
    case h18n => intro k hc; exact .inr ⟨_, _, rfl, by unfold Br.act; rw [if_neg (by omega), if_neg (by omega), if_neg (by omega), if_neg (by omega), if_neg (by omega), if_neg (by omega), if_neg (by omega), if_neg (by omega), if_neg (by omega), if_neg (by omega), if_pos k]; exact if_neg hc⟩
    case hn => intro k0 k8 k17 k29 k41 k40 k44 k19 k5 k60 k18; exact .inl ⟨rfl, by unfold Br.act; rw [if_neg k0, if_neg k8, if_neg k17, if_neg k29, if_neg k41, if_neg k40, if_neg k44, if_neg k19, if_neg k5, if_neg k60, if_neg k18]⟩
  rcases key with ⟨e1, e2⟩ | ⟨b', e, e1, e2⟩
  · right
    unfold Br.do
    rw [e1, e2]
    exact ⟨rfl, rfl⟩
  · left
    unfold Br.do
    rw [e1, e2]
theorem run_laid (l : List Ord) (b : Br) (h : ∀ o ∈ l, o.k ≠ 5) (x : Bool) : (Br.run { b with laid := x } l).2 = (b.run l).2 ∧ (Br.run { b with laid := x } l).1.p = (b.run l).1.p ∧ (Br.run { b with laid := x } l).1.at_ = (b.run l).1.at_ := by
  cases l with
  | nil => exact ⟨rfl, rfl, rfl⟩
  | cons o l =>
    rcases do_laid b o (h o (by simp)) x with e | ⟨e1, e2⟩
    · unfold Br.run
      rw [e]
      split <;> exact ⟨rfl, rfl, rfl⟩
    · unfold Br.run
      rw [e1, e2]
      exact ⟨rfl, rfl, rfl⟩
theorem cut_ok (p : Pl) (from_ : Int) (l1 l2 : List Ord) (h40 : ∀ o ∈ l1, o.k ≠ 40) (h5 : ∀ o ∈ l2, o.k ≠ 5) (h : ((Br.at0 p from_).run l1).2.2 = 0) :
    ((Br.at0 ((Br.at0 p from_).run l1).1.p ((Br.at0 p from_).run l1).1.at_).run l2).1.p = ((Br.at0 p from_).run (l1 ++ l2)).1.p ∧
    ((Br.at0 ((Br.at0 p from_).run l1).1.p ((Br.at0 p from_).run l1).1.at_).run l2).1.at_ = ((Br.at0 p from_).run (l1 ++ l2)).1.at_ ∧
    ((Br.at0 p from_).run l1).2.1 + ((Br.at0 ((Br.at0 p from_).run l1).1.p ((Br.at0 p from_).run l1).1.at_).run l2).2.1 = ((Br.at0 p from_).run (l1 ++ l2)).2.1 ∧
    ((Br.at0 ((Br.at0 p from_).run l1).1.p ((Br.at0 p from_).run l1).1.at_).run l2).2.2 = ((Br.at0 p from_).run (l1 ++ l2)).2.2 := by
  rw [run_append, if_pos h]
  have hl := run_look l1 (Br.at0 p from_) h40
  obtain ⟨m, hm⟩ : ∃ m, ((Br.at0 p from_).run l1).1 = m := ⟨_, rfl⟩
  rw [hm] at hl ⊢
  have hb : Br.at0 m.p m.at_ = { m with laid := false } := by
    unfold Br.at0
    rw [show Cel.zero = m.look from hl.symm]
  obtain ⟨r1, r2, r3⟩ := run_laid l2 m h5 false
  rw [hb, r1, r2, r3]
  exact ⟨rfl, rfl, rfl, rfl⟩
theorem cut_bad (p : Pl) (from_ : Int) (l1 l2 : List Ord) (h : ((Br.at0 p from_).run l1).2.2 ≠ 0) : (Br.at0 p from_).run (l1 ++ l2) = (Br.at0 p from_).run l1 := by rw [run_append, if_neg h]
end Go.Proofs.Ytmcfckdgolojlaa
