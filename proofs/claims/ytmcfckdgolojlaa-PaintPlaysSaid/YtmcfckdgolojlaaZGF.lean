import Derived.Test.YtmcfckdgolojlaaZGB
/- Chapter 16, plain: orders cut into two rows. -/
namespace Go.Proofs.Ytmcfckdgolojlaa
set_option linter.unusedVariables false
set_option linter.unusedSimpArgs false
theorem act_elim (b : Br) (o : Ord) {P : Option (Br × Int) → Prop}
    (h0 : o.k = 0 → P (some (b.data o.da, 0)))
    (h8 : o.k = 8 → P (some (b.lay (b.char o.b true), 0)))
    (h17 : o.k = 17 → (0 ≤ o.a ∧ o.a < b.p.n) → P (some ({ b with at_ := o.a }, 0)))
    (h17n : o.k = 17 → ¬ (0 ≤ o.a ∧ o.a < b.p.n) → P (some (b, 32)))
    (h29 : o.k = 29 → P (some (b.lay o.attr, 0)))
    (h41 : o.k = 41 → P (some (b.lay o.attr, 0)))
    (h40 : o.k = 40 → P (some ({ b with look := b.look.dress o.ps }, 0)))
    (h44 : o.k = 44 → (b.p.at b.at_).st = true → P (some (b.lay ((b.p.at b.at_).dress o.ps), 0)))
    (h44n : o.k = 44 → ¬ (b.p.at b.at_).st = true → P (some (b, 31)))
    (h19 : o.k = 19 → P (some ({ b with p := b.p.point b.at_ }, 0)))
    (h5 : o.k = 5 → P (some (b.tab, 0)))
    (h60 : o.k = 60 → (0 ≤ o.a ∧ o.a < b.p.n) → P (some (b.fill o, 0)))
    (h60n : o.k = 60 → ¬ (0 ≤ o.a ∧ o.a < b.p.n) → P (some (b, 32)))
    (h18 : o.k = 18 → (0 ≤ o.a ∧ o.a < b.p.n) → P (some (b.wipe o, 0)))
    (h18n : o.k = 18 → ¬ (0 ≤ o.a ∧ o.a < b.p.n) → P (some (b, 32)))
    (hn : o.k ≠ 0 → o.k ≠ 8 → o.k ≠ 17 → o.k ≠ 29 → o.k ≠ 41 → o.k ≠ 40 → o.k ≠ 44 → o.k ≠ 19 → o.k ≠ 5 → o.k ≠ 60 → o.k ≠ 18 → P none) : P (b.act o) := by
  unfold Br.act
  by_cases k0 : o.k = 0
  · rw [if_pos k0]; exact h0 k0
  by_cases k8 : o.k = 8
  · rw [if_neg k0, if_pos k8]; exact h8 k8
  by_cases k17 : o.k = 17
  · rw [if_neg k0, if_neg k8, if_pos k17]
    by_cases hc : 0 ≤ o.a ∧ o.a < b.p.n
    · rw [if_pos hc]; exact h17 k17 hc
    · rw [if_neg hc]; exact h17n k17 hc
  by_cases k29 : o.k = 29
  · rw [if_neg k0, if_neg k8, if_neg k17, if_pos k29]; exact h29 k29
  by_cases k41 : o.k = 41
  · rw [if_neg k0, if_neg k8, if_neg k17, if_neg k29, if_pos k41]; exact h41 k41
  by_cases k40 : o.k = 40
  · rw [if_neg k0, if_neg k8, if_neg k17, if_neg k29, if_neg k41, if_pos k40]; exact h40 k40
  by_cases k44 : o.k = 44
  · rw [if_neg k0, if_neg k8, if_neg k17, if_neg k29, if_neg k41, if_neg k40, if_pos k44]
    by_cases hc : (b.p.at b.at_).st = true
    · rw [if_pos hc]; exact h44 k44 hc
    · rw [if_neg hc]; exact h44n k44 hc
  by_cases k19 : o.k = 19
  · rw [if_neg k0, if_neg k8, if_neg k17, if_neg k29, if_neg k41, if_neg k40, if_neg k44, if_pos k19]; exact h19 k19
  by_cases k5 : o.k = 5
  · rw [if_neg k0, if_neg k8, if_neg k17, if_neg k29, if_neg k41, if_neg k40, if_neg k44, if_neg k19, if_pos k5]; exact h5 k5
  by_cases k60 : o.k = 60
  · rw [if_neg k0, if_neg k8, if_neg k17, if_neg k29, if_neg k41, if_neg k40, if_neg k44, if_neg k19, if_neg k5, if_pos k60]
    by_cases hc : 0 ≤ o.a ∧ o.a < b.p.n
    · rw [if_pos hc]; exact h60 k60 hc
    · rw [if_neg hc]; exact h60n k60 hc
  by_cases k18 : o.k = 18
  · rw [if_neg k0, if_neg k8, if_neg k17, if_neg k29, if_neg k41, if_neg k40, if_neg k44, if_neg k19, if_neg k5, if_neg k60, if_pos k18]
    by_cases hc : 0 ≤ o.a ∧ o.a < b.p.n
    · rw [if_pos hc]; exact h18 k18 hc
    · rw [if_neg hc]; exact h18n k18 hc
  rw [if_neg k0, if_neg k8, if_neg k17, if_neg k29, if_neg k41, if_neg k40, if_neg k44, if_neg k19, if_neg k5, if_neg k60, if_neg k18]
  exact hn k0 k8 k17 k29 k41 k40 k44 k19 k5 k60 k18
theorem do_err (b : Br) (o : Ord) (h : (b.do o).2 ≠ 0) : (b.do o).1.p = b.p ∧ (b.do o).1.at_ = b.at_ := by
  revert h
  unfold Br.do
  refine act_elim b o (P := fun r => (match r with | none => (b, 31) | some (b', e) => (({ b' with laid := o.laid } : Br), e)).2 ≠ 0 → (match r with | none => (b, 31) | some (b', e) => (({ b' with laid := o.laid } : Br), e)).1.p = b.p ∧ (match r with | none => (b, 31) | some (b', e) => (({ b' with laid := o.laid } : Br), e)).1.at_ = b.at_) ?h0 ?h8 ?h17 ?h17n ?h29 ?h41 ?h40 ?h44 ?h44n ?h19 ?h5 ?h60 ?h60n ?h18 ?h18n ?hn
  all_goals (intros; first | exact ⟨rfl, rfl⟩ | (rename_i h; exact absurd rfl h))
theorem data_look (l : List Int) : ∀ b : Br, (b.data l).look = b.look := by
  induction l with
  | nil => exact fun b => rfl
  | cons x l ih => exact fun b => ih _
end Go.Proofs.Ytmcfckdgolojlaa
