import Derived.Test.YtmcfckdgolojlaaZGF
/- Chapter 16, plain: as many bytes as there are cells. -/
namespace Go.Proofs.Ytmcfckdgolojlaa
set_option linter.unusedVariables false
set_option linter.unusedSimpArgs false
theorem has_ltB {p : Pl} {i : Int} (h : p.has i = true) : 0 ≤ i ∧ i < p.n := by simpa [Pl.has] using h
theorem has_mod {p : Pl} (hn : 1 ≤ p.n) (a : Int) : p.has (a % p.n) = true := by
  unfold Pl.has
  exact decide_eq_true ⟨Int.emod_nonneg _ (by omega), Int.emod_lt_of_pos _ (by omega)⟩
end Go.Proofs.Ytmcfckdgolojlaa
