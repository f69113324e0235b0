/- The package caret: Newline. Same and Clone of planes. -/
import Derived.Test.YtmldhgebbgalbaaP8
namespace Go.Proofs.Ytmldhgebbgalbaa
set_option linter.unusedVariables false
set_option linter.unusedSimpArgs false
open Go.RowKit

theorem row_bd {r c n k : Int} (h : SzOk r c n) (h0 : 0 ≤ k) (h1 : k < n) : 0 ≤ k / c ∧ k / c < 43 ∧ 0 ≤ (k / c + 1) * c ∧ (k / c + 1) * c ≤ 5676 := by
  have c0 := h.c0
  have hq : k / c < r := by
    rw [Int.ediv_lt_iff_lt_mul (by omega)]
    have := h.mul; omega
  have hq0 : 0 ≤ k / c := Int.ediv_nonneg h0 (by omega)
  have := h.r1
  refine ⟨hq0, by omega, Int.mul_nonneg (by omega) (by omega), ?_⟩
  have h3 := Int.mul_le_mul (show k / c + 1 ≤ 43 by omega) h.c1 (by omega) (by omega)
  simpa using h3
end Go.Proofs.Ytmldhgebbgalbaa
