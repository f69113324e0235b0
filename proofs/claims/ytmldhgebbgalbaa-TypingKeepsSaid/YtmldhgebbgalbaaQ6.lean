/- Chapter 19's arguments; made, whatever comes. -/
import Derived.Test.YtmldhgebbgalbaaQ3
import Derived.WideShapes
namespace Go.Proofs.Ytmldhgebbgalbaa
set_option linter.unusedVariables false
set_option linter.unusedSimpArgs false
open Go.RowKit Go.WideShapes
theorem cel_rows {H : Type} {w : World} {A : Option Addr} {n c : Nat} (h : Handed Try.prog H w 24 (.slice A n c)) :
    ∃ l : List Cel, l.length = n ∧ n ≤ c ∧ n ≤ maxLen ∧ Rd w 5 A n (l.flatMap Cel.enc) ∧ ∀ p ∈ l, 0 ≤ p.b ∧ p.b < 256 := by
  obtain ⟨enc, d, ps, h⟩ := h
  refine arg_structs Cel.enc (fun p => 0 ≤ p.b ∧ p.b < 256) Try.underlying24 (e := 46) (k := 5) (by kernel_rfl) (by omega) h (fun r m y hl hy => ?_)
  obtain ⟨v0, v1, v2, v3, v4, rfl⟩ : ∃ v0 v1 v2 v3 v4, r = [v0, v1, v2, v3, v4] := by
    match r, hl with
    | [a, b, c, d, e], _ => exact ⟨a, b, c, d, e, rfl⟩
  have he := Try.underlying46
  obtain ⟨q0, z0, h0⟩ := row_field he (by kernel_rfl) hy 0 _ rfl v0 rfl
  obtain ⟨q1, z1, h1⟩ := row_field he (by kernel_rfl) hy 1 _ rfl v1 rfl
  obtain ⟨q2, z2, h2⟩ := row_field he (by kernel_rfl) hy 2 _ rfl v2 rfl
  obtain ⟨q3, z3, h3⟩ := row_field he (by kernel_rfl) hy 3 _ rfl v3 rfl
  obtain ⟨q4, z4, h4⟩ := row_field he (by kernel_rfl) hy 4 _ rfl v4 rfl
  obtain ⟨b, rfl, hb⟩ := field_int Try.underlying5 h0
  obtain ⟨ge, rfl⟩ := field_bool Try.underlying4 h1
  obtain ⟨st, rfl⟩ := field_bool Try.underlying4 h2
  obtain ⟨li, rfl, _⟩ := field_int Try.underlying5 h3
  obtain ⟨co, rfl, _⟩ := field_int Try.underlying5 h4
  exact ⟨⟨b, ge, st, li, co⟩, rfl, u8_wf hb⟩
set_option maxRecDepth 100000 in
theorem size_arg {H : Type} {w : World} {v : Value} {base : Nat} (h : Handed Try.prog H w 23 v) (hv : Value.okWide Try.prog w .any base 23 v) :
    ∃ r c, v = .agg #[.int .i64 r, .int .i64 c] ∧ (Lit.int .i64 r).wf = true ∧ (Lit.int .i64 c).wf = true := by
  obtain ⟨cs, rfl, hs⟩ := okWide_struct Try.underlying23 hv
  have hk : Try.prog.cellsOf 23 = 2 := by kernel_rfl
  rw [hk] at hs
  obtain ⟨enc, d, ps, m, hm⟩ := h
  obtain ⟨v0, v1, rfl⟩ : ∃ v0 v1, cs = #[v0, v1] := by
    match cs, hs with
    | ⟨[a, b]⟩, _ => exact ⟨a, b, rfl⟩
  have he := Try.underlying23
  obtain ⟨q0, z0, h0⟩ := row_field he (by kernel_rfl) hm 0 _ rfl v0 rfl
  obtain ⟨q1, z1, h1⟩ := row_field he (by kernel_rfl) hm 1 _ rfl v1 rfl
  obtain ⟨r, rfl, hr⟩ := field_int Try.underlying3 h0
  obtain ⟨c, rfl, hc⟩ := field_int Try.underlying3 h1
  exact ⟨r, c, rfl, hr, hc⟩
end Go.Proofs.Ytmldhgebbgalbaa
