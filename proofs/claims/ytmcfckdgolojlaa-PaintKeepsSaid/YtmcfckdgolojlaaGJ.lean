/- Chapter 16: the set of places between two. -/
import Derived.Test.YtmcfckdgolojlaaGI
import Derived.Maps.OwnSet
import Derived.Maps.OwnOps
import Derived.Maps.AppendAt
namespace Go.Proofs.Ytmcfckdgolojlaa
set_option linter.unusedVariables false
set_option linter.unusedSimpArgs false
open Go.RowKit
open Go.Maps (Keyed)
def tru : DataW Unit := .lit (.bool true)
def keyL (l : List Int) : List Lit := l.map (Lit.int .i64)
theorem keyL_key (l : List Int) : ∀ x ∈ keyL l, WideAt.IsKeyLit x := by
  intro x hx
  obtain ⟨z, _, rfl⟩ := List.mem_map.1 hx
  exact trivial
def setI (l : List Int) : DataW Unit := Maps.setOf tru (keyL l)
theorem setI_snoc (l : List Int) (x : Int) : setI (l ++ [x]) = (setI l).put (.int .i64 x) tru := by unfold setI keyL; rw [List.map_append]; exact Maps.setOf_snoc tru _ _
theorem has_setI (l : List Int) (x : Int) : Maps.has (setI l) (.int .i64 x) = l.any (· == x) := by
  unfold setI
  rw [Maps.has_setOf tru _ _ (keyL_key l)]
  unfold keyL
  rw [List.any_map]
  congr 1
  funext z
  simp [Lit.sameKey, Function.comp]
  exact (Bool.eq_iff_iff.2 (by simp))
theorem tidy_setI (l : List Int) : Maps.Tidy (setI l) := Maps.tidy_setOf tru _ (keyL_key l)
theorem lookup_bool {P : Program} {w : World} {k t e : TypeId} {b n : Nat} {D : DataW Unit} (h : w.ownsMap P k (plainElem P e) b n D) (K : Keyed P k) (ht : P.underlying t = some (.map k e)) (he : P.underlying e = some .bool) (hz : (zeroValue e).run P w = .ok (.bool false) w)
    {key : Value} {kl : Lit} (hkey : keyOf P k key = some kl) {x : Bool} (hat : D.atKey kl (.lit (.bool false)) = .lit (.bool x)) : (Instr.lookup t (.map (some b)) key false).run P w = .ok (.bool x) w := by
  obtain ⟨v, ps, hrun, hv⟩ := h.lookup K ht hz (zd := .lit (.bool false)) (zp := []) (by simp [plainElem, he]) hkey
  rw [hat] at hv
  unfold plainElem at hv
  rw [he] at hv
  cases v <;> simp at hv
  rw [hv.1] at hrun
  exact hrun
theorem wf_i64 {n : Int} (h : -9223372036854775808 ≤ n ∧ n ≤ 9223372036854775807) : (Lit.int .i64 n).wf = true := by
  show (decide (IntKind.i64.min ≤ n) && decide (n ≤ IntKind.i64.max)) = true
  rw [Bool.and_eq_true, decide_eq_true_eq, decide_eq_true_eq]
  exact h
theorem map_below {B : Nat} {w w' : World} {P : Program} {k : TypeId} {R : Value → Option (DataW Unit × List MemPlace)} {b n : Nat} {D : DataW Unit} (h : w.ownsMap P k R b n D) (hx : Below B w w') (hb : b < B) : w'.ownsMap P k R b n D := by
  obtain ⟨es, clock, h1, h2⟩ := h
  exact ⟨es, clock, (hx.block b hb).trans h1, h2⟩
theorem map_chg {l : List Nat} {w w' : World} {P : Program} {k : TypeId} {R : Value → Option (DataW Unit × List MemPlace)} {b n : Nat} {D : DataW Unit} (h : w.ownsMap P k R b n D) (hx : Chg l w w') (hb : b ∉ l) : w'.ownsMap P k R b n D := by
  have hlt := h.lt
  obtain ⟨es, clock, h1, h2⟩ := h
  exact ⟨es, clock, (hx.block b hlt hb).trans h1, h2⟩
theorem keyLaw : Keyed Try.prog 3 := Maps.int_keyed Try.underlying3
set_option maxRecDepth 100000 in
theorem zeroBool (w : World) : (zeroValue 4).run Try.prog w = .ok (.bool false) w := by kernel_rfl
theorem at_btw (n f x : Int) (z : DataW Unit) : ∀ k, (setI (btwN n f k)).atKey (.int .i64 x) z = if x ∈ btwN n f k then tru else z
  | 0 => by rw [if_neg (by simp [btwN])]; rfl
  | k + 1 => by
    rw [btwN_succ, setI_snoc]
    by_cases hx : x = (f + (k : Int)) % n
    · rw [if_pos (by simp [hx]), hx]
      exact Maps.atKey_put_same (tidy_setI _).isMap (show WideAt.IsKeyLit (.int .i64 ((f + (k : Int)) % n)) from trivial) _ _
    · rw [Maps.atKey_put_other (by intro e; injection e with _ e; exact hx e), at_btw n f x z k]
      by_cases hm : x ∈ btwN n f k
      · rw [if_pos hm, if_pos (by simp [hm])]
      · rw [if_neg hm, if_neg (by simp [hm, hx])]
end Go.Proofs.Ytmcfckdgolojlaa
