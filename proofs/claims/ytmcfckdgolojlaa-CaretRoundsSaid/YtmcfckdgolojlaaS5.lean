/- Chapter 19: the plain law, fifth part: what tab has seen. -/
import Derived.Test.YtmcfckdgolojlaaS4
import Derived.Maps.OwnSet
import Derived.Maps.OwnOps
namespace Go.Proofs.Ytmcfckdgolojlaa
set_option linter.unusedVariables false
set_option linter.unusedSimpArgs false
variable {p : Pl}
/-- round from i0, j steps on -/
def cyc (L i0 j : Nat) : Nat := if i0 + j < L then i0 + j else i0 + j - L
theorem cyc_lt {L i0 j : Nat} (hi : i0 < L) (hj : j ≤ L) : cyc L i0 j < L := by unfold cyc; split <;> omega
theorem cyc_zero {L i0 : Nat} (hi : i0 < L) : cyc L i0 0 = i0 := by unfold cyc; split <;> omega
theorem cyc_full {L i0 : Nat} (hi : i0 < L) : cyc L i0 L = i0 := by unfold cyc; split <;> omega
theorem cyc_succ {L i0 j : Nat} (hi : i0 < L) (hj : j < L) : (if cyc L i0 j + 1 < L then cyc L i0 j + 1 else 0) = cyc L i0 (j + 1) := by unfold cyc; split <;> split <;> split <;> omega
theorem cyc_pred {L i0 j : Nat} (hi : i0 < L) (hj : j < L) : (if cyc L i0 (j + 1) = 0 then L - 1 else cyc L i0 (j + 1) - 1) = cyc L i0 j := by unfold cyc; split <;> split <;> split <;> omega
theorem cyc_inj {L i0 j k : Nat} (hi : i0 < L) (hj : j < L) (hk : k < L) (h : cyc L i0 j = cyc L i0 k) : j = k := by unfold cyc at h; split at h <;> split at h <;> omega
theorem cyc_hit {L i0 j : Nat} (hi : i0 < L) (hj : j < L) : ∃ t, t < L ∧ cyc L i0 t = j := ⟨if i0 ≤ j then j - i0 else j + L - i0, by split <;> omega, by unfold cyc; split <;> split <;> omega⟩
/-- where the caret is behind j more tabs -/
def Pl.tabd (p : Pl) (i0 j : Nat) : Int := p.ofst (cyc p.opensL.length i0 j)
/-- the first k that tab comes to -/
def Pl.seen (p : Pl) (i0 k : Nat) : List Int := (List.range k).map fun j => p.tabd i0 j
theorem seen_succ (i0 k : Nat) : p.seen i0 (k + 1) = p.seen i0 k ++ [p.tabd i0 k] := by unfold Pl.seen; rw [List.range_succ, List.map_append]; rfl
theorem seen_len (i0 k : Nat) : (p.seen i0 k).length = k := by simp [Pl.seen]
theorem seen_get {i0 k j : Nat} (hj : j < k) : (p.seen i0 k).getD j 0 = p.tabd i0 j := by simp [Pl.seen, hj]
theorem tabd_in (hn : 1 ≤ p.n) (i0 j : Nat) : 0 ≤ p.tabd i0 j ∧ p.tabd i0 j < p.n := ⟨Int.emod_nonneg _ (by omega), Int.emod_lt_of_pos _ (by omega)⟩
theorem tabd_has (hn : 1 ≤ p.n) (i0 j : Nat) : p.has (p.tabd i0 j) = true := has_emod hn _
theorem tabd_tab (hby : ∀ y ∈ p.cells, 0 ≤ y.b ∧ y.b < 256) {i0 j : Nat} (hi : i0 < p.opensL.length) (hj : j < p.opensL.length) : p.seekM (p.tabd i0 j) 1 = p.tabd i0 (j + 1) := by
  unfold Pl.tabd
  rw [tab_at hby (cyc_lt hi (by omega)), cyc_succ hi hj]
theorem tabd_back (hby : ∀ y ∈ p.cells, 0 ≤ y.b ∧ y.b < 256) {i0 j : Nat} (hi : i0 < p.opensL.length) (hj : j < p.opensL.length) : (p.point (p.tabd i0 (j + 1))).backM = p.tabd i0 j := by
  unfold Pl.tabd
  rw [back_at hby (cyc_lt hi (by omega)), cyc_pred hi hj]
theorem tabd_full {i0 : Nat} (hi : i0 < p.opensL.length) : p.tabd i0 p.opensL.length = p.tabd i0 0 := by unfold Pl.tabd; rw [cyc_full hi, cyc_zero hi]
theorem tabd_inj (hby : ∀ y ∈ p.cells, 0 ≤ y.b ∧ y.b < 256) {i0 j k : Nat} (hi : i0 < p.opensL.length) (hj : j < p.opensL.length) (hk : k < p.opensL.length) (h : p.tabd i0 j = p.tabd i0 k) : j = k :=
  cyc_inj hi hj hk (ofst_inj hby (cyc_lt hi (by omega)) (cyc_lt hi (by omega)) h)
/-- the first place of each open field is seen -/
theorem seen_all {i0 i : Nat} (hi : i0 < p.opensL.length) (h : i < p.opensL.length) : p.ofst i ∈ p.seen i0 p.opensL.length := by
  obtain ⟨t, h1, h2⟩ := cyc_hit hi h
  unfold Pl.seen
  exact List.mem_map.2 ⟨t, List.mem_range.2 h1, by unfold Pl.tabd; rw [h2]⟩
theorem first_tabd (hby : ∀ y ∈ p.cells, 0 ≤ y.b ∧ y.b < 256) (h : 0 < p.opensL.length) : ∃ i0, i0 < p.opensL.length ∧ p.seekM p.cur 1 = p.tabd i0 0 := by
  obtain ⟨i, h1, h2⟩ := tab_first hby h
  exact ⟨i, h1, by unfold Pl.tabd; rw [cyc_zero h1, h2]⟩

/-! ### the set of what was seen -/
def tru : DataW Unit := .lit (.bool true)
def keyL (l : List Int) : List Lit := l.map (Lit.int .i64)
theorem keyL_key (l : List Int) : ∀ x ∈ keyL l, WideAt.IsKeyLit x := by
  intro x hx
  obtain ⟨z, _, rfl⟩ := List.mem_map.1 hx
  exact trivial
def setI (l : List Int) : DataW Unit := Maps.setOf tru (keyL l)
theorem setI_snoc (l : List Int) (x : Int) : setI (l ++ [x]) = (setI l).put (.int .i64 x) tru := by unfold setI keyL; rw [List.map_append]; exact Maps.setOf_snoc tru _ _
theorem has_setI (l : List Int) (x : Int) : Maps.has (setI l) (.int .i64 x) = l.any (· == x) := by
  unfold setI
  rw [Maps.has_setOf tru _ _ (keyL_key l)]
  unfold keyL
  rw [List.any_map]
  congr 1
  funext z
  simp [Lit.sameKey, Function.comp]
  exact (Bool.eq_iff_iff.2 (by simp))
theorem tidy_setI (l : List Int) : Maps.Tidy (setI l) := Maps.tidy_setOf tru _ (keyL_key l)
theorem at_seen (i0 : Nat) (x : Int) (z : DataW Unit) : ∀ k, x ∈ p.seen i0 k → (setI (p.seen i0 k)).atKey (.int .i64 x) z = tru
  | 0, h => by simp [Pl.seen] at h
  | k + 1, h => by
    rw [seen_succ] at h ⊢
    rw [setI_snoc]
    by_cases hx : x = p.tabd i0 k
    · rw [hx]
      exact Maps.atKey_put_same (tidy_setI _).isMap (show WideAt.IsKeyLit (.int .i64 (p.tabd i0 k)) from trivial) _ _
    · rw [Maps.atKey_put_other (by intro e; injection e with _ e; exact hx e)]
      exact at_seen i0 x z k (by simpa [hx] using h)
theorem size_seen (hby : ∀ y ∈ p.cells, 0 ≤ y.b ∧ y.b < 256) {i0 : Nat} (hi : i0 < p.opensL.length) : ∀ k, k ≤ p.opensL.length → Maps.size (setI (p.seen i0 k)) = k
  | 0, _ => rfl
  | k + 1, hk => by
    rw [seen_succ, setI_snoc, Maps.size_put (tidy_setI _), has_setI, if_neg, size_seen hby hi k (by omega)]
    intro h
    obtain ⟨z, hz, he⟩ := List.any_eq_true.1 h
    unfold Pl.seen at hz
    obtain ⟨j, hj, rfl⟩ := List.mem_map.1 hz
    have := List.mem_range.1 hj
    have := tabd_inj hby hi (by omega) (by omega) (by simpa using he : p.tabd i0 j = p.tabd i0 k)
    omega
end Go.Proofs.Ytmcfckdgolojlaa
