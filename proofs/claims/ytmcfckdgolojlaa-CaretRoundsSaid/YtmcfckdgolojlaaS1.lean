/- Chapter 19: the plain law, first part: scans, the open fields' list. -/
import Derived.Test.YtmcfckdgolojlaaP9
import Derived.Test.YtmcfckdgolojlaaQ5
namespace Go.Proofs.Ytmcfckdgolojlaa
set_option linter.unusedVariables false
set_option linter.unusedSimpArgs false

theorem scan_none {f : Int → Bool} {n a s : Int} : ∀ {m : Nat}, (∀ j, j < m → f (plc n a s j) = false) → scan f n a s m = none
  | 0, _ => rfl
  | m + 1, h => by rw [scan_none_succ (scan_none fun j hj => h j (by omega)), h m (by omega)]; rfl
theorem scan_none_all {f : Int → Bool} {n a s : Int} : ∀ {m : Nat}, scan f n a s m = none → ∀ j, j < m → f (plc n a s j) = false
  | 0, _, _, hj => by omega
  | m + 1, h, j, hj => by
    have e : scan f n a s m = none := by
      cases e : scan f n a s m with
      | none => rfl
      | some y => rw [scan, e] at h; cases h
    by_cases hm : j = m
    · subst hm
      rw [scan_none_succ e] at h
      cases hc : f (plc n a s j)
      · rfl
      · rw [hc] at h; cases h
    · exact scan_none_all e j (by omega)
theorem scan_some {f : Int → Bool} {n a s : Int} {m k : Nat} (hk : k < m) (hf : f (plc n a s k) = true) (hb : ∀ j, j < k → f (plc n a s j) = false) : scan f n a s m = some (plc n a s k) := by
  refine scan_mono (m := k + 1) (by omega) ?_
  rw [scan_none_succ (scan_none hb), if_pos hf]
theorem scan_of_some {f : Int → Bool} {n a s x : Int} : ∀ {m : Nat}, scan f n a s m = some x → ∃ k, k < m ∧ x = plc n a s k ∧ f x = true ∧ ∀ j, j < k → f (plc n a s j) = false
  | 0, h => by cases h
  | m + 1, h => by
    cases e : scan f n a s m with
    | none =>
      rw [scan_none_succ e] at h
      split at h
      · next hf =>
        cases h
        exact ⟨m, by omega, rfl, hf, scan_none_all e⟩
      · cases h
    | some y =>
      rw [scan, e] at h
      cases h
      obtain ⟨k, h1, h2⟩ := scan_of_some e
      exact ⟨k, by omega, h2⟩
/-- each place is come to -/
theorem plc_hit {n : Int} (hn : 1 ≤ n) (a : Int) {x : Int} (h0 : 0 ≤ x) (h1 : x < n) : (∃ k : Nat, (k : Int) < n ∧ plc n a 1 k = x) ∧ ∃ k : Nat, (k : Int) < n ∧ plc n a (-1) k = x := by
  constructor
  · refine ⟨((x - a) % n).toNat, ?_, ?_⟩
    · have := Int.emod_lt_of_pos (x - a) (by omega : 0 < n); have := Int.emod_nonneg (x - a) (by omega : n ≠ 0); omega
    · unfold plc
      rw [Int.toNat_of_nonneg (Int.emod_nonneg _ (by omega)), Int.mul_one, Int.add_emod_emod, show a + (x - a) = x by omega]
      exact Int.emod_eq_of_lt h0 h1
  · refine ⟨((a - x) % n).toNat, ?_, ?_⟩
    · have := Int.emod_lt_of_pos (a - x) (by omega : 0 < n); have := Int.emod_nonneg (a - x) (by omega : n ≠ 0); omega
    · unfold plc
      rw [Int.toNat_of_nonneg (Int.emod_nonneg _ (by omega)), show a + (a - x) % n * -1 = a - (a - x) % n by omega, Int.sub_emod_emod]
      rw [show a - (a - x) = x by omega]
      exact Int.emod_eq_of_lt h0 h1
theorem scan_hit {f : Int → Bool} {n : Int} {m : Nat} (hn : 1 ≤ n) (hm : n = m) {a s : Int} (hs : s = 1 ∨ s = -1) {x : Int} (h0 : 0 ≤ x) (h1 : x < n) (hf : f x = true) : ∃ y, scan f n a s m = some y ∧ 0 ≤ y ∧ y < n ∧ f y = true := by
  cases e : scan f n a s m with
  | none =>
    exfalso
    have hall := scan_none_all e
    have := plc_hit hn a h0 h1
    rcases hs with rfl | rfl
    · obtain ⟨k, hk, hx⟩ := this.1
      have := hall k (by omega)
      rw [hx, hf] at this; cases this
    · obtain ⟨k, hk, hx⟩ := this.2
      have := hall k (by omega)
      rw [hx, hf] at this; cases this
  | some y =>
    obtain ⟨k, _, rfl, hy, _⟩ := scan_of_some e
    exact ⟨_, rfl, (plc_bd hn a s k).1, (plc_bd hn a s k).2, hy⟩
theorem emod_succ {n i : Int} (hn : 1 ≤ n) (h0 : 0 ≤ i) (h1 : i < n) : (i + 1) % n = if i + 1 = n then 0 else i + 1 := by
  split
  · next h => rw [h]; exact Int.emod_self
  · exact Int.emod_eq_of_lt (by omega) (by omega)
variable {p : Pl}
theorem st_in {i : Int} (h : p.st i = true) : 0 ≤ i ∧ i < p.n := by
  unfold Pl.st Pl.at at h
  split at h
  · assumption
  · cases h
theorem lookM_in {i s : Int} (h0 : 0 ≤ i) (h1 : i < p.n) : p.lookM i s = (scan p.st p.n i s p.cells.length).getD (-1) := by unfold Pl.lookM; rw [if_pos ⟨h0, h1⟩]
theorem before_cases (i : Int) : p.before i = -1 ∨ p.st (p.before i) = true := by
  unfold Pl.before Pl.lookM
  split
  · cases e : scan p.st p.n i (-1) p.cells.length with
    | none => exact .inl rfl
    | some y => exact .inr (scan_of_some e).choose_spec.2.2.1
  · exact .inl rfl
theorem before_self {i : Int} (h : p.st i = true) : p.before i = i := by
  have hb := st_in h
  have h0 : plc p.n i (-1) 0 = i := by unfold plc; simp; exact Int.emod_eq_of_lt hb.1 hb.2
  unfold Pl.before
  have hl : p.n = (p.cells.length : Int) := rfl
  rw [lookM_in hb.1 hb.2, scan_some (k := 0) (by omega) (by rw [h0]; exact h) (fun j hj => by omega), h0]; rfl
theorem before_eq {i : Int} (h0 : 0 ≤ i) : p.before i = i ↔ p.st i = true := by
  constructor
  · intro h
    rcases before_cases (p := p) i with h1 | h1
    · omega
    · rwa [h] at h1
  · exact before_self
theorem lenAt_pos {i : Int} (h : p.st i = true) : 0 < p.lenAt i ↔ p.st ((i + 1) % p.n) = false := by
  have hb := st_in h
  have hn : 1 ≤ p.n := by omega
  have hm := Int.emod_nonneg (i + 1) (by omega : p.n ≠ 0)
  have hm' := Int.emod_lt_of_pos (i + 1) (by omega : 0 < p.n)
  have hl : p.n = (p.cells.length : Int) := rfl
  have he := emod_succ hn hb.1 hb.2
  have h1 : plc p.n ((i + 1) % p.n) 1 0 = (i + 1) % p.n := by unfold plc; simp
  have ha : p.after i = (scan p.st p.n ((i + 1) % p.n) 1 p.cells.length).getD (-1) := by
    unfold Pl.after
    rw [if_pos hb, lookM_in hm hm']
  unfold Pl.lenAt
  cases hc : p.st ((i + 1) % p.n)
  · obtain ⟨y, hy, y0, y1, y2⟩ := scan_hit (f := p.st) hn hl (a := (i + 1) % p.n) (.inl rfl) hb.1 hb.2 h
    rw [ha, hy]
    have hne : y ≠ (i + 1) % p.n := fun e => by rw [e, hc] at y2; cases y2
    simp only [Option.getD_some, iff_true]
    split <;> split at he <;> omega
  · rw [ha, scan_some (k := 0) (by omega) (by rw [h1]; exact hc) (fun j hj => by omega), h1]
    simp only [Option.getD_some]
    constructor
    · intro hx; exfalso; split at hx <;> split at he <;> omega
    · intro hx; cases hx
theorem copen_iff {i : Int} (h0 : 0 ≤ i) : p.copen i = (p.st i && !p.st ((i + 1) % p.n) && !bitB (p.attrAt i) 32) := by
  unfold Pl.copen
  cases hs : p.st i
  · have : p.before i ≠ i := fun e => by rw [(before_eq h0).1 e] at hs; cases hs
    split
    · rfl
    · simp [this]
  · rw [before_self hs, if_neg (by omega)]
    have := lenAt_pos hs
    cases hc : p.st ((i + 1) % p.n)
    · have h1 : 0 < p.lenAt i := this.2 hc
      simp [h1]
    · have h1 : ¬ 0 < p.lenAt i := fun hx => by rw [this.1 hx] at hc; cases hc
      simp [h1]
theorem copen_in {i : Int} (h0 : 0 ≤ i) (h : p.copen i = true) : p.st i = true ∧ p.st ((i + 1) % p.n) = false ∧ bitB (p.attrAt i) 32 = false := by
  rw [copen_iff h0] at h
  simpa [and_assoc] using h
theorem before_succ {i : Int} (h : p.st i = true) (h1 : p.st ((i + 1) % p.n) = false) : p.before ((i + 1) % p.n) = i ∧ (i + 1) % p.n ≠ i := by
  have hb := st_in h
  have hn : 1 ≤ p.n := by omega
  have hne : (i + 1) % p.n ≠ i := fun e => by rw [e, h] at h1; cases h1
  have he := emod_succ hn hb.1 hb.2
  have hl : p.n = (p.cells.length : Int) := rfl
  have hm := Int.emod_nonneg (i + 1) (by omega : p.n ≠ 0)
  have hm' := Int.emod_lt_of_pos (i + 1) (by omega : 0 < p.n)
  have h2 : 2 ≤ p.n := by split at he <;> omega
  have e0 : plc p.n ((i + 1) % p.n) (-1) 0 = (i + 1) % p.n := by unfold plc; simp
  have e1 : plc p.n ((i + 1) % p.n) (-1) 1 = i := by
    unfold plc
    rw [he]
    split
    · next h => rw [show (0 : Int) + ((1 : Nat) : Int) * -1 = i + p.n * (-1) by omega, Int.add_mul_emod_self_left]; exact Int.emod_eq_of_lt hb.1 hb.2
    · rw [show i + 1 + ((1 : Nat) : Int) * -1 = i by omega]; exact Int.emod_eq_of_lt hb.1 hb.2
  refine ⟨?_, hne⟩
  unfold Pl.before
  rw [lookM_in hm hm', scan_some (k := 1) (by omega) (by rw [e1]; exact h) (fun j hj => by rw [show j = 0 by omega, e0]; exact h1), e1]; rfl
/-- behind an open field's attribute something may be typed -/
theorem open_of_copen {i : Int} (h0 : 0 ≤ i) (h : p.copen i = true) : p.open_ ((i + 1) % p.n) = true := by
  obtain ⟨a, b, c⟩ := copen_in h0 h
  obtain ⟨d, e⟩ := before_succ a b
  unfold Pl.open_
  rw [d, if_neg (by omega), c]
  simp
  exact fun hx => e hx.symm
/-- no field open and an attribute somewhere: nothing may be typed -/
theorem open_none (hno : ∀ i, 0 ≤ i → p.copen i = false) {z : Int} (hz : p.st z = true) (j : Int) : p.open_ j = false := by
  have hzb := st_in hz
  have hn : 1 ≤ p.n := by omega
  unfold Pl.open_
  have hl : p.n = (p.cells.length : Int) := rfl
  by_cases hj : 0 ≤ j ∧ j < p.n
  · obtain ⟨y, hy, y0, y1, y2⟩ := scan_hit (f := p.st) hn hl (a := j) (.inr rfl) hzb.1 hzb.2 hz
    have hbf : p.before j = y := by unfold Pl.before; rw [lookM_in hj.1 hj.2, hy]; rfl
    rw [hbf, if_neg (by omega)]
    by_cases hyj : y = j
    · simp [hyj]
    · obtain ⟨k, hk, rfl, _, hall⟩ := scan_of_some hy
      cases k with
      | zero => exfalso; apply hyj; unfold plc; simp; exact Int.emod_eq_of_lt hj.1 hj.2
      | succ k =>
        have h1 := hall k (by omega)
        have h2 : (plc p.n j (-1) (k + 1) + 1) % p.n = plc p.n j (-1) k := by
          unfold plc
          rw [Int.emod_add_emod]
          congr 1
          omega
        have h3 := hno _ y0
        rw [copen_iff y0, y2, h2, h1] at h3
        simp at h3
        simp [h3]
  · have hbf : p.before j = -1 := by unfold Pl.before Pl.lookM; rw [if_neg hj]
    rw [hbf, if_pos (by omega)]
    simp [Pl.has]; omega
end Go.Proofs.Ytmcfckdgolojlaa
