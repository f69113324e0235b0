/- S1 S2 S3 S4: the texts of these, one behind the other. -/
import Derived.Test.YtmldhgebbgalbaaP9
import Derived.Test.YtmldhgebbgalbaaQ5
namespace Go.Proofs.Ytmldhgebbgalbaa
set_option linter.unusedVariables false
set_option linter.unusedSimpArgs false
open Go.RowKit

theorem scan_none {f : Int → Bool} {n a s : Int} : ∀ {m : Nat}, (∀ j, j < m → f (plc n a s j) = false) → scan f n a s m = none
  | 0, _ => rfl
  | m + 1, h => by rw [scan_none_succ (scan_none fun j hj => h j (by omega)), h m (by omega)]; rfl
theorem scan_none_all {f : Int → Bool} {n a s : Int} : ∀ {m : Nat}, scan f n a s m = none → ∀ j, j < m → f (plc n a s j) = false
  | 0, _, _, hj => by omega
  | m + 1, h, j, hj => by
    have e : scan f n a s m = none := by
      cases e : scan f n a s m with
      | none => rfl
      | some y => rw [scan, e] at h; cases h
    by_cases hm : j = m
    · subst hm
      rw [scan_none_succ e] at h
      cases hc : f (plc n a s j)
      · rfl
      · rw [hc] at h; cases h
    · exact scan_none_all e j (by omega)
theorem scan_some {f : Int → Bool} {n a s : Int} {m k : Nat} (hk : k < m) (hf : f (plc n a s k) = true) (hb : ∀ j, j < k → f (plc n a s j) = false) : scan f n a s m = some (plc n a s k) := by
  refine scan_mono (m := k + 1) (by omega) ?_
  rw [scan_none_succ (scan_none hb), if_pos hf]
theorem scan_of_some {f : Int → Bool} {n a s x : Int} : ∀ {m : Nat}, scan f n a s m = some x → ∃ k, k < m ∧ x = plc n a s k ∧ f x = true ∧ ∀ j, j < k → f (plc n a s j) = false
  | 0, h => by cases h
  | m + 1, h => by
    cases e : scan f n a s m with
    | none =>
      rw [scan_none_succ e] at h
      split at h
      · next hf =>
        cases h
        exact ⟨m, by omega, rfl, hf, scan_none_all e⟩
      · cases h
    | some y =>
      rw [scan, e] at h
      cases h
      obtain ⟨k, h1, h2⟩ := scan_of_some e
      exact ⟨k, by omega, h2⟩
/-- each place is come to -/
theorem plc_hit {n : Int} (hn : 1 ≤ n) (a : Int) {x : Int} (h0 : 0 ≤ x) (h1 : x < n) : (∃ k : Nat, (k : Int) < n ∧ plc n a 1 k = x) ∧ ∃ k : Nat, (k : Int) < n ∧ plc n a (-1) k = x := by
  constructor
  · refine ⟨((x - a) % n).toNat, ?_, ?_⟩
    · have := Int.emod_lt_of_pos (x - a) (by omega : 0 < n); have := Int.emod_nonneg (x - a) (by omega : n ≠ 0); omega
    · unfold plc
      rw [Int.toNat_of_nonneg (Int.emod_nonneg _ (by omega)), Int.mul_one, Int.add_emod_emod, show a + (x - a) = x by omega]
      exact Int.emod_eq_of_lt h0 h1
  · refine ⟨((a - x) % n).toNat, ?_, ?_⟩
    · have := Int.emod_lt_of_pos (a - x) (by omega : 0 < n); have := Int.emod_nonneg (a - x) (by omega : n ≠ 0); omega
    · unfold plc
      rw [Int.toNat_of_nonneg (Int.emod_nonneg _ (by omega)), show a + (a - x) % n * -1 = a - (a - x) % n by omega, Int.sub_emod_emod]
      rw [show a - (a - x) = x by omega]
      exact Int.emod_eq_of_lt h0 h1
theorem scan_hit {f : Int → Bool} {n : Int} {m : Nat} (hn : 1 ≤ n) (hm : n = m) {a s : Int} (hs : s = 1 ∨ s = -1) {x : Int} (h0 : 0 ≤ x) (h1 : x < n) (hf : f x = true) : ∃ y, scan f n a s m = some y ∧ 0 ≤ y ∧ y < n ∧ f y = true := by
  cases e : scan f n a s m with
  | none =>
    exfalso
    have hall := scan_none_all e
    have := plc_hit hn a h0 h1
    rcases hs with rfl | rfl
    · obtain ⟨k, hk, hx⟩ := this.1
      have := hall k (by omega)
      rw [hx, hf] at this; cases this
    · obtain ⟨k, hk, hx⟩ := this.2
      have := hall k (by omega)
      rw [hx, hf] at this; cases this
  | some y =>
    obtain ⟨k, _, rfl, hy, _⟩ := scan_of_some e
    exact ⟨_, rfl, (plc_bd hn a s k).1, (plc_bd hn a s k).2, hy⟩
theorem emod_succ {n i : Int} (hn : 1 ≤ n) (h0 : 0 ≤ i) (h1 : i < n) : (i + 1) % n = if i + 1 = n then 0 else i + 1 := by
  split
  · next h => rw [h]; exact Int.emod_self
  · exact Int.emod_eq_of_lt (by omega) (by omega)
variable {p : Pl}
theorem st_in {i : Int} (h : p.st i = true) : 0 ≤ i ∧ i < p.n := by
  unfold Pl.st Pl.at at h
  split at h
  · assumption
  · cases h
theorem lookM_in {i s : Int} (h0 : 0 ≤ i) (h1 : i < p.n) : p.lookM i s = (scan p.st p.n i s p.cells.length).getD (-1) := by unfold Pl.lookM; rw [if_pos ⟨h0, h1⟩]
theorem before_cases (i : Int) : p.before i = -1 ∨ p.st (p.before i) = true := by
  unfold Pl.before Pl.lookM
  split
  · cases e : scan p.st p.n i (-1) p.cells.length with
    | none => exact .inl rfl
    | some y => exact .inr (scan_of_some e).choose_spec.2.2.1
  · exact .inl rfl
theorem before_self {i : Int} (h : p.st i = true) : p.before i = i := by
  have hb := st_in h
  have h0 : plc p.n i (-1) 0 = i := by unfold plc; simp; exact Int.emod_eq_of_lt hb.1 hb.2
  unfold Pl.before
  have hl : p.n = (p.cells.length : Int) := rfl
  rw [lookM_in hb.1 hb.2, scan_some (k := 0) (by omega) (by rw [h0]; exact h) (fun j hj => by omega), h0]; rfl
theorem before_eq {i : Int} (h0 : 0 ≤ i) : p.before i = i ↔ p.st i = true := by
  constructor
  · intro h
    rcases before_cases (p := p) i with h1 | h1
    · omega
    · rwa [h] at h1
  · exact before_self
theorem lenAt_pos {i : Int} (h : p.st i = true) : 0 < p.lenAt i ↔ p.st ((i + 1) % p.n) = false := by
  have hb := st_in h
  have hn : 1 ≤ p.n := by omega
  have hm := Int.emod_nonneg (i + 1) (by omega : p.n ≠ 0)
  have hm' := Int.emod_lt_of_pos (i + 1) (by omega : 0 < p.n)
  have hl : p.n = (p.cells.length : Int) := rfl
  have he := emod_succ hn hb.1 hb.2
  have h1 : plc p.n ((i + 1) % p.n) 1 0 = (i + 1) % p.n := by unfold plc; simp
  have ha : p.after i = (scan p.st p.n ((i + 1) % p.n) 1 p.cells.length).getD (-1) := by
    unfold Pl.after
    rw [if_pos hb, lookM_in hm hm']
  unfold Pl.lenAt
  cases hc : p.st ((i + 1) % p.n)
  · obtain ⟨y, hy, y0, y1, y2⟩ := scan_hit (f := p.st) hn hl (a := (i + 1) % p.n) (.inl rfl) hb.1 hb.2 h
    rw [ha, hy]
    have hne : y ≠ (i + 1) % p.n := fun e => by rw [e, hc] at y2; cases y2
    simp only [Option.getD_some, iff_true]
    split <;> split at he <;> omega
  · rw [ha, scan_some (k := 0) (by omega) (by rw [h1]; exact hc) (fun j hj => by omega), h1]
    simp only [Option.getD_some]
    constructor
    · intro hx; exfalso; split at hx <;> split at he <;> omega
    · intro hx; cases hx
theorem copen_iff {i : Int} (h0 : 0 ≤ i) : p.copen i = (p.st i && !p.st ((i + 1) % p.n) && !bitB (p.attrAt i) 32) := by
  unfold Pl.copen
  cases hs : p.st i
  · have : p.before i ≠ i := fun e => by rw [(before_eq h0).1 e] at hs; cases hs
    split
    · rfl
    · simp [this]
  · rw [before_self hs, if_neg (by omega)]
    have := lenAt_pos hs
    cases hc : p.st ((i + 1) % p.n)
    · have h1 : 0 < p.lenAt i := this.2 hc
      simp [h1]
    · have h1 : ¬ 0 < p.lenAt i := fun hx => by rw [this.1 hx] at hc; cases hc
      simp [h1]
theorem copen_in {i : Int} (h0 : 0 ≤ i) (h : p.copen i = true) : p.st i = true ∧ p.st ((i + 1) % p.n) = false ∧ bitB (p.attrAt i) 32 = false := by
  rw [copen_iff h0] at h
  simpa [and_assoc] using h
theorem before_succ {i : Int} (h : p.st i = true) (h1 : p.st ((i + 1) % p.n) = false) : p.before ((i + 1) % p.n) = i ∧ (i + 1) % p.n ≠ i := by
  have hb := st_in h
  have hn : 1 ≤ p.n := by omega
  have hne : (i + 1) % p.n ≠ i := fun e => by rw [e, h] at h1; cases h1
  have he := emod_succ hn hb.1 hb.2
  have hl : p.n = (p.cells.length : Int) := rfl
  have hm := Int.emod_nonneg (i + 1) (by omega : p.n ≠ 0)
  have hm' := Int.emod_lt_of_pos (i + 1) (by omega : 0 < p.n)
  have h2 : 2 ≤ p.n := by split at he <;> omega
  have e0 : plc p.n ((i + 1) % p.n) (-1) 0 = (i + 1) % p.n := by unfold plc; simp
  have e1 : plc p.n ((i + 1) % p.n) (-1) 1 = i := by
    unfold plc
    rw [he]
    split
    · next h => rw [show (0 : Int) + ((1 : Nat) : Int) * -1 = i + p.n * (-1) by omega, Int.add_mul_emod_self_left]; exact Int.emod_eq_of_lt hb.1 hb.2
    · rw [show i + 1 + ((1 : Nat) : Int) * -1 = i by omega]; exact Int.emod_eq_of_lt hb.1 hb.2
  refine ⟨?_, hne⟩
  unfold Pl.before
  rw [lookM_in hm hm', scan_some (k := 1) (by omega) (by rw [e1]; exact h) (fun j hj => by rw [show j = 0 by omega, e0]; exact h1), e1]; rfl
/-- behind an open field's attribute something may be typed -/
theorem open_of_copen {i : Int} (h0 : 0 ≤ i) (h : p.copen i = true) : p.open_ ((i + 1) % p.n) = true := by
  obtain ⟨a, b, c⟩ := copen_in h0 h
  obtain ⟨d, e⟩ := before_succ a b
  unfold Pl.open_
  rw [d, if_neg (by omega), c]
  simp
  exact fun hx => e hx.symm
/-- no field open and an attribute somewhere: nothing may be typed -/
theorem open_none (hno : ∀ i, 0 ≤ i → p.copen i = false) {z : Int} (hz : p.st z = true) (j : Int) : p.open_ j = false := by
  have hzb := st_in hz
  have hn : 1 ≤ p.n := by omega
  unfold Pl.open_
  have hl : p.n = (p.cells.length : Int) := rfl
  by_cases hj : 0 ≤ j ∧ j < p.n
  · obtain ⟨y, hy, y0, y1, y2⟩ := scan_hit (f := p.st) hn hl (a := j) (.inr rfl) hzb.1 hzb.2 hz
    have hbf : p.before j = y := by unfold Pl.before; rw [lookM_in hj.1 hj.2, hy]; rfl
    rw [hbf, if_neg (by omega)]
    by_cases hyj : y = j
    · simp [hyj]
    · obtain ⟨k, hk, rfl, _, hall⟩ := scan_of_some hy
      cases k with
      | zero => exfalso; apply hyj; unfold plc; simp; exact Int.emod_eq_of_lt hj.1 hj.2
      | succ k =>
        have h1 := hall k (by omega)
        have h2 : (plc p.n j (-1) (k + 1) + 1) % p.n = plc p.n j (-1) k := by
          unfold plc
          rw [Int.emod_add_emod]
          congr 1
          omega
        have h3 := hno _ y0
        rw [copen_iff y0, y2, h2, h1] at h3
        simp at h3
        simp [h3]
  · have hbf : p.before j = -1 := by unfold Pl.before Pl.lookM; rw [if_neg hj]
    rw [hbf, if_pos (by omega)]
    simp [Pl.has]; omega
variable {p : Pl}
/-- a rising list of all places in [0,n) that f takes -/
structure Enum (f : Int → Bool) (n : Int) (O : List Int) : Prop where
  mem : ∀ x, x ∈ O ↔ 0 ≤ x ∧ x < n ∧ f x = true
  up : O.Pairwise (· < ·)
theorem Enum.of (f : Int → Bool) (m : Nat) : Enum f m (((List.range m).filter fun i : Nat => f (i : Int)).map fun i : Nat => (i : Int)) := by
  constructor
  · intro x
    simp only [List.mem_map, List.mem_filter, List.mem_range]
    constructor
    · rintro ⟨i, ⟨h1, h2⟩, rfl⟩; exact ⟨by omega, by omega, h2⟩
    · rintro ⟨h1, h2, h3⟩
      exact ⟨x.toNat, ⟨by omega, by rw [Int.toNat_of_nonneg h1]; exact h3⟩, Int.toNat_of_nonneg h1⟩
  · exact List.Pairwise.map _ (fun a b h => by omega) (List.Pairwise.filter _ List.pairwise_lt_range)
variable {f : Int → Bool} {n : Int} {O : List Int}
theorem Enum.at_ (h : Enum f n O) {i : Nat} (hi : i < O.length) : 0 ≤ O.getD i 0 ∧ O.getD i 0 < n ∧ f (O.getD i 0) = true := (h.mem _).1 (getD_mem hi)
theorem Enum.lt (h : Enum f n O) {i j : Nat} (hij : i < j) (hj : j < O.length) : O.getD i 0 < O.getD j 0 := by
  have := List.pairwise_iff_getElem.1 h.up i j (by omega) hj hij
  simpa [hj, (by omega : i < O.length)] using this
theorem Enum.idx (h : Enum f n O) {x : Int} (h0 : 0 ≤ x) (h1 : x < n) (h2 : f x = true) : ∃ i, i < O.length ∧ O.getD i 0 = x := by
  obtain ⟨i, hi, rfl⟩ := List.getElem_of_mem ((h.mem x).2 ⟨h0, h1, h2⟩)
  exact ⟨i, hi, by simp [hi]⟩
theorem Enum.gap (h : Enum f n O) {i : Nat} (hi : i < O.length) {x : Int} (hx : O.getD i 0 < x) (hn : x < n) (hu : i + 1 < O.length → x < O.getD (i + 1) 0) : f x = false := by
  cases hf : f x
  · rfl
  · exfalso
    obtain ⟨j, hj, rfl⟩ := h.idx (by have := (h.at_ hi).1; omega) hn hf
    by_cases h1 : j ≤ i
    · by_cases h2 : j = i
      · subst h2; omega
      · have := h.lt (by omega : j < i) hi; omega
    · by_cases h2 : j = i + 1
      · subst h2; have := hu hj; omega
      · have := hu (by omega); have := h.lt (by omega : i + 1 < j) hj; omega
theorem Enum.low (h : Enum f n O) {x : Int} (h0 : 0 ≤ x) (hn : x < n) (hu : 0 < O.length → x < O.getD 0 0) : f x = false := by
  cases hf : f x
  · rfl
  · exfalso
    obtain ⟨j, hj, rfl⟩ := h.idx h0 hn hf
    by_cases h2 : j = 0
    · subst h2; have := hu hj; omega
    · have := hu (by omega); have := h.lt (by omega : 0 < j) hj; omega
/-! ### the document's list -/
theorem bit_b (b : Int) (h : 0 ≤ b ∧ b < 256) : bitV (b % 64) 32 = bitB (Go.bits .and .u8 b 63) 32 := by
  obtain ⟨k, rfl⟩ := Int.eq_ofNat_of_zero_le h.1
  have hk : k < 256 := by omega
  have := (by decide +kernel : ∀ k : Fin 256, bitV ((k.val : Int) % 64) 32 = bitB (Go.bits .and .u8 (k.val : Int) 63) 32) ⟨k, hk⟩
  exact this
theorem starts_enum (p : Pl) : Enum p.st p.n (p.starts p.cells.length) := Enum.of p.st p.cells.length
theorem at_bd (hby : ∀ y ∈ p.cells, 0 ≤ y.b ∧ y.b < 256) (i : Int) : 0 ≤ (p.at i).b ∧ (p.at i).b < 256 := by
  unfold Pl.at
  split
  · next h =>
    have : i.toNat < p.cells.length := by have : p.n = p.cells.length := rfl; omega
    rw [List.getD_eq_getElem?_getD, List.getElem?_eq_getElem this]
    exact hby _ (List.getElem_mem this)
  · exact ⟨by decide, by decide⟩
theorem rfld_open (hby : ∀ y ∈ p.cells, 0 ≤ y.b ∧ y.b < 256) {k : Nat} (hk : k < (p.starts p.cells.length).length) :
    (decide ((p.rfld k).l > 0) && !bitV (p.rfld k).a 32) = p.copen ((p.starts p.cells.length).getD k 0) := by
  have E := starts_enum p
  unfold Pl.rfld
  generalize p.starts p.cells.length = s at *
  have b := E.at_ hk
  have hn : 1 ≤ p.n := by omega
  rw [copen_iff b.1, b.2.2]
  have he := emod_succ hn b.1 b.2.1
  have hl : decide ((if k + 1 < s.length then s.getD (k + 1) 0 else s.getD 0 0 + p.n) - s.getD k 0 - 1 > 0) = !p.st ((s.getD k 0 + 1) % p.n) := by
    split
    · next h1 =>
      have b1 := E.at_ h1
      have l1 := E.lt (by omega : k < k + 1) h1
      rw [if_neg (by omega)] at he
      rw [he]
      by_cases hx : s.getD (k + 1) 0 = s.getD k 0 + 1
      · have h3 := b1.2.2
        rw [hx] at h3
        rw [h3, decide_eq_false (by omega)]; rfl
      · rw [E.gap hk (x := s.getD k 0 + 1) (by omega) (by omega) (fun _ => by omega), decide_eq_true (by omega)]; rfl
    · next h1 =>
      have b0 := E.at_ (by omega : 0 < s.length)
      split at he
      · next h2 =>
        rw [he]
        by_cases hx : s.getD 0 0 = 0
        · have h3 := b0.2.2
          rw [hx] at h3
          rw [h3, decide_eq_false (by omega)]; rfl
        · rw [E.low (x := 0) (by omega) (by omega) (fun _ => by omega), decide_eq_true (by omega)]; rfl
      · rw [he, E.gap hk (x := s.getD k 0 + 1) (by omega) (by omega) (fun h => absurd h h1), decide_eq_true (by omega)]; rfl
  simp only [hl, Bool.true_and]
  unfold Pl.attrAt
  rw [bit_b _ (at_bd hby _)]
theorem range_getD (s : List Int) : (List.range s.length).map (fun k => s.getD k 0) = s := by
  refine List.ext_getElem (by simp) fun i h1 h2 => ?_
  simp at h1
  simp [h1]
theorem opensL_eq (hby : ∀ y ∈ p.cells, 0 ≤ y.b ∧ y.b < 256) : p.opensL = ((List.range p.cells.length).filter fun i : Nat => p.copen (i : Int)).map fun i : Nat => (i : Int) := by
  have hr : ∀ s : List Int, s = p.starts p.cells.length → ((List.range s.length).filter fun k => p.copen (s.getD k 0)).map (fun k => s.getD k 0) = s.filter p.copen := by
    intro s hs
    conv => rhs; rw [← range_getD s]
    rw [List.filter_map]
    rfl
  unfold Pl.opensL Pl.opens Pl.rflds
  rw [List.filter_map, List.map_map]
  have h1 : (List.range (p.starts p.cells.length).length).filter ((fun f : FV => decide (f.l > 0) && !bitV f.a 32) ∘ p.rfld) = (List.range (p.starts p.cells.length).length).filter fun k => p.copen ((p.starts p.cells.length).getD k 0) := by
    refine List.filter_congr fun k hk => ?_
    exact rfld_open hby (List.mem_range.1 hk)
  rw [h1]
  have h2 : (FV.s ∘ p.rfld) = fun k => (p.starts p.cells.length).getD k 0 := rfl
  rw [h2, hr _ rfl]
  unfold Pl.starts
  rw [List.filter_map, List.filter_filter]
  congr 1
  refine List.filter_congr fun k hk => ?_
  have h0 : (0 : Int) ≤ (k : Int) := by omega
  simp only [Function.comp]
  rw [copen_iff h0]
  cases p.st (k : Int) <;> simp
theorem opens_enum (hby : ∀ y ∈ p.cells, 0 ≤ y.b ∧ y.b < 256) : Enum p.copen p.n p.opensL := by
  rw [opensL_eq hby]
  exact Enum.of p.copen p.cells.length
theorem fld_open {i : Int} (h : p.st i = true) : openF (p.fld i) = p.copen i := by
  unfold Pl.copen openF Pl.fld
  have := st_in h
  rw [before_self h, if_neg (by omega)]
  simp
theorem homeM_eq (hby : ∀ y ∈ p.cells, 0 ≤ y.b ∧ y.b < 256) : p.homeM = if 0 < p.opensL.length then (p.opensL.getD 0 0 + 1) % p.n else 0 := by
  have h1 : (p.flds p.cells.length).find? openF = (p.opensL.head?).map p.fld := by
    rw [← List.head?_filter, opensL_eq hby]
    unfold Pl.flds
    rw [List.filter_map, List.filter_filter]
    have : (List.range p.cells.length).filter (fun a => (openF ∘ fun i : Nat => p.fld (i : Int)) a && p.st (a : Int)) = (List.range p.cells.length).filter fun i : Nat => p.copen (i : Int) := by
      refine List.filter_congr fun k hk => ?_
      simp only [Function.comp]
      cases hs : p.st (k : Int)
      · have h0 : (0 : Int) ≤ (k : Int) := by omega
        rw [copen_iff h0, hs]; simp
      · rw [fld_open hs]; simp
    rw [this]
    simp [List.head?_map]
    rfl
  unfold Pl.homeM
  rw [h1]
  cases hO : p.opensL with
  | nil => rfl
  | cons a l => simp [Pl.fld]
variable {p : Pl}
theorem no_copen (hby : ∀ y ∈ p.cells, 0 ≤ y.b ∧ y.b < 256) (h : p.opensL.length = 0) (i : Int) (h0 : 0 ≤ i) : p.copen i = false := by
  cases hc : p.copen i
  · rfl
  · have hs := (copen_in h0 hc).1
    have hb := st_in hs
    obtain ⟨j, hj, _⟩ := (opens_enum hby).idx hb.1 hb.2 hc
    omega
theorem some_copen (hby : ∀ y ∈ p.cells, 0 ≤ y.b ∧ y.b < 256) (h : 0 < p.opensL.length) : ∃ i, 0 ≤ i ∧ i < p.n ∧ p.copen i = true := ⟨_, (opens_enum hby).at_ h⟩
theorem seekM_open (hby : ∀ y ∈ p.cells, 0 ≤ y.b ∧ y.b < 256) (h : 0 < p.opensL.length) (a : Int) {s : Int} (hs : s = 1 ∨ s = -1) : p.open_ (p.seekM a s) = true := by
  obtain ⟨i, h0, h1, h2⟩ := some_copen hby h
  obtain ⟨y, hy, y0, y1, y2⟩ := scan_hit (f := p.copen) (n := p.n) (m := p.cells.length) (by omega) rfl (a := a) hs h0 h1 h2
  unfold Pl.seekM
  rw [hy]
  exact open_of_copen y0 y2
theorem seekM_none (hby : ∀ y ∈ p.cells, 0 ≤ y.b ∧ y.b < 256) (h : p.opensL.length = 0) (hn : 1 ≤ p.n) (a s : Int) : p.seekM a s = 0 := by
  unfold Pl.seekM
  rw [scan_none fun j _ => no_copen hby h _ (plc_bd hn a s j).1]
theorem backM_open (hby : ∀ y ∈ p.cells, 0 ≤ y.b ∧ y.b < 256) (h : 0 < p.opensL.length) : p.open_ p.backM = true := by
  unfold Pl.backM
  split
  · next hx => exact open_of_copen hx.1 hx.2.1
  · exact seekM_open hby h _ (.inr rfl)
theorem backM_none (hby : ∀ y ∈ p.cells, 0 ≤ y.b ∧ y.b < 256) (h : p.opensL.length = 0) (hn : 1 ≤ p.n) : p.backM = 0 := by
  unfold Pl.backM
  split
  · next hx => have := no_copen hby h _ hx.1; rw [hx.2.1] at this; cases this
  · exact seekM_none hby h hn _ _
theorem homeM_open (hby : ∀ y ∈ p.cells, 0 ≤ y.b ∧ y.b < 256) (h : 0 < p.opensL.length) : p.open_ p.homeM = true := by
  rw [homeM_eq hby, if_pos h]
  have := (opens_enum hby).at_ h
  exact open_of_copen this.1 this.2.2
theorem homeM_none (hby : ∀ y ∈ p.cells, 0 ≤ y.b ∧ y.b < 256) (h : p.opensL.length = 0) : p.homeM = 0 := by
  rw [homeM_eq hby, if_neg (by omega)]
theorem newlineM_open (hby : ∀ y ∈ p.cells, 0 ≤ y.b ∧ y.b < 256) (h : 0 < p.opensL.length) : p.open_ p.newlineM = true := by
  obtain ⟨i, h0, h1, h2⟩ := some_copen hby h
  have hn : 1 ≤ p.n := by omega
  obtain ⟨y, hy, y0, y1, y2⟩ := scan_hit (f := p.open_) (n := p.n) (m := p.cells.length) hn rfl (a := ((p.cur / p.cols + 1) * p.cols) % p.n) (.inl rfl) (Int.emod_nonneg (i + 1) (by omega)) (Int.emod_lt_of_pos (i + 1) (by omega)) (open_of_copen h0 h2)
  unfold Pl.newlineM
  rw [hy]
  exact y2
theorem look_st (h : 0 ≤ p.lookM 0 1) : ∃ z, p.st z = true := by
  unfold Pl.lookM at h
  split at h
  · cases e : scan p.st p.n 0 1 p.cells.length with
    | none => rw [e] at h; simp at h
    | some y => exact ⟨y, (scan_of_some e).choose_spec.2.2.1⟩
  · omega
theorem newlineM_none (hby : ∀ y ∈ p.cells, 0 ≤ y.b ∧ y.b < 256) (h : p.opensL.length = 0) (hf : 0 ≤ p.lookM 0 1) : p.newlineM = 0 := by
  obtain ⟨z, hz⟩ := look_st hf
  unfold Pl.newlineM
  rw [scan_none fun j _ => open_none (no_copen hby h) hz _]
  rfl
/-- where one of the four goes -/
def Pl.goes (p : Pl) (k : Nat) : Int := if k = 0 then p.seekM p.cur 1 else if k = 1 then p.backM else if k = 2 then p.newlineM else p.homeM
theorem goes_open (hby : ∀ y ∈ p.cells, 0 ≤ y.b ∧ y.b < 256) (h : 0 < p.opensL.length) (k : Nat) : p.open_ (p.goes k) = true := by
  unfold Pl.goes
  split
  · exact seekM_open hby h _ (.inl rfl)
  · split
    · exact backM_open hby h
    · split
      · exact newlineM_open hby h
      · exact homeM_open hby h
theorem goes_none (hby : ∀ y ∈ p.cells, 0 ≤ y.b ∧ y.b < 256) (h : p.opensL.length = 0) (hn : 1 ≤ p.n) (hf : 0 ≤ p.lookM 0 1) (k : Nat) : p.goes k = 0 := by
  unfold Pl.goes
  split
  · exact seekM_none hby h hn _ _
  · split
    · exact backM_none hby h hn
    · split
      · exact newlineM_none hby h hf
      · exact homeM_none hby h
theorem point_self (p : Pl) : p.point p.cur = p := by unfold Pl.point; split <;> rfl
theorem moveM_has (hn : 1 ≤ p.n) (a b : Int) : p.has (p.moveM a b) = true := by
  unfold Pl.has Pl.moveM
  simp
  exact ⟨Int.emod_nonneg _ (by omega), Int.emod_lt_of_pos _ (by omega)⟩
theorem move_back (h : p.Ok) (a b : Int) : (p.point (p.moveM a b)).moveM (-a) (-b) = p.cur := by
  have hn := h.sz.n0
  have hh := moveM_has hn a b
  unfold Pl.moveM at hh ⊢
  rw [point_cur _ _ hh, point_rows, point_cols, point_n, Int.neg_tmod, Int.neg_mul, Int.add_assoc, Int.emod_add_emod]
  rw [show p.cur + Int.tmod a p.rows * p.cols + b + (-(Int.tmod a p.rows * p.cols) + -b) = p.cur by omega]
  exact Int.emod_eq_of_lt h.k0 h.k1
variable {p : Pl}
theorem has_emod (hn : 1 ≤ p.n) (x : Int) : p.has (x % p.n) = true := by
  unfold Pl.has
  simp
  exact ⟨Int.emod_nonneg _ (by omega), Int.emod_lt_of_pos _ (by omega)⟩
end Go.Proofs.Ytmldhgebbgalbaa
