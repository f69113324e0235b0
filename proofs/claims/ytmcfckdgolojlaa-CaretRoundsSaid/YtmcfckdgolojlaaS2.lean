/- Chapter 19: the plain law, second part: the open fields' list. -/
import Derived.Test.YtmcfckdgolojlaaS1
namespace Go.Proofs.Ytmcfckdgolojlaa
set_option linter.unusedVariables false
set_option linter.unusedSimpArgs false
variable {p : Pl}
/-- a rising list of all places in [0,n) that f takes -/
structure Enum (f : Int → Bool) (n : Int) (O : List Int) : Prop where
  mem : ∀ x, x ∈ O ↔ 0 ≤ x ∧ x < n ∧ f x = true
  up : O.Pairwise (· < ·)
theorem Enum.of (f : Int → Bool) (m : Nat) : Enum f m (((List.range m).filter fun i : Nat => f (i : Int)).map fun i : Nat => (i : Int)) := by
  constructor
  · intro x
    simp only [List.mem_map, List.mem_filter, List.mem_range]
    constructor
    · rintro ⟨i, ⟨h1, h2⟩, rfl⟩; exact ⟨by omega, by omega, h2⟩
    · rintro ⟨h1, h2, h3⟩
      exact ⟨x.toNat, ⟨by omega, by rw [Int.toNat_of_nonneg h1]; exact h3⟩, Int.toNat_of_nonneg h1⟩
  · exact List.Pairwise.map _ (fun a b h => by omega) (List.Pairwise.filter _ List.pairwise_lt_range)
variable {f : Int → Bool} {n : Int} {O : List Int}
theorem Enum.at_ (h : Enum f n O) {i : Nat} (hi : i < O.length) : 0 ≤ O.getD i 0 ∧ O.getD i 0 < n ∧ f (O.getD i 0) = true := (h.mem _).1 (getD_mem hi)
theorem Enum.lt (h : Enum f n O) {i j : Nat} (hij : i < j) (hj : j < O.length) : O.getD i 0 < O.getD j 0 := by
  have := List.pairwise_iff_getElem.1 h.up i j (by omega) hj hij
  simpa [hj, (by omega : i < O.length)] using this
theorem Enum.idx (h : Enum f n O) {x : Int} (h0 : 0 ≤ x) (h1 : x < n) (h2 : f x = true) : ∃ i, i < O.length ∧ O.getD i 0 = x := by
  obtain ⟨i, hi, rfl⟩ := List.getElem_of_mem ((h.mem x).2 ⟨h0, h1, h2⟩)
  exact ⟨i, hi, by simp [hi]⟩
theorem Enum.gap (h : Enum f n O) {i : Nat} (hi : i < O.length) {x : Int} (hx : O.getD i 0 < x) (hn : x < n) (hu : i + 1 < O.length → x < O.getD (i + 1) 0) : f x = false := by
  cases hf : f x
  · rfl
  · exfalso
    obtain ⟨j, hj, rfl⟩ := h.idx (by have := (h.at_ hi).1; omega) hn hf
    by_cases h1 : j ≤ i
    · by_cases h2 : j = i
      · subst h2; omega
      · have := h.lt (by omega : j < i) hi; omega
    · by_cases h2 : j = i + 1
      · subst h2; have := hu hj; omega
      · have := hu (by omega); have := h.lt (by omega : i + 1 < j) hj; omega
theorem Enum.low (h : Enum f n O) {x : Int} (h0 : 0 ≤ x) (hn : x < n) (hu : 0 < O.length → x < O.getD 0 0) : f x = false := by
  cases hf : f x
  · rfl
  · exfalso
    obtain ⟨j, hj, rfl⟩ := h.idx h0 hn hf
    by_cases h2 : j = 0
    · subst h2; have := hu hj; omega
    · have := hu (by omega); have := h.lt (by omega : 0 < j) hj; omega
/-- next after the attribute of the i-th -/
theorem Enum.next (h : Enum f n O) {m : Nat} (hm : n = m) {i : Nat} (hi : i < O.length) : scan f n ((O.getD i 0 + 1) % n) 1 m = some (if i + 1 < O.length then O.getD (i + 1) 0 else O.getD 0 0) := by
  have b := h.at_ hi
  have hn : 1 ≤ n := by omega
  split
  · next h1 =>
    have b1 := h.at_ h1
    have l1 := h.lt (by omega : i < i + 1) h1
    have he : (O.getD i 0 + 1) % n = O.getD i 0 + 1 := Int.emod_eq_of_lt (by omega) (by omega)
    have hp : ∀ k : Nat, (k : Int) ≤ O.getD (i + 1) 0 - O.getD i 0 - 1 → plc n ((O.getD i 0 + 1) % n) 1 k = O.getD i 0 + 1 + k := fun k hk => by
      unfold plc; rw [he, Int.mul_one]; exact Int.emod_eq_of_lt (by omega) (by omega)
    have hk : ((O.getD (i + 1) 0 - O.getD i 0 - 1).toNat : Int) = O.getD (i + 1) 0 - O.getD i 0 - 1 := Int.toNat_of_nonneg (by omega)
    have := scan_some (f := f) (n := n) (a := (O.getD i 0 + 1) % n) (s := 1) (m := m) (k := (O.getD (i + 1) 0 - O.getD i 0 - 1).toNat) (by omega)
      (by rw [hp _ (by omega), hk, show O.getD i 0 + 1 + (O.getD (i + 1) 0 - O.getD i 0 - 1) = O.getD (i + 1) 0 by omega]; exact b1.2.2)
      (fun j hj => by rw [hp _ (by omega)]; exact h.gap hi (by omega) (by omega) (fun _ => by omega))
    rw [this, hp _ (by omega), hk]
    congr 1; omega
  · next h1 =>
    have b0 := h.at_ (by omega : 0 < O.length)
    have l0 : O.getD 0 0 ≤ O.getD i 0 := by
      by_cases hi0 : i = 0
      · subst hi0; omega
      · have := h.lt (by omega : 0 < i) hi; omega
    have he := emod_succ hn b.1 b.2.1
    have hp : ∀ k : Nat, (k : Int) ≤ n - 1 - O.getD i 0 + O.getD 0 0 → plc n ((O.getD i 0 + 1) % n) 1 k = if O.getD i 0 + 1 + k < n then O.getD i 0 + 1 + k else O.getD i 0 + 1 + k - n := fun k hk => by
      unfold plc
      rw [Int.mul_one, Int.emod_add_emod]
      split
      · exact Int.emod_eq_of_lt (by omega) (by omega)
      · rw [← Int.sub_emod_right]; exact Int.emod_eq_of_lt (by omega) (by omega)
    have hk : ((n - 1 - O.getD i 0 + O.getD 0 0).toNat : Int) = n - 1 - O.getD i 0 + O.getD 0 0 := Int.toNat_of_nonneg (by omega)
    have := scan_some (f := f) (n := n) (a := (O.getD i 0 + 1) % n) (s := 1) (m := m) (k := (n - 1 - O.getD i 0 + O.getD 0 0).toNat) (by omega)
      (by rw [hp _ (by omega), hk, if_neg (by omega), show O.getD i 0 + 1 + (n - 1 - O.getD i 0 + O.getD 0 0) - n = O.getD 0 0 by omega]; exact b0.2.2)
      (fun j hj => by
        rw [hp _ (by omega)]
        split
        · exact h.gap hi (by omega) (by omega) (fun hx => absurd hx h1)
        · exact h.low (by omega) (by omega) (fun _ => by omega))
    rw [this, hp _ (by omega), hk, if_neg (by omega)]
    congr 1; omega
/-- the one ahead of the i-th -/
theorem Enum.prev (h : Enum f n O) {m : Nat} (hm : n = m) {i : Nat} (hi : i < O.length) : scan f n (((O.getD i 0 + 1) % n + -2) % n) (-1) m = some (if i = 0 then O.getD (O.length - 1) 0 else O.getD (i - 1) 0) := by
  have b := h.at_ hi
  have hn : 1 ≤ n := by omega
  have hp : ∀ k : Nat, (k : Int) ≤ n - 1 → plc n (((O.getD i 0 + 1) % n + -2) % n) (-1) k = if 0 ≤ O.getD i 0 - 1 - k then O.getD i 0 - 1 - k else O.getD i 0 - 1 - k + n := fun k hk => by
    unfold plc
    rw [Int.emod_add_emod, Int.add_assoc, Int.emod_add_emod, show O.getD i 0 + 1 + (-2 + (k : Int) * -1) = O.getD i 0 - 1 - k by omega]
    split
    · exact Int.emod_eq_of_lt (by omega) (by omega)
    · rw [← Int.add_emod_right]; exact Int.emod_eq_of_lt (by omega) (by omega)
  split
  · next h0 =>
    subst h0
    have bl := h.at_ (by omega : O.length - 1 < O.length)
    have ll : O.getD 0 0 ≤ O.getD (O.length - 1) 0 := by
      by_cases hl : O.length - 1 = 0
      · rw [hl]; omega
      · have := h.lt (by omega : 0 < O.length - 1) (by omega); omega
    have hk : ((O.getD 0 0 + n - 1 - O.getD (O.length - 1) 0).toNat : Int) = O.getD 0 0 + n - 1 - O.getD (O.length - 1) 0 := Int.toNat_of_nonneg (by omega)
    have := scan_some (f := f) (n := n) (a := ((O.getD 0 0 + 1) % n + -2) % n) (s := -1) (m := m) (k := (O.getD 0 0 + n - 1 - O.getD (O.length - 1) 0).toNat) (by omega)
      (by rw [hp _ (by omega), hk, if_neg (by omega), show O.getD 0 0 - 1 - (O.getD 0 0 + n - 1 - O.getD (O.length - 1) 0) + n = O.getD (O.length - 1) 0 by omega]; exact bl.2.2)
      (fun j hj => by
        rw [hp _ (by omega)]
        split
        · exact h.low (by omega) (by omega) (fun _ => by omega)
        · exact h.gap (by omega : O.length - 1 < O.length) (by omega) (by omega) (fun hx => by omega))
    rw [this, hp _ (by omega), hk, if_neg (by omega)]
    congr 1; omega
  · next h0 =>
    have b1 := h.at_ (by omega : i - 1 < O.length)
    have l1 := h.lt (by omega : i - 1 < i) hi
    have hk : ((O.getD i 0 - 1 - O.getD (i - 1) 0).toNat : Int) = O.getD i 0 - 1 - O.getD (i - 1) 0 := Int.toNat_of_nonneg (by omega)
    have := scan_some (f := f) (n := n) (a := ((O.getD i 0 + 1) % n + -2) % n) (s := -1) (m := m) (k := (O.getD i 0 - 1 - O.getD (i - 1) 0).toNat) (by omega)
      (by rw [hp _ (by omega), hk, if_pos (by omega), show O.getD i 0 - 1 - (O.getD i 0 - 1 - O.getD (i - 1) 0) = O.getD (i - 1) 0 by omega]; exact b1.2.2)
      (fun j hj => by
        rw [hp _ (by omega), if_pos (by omega)]
        exact h.gap (i := i - 1) (by omega) (by omega) (by omega) (fun _ => by rw [show i - 1 + 1 = i by omega]; omega))
    rw [this, hp _ (by omega), hk, if_pos (by omega)]
    congr 1; omega

/-! ### the document's list -/
theorem bit_b (b : Int) (h : 0 ≤ b ∧ b < 256) : bitV (b % 64) 32 = bitB (Go.bits .and .u8 b 63) 32 := by
  obtain ⟨k, rfl⟩ := Int.eq_ofNat_of_zero_le h.1
  have hk : k < 256 := by omega
  have := (by decide +kernel : ∀ k : Fin 256, bitV ((k.val : Int) % 64) 32 = bitB (Go.bits .and .u8 (k.val : Int) 63) 32) ⟨k, hk⟩
  exact this
theorem starts_enum (p : Pl) : Enum p.st p.n (p.starts p.cells.length) := Enum.of p.st p.cells.length
theorem at_bd (hby : ∀ y ∈ p.cells, 0 ≤ y.b ∧ y.b < 256) (i : Int) : 0 ≤ (p.at i).b ∧ (p.at i).b < 256 := by
  unfold Pl.at
  split
  · next h =>
    have : i.toNat < p.cells.length := by have : p.n = p.cells.length := rfl; omega
    rw [List.getD_eq_getElem?_getD, List.getElem?_eq_getElem this]
    exact hby _ (List.getElem_mem this)
  · exact ⟨by decide, by decide⟩
theorem rfld_open (hby : ∀ y ∈ p.cells, 0 ≤ y.b ∧ y.b < 256) {k : Nat} (hk : k < (p.starts p.cells.length).length) :
    (decide ((p.rfld k).l > 0) && !bitV (p.rfld k).a 32) = p.copen ((p.starts p.cells.length).getD k 0) := by
  have E := starts_enum p
  unfold Pl.rfld
  generalize p.starts p.cells.length = s at *
  have b := E.at_ hk
  have hn : 1 ≤ p.n := by omega
  rw [copen_iff b.1, b.2.2]
  have he := emod_succ hn b.1 b.2.1
  have hl : decide ((if k + 1 < s.length then s.getD (k + 1) 0 else s.getD 0 0 + p.n) - s.getD k 0 - 1 > 0) = !p.st ((s.getD k 0 + 1) % p.n) := by
    split
    · next h1 =>
      have b1 := E.at_ h1
      have l1 := E.lt (by omega : k < k + 1) h1
      rw [if_neg (by omega)] at he
      rw [he]
      by_cases hx : s.getD (k + 1) 0 = s.getD k 0 + 1
      · have h3 := b1.2.2
        rw [hx] at h3
        rw [h3, decide_eq_false (by omega)]; rfl
      · rw [E.gap hk (x := s.getD k 0 + 1) (by omega) (by omega) (fun _ => by omega), decide_eq_true (by omega)]; rfl
    · next h1 =>
      have b0 := E.at_ (by omega : 0 < s.length)
      split at he
      · next h2 =>
        rw [he]
        by_cases hx : s.getD 0 0 = 0
        · have h3 := b0.2.2
          rw [hx] at h3
          rw [h3, decide_eq_false (by omega)]; rfl
        · rw [E.low (x := 0) (by omega) (by omega) (fun _ => by omega), decide_eq_true (by omega)]; rfl
      · rw [he, E.gap hk (x := s.getD k 0 + 1) (by omega) (by omega) (fun h => absurd h h1), decide_eq_true (by omega)]; rfl
  simp only [hl, Bool.true_and]
  unfold Pl.attrAt
  rw [bit_b _ (at_bd hby _)]
theorem range_getD (s : List Int) : (List.range s.length).map (fun k => s.getD k 0) = s := by
  refine List.ext_getElem (by simp) fun i h1 h2 => ?_
  simp at h1
  simp [h1]
theorem opensL_eq (hby : ∀ y ∈ p.cells, 0 ≤ y.b ∧ y.b < 256) : p.opensL = ((List.range p.cells.length).filter fun i : Nat => p.copen (i : Int)).map fun i : Nat => (i : Int) := by
  have hr : ∀ s : List Int, s = p.starts p.cells.length → ((List.range s.length).filter fun k => p.copen (s.getD k 0)).map (fun k => s.getD k 0) = s.filter p.copen := by
    intro s hs
    conv => rhs; rw [← range_getD s]
    rw [List.filter_map]
    rfl
  unfold Pl.opensL Pl.opens Pl.rflds
  rw [List.filter_map, List.map_map]
  have h1 : (List.range (p.starts p.cells.length).length).filter ((fun f : FV => decide (f.l > 0) && !bitV f.a 32) ∘ p.rfld) = (List.range (p.starts p.cells.length).length).filter fun k => p.copen ((p.starts p.cells.length).getD k 0) := by
    refine List.filter_congr fun k hk => ?_
    exact rfld_open hby (List.mem_range.1 hk)
  rw [h1]
  have h2 : (FV.s ∘ p.rfld) = fun k => (p.starts p.cells.length).getD k 0 := rfl
  rw [h2, hr _ rfl]
  unfold Pl.starts
  rw [List.filter_map, List.filter_filter]
  congr 1
  refine List.filter_congr fun k hk => ?_
  have h0 : (0 : Int) ≤ (k : Int) := by omega
  simp only [Function.comp]
  rw [copen_iff h0]
  cases p.st (k : Int) <;> simp
theorem opens_enum (hby : ∀ y ∈ p.cells, 0 ≤ y.b ∧ y.b < 256) : Enum p.copen p.n p.opensL := by
  rw [opensL_eq hby]
  exact Enum.of p.copen p.cells.length
theorem fld_open {i : Int} (h : p.st i = true) : openF (p.fld i) = p.copen i := by
  unfold Pl.copen openF Pl.fld
  have := st_in h
  rw [before_self h, if_neg (by omega)]
  simp
theorem homeM_eq (hby : ∀ y ∈ p.cells, 0 ≤ y.b ∧ y.b < 256) : p.homeM = if 0 < p.opensL.length then (p.opensL.getD 0 0 + 1) % p.n else 0 := by
  have h1 : (p.flds p.cells.length).find? openF = (p.opensL.head?).map p.fld := by
    rw [← List.head?_filter, opensL_eq hby]
    unfold Pl.flds
    rw [List.filter_map, List.filter_filter]
    have : (List.range p.cells.length).filter (fun a => (openF ∘ fun i : Nat => p.fld (i : Int)) a && p.st (a : Int)) = (List.range p.cells.length).filter fun i : Nat => p.copen (i : Int) := by
      refine List.filter_congr fun k hk => ?_
      simp only [Function.comp]
      cases hs : p.st (k : Int)
      · have h0 : (0 : Int) ≤ (k : Int) := by omega
        rw [copen_iff h0, hs]; simp
      · rw [fld_open hs]; simp
    rw [this]
    simp [List.head?_map]
    rfl
  unfold Pl.homeM
  rw [h1]
  cases hO : p.opensL with
  | nil => rfl
  | cons a l => simp [Pl.fld]
end Go.Proofs.Ytmcfckdgolojlaa
