/- Fields, by how far a place lies behind an attribute (no program). -/
import Derived.Test.YtmldhgebbgalbaaY0
import Derived.Test.YtmldhgebbgalbaaSA
namespace Go.Proofs.Ytmldhgebbgalbaa
set_option linter.unusedVariables false
set_option linter.unusedSimpArgs false
open Go.RowKit
theorem has_lt {p : Pl} {i : Int} (h : p.has i = true) : 0 ≤ i ∧ i < p.n := by simpa [Pl.has] using h
theorem set_at (p : Pl) (s : Int) (y : Cel) (i : Int) : (p.set s y).at i = if i = s ∧ p.has s = true then y else p.at i := by
  unfold Pl.set
  by_cases h : p.has s = true
  · rw [if_pos h]
    obtain ⟨h0, h1⟩ := has_lt h
    obtain ⟨k, rfl⟩ := Int.eq_ofNat_of_zero_le h0
    have hn : ({ p with cells := p.cells.set (k : Int).toNat y } : Pl).n = p.n := by unfold Pl.n; simp
    by_cases hi : i = (k : Int)
    · subst hi
      have hk : k < p.cells.length := by unfold Pl.n at h1; omega
      rw [if_pos ⟨rfl, h⟩]
      unfold Pl.at
      rw [hn, if_pos ⟨h0, h1⟩]
      simp [hk]
    · have e0 : (if i = (k : Int) ∧ p.has (k : Int) = true then y else p.at i) = p.at i := if_neg (fun e => hi e.1)
      rw [e0]
      unfold Pl.at
      rw [hn]
      by_cases hb : 0 ≤ i ∧ i < p.n
      · rw [if_pos hb, if_pos hb]
        have : k ≠ i.toNat := by omega
        simp [List.getElem?_set, this]
      · rw [if_neg hb, if_neg hb]
  · rw [if_neg h, if_neg (fun e => h e.2)]
theorem em_add {n a k : Int} (a0 : 0 ≤ a) (a1 : a < n) (k0 : 0 ≤ k) (k1 : k ≤ n) : (a + k) % n = if a + k < n then a + k else a + k - n := by
  split
  · exact Int.emod_eq_of_lt (by omega) (by omega)
  · rw [← Int.sub_emod_right]
    exact Int.emod_eq_of_lt (by omega) (by omega)
theorem em_sub {n a k : Int} (a0 : 0 ≤ a) (a1 : a < n) (k0 : 0 ≤ k) (k1 : k ≤ n) : (a - k) % n = if k ≤ a then a - k else a - k + n := by
  split
  · exact Int.emod_eq_of_lt (by omega) (by omega)
  · rw [← Int.add_emod_right]
    exact Int.emod_eq_of_lt (by omega) (by omega)
theorem plc_add {n a : Int} (k : Nat) : plc n a 1 k = (a + (k : Int)) % n := by unfold plc; rw [Int.mul_one]
theorem plc_sub {n a : Int} (k : Nat) : plc n a (-1) k = (a - (k : Int)) % n := by unfold plc; congr 1; omega
section
variable {p : Pl}
/-- what is known of the field behind an attribute -/
structure FldOk (p : Pl) (s L : Int) : Prop where
  s0 : 0 ≤ s
  s1 : s < p.n
  st : p.st s = true
  l0 : 0 ≤ L
  l1 : L < p.n
  no : ∀ j, 1 ≤ j → j ≤ L → p.st ((s + j) % p.n) = false
  yes : p.st ((s + (L + 1)) % p.n) = true
theorem fld_ok {s : Int} (h : p.st s = true) : FldOk p s (p.lenAt s) := by
  obtain ⟨h0, h1⟩ := st_in h
  have hn : 1 ≤ p.n := by omega
  have hpn : p.n = (p.cells.length : Int) := rfl
  have e1 : 0 ≤ (s + 1) % p.n := Int.emod_nonneg _ (by omega)
  have e2 : (s + 1) % p.n < p.n := Int.emod_lt_of_pos _ (by omega)
  obtain ⟨y, hy, y0, y1, yst⟩ := scan_hit (f := p.st) hn hpn (a := (s + 1) % p.n) (s := 1) (.inl rfl) h0 h1 h
  have ha : p.after s = y := by
    unfold Pl.after
    rw [if_pos ⟨h0, h1⟩, lookM_in e1 e2, hy]
    rfl
  obtain ⟨k, hk, hyk, _, hb⟩ := scan_of_some hy
  rw [plc_add] at hyk
  have hkn : (k : Int) < p.n := by omega
  have em1 := em_add h0 h1 (k := 1) (by omega) (by omega)
  have em2 := em_add e1 e2 (k := (k : Int)) (by omega) (by omega)
  rw [em2] at hyk
  have hL : p.lenAt s = k := by
    unfold Pl.lenAt
    rw [ha, hyk]
    rw [em1]
    split <;> split <;> split at * <;> omega
  rw [hL]
  have key : ∀ j : Int, 0 ≤ j → j ≤ p.n - 1 → (s + (j + 1)) % p.n = ((s + 1) % p.n + j) % p.n := fun j j0 j1 => by
    rw [Int.emod_add_emod]
    congr 1
    omega
  refine ⟨h0, h1, h, by omega, hkn, fun j j1 j2 => ?_, ?_⟩
  · have := hb (j - 1).toNat (by omega)
    rw [plc_add, Int.toNat_of_nonneg (by omega), ← key (j - 1) (by omega) (by omega)] at this
    rw [show s + (j - 1 + 1) = s + j by omega] at this
    exact this
  · rw [key k (by omega) (by omega), em2, ← hyk]
    exact yst
theorem before_all {z : Int} (hz : p.st z = true) {i : Int} (h0 : 0 ≤ i) (h1 : i < p.n) : 0 ≤ p.before i := by
  obtain ⟨z0, z1⟩ := st_in hz
  obtain ⟨y, hy, y0, _, _⟩ := scan_hit (f := p.st) (n := p.n) (m := p.cells.length) (by omega) rfl (a := i) (s := -1) (.inr rfl) z0 z1 hz
  unfold Pl.before
  rw [lookM_in h0 h1, hy]
  exact y0
/-- how far a place lies behind another -/
def far (n s i : Int) : Int := (i - s) % n
theorem far_eq {n s i : Int} (s0 : 0 ≤ s) (s1 : s < n) (h0 : 0 ≤ i) (h1 : i < n) : far n s i = if s ≤ i then i - s else i - s + n := em_sub h0 h1 s0 (by omega)
theorem far_bd {n s i : Int} (hn : 1 ≤ n) : 0 ≤ far n s i ∧ far n s i < n := ⟨Int.emod_nonneg _ (by omega), Int.emod_lt_of_pos _ (by omega)⟩
theorem far_back {n s i : Int} (s0 : 0 ≤ s) (s1 : s < n) (h0 : 0 ≤ i) (h1 : i < n) : (s + far n s i) % n = i := by
  obtain ⟨f0, f1⟩ := far_bd (n := n) (s := s) (i := i) (by omega)
  rw [em_add s0 s1 f0 (by omega), far_eq s0 s1 h0 h1]
  split <;> split <;> omega
theorem far_of {n s j : Int} (s0 : 0 ≤ s) (s1 : s < n) (j0 : 0 ≤ j) (j1 : j < n) : far n s ((s + j) % n) = j := by
  have hb : 0 ≤ (s + j) % n ∧ (s + j) % n < n := ⟨Int.emod_nonneg _ (by omega), Int.emod_lt_of_pos _ (by omega)⟩
  rw [far_eq s0 s1 hb.1 hb.2, em_add s0 s1 j0 (by omega)]
  split <;> split <;> omega
theorem far_zero {n s i : Int} (s0 : 0 ≤ s) (s1 : s < n) (h0 : 0 ≤ i) (h1 : i < n) : far n s i = 0 ↔ i = s := by
  rw [far_eq s0 s1 h0 h1]
  split <;> omega
theorem before_far {s L i : Int} (h : FldOk p s L) (h0 : 0 ≤ i) (h1 : i < p.n) : p.before i = s ↔ far p.n s i ≤ L := by
  have hs0 := h.s0
  have hs1 := h.s1
  obtain ⟨f0, f1⟩ := far_bd (n := p.n) (s := s) (i := i) (by omega)
  have hpn : p.n = (p.cells.length : Int) := rfl
  have hl0 := h.l0
  have hl1 := h.l1
  obtain ⟨d, hd⟩ : ∃ d : Nat, far p.n s i = (d : Int) := Int.eq_ofNat_of_zero_le f0
  have back := far_back hs0 hs1 h0 h1
  have hfe := far_eq hs0 hs1 h0 h1
  rw [hd] at f1 hfe back ⊢
  have hback : ∀ j : Nat, j ≤ d → plc p.n i (-1) j = (s + ((d : Int) - j)) % p.n := fun j hj => by
    rw [plc_sub, em_sub h0 h1 (by omega) (by omega), em_add hs0 hs1 (by omega) (by omega)]
    split at hfe <;> split <;> split <;> omega
  unfold Pl.before
  rw [lookM_in h0 h1]
  constructor
  · intro he
    rcases Int.lt_or_le L (d : Int) with hlt | hle
    · exfalso
      obtain ⟨y, hy, _⟩ := scan_hit (f := p.st) (n := p.n) (m := p.cells.length) (by omega) hpn (a := i) (s := -1) (.inr rfl) hs0 hs1 h.st
      rw [hy] at he
      simp only [Option.getD_some] at he
      obtain ⟨k, hk, hyk, _, hmin⟩ := scan_of_some hy
      have hk0 : p.st (plc p.n i (-1) (d - 1 - L.toNat)) = true := by
        rw [hback _ (by omega), show ((d : Int) - ((d - 1 - L.toNat : Nat) : Int)) = L + 1 by omega]
        exact h.yes
      have hkd : k ≤ d - 1 - L.toNat := by
        rcases Nat.lt_or_ge (d - 1 - L.toNat) k with h2 | h2
        · rw [hmin _ h2] at hk0; cases hk0
        · exact h2
      rw [hback k (by omega)] at hyk
      have hne := far_of hs0 hs1 (j := (d : Int) - k) (by omega) (by omega)
      rw [← hyk, he, far_eq hs0 hs1 hs0 hs1] at hne
      split at hne <;> omega
    · exact hle
  · intro hle
    have : scan p.st p.n i (-1) p.cells.length = some (plc p.n i (-1) d) := by
      refine scan_some (by omega) ?_ (fun j hj => ?_)
      · rw [hback d (by omega), Int.sub_self, Int.add_zero, Int.emod_eq_of_lt hs0 hs1]
        exact h.st
      · rw [hback j (by omega)]
        exact h.no _ (by omega) (by omega)
    rw [this, hback d (by omega), Int.sub_self, Int.add_zero, Int.emod_eq_of_lt hs0 hs1]
    rfl
/-- the places of a field -/
theorem mem_plcN {n s i : Int} {m : Nat} (s0 : 0 ≤ s) (s1 : s < n) (hm : (m : Int) < n) (h0 : 0 ≤ i) (h1 : i < n) : i ∈ plcN n s m ↔ 1 ≤ far n s i ∧ far n s i ≤ m := by
  unfold plcN
  rw [List.mem_map]
  constructor
  · rintro ⟨j, hj, rfl⟩
    rw [List.mem_range] at hj
    rw [far_of s0 s1 (by omega) (by omega)]
    omega
  · rintro ⟨h2, h3⟩
    refine ⟨(far n s i - 1).toNat, List.mem_range.2 (by omega), ?_⟩
    rw [Int.toNat_of_nonneg (by omega), show s + (far n s i - 1 + 1) = s + far n s i by omega]
    exact far_back s0 s1 h0 h1
theorem plcN_bd {n s : Int} {m : Nat} (hn : 1 ≤ n) : ∀ x ∈ plcN n s m, 0 ≤ x ∧ x < n := fun x hx => by
  unfold plcN at hx
  obtain ⟨j, _, rfl⟩ := List.mem_map.1 hx
  exact ⟨Int.emod_nonneg _ (by omega), Int.emod_lt_of_pos _ (by omega)⟩
theorem plcM_len {n L : Int} (l0 : 0 ≤ L) (l1 : L < n) : (plcM n L : Int) = L := by
  unfold plcM
  rw [if_neg (show ¬ L < 0 by omega), if_neg (by omega)]
  exact Int.toNat_of_nonneg l0
/-- the places of a field, from one on -/
theorem from_plc {n s : Int} {d : Nat} (s0 : 0 ≤ s) (s1 : s < n) (d1 : 1 ≤ d) (d2 : (d : Int) < n) : ∀ m : Nat, (m : Int) < n → from_ ((s + (d : Int)) % n) (plcN n s m) = (List.range (m + 1 - d)).map fun j : Nat => (s + ((d + j : Nat) : Int)) % n
  | 0, _ => by
    rw [show 0 + 1 - d = 0 by omega]
    rfl
  | m + 1, hm => by
    have ih := from_plc s0 s1 d1 d2 m (by omega)
    rw [plcN_succ, from_snoc, ih]
    have hlen : ((List.range (m + 1 - d)).map fun j : Nat => (s + ((d + j : Nat) : Int)) % n).length = m + 1 - d := by simp
    rw [hlen]
    by_cases h1 : m + 1 < d
    · have hne : ¬ ((s + ((m : Int) + 1)) % n = (s + (d : Int)) % n) := fun e => by
        have a1 := far_of s0 s1 (j := (m : Int) + 1) (by omega) (by omega)
        have a2 := far_of s0 s1 (j := (d : Int)) (by omega) d2
        rw [e, a2] at a1
        omega
      rw [if_neg (by rintro (h | h); exact hne h; omega), show m + 1 + 1 - d = 0 by omega]
      rfl
    · rw [if_pos (by
        rcases Nat.lt_or_ge d (m + 1) with h2 | h2
        · exact .inr (by omega)
        · left
          have : d = m + 1 := by omega
          rw [this, Int.natCast_add]; rfl)]
      rw [show m + 1 + 1 - d = (m + 1 - d) + 1 by omega, List.range_succ, List.map_append, List.map_singleton]
      congr 2
      rw [show ((d + (m + 1 - d) : Nat) : Int) = (m : Int) + 1 by omega]
theorem gone_at (p : Pl) : ∀ (l : List Int) (i : Int), (∀ x ∈ l, 0 ≤ x ∧ x < p.n) → (p.gone l).at i = if i ∈ l then Cel.zero else p.at i := by
  intro l
  obtain ⟨k, hk⟩ : ∃ k, l.length = k := ⟨_, rfl⟩
  induction k generalizing l with
  | zero =>
    intro i _
    rw [List.eq_nil_of_length_eq_zero hk]
    rfl
  | succ k ih =>
    intro i hb
    rcases List.eq_nil_or_concat l with rfl | ⟨l', x, rfl⟩
    · simp at hk
    · rw [List.concat_eq_append] at hb ⊢
      have hd : (p.gone l').n = p.n := by
        have : ∀ (m : List Int) (q : Pl), (q.gone m).cells.length = q.cells.length := by
          intro m
          induction m with
          | nil => intro q; rfl
          | cons y m ihm =>
            intro q
            show ((q.set y Cel.zero).gone m).cells.length = _
            rw [ihm, (set_dims q y Cel.zero).2.2]
        unfold Pl.n
        rw [this]
      rw [gone_snoc, set_at, ih l' (by simpa using hk) i (fun y hy => hb y (List.mem_append_left _ hy))]
      obtain ⟨x0, x1⟩ := hb x (by simp)
      have hh : (p.gone l').has x = true := by unfold Pl.has; rw [hd]; exact decide_eq_true ⟨x0, x1⟩
      by_cases e : i = x
      · rw [if_pos ⟨e, hh⟩, if_pos (by rw [e]; simp)]
      · rw [if_neg (fun h => e h.1)]
        by_cases hm : i ∈ l'
        · rw [if_pos hm, if_pos (List.mem_append_left _ hm)]
        · rw [if_neg hm, if_neg (by simp [hm, e])]
end
end Go.Proofs.Ytmldhgebbgalbaa
