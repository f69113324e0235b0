/- What Inside and Rest let go (no program). -/
import Derived.Test.YtmldhgebbgalbaaYD
namespace Go.Proofs.Ytmldhgebbgalbaa
set_option linter.unusedVariables false
set_option linter.unusedSimpArgs false
open Go.RowKit
section
variable {p : Pl}
theorem gone_dims (p : Pl) : ∀ (l : List Int), (p.gone l).rows = p.rows ∧ (p.gone l).cols = p.cols ∧ (p.gone l).cells.length = p.cells.length ∧ (p.gone l).cur = p.cur := by
  intro l
  induction l generalizing p with
  | nil => exact ⟨rfl, rfl, rfl, rfl⟩
  | cons y m ihm =>
    obtain ⟨h1, h2, h3, h4⟩ := ihm (p.set y Cel.zero)
    obtain ⟨k1, k2, k3⟩ := set_dims p y Cel.zero
    refine ⟨h1.trans k1, h2.trans k2, h3.trans k3, h4.trans ?_⟩
    unfold Pl.set
    split <;> rfl
/-- a place is one of the field's cells -/
def mine (p : Pl) (s i : Int) : Prop := p.before i = s ∧ i ≠ s
theorem mine_far {s L i : Int} (h : FldOk p s L) (h0 : 0 ≤ i) (h1 : i < p.n) : mine p s i ↔ 1 ≤ far p.n s i ∧ far p.n s i ≤ L := by
  unfold mine
  rw [before_far h h0 h1]
  have hz := far_zero h.s0 h.s1 h0 h1
  have hb := (far_bd (n := p.n) (s := s) (i := i) (by have := h.s0; have := h.s1; omega)).1
  constructor
  · rintro ⟨h2, h3⟩
    exact ⟨by rcases Int.lt_or_eq_of_le hb with h4 | h4; omega; exact absurd (hz.1 h4.symm) h3, h2⟩
  · rintro ⟨h2, h3⟩
    exact ⟨h3, fun e => by have := hz.2 e; omega⟩
theorem mine_st {s L i : Int} (h : FldOk p s L) (h0 : 0 ≤ i) (h1 : i < p.n) (hm : mine p s i) : p.st i = false := by
  obtain ⟨h2, h3⟩ := (mine_far h h0 h1).1 hm
  have := h.no _ h2 h3
  rw [far_back h.s0 h.s1 h0 h1] at this
  exact this
theorem inside_at {s L i : Int} (h : FldOk p s L) (h0 : 0 ≤ i) (h1 : i < p.n) : (p.gone (plcN p.n s (plcM p.n L))).at i = if 1 ≤ far p.n s i ∧ far p.n s i ≤ L then Cel.zero else p.at i := by
  have hn : 1 ≤ p.n := by omega
  have hm := plcM_len h.l0 h.l1
  rw [gone_at p _ i (plcN_bd hn)]
  have := mem_plcN (n := p.n) (s := s) (i := i) (m := plcM p.n L) h.s0 h.s1 (by rw [hm]; exact h.l1) h0 h1
  rw [hm] at this
  by_cases hc : 1 ≤ far p.n s i ∧ far p.n s i ≤ L
  · rw [if_pos hc, if_pos (this.2 hc)]
  · rw [if_neg hc, if_neg (fun e => hc (this.1 e))]
/-- what Rest lets go in a field -/
structure RestOk (p : Pl) (a s L : Int) : Prop where
  f : FldOk p s L
  a0 : 0 ≤ a
  a1 : a < p.n
  m : mine p s a
theorem rest_list {a s L : Int} (h : RestOk p a s L) (hL : L = p.lenAt s) : ((p.restL a).length : Int) = L + 1 - far p.n s a ∧ (∀ x ∈ p.restL a, 0 ≤ x ∧ x < p.n) ∧
    ∀ i, 0 ≤ i → i < p.n → (i ∈ p.restL a ↔ far p.n s a ≤ far p.n s i ∧ far p.n s i ≤ L) := by
  obtain ⟨d1, d2⟩ := (mine_far h.f h.a0 h.a1).1 h.m
  have hm := plcM_len h.f.l0 h.f.l1
  have s0 := h.f.s0
  have s1 := h.f.s1
  have l1 := h.f.l1
  obtain ⟨d, hd⟩ : ∃ d : Nat, far p.n s a = (d : Int) := Int.eq_ofNat_of_zero_le (by omega)
  have hb := far_back s0 s1 h.a0 h.a1
  have e : p.restL a = (List.range (plcM p.n L + 1 - d)).map fun j : Nat => (s + ((d + j : Nat) : Int)) % p.n := by
    unfold Pl.restL
    rw [h.m.1, ← hL]
    rw [hd] at hb d1 d2
    have := from_plc (n := p.n) (s := s) (d := d) s0 s1 (by omega) (by omega) (plcM p.n L) (by omega)
    rw [hb] at this
    exact this
  rw [hd] at d1 d2 ⊢
  rw [e]
  refine ⟨by rw [List.length_map, List.length_range]; omega, fun x hx => ?_, fun i h0 h1 => ?_⟩
  · obtain ⟨j, _, rfl⟩ := List.mem_map.1 hx
    exact ⟨Int.emod_nonneg _ (by omega), Int.emod_lt_of_pos _ (by omega)⟩
  · rw [List.mem_map]
    constructor
    · rintro ⟨j, hj, rfl⟩
      rw [List.mem_range] at hj
      rw [far_of s0 s1 (by omega) (by omega)]
      omega
    · rintro ⟨h2, h3⟩
      refine ⟨(far p.n s i).toNat - d, List.mem_range.2 (by omega), ?_⟩
      rw [show ((d + ((far p.n s i).toNat - d) : Nat) : Int) = far p.n s i by omega]
      exact far_back s0 s1 h0 h1
theorem rest_at {a s L : Int} (h : RestOk p a s L) (hL : L = p.lenAt s) (i : Int) : (p.restP a).at i = if 0 ≤ i ∧ i < p.n ∧ far p.n s a ≤ far p.n s i ∧ far p.n s i ≤ L then Cel.zero else p.at i := by
  obtain ⟨_, hb, hm⟩ := rest_list h hL
  unfold Pl.restP
  rw [gone_at p _ i hb]
  by_cases hc : 0 ≤ i ∧ i < p.n
  · have := hm i hc.1 hc.2
    by_cases hx : far p.n s a ≤ far p.n s i ∧ far p.n s i ≤ L
    · rw [if_pos (this.2 hx), if_pos ⟨hc.1, hc.2, hx⟩]
    · rw [if_neg (fun e => hx (this.1 e)), if_neg (fun e => hx e.2.2)]
  · rw [if_neg (fun e => hc (hb i e)), if_neg (fun e => hc ⟨e.1, e.2.1⟩)]
theorem rest_st {a s L : Int} (h : RestOk p a s L) (hL : L = p.lenAt s) : (p.restP a).st = p.st := by
  funext i
  unfold Pl.st
  rw [rest_at h hL]
  split
  · next hc =>
    obtain ⟨h0, h1, h2, h3⟩ := hc
    have hd := ((mine_far h.f h.a0 h.a1).1 h.m).1
    have := mine_st h.f h0 h1 ((mine_far h.f h0 h1).2 ⟨by omega, h3⟩)
    unfold Pl.st at this
    rw [this]
    rfl
  · rfl
theorem rest_n (a : Int) : (p.restP a).n = p.n := by
  unfold Pl.n Pl.restP
  rw [(gone_dims p _).2.2.1]
theorem before_same {p q : Pl} (hst : q.st = p.st) (hl : q.cells.length = p.cells.length) (i : Int) : q.before i = p.before i := by
  have hn : q.n = p.n := by unfold Pl.n; rw [hl]
  unfold Pl.before Pl.lookM
  rw [hst, hl, hn]
theorem rest_before {a s L : Int} (h : RestOk p a s L) (hL : L = p.lenAt s) (i : Int) : (p.restP a).before i = p.before i := before_same (rest_st h hL) (gone_dims p _).2.2.1 i
theorem mark_at {q : Pl} {a i : Int} (hne : i ≠ q.before a) : (q.mark a).at i = q.at i := by
  unfold Pl.mark
  split
  · rfl
  · unfold Pl.modP
    rw [set_at, if_neg (fun e => hne e.1)]
/-- what Rest leaves, but for the attribute -/
theorem restM_at {a s L : Int} (h : RestOk p a s L) (hL : L = p.lenAt s) {i : Int} (h0 : 0 ≤ i) (h1 : i < p.n) (hne : i ≠ s) : ((p.restP a).mark a).at i = if far p.n s a ≤ far p.n s i ∧ far p.n s i ≤ L then Cel.zero else p.at i := by
  rw [mark_at (by rw [rest_before h hL, h.m.1]; exact hne), rest_at h hL]
  by_cases hx : far p.n s a ≤ far p.n s i ∧ far p.n s i ≤ L
  · rw [if_pos hx, if_pos ⟨h0, h1, hx⟩]
  · rw [if_neg hx, if_neg (fun e => hx e.2.2)]
/-- Go's rest of a distance -/
theorem far_go {n s i : Int} (s0 : 0 ≤ s) (s1 : s < n) (h0 : 0 ≤ i) (h1 : i < n) : Int.tmod (i - s + n) n = far n s i := by
  rw [Int.tmod_eq_emod_of_nonneg (by omega), Int.add_emod_right]
  rfl
end
end Go.Proofs.Ytmldhgebbgalbaa
