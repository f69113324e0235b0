/- Chapter 20, plain: what End leaves (no program). -/
import Derived.Test.YtmldhgebbgalbaaY5
namespace Go.Proofs.Ytmldhgebbgalbaa
set_option linter.unusedVariables false
set_option linter.unusedSimpArgs false
open Go.RowKit
theorem mark_st (q : Pl) (a : Int) : (q.mark a).st = q.st := by
  funext y
  unfold Pl.mark
  split
  · rfl
  · unfold Pl.modP Pl.st
    rw [set_at]
    split
    · rename_i h
      rw [h.1]
      rfl
    · rfl
theorem mark_n (q : Pl) (a : Int) : (q.mark a).n = q.n := by
  unfold Pl.mark
  split
  · rfl
  · unfold Pl.modP Pl.n
    rw [(set_dims _ _ _).2.2]
theorem set_cur (p : Pl) (i : Int) (x : Cel) : (p.set i x).cur = p.cur := by unfold Pl.set; split <;> rfl
theorem mark_cur (q : Pl) (a : Int) : (q.mark a).cur = q.cur := by
  unfold Pl.mark
  split
  · rfl
  · exact set_cur _ _ _
/-- where the law's loop ends -/
def stopY (R : Pl) (was y : Int) : Prop := y = was ∨ R.st y = true ∨ (y = 0 ∧ ¬ 0 ≤ R.lookM 0 1)
/-- from one place on nothing stands, up to where the loop ends -/
structure ZerosY (R : Pl) (was : Int) (Good : Int → Prop) (meas : Int → Nat) : Prop where
  g0 : Good was
  g1 : ∀ i, Good i → 0 ≤ i ∧ i < R.n ∧ R.at i = Cel.zero
  g2 : ∀ i, Good i → stopY R was ((i + 1) % R.n) ∨ (Good ((i + 1) % R.n) ∧ meas ((i + 1) % R.n) < meas i)
theorem end_zeros {p : Pl} (hok : p.Ok) (ho : p.open_ p.cur = true) : p.endM.2 = 0 ∧ p.endM.1.cur = p.cur ∧ ∃ Good meas, ZerosY p.endM.1 p.cur Good meas := by
  have k0 := hok.k0
  have k1 := hok.k1
  have n0 := hok.sz.n0
  unfold Pl.endM
  rw [if_neg (by rw [ho]; simp)]
  by_cases hb : p.before p.cur < 0
  · rw [if_pos hb]
    have hno : ∀ z, p.st z = false := fun z => by
      cases hz : p.st z
      · rfl
      · have := before_all hz k0 k1
        omega
    obtain ⟨l, hl⟩ : ∃ l, btwN p.n p.cur (btwM p.n p.cur 0) = l := ⟨_, rfl⟩
    have hbd : ∀ x ∈ l, 0 ≤ x ∧ x < p.n := fun x hx => by
      rw [← hl] at hx
      unfold btwN at hx
      obtain ⟨j, _, rfl⟩ := List.mem_map.1 hx
      exact ⟨Int.emod_nonneg _ (by omega), Int.emod_lt_of_pos _ (by omega)⟩
    have hat : ∀ i, (p.puts l Cel.zero).at i = if i ∈ l then Cel.zero else p.at i := fun i => gone_at p l i hbd
    have hd := gone_dims p l
    rw [hl]
    obtain ⟨R, hR⟩ : ∃ R, p.puts l Cel.zero = R := ⟨_, rfl⟩
    rw [show p.gone l = R from hR] at hd
    simp only [hR] at hat ⊢
    have hn : R.n = p.n := by unfold Pl.n; rw [hd.2.2.1]
    have hst : ∀ z, R.st z = false := fun z => by
      unfold Pl.st
      rw [hat]
      split
      · rfl
      · exact hno z
    have hf : ¬ 0 ≤ R.lookM 0 1 := fun hc => by
      unfold Pl.lookM at hc
      rw [if_pos ⟨by omega, by omega⟩] at hc
      cases hs : scan R.st R.n 0 1 R.cells.length with
      | none => rw [hs] at hc; simp at hc
      | some z =>
        obtain ⟨_, _, _, hz, _⟩ := scan_of_some hs
        rw [hst] at hz
        cases hz
    refine ⟨by first | rfl | trivial, hd.2.2.2, fun i => p.cur ≤ i ∧ i < p.n, fun i => (p.n - i).toNat, ⟨by omega, k1⟩, fun i hi => ⟨by omega, by omega, ?_⟩, fun i hi => ?_⟩
    · rw [hat, if_pos]
      rw [← hl]
      unfold btwN
      rw [List.mem_map]
      refine ⟨(i - p.cur).toNat, List.mem_range.2 ?_, ?_⟩
      · unfold btwM
        have : (0 - p.cur - 1) % p.n = p.n - p.cur - 1 := by
          rw [show 0 - p.cur - 1 = (p.n - p.cur - 1) + p.n * (-1) by omega, Int.add_mul_emod_self_left]
          exact Int.emod_eq_of_lt (by omega) (by omega)
        rw [this]
        omega
      · rw [show p.cur + (((i - p.cur).toNat : Nat) : Int) = i by omega]
        exact Int.emod_eq_of_lt (by omega) (by omega)
    · rw [hn]
      by_cases hi1 : i + 1 < p.n
      · rw [Int.emod_eq_of_lt (by omega) hi1]
        exact .inr ⟨by omega, by omega⟩
      · rw [show i + 1 = p.n by omega, Int.emod_self]
        exact .inl (.inr (.inr ⟨rfl, hf⟩))
  · rw [if_neg hb]
    have h := rest_ok k0 k1 ho hb
    obtain ⟨s, hs⟩ : ∃ s, p.before p.cur = s := ⟨_, rfl⟩
    rw [hs] at h
    obtain ⟨L, hL⟩ : ∃ L, p.lenAt s = L := ⟨_, rfl⟩
    rw [hL] at h
    obtain ⟨d1, d2⟩ := (mine_far h.f h.a0 h.a1).1 h.m
    have s0 := h.f.s0
    have s1 := h.f.s1
    have l1 := h.f.l1
    have hst : ((p.restP p.cur).mark p.cur).st = p.st := (mark_st _ _).trans (rest_st h hL.symm)
    have hn : ((p.restP p.cur).mark p.cur).n = p.n := (mark_n _ _).trans (rest_n _)
    have hcur : ((p.restP p.cur).mark p.cur).cur = p.cur := (mark_cur _ _).trans (gone_dims p _).2.2.2
    refine ⟨by first | rfl | trivial, hcur, fun i => (0 ≤ i ∧ i < p.n) ∧ far p.n s p.cur ≤ far p.n s i ∧ far p.n s i ≤ L, fun i => (L - far p.n s i).toNat, ⟨⟨k0, k1⟩, by omega, d2⟩, fun i hi => ⟨hi.1.1, by rw [hn]; exact hi.1.2, ?_⟩, fun i hi => ?_⟩
    · have hne : i ≠ s := fun e => by
        have := (far_zero s0 s1 hi.1.1 hi.1.2).2 e
        omega
      rw [restM_at h hL.symm hi.1.1 hi.1.2 hne, if_pos hi.2]
    · rw [hn]
      have hb2 := far_back s0 s1 hi.1.1 hi.1.2
      obtain ⟨f, hf⟩ : ∃ f, far p.n s i = f := ⟨_, rfl⟩
      have hfb := far_bd (n := p.n) (s := s) (i := i) (by omega)
      rw [hf] at hb2 hi hfb
      have hy : (i + 1) % p.n = (s + (f + 1)) % p.n := by
        rw [← hb2, Int.emod_add_emod]
        congr 1
        omega
      rw [hy]
      by_cases hfl : f < L
      · have hfar : far p.n s ((s + (f + 1)) % p.n) = f + 1 := far_of s0 s1 (by omega) (by omega)
        refine .inr ⟨⟨⟨Int.emod_nonneg _ (by omega), Int.emod_lt_of_pos _ (by omega)⟩, ?_⟩, ?_⟩
        · rw [hfar]; omega
        · rw [hfar, hf]; omega
      · refine .inl (.inr (.inl ?_))
        rw [hst, show f + 1 = L + 1 by omega]
        exact h.f.yes
end Go.Proofs.Ytmldhgebbgalbaa
