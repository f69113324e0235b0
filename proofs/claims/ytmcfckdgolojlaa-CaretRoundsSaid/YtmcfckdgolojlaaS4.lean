/- Chapter 19: the plain law, fourth part: tab and back go round. -/
import Derived.Test.YtmcfckdgolojlaaS3
namespace Go.Proofs.Ytmcfckdgolojlaa
set_option linter.unusedVariables false
set_option linter.unusedSimpArgs false
variable {p : Pl}
theorem has_emod (hn : 1 ≤ p.n) (x : Int) : p.has (x % p.n) = true := by
  unfold Pl.has
  simp
  exact ⟨Int.emod_nonneg _ (by omega), Int.emod_lt_of_pos _ (by omega)⟩
/-- the i-th open field's first place -/
def Pl.ofst (p : Pl) (i : Nat) : Int := (p.opensL.getD i 0 + 1) % p.n
theorem tab_first (hby : ∀ y ∈ p.cells, 0 ≤ y.b ∧ y.b < 256) (h : 0 < p.opensL.length) : ∃ i, i < p.opensL.length ∧ p.seekM p.cur 1 = p.ofst i := by
  obtain ⟨i, h0, h1, h2⟩ := some_copen hby h
  obtain ⟨y, hy, y0, y1, y2⟩ := scan_hit (f := p.copen) (n := p.n) (m := p.cells.length) (by omega) rfl (a := p.cur) (s := 1) (.inl rfl) h0 h1 h2
  obtain ⟨j, hj, rfl⟩ := (opens_enum hby).idx y0 y1 y2
  exact ⟨j, hj, by unfold Pl.seekM Pl.ofst; rw [hy]⟩
theorem tab_at (hby : ∀ y ∈ p.cells, 0 ≤ y.b ∧ y.b < 256) {i : Nat} (hi : i < p.opensL.length) : p.seekM (p.ofst i) 1 = p.ofst (if i + 1 < p.opensL.length then i + 1 else 0) := by
  unfold Pl.seekM Pl.ofst
  rw [(opens_enum hby).next rfl hi]
  show ((if i + 1 < p.opensL.length then p.opensL.getD (i + 1) 0 else p.opensL.getD 0 0) + 1) % p.n = _
  split <;> rfl
theorem back_at (hby : ∀ y ∈ p.cells, 0 ≤ y.b ∧ y.b < 256) {i : Nat} (hi : i < p.opensL.length) : (p.point (p.ofst i)).backM = p.ofst (if i = 0 then p.opensL.length - 1 else i - 1) := by
  have E := opens_enum hby
  have b := E.at_ hi
  have hn : 1 ≤ p.n := by omega
  obtain ⟨s1, s2, _⟩ := copen_in b.1 b.2.2
  have hbf := (before_succ s1 s2).1
  unfold Pl.backM
  have hh : p.has (p.ofst i) = true := has_emod hn _
  rw [point_cur _ _ hh, point_before, point_copen, point_n, point_seekM]
  unfold Pl.ofst
  rw [hbf, if_neg (by simp)]
  unfold Pl.seekM
  rw [E.prev rfl hi]
  show ((if i = 0 then p.opensL.getD (p.opensL.length - 1) 0 else p.opensL.getD (i - 1) 0) + 1) % p.n = _
  split <;> rfl
theorem home_ofst (hby : ∀ y ∈ p.cells, 0 ≤ y.b ∧ y.b < 256) (h : 0 < p.opensL.length) : p.homeM = p.ofst 0 := by
  rw [homeM_eq hby, if_pos h]; rfl
theorem ofst_inj (hby : ∀ y ∈ p.cells, 0 ≤ y.b ∧ y.b < 256) {i j : Nat} (hi : i < p.opensL.length) (hj : j < p.opensL.length) (h : p.ofst i = p.ofst j) : i = j := by
  have E := opens_enum hby
  have bi := E.at_ hi
  have bj := E.at_ hj
  have hn : 1 ≤ p.n := by omega
  unfold Pl.ofst at h
  have ei := emod_succ hn bi.1 bi.2.1
  have ej := emod_succ hn bj.1 bj.2.1
  have he : p.opensL.getD i 0 = p.opensL.getD j 0 := by
    rw [ei, ej] at h
    split at h <;> split at h <;> omega
  by_cases hl : i < j
  · have := E.lt hl hj; omega
  · by_cases hg : j < i
    · have := E.lt hg hi; omega
    · omega
theorem skip_bits (b : Int) (h : 0 ≤ b ∧ b < 256) : (Go.bits .and .u8 b 48 != 48) = !(bitB b 32 && bitB b 16) := by
  obtain ⟨k, rfl⟩ := Int.eq_ofNat_of_zero_le h.1
  have hk : k < 256 := by omega
  exact (by decide +kernel : ∀ k : Fin 256, (Go.bits .and .u8 (k.val : Int) 48 != 48) = !(bitB (k.val : Int) 32 && bitB (k.val : Int) 16)) ⟨k, hk⟩
theorem own_chg {l : List Nat} {w w1 : World} {base : Nat} {e : TypeId} {size n : Nat} {v : Value} {xs : List Value} (h : w.ownsRow base e size v n xs) (k : Chg l w w1) (hl : ∀ i ∈ l, i < base) : w1.ownsRow base e size v n xs := by
  refine ⟨h.1, ?_⟩
  rcases h.2 with h1 | ⟨g, cap, cur, h1, h2, h3, h4⟩
  · exact .inl h1
  · exact .inr ⟨g, cap, cur, h1, h2, (k.block g (lt_of_block h3) (fun hm => by have := hl g hm; omega)).trans h3, h4⟩
end Go.Proofs.Ytmcfckdgolojlaa
