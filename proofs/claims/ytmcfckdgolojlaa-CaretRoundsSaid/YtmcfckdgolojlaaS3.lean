/- Chapter 19: the plain law, third part: where the caret goes. -/
import Derived.Test.YtmcfckdgolojlaaS2
namespace Go.Proofs.Ytmcfckdgolojlaa
set_option linter.unusedVariables false
set_option linter.unusedSimpArgs false
variable {p : Pl}
theorem no_copen (hby : ∀ y ∈ p.cells, 0 ≤ y.b ∧ y.b < 256) (h : p.opensL.length = 0) (i : Int) (h0 : 0 ≤ i) : p.copen i = false := by
  cases hc : p.copen i
  · rfl
  · have hs := (copen_in h0 hc).1
    have hb := st_in hs
    obtain ⟨j, hj, _⟩ := (opens_enum hby).idx hb.1 hb.2 hc
    omega
theorem some_copen (hby : ∀ y ∈ p.cells, 0 ≤ y.b ∧ y.b < 256) (h : 0 < p.opensL.length) : ∃ i, 0 ≤ i ∧ i < p.n ∧ p.copen i = true := ⟨_, (opens_enum hby).at_ h⟩
theorem seekM_open (hby : ∀ y ∈ p.cells, 0 ≤ y.b ∧ y.b < 256) (h : 0 < p.opensL.length) (a : Int) {s : Int} (hs : s = 1 ∨ s = -1) : p.open_ (p.seekM a s) = true := by
  obtain ⟨i, h0, h1, h2⟩ := some_copen hby h
  obtain ⟨y, hy, y0, y1, y2⟩ := scan_hit (f := p.copen) (n := p.n) (m := p.cells.length) (by omega) rfl (a := a) hs h0 h1 h2
  unfold Pl.seekM
  rw [hy]
  exact open_of_copen y0 y2
theorem seekM_none (hby : ∀ y ∈ p.cells, 0 ≤ y.b ∧ y.b < 256) (h : p.opensL.length = 0) (hn : 1 ≤ p.n) (a s : Int) : p.seekM a s = 0 := by
  unfold Pl.seekM
  rw [scan_none fun j _ => no_copen hby h _ (plc_bd hn a s j).1]
theorem backM_open (hby : ∀ y ∈ p.cells, 0 ≤ y.b ∧ y.b < 256) (h : 0 < p.opensL.length) : p.open_ p.backM = true := by
  unfold Pl.backM
  split
  · next hx => exact open_of_copen hx.1 hx.2.1
  · exact seekM_open hby h _ (.inr rfl)
theorem backM_none (hby : ∀ y ∈ p.cells, 0 ≤ y.b ∧ y.b < 256) (h : p.opensL.length = 0) (hn : 1 ≤ p.n) : p.backM = 0 := by
  unfold Pl.backM
  split
  · next hx => have := no_copen hby h _ hx.1; rw [hx.2.1] at this; cases this
  · exact seekM_none hby h hn _ _
theorem homeM_open (hby : ∀ y ∈ p.cells, 0 ≤ y.b ∧ y.b < 256) (h : 0 < p.opensL.length) : p.open_ p.homeM = true := by
  rw [homeM_eq hby, if_pos h]
  have := (opens_enum hby).at_ h
  exact open_of_copen this.1 this.2.2
theorem homeM_none (hby : ∀ y ∈ p.cells, 0 ≤ y.b ∧ y.b < 256) (h : p.opensL.length = 0) : p.homeM = 0 := by
  rw [homeM_eq hby, if_neg (by omega)]
theorem newlineM_open (hby : ∀ y ∈ p.cells, 0 ≤ y.b ∧ y.b < 256) (h : 0 < p.opensL.length) : p.open_ p.newlineM = true := by
  obtain ⟨i, h0, h1, h2⟩ := some_copen hby h
  have hn : 1 ≤ p.n := by omega
  obtain ⟨y, hy, y0, y1, y2⟩ := scan_hit (f := p.open_) (n := p.n) (m := p.cells.length) hn rfl (a := ((p.cur / p.cols + 1) * p.cols) % p.n) (.inl rfl) (Int.emod_nonneg (i + 1) (by omega)) (Int.emod_lt_of_pos (i + 1) (by omega)) (open_of_copen h0 h2)
  unfold Pl.newlineM
  rw [hy]
  exact y2
theorem look_st (h : 0 ≤ p.lookM 0 1) : ∃ z, p.st z = true := by
  unfold Pl.lookM at h
  split at h
  · cases e : scan p.st p.n 0 1 p.cells.length with
    | none => rw [e] at h; simp at h
    | some y => exact ⟨y, (scan_of_some e).choose_spec.2.2.1⟩
  · omega
theorem newlineM_none (hby : ∀ y ∈ p.cells, 0 ≤ y.b ∧ y.b < 256) (h : p.opensL.length = 0) (hf : 0 ≤ p.lookM 0 1) : p.newlineM = 0 := by
  obtain ⟨z, hz⟩ := look_st hf
  unfold Pl.newlineM
  rw [scan_none fun j _ => open_none (no_copen hby h) hz _]
  rfl
/-- where one of the four goes -/
def Pl.goes (p : Pl) (k : Nat) : Int := if k = 0 then p.seekM p.cur 1 else if k = 1 then p.backM else if k = 2 then p.newlineM else p.homeM
theorem goes_open (hby : ∀ y ∈ p.cells, 0 ≤ y.b ∧ y.b < 256) (h : 0 < p.opensL.length) (k : Nat) : p.open_ (p.goes k) = true := by
  unfold Pl.goes
  split
  · exact seekM_open hby h _ (.inl rfl)
  · split
    · exact backM_open hby h
    · split
      · exact newlineM_open hby h
      · exact homeM_open hby h
theorem goes_none (hby : ∀ y ∈ p.cells, 0 ≤ y.b ∧ y.b < 256) (h : p.opensL.length = 0) (hn : 1 ≤ p.n) (hf : 0 ≤ p.lookM 0 1) (k : Nat) : p.goes k = 0 := by
  unfold Pl.goes
  split
  · exact seekM_none hby h hn _ _
  · split
    · exact backM_none hby h hn
    · split
      · exact newlineM_none hby h hf
      · exact homeM_none hby h
theorem point_self (p : Pl) : p.point p.cur = p := by unfold Pl.point; split <;> rfl
theorem moveM_has (hn : 1 ≤ p.n) (a b : Int) : p.has (p.moveM a b) = true := by
  unfold Pl.has Pl.moveM
  simp
  exact ⟨Int.emod_nonneg _ (by omega), Int.emod_lt_of_pos _ (by omega)⟩
theorem move_back (h : p.Ok) (a b : Int) : (p.point (p.moveM a b)).moveM (-a) (-b) = p.cur := by
  have hn := h.sz.n0
  have hh := moveM_has hn a b
  unfold Pl.moveM at hh ⊢
  rw [point_cur _ _ hh, point_rows, point_cols, point_n, Int.neg_tmod, Int.neg_mul, Int.add_assoc, Int.emod_add_emod]
  rw [show p.cur + Int.tmod a p.rows * p.cols + b + (-(Int.tmod a p.rows * p.cols) + -b) = p.cur by omega]
  exact Int.emod_eq_of_lt h.k0 h.k1
end Go.Proofs.Ytmcfckdgolojlaa
