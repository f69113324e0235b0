/- Chapter 16, plain: what EUA, PT and RA keep. -/
import Derived.Test.YtmcfckdgolojlaaGG
import Derived.Test.YtmcfckdgolojlaaVF
namespace Go.Proofs.Ytmcfckdgolojlaa
set_option linter.unusedVariables false
set_option linter.unusedSimpArgs false
theorem set_by {p : Pl} (hby : ∀ y ∈ p.cells, 0 ≤ y.b ∧ y.b < 256) (i : Int) (x : Cel) (hx : 0 ≤ x.b ∧ x.b < 256) : ∀ y ∈ (p.set i x).cells, 0 ≤ y.b ∧ y.b < 256 := by
  unfold Pl.set
  split
  · intro y hy
    rcases List.mem_or_eq_of_mem_set hy with h | h
    · exact hby y h
    · rw [h]; exact hx
  · exact hby
theorem wipes_at (l : List Int) : ∀ p : Pl, (∀ y ∈ p.cells, 0 ≤ y.b ∧ y.b < 256) → 1 ≤ p.n → Kin p (p.wipes l) ∧ ∀ i, (p.wipes l).at i = if i ∈ l ∧ p.open_ i = true then Cel.zero else p.at i := by
  induction l with
  | nil => exact fun p _ _ => ⟨Kin.refl p, fun i => by rw [if_neg (fun h => absurd h.1 (by simp))]; rfl⟩
  | cons s l ih =>
    intro p hby hn
    by_cases ho : p.open_ s = true
    · have hst := open_st ho
      obtain ⟨s0, s1⟩ := open_in hn ho
      have hh : p.has s = true := by unfold Pl.has; exact decide_eq_true ⟨s0, s1⟩
      have hat : ∀ i, (p.set s Cel.zero).at i = if i = s then Cel.zero else p.at i := fun i => by
        rw [set_atB]
        by_cases e : i = s
        · rw [if_pos ⟨e, hh⟩, if_pos e]
        · rw [if_neg (fun h => e h.1), if_neg e]
      have hk : Kin p (p.set s Cel.zero) := Kin.of hby (set_dims p s Cel.zero).2.2 (fun i => by
        rw [hat]
        by_cases hi : p.st i = true
        · rw [if_pos hi, if_neg (fun e => by rw [e, hst] at hi; cases hi)]
          exact .inl rfl
        · rw [if_neg hi]
          split
          · rfl
          · simpa [Pl.st] using hi)
      obtain ⟨k1, k2⟩ := ih (p.set s Cel.zero) (set_by hby s Cel.zero (by decide)) (by rw [hk.n]; exact hn)
      have hw : p.wipes (s :: l) = (p.set s Cel.zero).wipes l := by unfold Pl.wipes; rw [List.foldl_cons, if_pos ho]
      rw [hw]
      refine ⟨hk.trans k1, fun i => ?_⟩
      rw [k2, hk.open_, hat]
      by_cases hi : i = s
      · rw [if_pos (show i ∈ s :: l ∧ p.open_ i = true from ⟨by simp [hi], by rw [hi]; exact ho⟩), if_pos hi]
        split <;> rfl
      · rw [if_neg hi]
        by_cases hc : i ∈ l ∧ p.open_ i = true
        · rw [if_pos hc, if_pos ⟨by simp [hc.1], hc.2⟩]
        · rw [if_neg hc, if_neg (fun h => hc ⟨by simpa [hi] using h.1, h.2⟩)]
    · have hw : p.wipes (s :: l) = p.wipes l := by unfold Pl.wipes; rw [List.foldl_cons, if_neg ho]
      rw [hw]
      obtain ⟨k1, k2⟩ := ih p hby hn
      refine ⟨k1, fun i => ?_⟩
      rw [k2]
      by_cases hc : i ∈ l ∧ p.open_ i = true
      · rw [if_pos hc, if_pos ⟨by simp [hc.1], hc.2⟩]
      · rw [if_neg hc, if_neg]
        rintro ⟨h1, h2⟩
        rcases List.mem_cons.1 h1 with e | e
        · exact ho (e ▸ h2)
        · exact hc ⟨e, h2⟩
theorem restK_at : ∀ (k : Nat) (p : Pl) (a i : Int), (i < a ∨ p.st i = true) → (p.restK a k).at i = p.at i
  | 0, _, _, _, _ => rfl
  | k + 1, p, a, i, h => by
    unfold Pl.restK
    by_cases hc : a < p.n ∧ p.st a = false
    · rw [if_pos hc]
      have hia : i ≠ a := by
        rintro rfl
        rcases h with h | h
        · omega
        · rw [hc.2] at h; cases h
      have hat : (p.set a Cel.zero).at i = p.at i := by rw [set_atB, if_neg (fun e => hia e.1)]
      rw [restK_at k (p.set a Cel.zero) (a + 1) i (h.elim (fun h => .inl (by omega)) (fun h => .inr (by unfold Pl.st; rw [hat]; exact h))), hat]
    · rw [if_neg hc]
theorem puts_at (x : Cel) (l : List Int) : ∀ p : Pl, ∀ i, i ∈ l → p.has i = true → (p.puts l x).at i = x := by
  have key : ∀ (l : List Int) (p : Pl) (i : Int), p.at i = x → (p.puts l x).at i = x := by
    intro l
    induction l with
    | nil => exact fun p i h => h
    | cons s l ih =>
      intro p i h
      refine ih (p.set s x) i ?_
      rw [set_atB]
      split
      · rfl
      · exact h
  induction l with
  | nil => intro p i h; exact absurd h (by simp)
  | cons s l ih =>
    intro p i h hh
    rcases List.mem_cons.1 h with e | e
    · subst e
      exact key l _ _ (by rw [set_atB, if_pos ⟨rfl, hh⟩])
    · exact ih (p.set s x) i e (by unfold Pl.has at hh ⊢; rw [set_n]; exact hh)
theorem run_eua (p : Pl) (a t : Int) (h : 0 ≤ t ∧ t < p.n) : ((Br.at0 p a).run [⟨18, t, 0, false, [], []⟩]).1.p = p.wipes (btwN p.n a (btwM p.n a t)) ∧ ((Br.at0 p a).run [⟨18, t, 0, false, [], []⟩]).1.at_ = t ∧ ((Br.at0 p a).run [⟨18, t, 0, false, [], []⟩]).2.1 = 1 ∧ ((Br.at0 p a).run [⟨18, t, 0, false, [], []⟩]).2.2 = 0 := by
  have hd : (Br.at0 p a).do ⟨18, t, 0, false, [], []⟩ = ({ (Br.at0 p a).wipe ⟨18, t, 0, false, [], []⟩ with laid := false }, 0) := by
    unfold Br.do Br.act Ord.laid
    simp [Br.at0, h]
  rw [run_ok _ _ (by rw [hd]), hd]
  exact ⟨rfl, rfl, rfl, rfl⟩
theorem run_ra (p : Pl) (a t b : Int) (h : 0 ≤ t ∧ t < p.n) : ((Br.at0 p a).run [⟨60, t, b, false, [], []⟩]).1.p = p.puts (btwN p.n a (btwM p.n a t)) ⟨b, false, false, 0, 0⟩ ∧ ((Br.at0 p a).run [⟨60, t, b, false, [], []⟩]).1.at_ = t ∧ ((Br.at0 p a).run [⟨60, t, b, false, [], []⟩]).2.1 = 1 ∧ ((Br.at0 p a).run [⟨60, t, b, false, [], []⟩]).2.2 = 0 := by
  have hd : (Br.at0 p a).do ⟨60, t, b, false, [], []⟩ = ({ (Br.at0 p a).fill ⟨60, t, b, false, [], []⟩ with laid := false }, 0) := by
    unfold Br.do Br.act Ord.laid
    simp [Br.at0, h]
  rw [run_ok _ _ (by rw [hd]), hd]
  exact ⟨rfl, rfl, rfl, rfl⟩
theorem run_pt (p : Pl) (a b : Int) : ∃ at_ : Int, ((Br.at0 p a).run [⟨0, 0, 0, false, [], [b]⟩, ⟨5, 0, 0, false, [], []⟩]).1.p = (p.set a ⟨b, false, false, 0, 0⟩).restK ((a + 1) % p.n) (p.n - (a + 1) % p.n).toNat ∧ ((Br.at0 p a).run [⟨0, 0, 0, false, [], [b]⟩, ⟨5, 0, 0, false, [], []⟩]).1.at_ = at_ ∧ ((Br.at0 p a).run [⟨0, 0, 0, false, [], [b]⟩, ⟨5, 0, 0, false, [], []⟩]).2.1 = 2 ∧ ((Br.at0 p a).run [⟨0, 0, 0, false, [], [b]⟩, ⟨5, 0, 0, false, [], []⟩]).2.2 = 0 := by
  have hd : (Br.at0 p a).do ⟨0, 0, 0, false, [], [b]⟩ = ({ (Br.at0 p a).data [b] with laid := true }, 0) := by
    unfold Br.do Br.act Ord.laid
    simp
  rw [run_ok _ _ (by rw [hd]), hd]
  obtain ⟨B, hB⟩ : ∃ B : Br, { (Br.at0 p a).data [b] with laid := true } = B := ⟨_, rfl⟩
  have hl : B.laid = true := by rw [← hB]
  have hp : B.p = p.set a ⟨b, false, false, 0, 0⟩ := by rw [← hB]; rfl
  have ha : B.at_ = (a + 1) % p.n := by rw [← hB]; rfl
  have hd2 : B.do ⟨5, 0, 0, false, [], []⟩ = ({ B.tab with laid := false }, 0) := by
    unfold Br.do Br.act Ord.laid
    simp
  simp only [hB]
  rw [run_ok _ _ (by rw [hd2]), hd2]
  refine ⟨_, ?_, rfl, rfl, rfl⟩
  show B.rested.p = _
  unfold Br.rested
  rw [hl, if_pos rfl]
  show B.p.restK B.at_ (B.p.n - B.at_).toNat = _
  rw [hp, ha, set_n]
end Go.Proofs.Ytmcfckdgolojlaa
