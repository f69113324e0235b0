/- Chapter 16, plain: as many bytes as there are cells. -/
import Derived.Test.YtmcfckdgolojlaaGF
namespace Go.Proofs.Ytmcfckdgolojlaa
set_option linter.unusedVariables false
set_option linter.unusedSimpArgs false
theorem has_ltB {p : Pl} {i : Int} (h : p.has i = true) : 0 ≤ i ∧ i < p.n := by simpa [Pl.has] using h
theorem set_atB (p : Pl) (s : Int) (y : Cel) (i : Int) : (p.set s y).at i = if i = s ∧ p.has s = true then y else p.at i := by
  unfold Pl.set
  by_cases h : p.has s = true
  · rw [if_pos h]
    obtain ⟨h0, h1⟩ := has_ltB h
    obtain ⟨k, rfl⟩ := Int.eq_ofNat_of_zero_le h0
    have hn : ({ p with cells := p.cells.set (k : Int).toNat y } : Pl).n = p.n := by unfold Pl.n; simp
    by_cases hi : i = (k : Int)
    · subst hi
      have hk : k < p.cells.length := by unfold Pl.n at h1; omega
      rw [if_pos ⟨rfl, h⟩]
      unfold Pl.at
      rw [hn, if_pos ⟨h0, h1⟩]
      simp [hk]
    · have e0 : (if i = (k : Int) ∧ p.has (k : Int) = true then y else p.at i) = p.at i := if_neg (fun e => hi e.1)
      rw [e0]
      unfold Pl.at
      rw [hn]
      by_cases hb : 0 ≤ i ∧ i < p.n
      · rw [if_pos hb, if_pos hb]
        have : k ≠ i.toNat := by omega
        simp [List.getElem?_set, this]
      · rw [if_neg hb, if_neg hb]
  · rw [if_neg h, if_neg (fun e => h e.2)]
def byt (b : Int) (i : Nat) : Int := (b + (i : Int)) % 256
def dat (b : Int) (k : Nat) : List Int := (List.range k).map (byt b)
theorem dat_succ (b : Int) (k : Nat) : dat b (k + 1) = dat b k ++ [byt b k] := by unfold dat; rw [List.range_succ, List.map_append]; rfl
theorem dat_len (b : Int) (k : Nat) : (dat b k).length = k := by simp [dat]
theorem data_snoc1 (b : Br) (l : List Int) (x : Int) : b.data (l ++ [x]) = (b.data l).lay ((b.data l).char x false) := by unfold Br.data; rw [List.foldl_append]; rfl
theorem has_mod {p : Pl} (hn : 1 ≤ p.n) (a : Int) : p.has (a % p.n) = true := by
  unfold Pl.has
  exact decide_eq_true ⟨Int.emod_nonneg _ (by omega), Int.emod_lt_of_pos _ (by omega)⟩
theorem mod_ne {a n : Int} (hn : 1 ≤ n) {i k : Nat} (h : i < k) (hk : (k : Int) < n) : (a + (i : Int)) % n ≠ (a + (k : Int)) % n := by
  intro e
  have h1 := Int.emod_emod_of_dvd (a + (k : Int) - (a + (i : Int))) (Int.dvd_refl n)
  have h2 : ((a + (k : Int)) - (a + (i : Int))) % n = 0 := by rw [Int.sub_emod, e, Int.sub_self, Int.zero_emod]
  have h3 : (a + (k : Int)) - (a + (i : Int)) = ((k : Int) - (i : Int)) := by omega
  rw [h3, Int.emod_eq_of_lt (by omega) (by omega)] at h2
  omega
theorem data_round (Q : Pl) (a b : Int) (hn : 1 ≤ Q.n) (h0 : 0 ≤ a) (h1 : a < Q.n) : ∀ k : Nat, (k : Int) ≤ Q.n →
    ((Br.at0 Q a).data (dat b k)).at_ = (a + (k : Int)) % Q.n ∧ ((Br.at0 Q a).data (dat b k)).p.n = Q.n ∧ ((Br.at0 Q a).data (dat b k)).p.cur = Q.cur ∧
    ∀ i : Nat, i < k → ((Br.at0 Q a).data (dat b k)).p.at ((a + (i : Int)) % Q.n) = ⟨byt b i, false, false, 0, 0⟩ := by
  intro k
  induction k with
  | zero => exact fun _ => ⟨by simp only [dat, List.range_zero, List.map_nil, Br.data, List.foldl_nil, Br.at0, Int.natCast_zero, Int.add_zero]; exact (Int.emod_eq_of_lt h0 h1).symm, rfl, rfl, fun i h => absurd h (by omega)⟩
  | succ k ih =>
    intro hk
    obtain ⟨e1, e2, e3, e4⟩ := ih (by omega)
    have e5 : ((Br.at0 Q a).data (dat b k)).look = Cel.zero := data_look _ _
    rw [dat_succ, data_snoc1]
    generalize (Br.at0 Q a).data (dat b k) = B at *
    unfold Br.lay Br.char
    simp only
    rw [e1, e2, e5]
    have hh : B.p.has ((a + (k : Int)) % Q.n) = true := by rw [← e2]; exact has_mod (by omega) _
    refine ⟨?_, (set_n _ _ _).trans e2, ?_, fun i hi => ?_⟩
    · rw [Int.emod_add_emod]
      push_cast
      rw [Int.add_assoc]
    · unfold Pl.set
      split
      · exact e3
      · exact e3
    · rw [set_atB]
      by_cases hik : i = k
      · subst hik
        rw [if_pos ⟨rfl, hh⟩]
        rfl
      · rw [if_neg (fun h => mod_ne hn (show i < k by omega) (by omega) h.1)]
        exact e4 i (by omega)
theorem run_data (Q : Pl) (a b : Int) (l : List Int) : (Br.at0 Q a).run [⟨0, 0, 0, false, [], l⟩] = ({ (Br.at0 Q a).data l with laid := decide (0 < l.length) }, 1, 0) := by
  rw [run_ok _ _ (by unfold Br.do Br.act; rw [if_pos rfl])]
  unfold Br.do Br.act Ord.laid
  rw [if_pos rfl]
  simp [Br.run]
theorem run_77 (Q : Pl) (a b : Int) (m : List Ord) : (Br.at0 Q a).run (⟨119, 0, 0, false, [], []⟩ :: m) = (Br.at0 Q a, 0, 31) := by
  have h : (Br.at0 Q a).do ⟨119, 0, 0, false, [], []⟩ = (Br.at0 Q a, 31) := by unfold Br.do Br.act; simp
  rw [run_bad _ _ (by rw [h]; show (31 : Int) ≠ 0; decide), h]
end Go.Proofs.Ytmcfckdgolojlaa
