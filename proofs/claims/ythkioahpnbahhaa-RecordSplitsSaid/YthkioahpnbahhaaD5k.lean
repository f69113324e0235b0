/- The plain law of a subnegotiation: the document's sub, and the decoder. -/
import Derived.Test.YthkioahpnbahhaaD5j
namespace Go.Proofs.Ythkioahpnbahhaa
set_option linter.unusedVariables false
set_option linter.unusedSimpArgs false
open Go.RowKit Go.Proofs.YthkioahpnbahhaaW.PrintWords
theorem Dec.command_at (d : Dec) (x c : Int) : ({ d with at_ := x } : Dec).command c = d.command c := by
  unfold Dec.command Dec.data Dec.emit
  rfl
theorem Dec.takes_cons (d : Dec) (c : Int) (b : List Int) : d.takes (c :: b) = (d.take c).takes b := rfl
theorem take1 {d : Dec} (h : d.at_ = 1) (c : Int) : d.take c = d.command c := by unfold Dec.take; rw [if_pos h]
theorem take3 {d : Dec} (h : d.at_ = 3) (c : Int) : d.take c = d.first c := by unfold Dec.take; rw [if_neg (by omega), if_neg (by omega), if_pos h]
theorem take4 {d : Dec} (h : d.at_ = 4) (c : Int) : d.take c = d.second c := by unfold Dec.take; rw [if_neg (by omega), if_neg (by omega), if_neg (by omega), if_pos h]
theorem take5 {d : Dec} (h : d.at_ = 5) (c : Int) : d.take c = d.part c := by unfold Dec.take; rw [if_neg (by omega), if_neg (by omega), if_neg (by omega), if_neg (by omega), if_pos h]
theorem take6 {d : Dec} (h : d.at_ = 6) (c : Int) : d.take c = d.last c := by unfold Dec.take; rw [if_neg (by omega), if_neg (by omega), if_neg (by omega), if_neg (by omega), if_neg (by omega), if_pos h]
theorem take0 {d : Dec} (h : d.at_ = 0) (c : Int) : d.take c = d.outside c := by unfold Dec.take; rw [if_neg (by omega), if_neg (by omega), if_neg (by omega), if_neg (by omega), if_neg (by omega), if_neg (by omega)]
/-- what the document's sub says, of a decoder that stands at i -/
def SubR (b : List Int) (D : Dec) (i : Nat) (r : Int × Int × Int × List Int × Int) : Prop :=
  (r.2.2.2.2 = 0 ∧ (D.takes (b.drop i)).at_ ≠ 0 ∧ (D.takes (b.drop i)).out = D.out) ∨
  ∃ nxt : Nat, r.2.2.2.2 = nxt ∧ i < nxt ∧ nxt ≤ b.length ∧ (r.1 = 7 → nxt < b.length) ∧ r.2.2.2.1.length ≤ 256 ∧ ∃ E : Dec, E.out = D.out ++ [⟨r.1, r.2.1, r.2.2.1, r.2.2.2.1⟩] ∧ E.at_ = (if r.1 = 7 then 1 else 0) ∧ D.takes (b.drop i) = E.takes (b.drop nxt)
theorem SubR.step {b : List Int} {D D' : Dec} {i j : Nat} {r : Int × Int × Int × List Int × Int} (h : SubR b D' j r) (hij : i ≤ j) (ho : D'.out = D.out) (ht : D.takes (b.drop i) = D'.takes (b.drop j)) : SubR b D i r := by
  rcases h with ⟨h1, h2, h3⟩ | ⟨nxt, h1, h2, h3, h3b, h4, E, h5, h6, h7⟩
  · exact .inl ⟨h1, by rw [ht]; exact h2, by rw [ht, h3, ho]⟩
  · exact .inr ⟨nxt, h1, by omega, h3, h3b, h4, E, by rw [h5, ho], h6, by rw [ht, h7]⟩
theorem drop_cons {b : List Int} {i : Nat} {x : Int} (h : b[i]? = some x) : b.drop i = x :: b.drop (i + 1) := by
  obtain ⟨h1, h2⟩ := List.getElem?_eq_some_iff.1 h
  rw [List.drop_eq_getElem_cons h1, h2]
theorem keep_at {D : Dec} (h : D.at_ = 5) (c : Int) : (D.keep c).at_ = 5 ∧ (D.keep c).out = D.out ∧ (D.keep c).opt = D.opt := by
  unfold Dec.keep
  split
  · exact ⟨rfl, rfl, rfl⟩
  · exact ⟨rfl, rfl, rfl⟩
theorem sub_loop (b : List Int) (hb : b.length ≤ 1000000) : ∀ (d k i : Nat) (D : Dec), b.length < i + d → d < k → i ≤ b.length → D.at_ = 5 → D.sub.length ≤ 256 →
    ∃ r, PIacFeeds.greenscreenref05_sub.l0 k b (i : Int) D.opt (if D.long then 6 else 5) 0 D.opt D.sub = some r ∧ SubR b D i r := by
  intro d
  induction d with
  | zero => intro k i D hi hk hib; omega
  | succ d ih =>
    intro k i D hi hk hib ha hs
    obtain ⟨k, rfl⟩ : ∃ m, k = m + 1 := ⟨k - 1, by omega⟩
    have hw : wrap64 ((i : Int) + 1) = ((i + 1 : Nat) : Int) := by unfold wrap64; omega
    have hw2 : wrap64 (((i + 1 : Nat) : Int) + 1) = ((i + 2 : Nat) : Int) := by unfold wrap64; omega
    simp only [PIacFeeds.greenscreenref05_sub.l0]
    rw [hw, hw2]
    by_cases h1 : i < b.length
    · rw [if_pos (by omega), if_pos (by omega)]
      obtain ⟨x, hx⟩ : ∃ x, b[i]? = some x := ⟨_, List.getElem?_eq_getElem h1⟩
      have hd := drop_cons hx
      rw [rd_get hx]
      by_cases h2 : x = 255
      · subst h2
        rw [if_pos rfl]
        have ht : D.take 255 = { D with at_ := 6 } := by rw [take5 ha]; rfl
        by_cases h3 : i + 1 < b.length
        · rw [if_neg (by omega), if_pos (by omega), if_pos (by omega)]
          obtain ⟨y, hy⟩ : ∃ y, b[i + 1]? = some y := ⟨_, List.getElem?_eq_getElem h3⟩
          have hd2 := drop_cons hy
          rw [rd_get hy]
          have htt : D.takes (b.drop i) = (({ D with at_ := 6 } : Dec).last y).takes (b.drop (i + 2)) := by
            rw [hd, hd2, Dec.takes_cons, ht, Dec.takes_cons, take6 rfl]
          by_cases h4 : y = 240
          · subst h4
            rw [if_pos rfl]
            refine ⟨_, rfl, .inr ⟨i + 2, rfl, by omega, by omega, (fun e => absurd e (by show ¬ (if D.long = true then (6 : Int) else 5) = 7; cases D.long <;> decide)), hs, _, ?_, ?_, htt⟩⟩
            · have h8 : ({ D with at_ := 6 } : Dec).last 240 = ({ D with at_ := 6 } : Dec).end := by unfold Dec.last; rw [if_neg (by omega), if_pos rfl]
              rw [h8]
              rfl
            · have h8 : ({ D with at_ := 6 } : Dec).last 240 = ({ D with at_ := 6 } : Dec).end := by unfold Dec.last; rw [if_neg (by omega), if_pos rfl]
              rw [h8]
              show (0 : Int) = if (if D.long = true then (6 : Int) else 5) = 7 then 1 else 0
              cases D.long <;> rfl
          · rw [if_neg h4]
            by_cases h5 : y = 255
            · subst h5
              rw [if_pos rfl]
              have h7 : ({ D with at_ := 6 } : Dec).last 255 = D.keep 255 := by unfold Dec.last Dec.keep; rfl
              rw [h7] at htt
              by_cases h6 : 256 ≤ D.sub.length
              · rw [if_pos (by omega)]
                have hk1 : D.keep 255 = { D with at_ := 5, long := true } := if_pos h6
                obtain ⟨r, hr, hS⟩ := ih k (i + 2) { D with at_ := 5, long := true } (by omega) (by omega) (by omega) rfl hs
                exact ⟨r, hr, hS.step (by omega) rfl (by rw [htt, hk1])⟩
              · rw [if_neg (by omega), if_pos (by omega)]
                have hk1 : D.keep 255 = { D with at_ := 5, sub := D.sub ++ [255] } := if_neg h6
                obtain ⟨r, hr, hS⟩ := ih k (i + 2) { D with at_ := 5, sub := D.sub ++ [255] } (by omega) (by omega) (by omega) rfl (by show (D.sub ++ [255]).length ≤ 256; rw [List.length_append, List.length_singleton]; omega)
                exact ⟨r, hr, hS.step (by omega) rfl (by rw [htt, hk1])⟩
            · rw [if_neg h5]
              refine ⟨_, rfl, .inr ⟨i + 1, rfl, by omega, by omega, (fun _ => h3), by simp, { (D.emit ⟨7, 0, D.opt, []⟩) with at_ := 1 }, rfl, rfl, ?_⟩⟩
              rw [htt, hd2, Dec.takes_cons, take1 rfl, Dec.command_at]
              have : ({ D with at_ := 6 } : Dec).last y = ({ D with at_ := 6 } : Dec).fault D.opt y := by unfold Dec.last; rw [if_neg h5, if_neg h4]
              rw [this]
              rfl
        · rw [if_pos (by omega)]
          refine ⟨_, rfl, .inl ⟨rfl, ?_, ?_⟩⟩
          · rw [hd, List.drop_of_length_le (by omega), Dec.takes_cons, ht]; simp [Dec.takes]
          · rw [hd, List.drop_of_length_le (by omega), Dec.takes_cons, ht]; rfl
      · rw [if_neg h2]
        have ht : D.take x = D.keep x := by rw [take5 ha]; unfold Dec.part; rw [if_neg h2]
        by_cases h6 : 256 ≤ D.sub.length
        · rw [if_pos (by omega)]
          have hk1 : D.keep x = { D with at_ := 5, long := true } := if_pos h6
          obtain ⟨r, hr, hS⟩ := ih k (i + 1) { D with at_ := 5, long := true } (by omega) (by omega) (by omega) rfl hs
          exact ⟨r, hr, hS.step (by omega) rfl (by rw [hd, Dec.takes_cons, ht, hk1])⟩
        · rw [if_neg (by omega), if_pos (by omega)]
          have hk1 : D.keep x = { D with at_ := 5, sub := D.sub ++ [x] } := if_neg h6
          obtain ⟨r, hr, hS⟩ := ih k (i + 1) { D with at_ := 5, sub := D.sub ++ [x] } (by omega) (by omega) (by omega) rfl (by show (D.sub ++ [x]).length ≤ 256; rw [List.length_append, List.length_singleton]; omega)
          exact ⟨r, hr, hS.step (by omega) rfl (by rw [hd, Dec.takes_cons, ht, hk1])⟩
    · rw [if_neg (by omega)]
      refine ⟨_, rfl, .inl ⟨rfl, ?_, ?_⟩⟩
      · rw [List.drop_of_length_le (by omega)]; simp [Dec.takes, ha]
      · rw [List.drop_of_length_le (by omega)]; rfl
theorem sub_f (b : List Int) (hb : b.length ≤ 1000000) (i : Nat) (D : Dec) (hib : i ≤ b.length) (ha : D.at_ = 3) (hs : D.sub = []) (hl : D.long = false) :
    ∃ r, PIacFeeds.greenscreenref05_sub.f (b.length + 3) b (i : Int) = some r ∧ SubR b D i r := by
  have hw : wrap64 ((i : Int) + 1) = ((i + 1 : Nat) : Int) := by unfold wrap64; omega
  have hw2 : wrap64 (((i + 1 : Nat) : Int) + 1) = ((i + 2 : Nat) : Int) := by unfold wrap64; omega
  unfold PIacFeeds.greenscreenref05_sub.f
  rw [hw, hw2]
  by_cases h1 : i < b.length
  · rw [if_neg (by omega), if_pos (by omega), if_pos (by omega)]
    obtain ⟨x, hx⟩ : ∃ x, b[i]? = some x := ⟨_, List.getElem?_eq_getElem h1⟩
    have hd := drop_cons hx
    rw [rd_get hx]
    by_cases h2 : x = 255
    · subst h2
      rw [if_pos rfl]
      have ht : D.take 255 = { D with at_ := 4 } := by rw [take3 ha]; rfl
      by_cases h3 : i + 1 < b.length
      · rw [if_neg (by omega), if_pos (by omega), if_pos (by omega)]
        obtain ⟨y, hy⟩ : ∃ y, b[i + 1]? = some y := ⟨_, List.getElem?_eq_getElem h3⟩
        have hd2 := drop_cons hy
        rw [rd_get hy]
        have htt : D.takes (b.drop i) = (({ D with at_ := 4 } : Dec).second y).takes (b.drop (i + 2)) := by
          rw [hd, hd2, Dec.takes_cons, ht, Dec.takes_cons, take4 rfl]
        by_cases h5 : y = 255
        · subst h5
          rw [if_pos rfl]
          have h7 : ({ D with at_ := 4 } : Dec).second 255 = { D with at_ := 5, opt := 255 } := rfl
          rw [h7] at htt
          obtain ⟨r, hr, hS⟩ := sub_loop b hb (b.length + 1) (b.length + 2) (i + 2) { D with at_ := 5, opt := 255 } (by omega) (by omega) (by omega) rfl (by show D.sub.length ≤ 256; rw [hs]; simp)
          refine ⟨r, ?_, hS.step (by omega) rfl htt⟩
          rw [← hr]
          simp only [PIacFeeds.greenscreenref05_sub.j0, hs, hl]
          rfl
        · rw [if_neg h5]
          refine ⟨_, rfl, .inr ⟨i + 1, rfl, by omega, by omega, (fun _ => h3), by simp, { (D.emit ⟨7, 0, 0, []⟩) with at_ := 1 }, rfl, rfl, ?_⟩⟩
          rw [htt, hd2, Dec.takes_cons, take1 rfl, Dec.command_at]
          have : ({ D with at_ := 4 } : Dec).second y = ({ D with at_ := 4 } : Dec).fault 0 y := by unfold Dec.second; rw [if_neg h5]
          rw [this]
          rfl
      · rw [if_pos (by omega)]
        refine ⟨_, rfl, .inl ⟨rfl, ?_, ?_⟩⟩
        · rw [hd, List.drop_of_length_le (by omega), Dec.takes_cons, ht]; simp [Dec.takes]
        · rw [hd, List.drop_of_length_le (by omega), Dec.takes_cons, ht]; rfl
    · rw [if_neg h2]
      have ht : D.take x = { D with at_ := 5, opt := x } := by rw [take3 ha]; unfold Dec.first; rw [if_neg h2]; rfl
      obtain ⟨r, hr, hS⟩ := sub_loop b hb (b.length + 1) (b.length + 2) (i + 1) { D with at_ := 5, opt := x } (by omega) (by omega) (by omega) rfl (by show D.sub.length ≤ 256; rw [hs]; simp)
      refine ⟨r, ?_, hS.step (by omega) rfl (by rw [hd, Dec.takes_cons, ht])⟩
      rw [← hr]
      simp only [PIacFeeds.greenscreenref05_sub.j0, hs, hl]
      rfl
  · rw [if_pos (by omega)]
    refine ⟨_, rfl, .inl ⟨rfl, ?_, ?_⟩⟩
    · rw [List.drop_of_length_le (by omega)]; simp [Dec.takes, ha]
    · rw [List.drop_of_length_le (by omega)]; rfl
end Go.Proofs.Ythkioahpnbahhaa
