/- The plain law of chapter 5: what is written is told. -/
import Derived.Test.YthkioahpnbahhaaD5n
namespace Go.Proofs.Ythkioahpnbahhaa
set_option linter.unusedVariables false
set_option linter.unusedSimpArgs false
theorem takes_two (d : Dec) (a c : Int) : d.takes [a, c] = (d.take a).take c := rfl
theorem takes_one (d : Dec) (a : Int) : d.takes [a] = d.take a := rfl
/-- escaped data -/
theorem esc_data (d : Dec) (h0 : d.at_ = 0) (l : List Int) : d.takes (escL l) = { d with out := joinE d.out ⟨1, 0, 0, l⟩ } := by
  suffices h : ∀ (n : Nat) (l : List Int), l.length = n → d.takes (escL l) = { d with out := joinE d.out ⟨1, 0, 0, l⟩ } from h l.length l rfl
  intro n
  induction n with
  | zero =>
    intro l hl
    obtain rfl : l = [] := List.eq_nil_of_length_eq_zero hl
    rw [joinE_nil rfl rfl]
    rfl
  | succ n ih =>
    intro l hl
    rcases List.eq_nil_or_concat l with rfl | ⟨l, c, rfl⟩
    · simp at hl
    · rw [List.concat_eq_append] at hl ⊢
      rw [List.length_append] at hl
      have ihl := ih l (by simpa using hl)
      have e1 : escL (l ++ [c]) = escL l ++ (if c = 255 then [255, 255] else [c]) := by rw [escL_append]; simp [escL]
      have e2 : joinE (joinE d.out ⟨1, 0, 0, l⟩) ⟨1, 0, 0, [c]⟩ = joinE d.out ⟨1, 0, 0, l ++ [c]⟩ := by
        by_cases hn : l = []
        · subst hn; rw [joinE_nil (e := ⟨1, 0, 0, []⟩) rfl rfl]; rfl
        · rw [joinE_two d.out ⟨1, 0, 0, l⟩ ⟨1, 0, 0, [c]⟩ rfl hn rfl (by simp)]
      rw [e1, Dec.takes_append, ihl]
      by_cases h : c = 255
      · subst h
        rw [if_pos rfl, takes_two, take0 (d := { d with out := joinE d.out ⟨1, 0, 0, l⟩ }) h0]
        unfold Dec.outside
        rw [if_pos rfl, take1 rfl]
        unfold Dec.command
        rw [if_pos rfl]
        unfold Dec.data
        dsimp only
        rw [addD_joinE, e2, ← h0]
      · rw [if_neg h, takes_one, take0 (d := { d with out := joinE d.out ⟨1, 0, 0, l⟩ }) h0]
        unfold Dec.outside
        rw [if_neg h]
        unfold Dec.data
        dsimp only
        rw [addD_joinE, e2, ← h0]
/-- escaped bytes of a subnegotiation -/
theorem esc_sub : ∀ (l : List Int) (d : Dec), d.at_ = 5 → d.sub.length ≤ 256 → d.takes (escL l) = { d with sub := (d.sub ++ l).take 256, long := d.long || decide (256 < (d.sub ++ l).length) }
  | [], d, h5, hs => by
    rw [List.append_nil, List.take_of_length_le hs, decide_eq_false (by omega), Bool.or_false]; rfl
  | c :: l, d, h5, hs => by
    have e1 : escL (c :: l) = (if c = 255 then [255, 255] else [c]) ++ escL l := by simp [escL]
    have e2 : d.takes (if c = 255 then [255, 255] else [c]) = d.keep c := by
      by_cases h : c = 255
      · subst h
        rw [if_pos rfl, takes_two, take5 h5]
        unfold Dec.part
        rw [if_pos rfl, take6 rfl]
        unfold Dec.last
        rw [if_pos rfl]
        unfold Dec.keep
        rfl
      · rw [if_neg h, takes_one, take5 h5]
        unfold Dec.part
        rw [if_neg h]
    rw [e1, Dec.takes_append, e2]
    unfold Dec.keep
    by_cases hk : 256 ≤ d.sub.length
    · rw [if_pos hk, esc_sub l { d with at_ := 5, long := true } rfl hs]
      have : d.sub.length = 256 := by omega
      dsimp only
      rw [List.take_append_of_le_length (by omega), List.take_append_of_le_length (by omega), List.length_append, List.length_append, List.length_cons, decide_eq_true (p := 256 < d.sub.length + (l.length + 1)) (by omega), Bool.or_true, Bool.true_or, ← h5]
    · rw [if_neg hk, esc_sub l { d with at_ := 5, sub := d.sub ++ [c] } rfl (by simp; omega)]
      dsimp only
      rw [List.append_assoc, List.singleton_append, ← h5]
theorem tell_takes (d : Dec) (h0 : d.at_ = 0) (o : Int) (l : List Int) : d.takes (tellL o l) = { d with at_ := 0, opt := o, sub := [], long := decide (256 < l.length), out := d.out ++ [⟨if 256 < l.length then 6 else 5, 0, o, l.take 256⟩] } := by
  have e1 : d.takes [255, 250] = { d with at_ := 3, sub := [], long := false } := by
    rw [takes_two, take0 h0]
    unfold Dec.outside
    rw [if_pos rfl, take1 rfl]
    unfold Dec.command
    rfl
  have e2 : ({ d with at_ := 3, sub := [], long := false } : Dec).takes (escL [o]) = { d with at_ := 5, opt := o, sub := [], long := false } := by
    have : escL [o] = if o = 255 then [255, 255] else [o] := by simp [escL]
    rw [this]
    by_cases h : o = 255
    · subst h
      rw [if_pos rfl, takes_two, take3 (d := { d with at_ := 3, sub := [], long := false }) rfl]
      unfold Dec.first
      rw [if_pos rfl, take4 rfl]
      unfold Dec.second
      rw [if_pos rfl]
      rfl
    · rw [if_neg h, takes_one, take3 rfl]
      unfold Dec.first
      rw [if_neg h]
      rfl
  unfold tellL
  have e3 : ({ d with at_ := 5, opt := o, sub := [], long := false } : Dec).takes (escL l) = { d with at_ := 5, opt := o, sub := l.take 256, long := decide (256 < l.length) } := by
    rw [esc_sub l { d with at_ := 5, opt := o, sub := [], long := false } rfl (by simp)]
    simp only [List.nil_append, Bool.false_or]
  rw [Dec.takes_append, Dec.takes_append, Dec.takes_append, e1, e2, e3, takes_two, take5 (d := { d with at_ := 5, opt := o, sub := l.take 256, long := decide (256 < l.length) }) rfl]
  unfold Dec.part
  rw [if_pos rfl, take6 rfl]
  unfold Dec.last
  rw [if_neg (by decide), if_pos rfl]
  unfold Dec.end Dec.emit
  simp only [List.nil_append, Bool.false_or, decide_eq_true_eq]
/-- an event that may be -/
def Plain (e : Ev) : Prop := (e.kind = 1 ∧ e.code = 0 ∧ e.opt = 0) ∨ e = ⟨2, 0, 0, []⟩ ∨ (∃ c, e = ⟨3, c, 0, []⟩ ∧ c ≠ 255 ∧ c ≠ 250 ∧ ¬ (251 ≤ c ∧ c ≤ 254) ∧ c ≠ 239) ∨ (∃ c o, e = ⟨4, c, o, []⟩ ∧ 251 ≤ c ∧ c ≤ 254) ∨ ∃ o l, e = ⟨5, 0, o, l⟩ ∧ l.length ≤ 256
theorem wr1_takes {e : Ev} (h : Plain e) (d : Dec) (h0 : d.at_ = 0) : (d.takes (wr1 e)).at_ = 0 ∧ (d.takes (wr1 e)).out = joinE d.out e := by
  have hb : d.take 255 = { d with at_ := 1 } := by
    rw [take0 h0]
    unfold Dec.outside
    rw [if_pos rfl]
  rcases h with ⟨h1, h2, h3⟩ | rfl | ⟨c, rfl, k1, k2, k3, k4⟩ | ⟨c, o, rfl, k1, k2⟩ | ⟨o, l, rfl, hl⟩
  · obtain ⟨k, c, o, l⟩ := e
    dsimp only at h1 h2 h3
    subst h1; subst h2; subst h3
    have : wr1 ⟨1, 0, 0, l⟩ = escL l := by unfold wr1; rw [if_pos rfl]
    rw [this, esc_data d h0]
    exact ⟨h0, rfl⟩
  · have : wr1 ⟨2, 0, 0, []⟩ = [255, 239] := by unfold wr1; rw [if_neg (show (2 : Int) ≠ 1 by decide), if_pos rfl]
    rw [this, takes_two, hb, take1 rfl, joinE_emit _ _ (show (2 : Int) ≠ 1 by decide)]
    exact ⟨rfl, rfl⟩
  · have : wr1 ⟨3, c, 0, []⟩ = [255, c] := by unfold wr1; rw [if_neg (show (3 : Int) ≠ 1 by decide), if_neg (show (3 : Int) ≠ 2 by decide), if_pos rfl]
    rw [this, takes_two, hb, take1 rfl, joinE_emit _ _ (show (3 : Int) ≠ 1 by decide)]
    unfold Dec.command
    rw [if_neg k1, if_neg k2, if_neg k3, if_neg k4]
    exact ⟨rfl, rfl⟩
  · have : wr1 ⟨4, c, o, []⟩ = [255, c, o] := by unfold wr1; rw [if_neg (show (4 : Int) ≠ 1 by decide), if_neg (show (4 : Int) ≠ 2 by decide), if_neg (show (4 : Int) ≠ 3 by decide), if_pos rfl]
    rw [this, joinE_emit _ _ (show (4 : Int) ≠ 1 by decide)]
    show ((((d.take 255).take c).take o)).at_ = 0 ∧ ((((d.take 255).take c).take o)).out = _
    rw [hb, take1 (d := { d with at_ := 1 }) rfl]
    unfold Dec.command
    rw [if_neg (by omega), if_neg (by omega), if_pos ⟨k1, k2⟩]
    unfold Dec.take
    rw [if_neg (by show (2 : Int) ≠ 1; decide), if_pos rfl]
    exact ⟨rfl, rfl⟩
  · have : wr1 ⟨5, 0, o, l⟩ = tellL o l := by unfold wr1; rw [if_neg (show (5 : Int) ≠ 1 by decide), if_neg (show (5 : Int) ≠ 2 by decide), if_neg (show (5 : Int) ≠ 3 by decide), if_neg (show (5 : Int) ≠ 4 by decide), if_pos rfl]
    rw [this, tell_takes d h0, joinE_emit _ _ (show (5 : Int) ≠ 1 by decide), if_neg (by omega), List.take_of_length_le hl]
    exact ⟨rfl, rfl⟩
theorem write_takes : ∀ (es : List Ev), (∀ e ∈ es, Plain e) → ∀ (d : Dec), d.at_ = 0 → (d.takes (writeL es)).at_ = 0 ∧ (d.takes (writeL es)).out = es.foldl joinE d.out
  | [], _, d, h0 => ⟨h0, rfl⟩
  | e :: es, h, d, h0 => by
    have e1 : writeL (e :: es) = wr1 e ++ writeL es := by simp [writeL]
    obtain ⟨a1, a2⟩ := wr1_takes (h e List.mem_cons_self) d h0
    obtain ⟨b1, b2⟩ := write_takes es (fun x hx => h x (List.mem_cons_of_mem _ hx)) (d.takes (wr1 e)) a1
    rw [e1, Dec.takes_append, List.foldl_cons, ← a2]
    exact ⟨b1, b2⟩
/-- what a decoder may tell -/
def PlainX (e : Ev) : Prop := Plain e ∨ e.kind = 6 ∨ e.kind = 7
structure DOk (d : Dec) : Prop where
  code : d.at_ = 2 → 251 ≤ d.code ∧ d.code ≤ 254
  sub : d.sub.length ≤ 256
  out : ∀ e ∈ d.out, PlainX e
theorem DOk.emit {d : Dec} (h : d.sub.length ≤ 256) (ho : ∀ e ∈ d.out, PlainX e) (e : Ev) (he : PlainX e) : DOk (d.emit e) :=
  ⟨fun h2 => absurd h2 (by show (0 : Int) ≠ 2; decide), h, fun x hx => by
    rcases List.mem_append.1 hx with hx | hx
    · exact ho x hx
    · rw [List.mem_singleton.1 hx]; exact he⟩
theorem DOk.data {d : Dec} (h : d.sub.length ≤ 256) (ho : ∀ e ∈ d.out, PlainX e) (c : Int) : DOk (d.data c) := by
  refine ⟨fun h2 => absurd h2 (by show (0 : Int) ≠ 2; decide), h, fun x hx => ?_⟩
  rcases addD_cases d.out c with ⟨e1, _⟩ | ⟨o, l, e1, e2, e3⟩
  · have hx' : x ∈ addD d.out c := hx
    rw [e1] at hx'
    rcases List.mem_append.1 hx' with hx | hx
    · exact ho x hx
    · rw [List.mem_singleton.1 hx]; exact .inl (.inl ⟨rfl, rfl, rfl⟩)
  · have hx' : x ∈ addD d.out c := hx
    rw [e3] at hx'
    rcases List.mem_append.1 hx' with hx | hx
    · exact ho x (by rw [e1]; exact List.mem_append_left _ hx)
    · rw [List.mem_singleton.1 hx]
      have hl := ho l (by rw [e1]; simp)
      rcases hl with (⟨_, k2, k3⟩ | rfl | ⟨c, rfl, _⟩ | ⟨c, o, rfl, _⟩ | ⟨o, l, rfl, _⟩) | h6 | h7
      · exact .inl (.inl ⟨e2, k2, k3⟩)
      all_goals first | (simp at e2; done) | omega
theorem DOk.command {d : Dec} (h : d.sub.length ≤ 256) (ho : ∀ e ∈ d.out, PlainX e) (c : Int) : DOk (d.command c) := by
  unfold Dec.command
  by_cases h1 : c = 255
  · rw [if_pos h1]; exact DOk.data h ho c
  · by_cases h2 : c = 250
    · rw [if_neg h1, if_pos h2]; exact ⟨fun h => absurd h (by show (3 : Int) ≠ 2; decide), by simp, ho⟩
    · by_cases h3 : 251 ≤ c ∧ c ≤ 254
      · rw [if_neg h1, if_neg h2, if_pos h3]; exact ⟨fun _ => h3, h, ho⟩
      · by_cases h4 : c = 239
        · rw [if_neg h1, if_neg h2, if_neg h3, if_pos h4]; exact DOk.emit h ho _ (.inl (.inr (.inl rfl)))
        · rw [if_neg h1, if_neg h2, if_neg h3, if_neg h4]; exact DOk.emit h ho _ (.inl (.inr (.inr (.inl ⟨c, rfl, h1, h2, h3, h4⟩))))
theorem DOk.fault {d : Dec} (h : d.sub.length ≤ 256) (ho : ∀ e ∈ d.out, PlainX e) (o c : Int) : DOk (d.fault o c) := by
  have := DOk.emit h ho ⟨7, 0, o, []⟩ (.inr (.inr rfl))
  exact DOk.command this.sub this.out c
theorem DOk.keep {d : Dec} (h : d.sub.length ≤ 256) (ho : ∀ e ∈ d.out, PlainX e) (c : Int) : DOk (d.keep c) := by
  unfold Dec.keep
  by_cases h1 : 256 ≤ d.sub.length
  · rw [if_pos h1]; exact ⟨fun h => absurd h (by show (5 : Int) ≠ 2; decide), h, ho⟩
  · rw [if_neg h1]; exact ⟨fun h => absurd h (by show (5 : Int) ≠ 2; decide), by simp; omega, ho⟩
theorem DOk.take {d : Dec} (h : DOk d) (c : Int) : DOk (d.take c) := by
  have hs := h.sub
  have ho := h.out
  unfold Dec.take
  by_cases a1 : d.at_ = 1
  · rw [if_pos a1]; exact DOk.command hs ho c
  rw [if_neg a1]
  by_cases a2 : d.at_ = 2
  · rw [if_pos a2]; exact DOk.emit hs ho _ (.inl (.inr (.inr (.inr (.inl ⟨d.code, c, rfl, h.code a2⟩)))))
  rw [if_neg a2]
  by_cases a3 : d.at_ = 3
  · rw [if_pos a3]
    unfold Dec.first
    by_cases h : c = 255
    · rw [if_pos h]; exact ⟨fun h => absurd h (by show (4 : Int) ≠ 2; decide), hs, ho⟩
    · rw [if_neg h]; exact ⟨fun h => absurd h (by show (5 : Int) ≠ 2; decide), hs, ho⟩
  rw [if_neg a3]
  by_cases a4 : d.at_ = 4
  · rw [if_pos a4]
    unfold Dec.second
    by_cases h : c = 255
    · rw [if_pos h]; exact ⟨fun h => absurd h (by show (5 : Int) ≠ 2; decide), hs, ho⟩
    · rw [if_neg h]; exact DOk.fault hs ho 0 c
  rw [if_neg a4]
  by_cases a5 : d.at_ = 5
  · rw [if_pos a5]
    unfold Dec.part
    by_cases h : c = 255
    · rw [if_pos h]; exact ⟨fun h => absurd h (by show (6 : Int) ≠ 2; decide), hs, ho⟩
    · rw [if_neg h]; exact DOk.keep hs ho c
  rw [if_neg a5]
  by_cases a6 : d.at_ = 6
  · rw [if_pos a6]
    unfold Dec.last
    by_cases h : c = 255
    · rw [if_pos h]; exact DOk.keep hs ho c
    · rw [if_neg h]
      by_cases h2 : c = 240
      · rw [if_pos h2]
        unfold Dec.end
        refine DOk.emit (d := { d with sub := [] }) (by show ([] : List Int).length ≤ 256; decide) ho _ ?_
        cases d.long
        · exact .inl (.inr (.inr (.inr (.inr ⟨d.opt, d.sub, rfl, hs⟩))))
        · exact .inr (.inl rfl)
      · rw [if_neg h2]; exact DOk.fault hs ho d.opt c
  rw [if_neg a6]
  unfold Dec.outside
  by_cases h : c = 255
  · rw [if_pos h]; exact ⟨fun h => absurd h (by show (1 : Int) ≠ 2; decide), hs, ho⟩
  · rw [if_neg h]; exact DOk.data hs ho c
theorem DOk.takes : ∀ (b : List Int) {d : Dec}, DOk d → DOk (d.takes b)
  | [], _, h => h
  | c :: b, _, h => DOk.takes b (h.take c)
theorem all_plain (b : List Int) (h : ∀ e ∈ (Dec.zero.takes b).out, e.kind ≠ 6 ∧ e.kind ≠ 7) : ∀ e ∈ (Dec.zero.takes b).out, Plain e := fun e he => by
  rcases (DOk.takes b (d := Dec.zero) ⟨fun h => absurd h (by show (0 : Int) ≠ 2; decide), by show ([] : List Int).length ≤ 256; simp, fun e he => (by cases he)⟩).out e he with h1 | h1 | h1
  · exact h1
  · exact absurd h1 (h e he).1
  · exact absurd h1 (h e he).2
/-- written, and told again -/
theorem back (b : List Int) (h : ∀ e ∈ (Dec.zero.takes b).out, e.kind ≠ 6 ∧ e.kind ≠ 7) : (Dec.zero.takes (writeL (Dec.zero.takes b).out)).out = (Dec.zero.takes b).out :=
  ((write_takes _ (all_plain b h) Dec.zero rfl).2).trans (all_joined b).1
end Go.Proofs.Ythkioahpnbahhaa
