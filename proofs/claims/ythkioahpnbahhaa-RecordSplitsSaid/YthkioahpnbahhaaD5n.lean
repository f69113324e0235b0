/- The plain law of chapter 5: events joined; what is written is told. -/
import Derived.Test.YthkioahpnbahhaaD5m
namespace Go.Proofs.Ythkioahpnbahhaa
set_option linter.unusedVariables false
set_option linter.unusedSimpArgs false
/-- one more event, data laid together -/
def joinE (out : List Ev) (e : Ev) : List Ev :=
  if e.kind = 1 ∧ e.bytes = [] then out else match out.getLast? with
  | some l => if e.kind = 1 ∧ l.kind = 1 then out.dropLast ++ [{ l with bytes := l.bytes ++ e.bytes }] else out ++ [e]
  | none => out ++ [e]
def joinL (es : List Ev) : List Ev := es.foldl joinE []
/-- data that isn't empty -/
def NE (es : List Ev) : Prop := ∀ e ∈ es, e.kind = 1 → e.bytes ≠ []
theorem joinE_nil {out : List Ev} {e : Ev} (h : e.kind = 1) (hb : e.bytes = []) : joinE out e = out := by unfold joinE; rw [if_pos ⟨h, hb⟩]
theorem joinE_last (o : List Ev) (l e : Ev) (h : e.kind = 1) (hb : e.bytes ≠ []) (hl : l.kind = 1) : joinE (o ++ [l]) e = o ++ [{ l with bytes := l.bytes ++ e.bytes }] := by
  unfold joinE
  rw [if_neg (fun c => hb c.2), List.getLast?_append]
  simp [h, hl]
theorem joinE_new (o : List Ev) (e : Ev) (hb : ¬ (e.kind = 1 ∧ e.bytes = [])) (hl : ∀ o' l, o = o' ++ [l] → ¬ (e.kind = 1 ∧ l.kind = 1)) : joinE o e = o ++ [e] := by
  unfold joinE
  rw [if_neg hb]
  rcases List.eq_nil_or_concat o with rfl | ⟨o', l, rfl⟩
  · rfl
  · rw [List.concat_eq_append, List.getLast?_append]
    have := hl o' l (List.concat_eq_append)
    simp only [List.getLast?_singleton, Option.some_or]
    rw [if_neg this]
theorem joinE_emit (o : List Ev) (e : Ev) (h : e.kind ≠ 1) : joinE o e = o ++ [e] := joinE_new o e (fun c => h c.1) (fun _ _ _ c => h c.1)
/-- the three ways -/
theorem joinE_cases (o : List Ev) (e : Ev) (he : e.kind = 1 → e.bytes ≠ []) : (joinE o e = o ++ [e] ∧ ∀ o' l, o = o' ++ [l] → ¬ (e.kind = 1 ∧ l.kind = 1)) ∨ ∃ o' l, o = o' ++ [l] ∧ e.kind = 1 ∧ l.kind = 1 ∧ joinE o e = o' ++ [{ l with bytes := l.bytes ++ e.bytes }] := by
  rcases List.eq_nil_or_concat o with rfl | ⟨o', l, rfl⟩
  · have h : ∀ o' l, ([] : List Ev) = o' ++ [l] → ¬ (e.kind = 1 ∧ l.kind = 1) := by intro o' l h; simp at h
    exact .inl ⟨joinE_new [] e (fun c => he c.1 c.2) h, h⟩
  · rw [List.concat_eq_append]
    by_cases hc : e.kind = 1 ∧ l.kind = 1
    · exact .inr ⟨o', l, rfl, hc.1, hc.2, joinE_last o' l e hc.1 (he hc.1) hc.2⟩
    · have h : ∀ o1 l1, o' ++ [l] = o1 ++ [l1] → ¬ (e.kind = 1 ∧ l1.kind = 1) := by
        intro o1 l1 h
        have h2 := List.append_inj' h rfl
        have := h2.2
        simp at this
        subst this
        exact hc
      exact .inl ⟨joinE_new _ e (fun c => he c.1 c.2) h, h⟩
theorem joinE_NE {o : List Ev} {e : Ev} (h : NE o) (he : e.kind = 1 → e.bytes ≠ []) : NE (joinE o e) := by
  rcases joinE_cases o e he with ⟨h1, _⟩ | ⟨o', l, h1, h2, h3, h4⟩
  · rw [h1]
    intro x hx
    rcases List.mem_append.1 hx with hx | hx
    · exact h x hx
    · rw [List.mem_singleton.1 hx]; exact he
  · rw [h4]
    intro x hx
    rcases List.mem_append.1 hx with hx | hx
    · exact h x (by rw [h1]; exact List.mem_append_left _ hx)
    · rw [List.mem_singleton.1 hx]
      intro _ hb
      have := he h2
      simp at hb
      exact this hb.2
theorem joinE_two (X : List Ev) (e f : Ev) (he : e.kind = 1) (hb : e.bytes ≠ []) (hf : f.kind = 1) (hfb : f.bytes ≠ []) : joinE (joinE X e) f = joinE X { e with bytes := e.bytes ++ f.bytes } := by
  have hb2 : ({ e with bytes := e.bytes ++ f.bytes } : Ev).bytes ≠ [] := by simp [hb]
  rcases List.eq_nil_or_concat X with rfl | ⟨o, l, rfl⟩
  · rw [joinE_new [] e (fun c => hb c.2) (by intro o' l h; simp at h), joinE_new [] _ (fun c => hb2 c.2) (by intro o' l h; simp at h), joinE_last [] e f hf hfb he]
  · rw [List.concat_eq_append]
    by_cases hl : l.kind = 1
    · rw [joinE_last o l e he hb hl, joinE_last o l _ (by exact he) hb2 hl, joinE_last o _ f hf hfb (by exact hl)]
      simp
    · have h : ∀ o1 l1, o ++ [l] = o1 ++ [l1] → ¬ ((1 : Int) = 1 ∧ l1.kind = 1) := by
        intro o1 l1 h
        have := (List.append_inj' h rfl).2
        simp at this
        subst this
        exact fun c => hl c.2
      rw [joinE_new _ e (fun c => hb c.2) (by rw [he]; exact h), joinE_new _ { e with bytes := e.bytes ++ f.bytes } (fun c => hb2 c.2) (by intro o1 l1 h1; exact fun c => h o1 l1 h1 ⟨rfl, c.2⟩), joinE_last _ e f hf hfb he]
/-- one more, then joined behind X -/
theorem joinE_fold (X o : List Ev) (e : Ev) (ho : NE o) (he : e.kind = 1 → e.bytes ≠ []) : (joinE o e).foldl joinE X = joinE (o.foldl joinE X) e := by
  rcases joinE_cases o e he with ⟨h1, _⟩ | ⟨o', l, h1, h2, h3, h4⟩
  · rw [h1, List.foldl_append]; rfl
  · rw [h4, h1, List.foldl_append, List.foldl_append]
    show joinE (o'.foldl joinE X) { l with bytes := l.bytes ++ e.bytes } = joinE (joinE (o'.foldl joinE X) l) e
    rw [joinE_two _ l e h3 (ho l (by rw [h1]; simp) h3) h2 (he h2)]
theorem joinF (X : List Ev) : ∀ (es o : List Ev), NE o → NE es → (es.foldl joinE o).foldl joinE X = es.foldl joinE (o.foldl joinE X) ∧ NE (es.foldl joinE o)
  | [], o, ho, _ => ⟨rfl, ho⟩
  | e :: es, o, ho, hes => by
    have he := hes e List.mem_cons_self
    obtain ⟨h1, h2⟩ := joinF X es (joinE o e) (joinE_NE ho he) (fun x hx => hes x (List.mem_cons_of_mem _ hx))
    refine ⟨?_, h2⟩
    rw [List.foldl_cons, h1, joinE_fold X o e ho he]
    rfl
theorem NE_nil : NE [] := fun e he => (by cases he)
/-- what is joined stays so -/
theorem joinL_joined {es : List Ev} (h : NE es) : joinL (joinL es) = joinL es := (joinF [] es [] NE_nil h).1
theorem addD_joinE (o : List Ev) (c : Int) : addD o c = joinE o ⟨1, 0, 0, [c]⟩ := by
  rcases List.eq_nil_or_concat o with rfl | ⟨o', l, rfl⟩
  · rfl
  · rw [List.concat_eq_append]
    by_cases hl : l.kind = 1
    · rw [addD_last _ _ _ hl, joinE_last _ _ _ rfl (by simp) hl]
    · rw [addD_new _ _ _ hl, joinE_new _ _ (by simp) (by
        intro o1 l1 h
        have := (List.append_inj' h rfl).2
        simp at this
        subst this
        exact fun c => hl c.2)]
/-- what one byte does: a decoder's core, and events laid behind -/
def TakeA (d : Dec) (c : Int) : Prop := ∃ (d' : Dec) (es : List Ev), NE es ∧ ∀ out, ({ d with out := out } : Dec).take c = { d' with out := es.foldl joinE out }
theorem NE1 {e : Ev} (h : e.kind = 1 → e.bytes ≠ []) : NE [e] := fun x hx => by rw [List.mem_singleton.1 hx]; exact h
theorem data_eq (d : Dec) (c : Int) (out : List Ev) : ({ d with out := out } : Dec).data c = { d with at_ := 0, out := [(⟨1, 0, 0, [c]⟩ : Ev)].foldl joinE out } := by
  unfold Dec.data
  rw [addD_joinE]
  rfl
theorem emit_eq (d : Dec) (e : Ev) (h : e.kind ≠ 1) (out : List Ev) : ({ d with out := out } : Dec).emit e = { d with at_ := 0, out := [e].foldl joinE out } := by
  unfold Dec.emit
  rw [List.foldl_cons, List.foldl_nil, joinE_emit _ _ h]
def CmdA (d : Dec) (c : Int) : Prop := ∃ (d' : Dec) (es : List Ev), NE es ∧ ∀ out, ({ d with out := out } : Dec).command c = { d' with out := es.foldl joinE out }
theorem command_acts (d : Dec) (c : Int) : CmdA d c := by
  unfold CmdA
  unfold Dec.command
  by_cases h1 : c = 255
  · exact ⟨{ d with at_ := 0 }, [⟨1, 0, 0, [c]⟩], NE1 (by simp), fun out => by rw [if_pos h1, data_eq]⟩
  · by_cases h2 : c = 250
    · exact ⟨{ d with at_ := 3, sub := [], long := false }, [], NE_nil, fun out => by rw [if_neg h1, if_pos h2]; rfl⟩
    · by_cases h3 : 251 ≤ c ∧ c ≤ 254
      · exact ⟨{ d with at_ := 2, code := c }, [], NE_nil, fun out => by rw [if_neg h1, if_neg h2, if_pos h3]; rfl⟩
      · by_cases h4 : c = 239
        · exact ⟨{ d with at_ := 0 }, [⟨2, 0, 0, []⟩], NE1 (by simp), fun out => by rw [if_neg h1, if_neg h2, if_neg h3, if_pos h4, emit_eq _ _ (by simp)]⟩
        · exact ⟨{ d with at_ := 0 }, [⟨3, c, 0, []⟩], NE1 (by simp), fun out => by rw [if_neg h1, if_neg h2, if_neg h3, if_neg h4, emit_eq _ _ (by simp)]⟩
theorem fault_acts (d : Dec) (o c : Int) : ∃ (d' : Dec) (es : List Ev), NE es ∧ ∀ out, ({ d with out := out } : Dec).fault o c = { d' with out := es.foldl joinE out } := by
  obtain ⟨d', es, h1, h2⟩ := command_acts { d with at_ := 0 } c
  refine ⟨d', ⟨7, 0, o, []⟩ :: es, fun x hx => ?_, fun out => ?_⟩
  · rcases List.mem_cons.1 hx with rfl | hx
    · simp
    · exact h1 x hx
  · unfold Dec.fault
    rw [emit_eq _ _ (by simp), h2 _]
    rfl
theorem take_acts (d : Dec) (c : Int) : TakeA d c := by
  unfold TakeA
  by_cases a1 : d.at_ = 1
  · obtain ⟨d', es, h1, h2⟩ := command_acts d c
    exact ⟨d', es, h1, fun out => by rw [take1 (d := { d with out := out }) a1]; exact h2 out⟩
  · by_cases a2 : d.at_ = 2
    · exact ⟨{ d with at_ := 0 }, [⟨4, d.code, c, []⟩], NE1 (by simp), fun out => by unfold Dec.take; rw [if_neg a1, if_pos a2, emit_eq _ _ (by simp)]⟩
    · by_cases a3 : d.at_ = 3
      · by_cases h : c = 255
        · exact ⟨{ d with at_ := 4 }, [], NE_nil, fun out => by rw [take3 (d := { d with out := out }) a3]; unfold Dec.first; rw [if_pos h]; rfl⟩
        · exact ⟨{ d with at_ := 5, opt := c }, [], NE_nil, fun out => by rw [take3 (d := { d with out := out }) a3]; unfold Dec.first; rw [if_neg h]; rfl⟩
      · by_cases a4 : d.at_ = 4
        · by_cases h : c = 255
          · exact ⟨{ d with at_ := 5, opt := c }, [], NE_nil, fun out => by rw [take4 (d := { d with out := out }) a4]; unfold Dec.second; rw [if_pos h]; rfl⟩
          · obtain ⟨d', es, h1, h2⟩ := fault_acts d 0 c
            exact ⟨d', es, h1, fun out => by rw [take4 (d := { d with out := out }) a4]; unfold Dec.second; rw [if_neg h]; exact h2 out⟩
        · have keepA : ∃ (d' : Dec), ∀ out, ({ d with out := out } : Dec).keep c = { d' with out := out } := by
            by_cases h : d.sub.length ≥ 256
            · exact ⟨{ d with at_ := 5, long := true }, fun out => by unfold Dec.keep; dsimp only; rw [if_pos h]⟩
            · exact ⟨{ d with at_ := 5, sub := d.sub ++ [c] }, fun out => by unfold Dec.keep; dsimp only; rw [if_neg h]⟩
          by_cases a5 : d.at_ = 5
          · by_cases h : c = 255
            · exact ⟨{ d with at_ := 6 }, [], NE_nil, fun out => by rw [take5 (d := { d with out := out }) a5]; unfold Dec.part; rw [if_pos h]; rfl⟩
            · obtain ⟨d', hk⟩ := keepA
              exact ⟨d', [], NE_nil, fun out => by rw [take5 (d := { d with out := out }) a5]; unfold Dec.part; rw [if_neg h]; exact hk out⟩
          · by_cases a6 : d.at_ = 6
            · by_cases h : c = 255
              · obtain ⟨d', hk⟩ := keepA
                exact ⟨d', [], NE_nil, fun out => by rw [take6 (d := { d with out := out }) a6]; unfold Dec.last; rw [if_pos h]; exact hk out⟩
              · by_cases h2 : c = 240
                · exact ⟨{ d with at_ := 0, sub := [] }, [⟨if d.long then 6 else 5, 0, d.opt, d.sub⟩], NE1 (by cases d.long <;> simp), fun out => by
                    rw [take6 (d := { d with out := out }) a6]; unfold Dec.last; rw [if_neg h, if_pos h2]; unfold Dec.end
                    exact emit_eq { d with sub := [] } _ (by show (if d.long = true then (6 : Int) else 5) ≠ 1; cases d.long <;> simp) out⟩
                · obtain ⟨d', es, e1, e2⟩ := fault_acts d d.opt c
                  exact ⟨d', es, e1, fun out => by rw [take6 (d := { d with out := out }) a6]; unfold Dec.last; rw [if_neg h, if_neg h2]; exact e2 out⟩
            · have ht : ∀ out, ({ d with out := out } : Dec).take c = ({ d with out := out } : Dec).outside c := fun out => by
                unfold Dec.take; rw [if_neg a1, if_neg a2, if_neg a3, if_neg a4, if_neg a5, if_neg a6]
              by_cases h : c = 255
              · exact ⟨{ d with at_ := 1 }, [], NE_nil, fun out => by rw [ht]; unfold Dec.outside; rw [if_pos h]; rfl⟩
              · exact ⟨{ d with at_ := 0 }, [⟨1, 0, 0, [c]⟩], NE1 (by simp), fun out => by rw [ht]; unfold Dec.outside; rw [if_neg h, data_eq]⟩
theorem takes_acts : ∀ (b : List Int) (d : Dec), ∃ (d' : Dec) (es : List Ev), NE es ∧ ∀ out, ({ d with out := out } : Dec).takes b = { d' with out := es.foldl joinE out }
  | [], d => ⟨d, [], NE_nil, fun out => rfl⟩
  | c :: b, d => by
    obtain ⟨d1, es1, n1, h1⟩ := take_acts d c
    obtain ⟨d2, es2, n2, h2⟩ := takes_acts b d1
    refine ⟨d2, es1 ++ es2, fun x hx => ?_, fun out => ?_⟩
    · rcases List.mem_append.1 hx with hx | hx
      · exact n1 x hx
      · exact n2 x hx
    · rw [Dec.takes_cons, h1, h2, List.foldl_append]
/-- what is told is joined -/
theorem all_joined (b : List Int) : joinL (Dec.zero.takes b).out = (Dec.zero.takes b).out ∧ NE (Dec.zero.takes b).out := by
  obtain ⟨d', es, h1, h2⟩ := takes_acts b Dec.zero
  have h := h2 []
  have e : (Dec.zero.takes b).out = es.foldl joinE [] := by rw [show Dec.zero.takes b = _ from h]
  rw [e]
  exact ⟨joinL_joined h1, (joinF [] es [] NE_nil h1).2⟩
/-- a part more -/
theorem cut_step (b p : List Int) (parts : List Ev) (h : joinL parts = joinL (Dec.zero.takes b).out) :
    joinL (parts ++ (({ Dec.zero.takes b with out := [] } : Dec).takes p).out) = joinL (Dec.zero.takes (b ++ p)).out ∧ ({ ({ Dec.zero.takes b with out := [] } : Dec).takes p with out := [] } : Dec) = { Dec.zero.takes (b ++ p) with out := [] } := by
  obtain ⟨d', es, h1, h2⟩ := takes_acts p (Dec.zero.takes b)
  have ha := h2 []
  have hb := h2 (Dec.zero.takes b).out
  have e1 : (Dec.zero.takes b).takes p = { d' with out := es.foldl joinE (Dec.zero.takes b).out } := hb
  rw [Dec.takes_append, e1, ha]
  refine ⟨?_, rfl⟩
  unfold joinL at *
  rw [List.foldl_append, h]
  show (es.foldl joinE []).foldl joinE ((Dec.zero.takes b).out.foldl joinE []) = (es.foldl joinE (Dec.zero.takes b).out).foldl joinE []
  rw [(joinF _ es [] NE_nil h1).1, (joinF [] es _ (all_joined b).2 h1).1]
  rfl
end Go.Proofs.Ythkioahpnbahhaa
