/- The decoder: its bytes one by one. -/
import Derived.Test.YtioaenidkieiiaaD5c
namespace Go.Proofs.Ytioaenidkieiiaa
set_option linter.unusedVariables false
set_option linter.unusedSimpArgs false
open Go.RowKit Go.Proofs.YtioaenidkieiiaaW.PrintWords
def Dec.command (d : Dec) (c : Int) : Dec :=
  if c = 255 then d.data c else if c = 250 then { d with at_ := 3, sub := [], long := false } else if 251 ≤ c ∧ c ≤ 254 then { d with at_ := 2, code := c } else if c = 239 then d.emit ⟨2, 0, 0, []⟩ else d.emit ⟨3, c, 0, []⟩
def Dec.begin (d : Dec) (c : Int) : Dec := { d with at_ := 5, opt := c }
def Dec.fault (d : Dec) (o : Int) (c : Int) : Dec := (d.emit ⟨7, 0, o, []⟩).command c
def Dec.end (d : Dec) : Dec := { d with sub := [] }.emit ⟨if d.long then 6 else 5, 0, d.opt, d.sub⟩
def Dec.outside (d : Dec) (c : Int) : Dec := if c = 255 then { d with at_ := 1 } else d.data c
def Dec.first (d : Dec) (c : Int) : Dec := if c = 255 then { d with at_ := 4 } else d.begin c
def Dec.second (d : Dec) (c : Int) : Dec := if c = 255 then d.begin c else d.fault 0 c
def Dec.part (d : Dec) (c : Int) : Dec := if c = 255 then { d with at_ := 6 } else d.keep c
def Dec.last (d : Dec) (c : Int) : Dec := if c = 255 then d.keep c else if c = 240 then d.end else d.fault d.opt c
def Dec.take (d : Dec) (c : Int) : Dec :=
  if d.at_ = 1 then d.command c else if d.at_ = 2 then d.emit ⟨4, d.code, c, []⟩ else if d.at_ = 3 then d.first c else if d.at_ = 4 then d.second c else if d.at_ = 5 then d.part c else if d.at_ = 6 then d.last c else d.outside c
/-- how much is told -/
def Dec.Room (d : Dec) (k : Nat) : Prop := d.out.length ≤ k ∧ (∀ e ∈ d.out, e.bytes.length ≤ 256 + k) ∧ d.sub.length ≤ 256
theorem Dec.Room.le {d : Dec} {k j : Nat} (h : d.Room k) (hk : k ≤ j) : d.Room j := ⟨by have := h.1; omega, fun e he => by have := h.2.1 e he; omega, h.2.2⟩
theorem Dec.Room.emit {d : Dec} {k : Nat} (h : d.Room k) (e : Eo) (he : e.bytes.length ≤ 256) : (d.emit e).Room (k + 1) := by
  refine ⟨?_, fun x hx => ?_, h.2.2⟩
  · simp only [Dec.emit, List.length_append, List.length_singleton]; have := h.1; omega
  · rcases List.mem_append.1 hx with hx | hx
    · have := h.2.1 x hx; omega
    · rw [List.mem_singleton.1 hx]; omega
theorem addD_cases (out : List Eo) (c : Int) : (addD out c = out ++ [⟨1, 0, 0, [c]⟩] ∧ ∀ o e, out = o ++ [e] → e.kind ≠ 1) ∨ ∃ o e, out = o ++ [e] ∧ e.kind = 1 ∧ addD out c = o ++ [{ e with bytes := e.bytes ++ [c] }] := by
  rcases List.eq_nil_or_concat out with rfl | ⟨o, e, rfl⟩
  · exact .inl ⟨rfl, fun o e h => by simp at h⟩
  · rw [List.concat_eq_append]
    by_cases he : e.kind = 1
    · exact .inr ⟨o, e, rfl, he, addD_last o e c he⟩
    · refine .inl ⟨addD_new o e c he, fun o' e' h => ?_⟩
      have := (List.append_inj' h rfl).2
      injection this with this
      rw [← this]; exact he
theorem Dec.Room.data {d : Dec} {k : Nat} (h : d.Room k) (c : Int) : (d.data c).Room (k + 1) := by
  rcases addD_cases d.out c with ⟨h1, _⟩ | ⟨o, e, h1, _, h2⟩
  · refine ⟨?_, fun x hx => ?_, h.2.2⟩
    · simp only [Dec.data, h1, List.length_append, List.length_singleton]; have := h.1; omega
    · simp only [Dec.data, h1] at hx
      rcases List.mem_append.1 hx with hx | hx
      · have := h.2.1 x hx; omega
      · rw [List.mem_singleton.1 hx]; simp only [List.length_singleton]; omega
  · refine ⟨?_, fun x hx => ?_, h.2.2⟩
    · have := h.1
      rw [h1] at this
      simp only [Dec.data, h2, List.length_append, List.length_singleton] at this ⊢; omega
    · simp only [Dec.data, h2] at hx
      rcases List.mem_append.1 hx with hx | hx
      · have := h.2.1 x (by rw [h1]; exact List.mem_append_left _ hx); omega
      · have := h.2.1 e (by rw [h1]; exact List.mem_append_right _ List.mem_cons_self)
        rw [List.mem_singleton.1 hx]
        simp only [List.length_append, List.length_singleton]; omega
theorem Dec.Room.at {d d' : Dec} {k : Nat} (h : d.Room k) (ho : d'.out = d.out) (hs : d'.sub.length ≤ 256) : d'.Room k := ⟨by rw [ho]; exact h.1, by rw [ho]; exact h.2.1, hs⟩
theorem Dec.Room.keep {d : Dec} {k : Nat} (h : d.Room k) (c : Int) : (d.keep c).Room k := by
  unfold Dec.keep
  split
  · exact h.at rfl h.2.2
  · refine h.at rfl ?_
    show (d.sub ++ [c]).length ≤ 256
    rw [List.length_append, List.length_singleton]; omega
theorem Dec.Room.command {d : Dec} {k : Nat} (h : d.Room k) (c : Int) : (d.command c).Room (k + 1) := by
  unfold Dec.command
  repeat' split
  · exact h.data c
  · exact (Dec.Room.at (d' := { d with at_ := 3, sub := [], long := false }) h rfl (Nat.zero_le _)).le (Nat.le_succ k)
  · exact (h.at rfl h.2.2).le (by omega)
  · exact h.emit _ (by simp)
  · exact h.emit _ (by simp)
theorem Dec.Room.take {d : Dec} {k : Nat} (h : d.Room k) (c : Int) : (d.take c).Room (k + 2) := by
  unfold Dec.take Dec.first Dec.second Dec.part Dec.last Dec.outside Dec.fault Dec.begin Dec.end
  repeat' split
  all_goals first
    | exact (h.command c).le (by omega)
    | exact (h.emit _ (by simp)).le (by omega)
    | exact (h.at rfl h.2.2).le (by omega)
    | exact ((h.emit _ (by simp)).command c).le (by omega)
    | exact (h.keep c).le (by omega)
    | exact (h.data c).le (by omega)
    | exact ((Dec.Room.at (d' := { d with sub := [] }) h rfl (by simp)).emit _ h.2.2).le (by omega)

section
variable {W0 W : World} {own : Nat → Prop} {db : Nat} {d : Dec} {vs vo : Value} {ms : List Em} (h : DecAt W0 own db W d vs vo ms)
include h
theorem DecAt.len : ms.length = d.out.length := by rw [← h.evs, List.length_map]
theorem data_any (c : Int) {k : Nat} (hr : d.Room k) (hk : k ≤ 90000) : Calls Try.prog 75 #[.pointer (some ⟨db, 0, none⟩), .int .u8 c] W (DecP W0 own db (d.data c)) := by
  have hl := h.len
  have h1 := hr.1
  have he := h.evs
  rcases addD_cases d.out c with ⟨e1, e2⟩ | ⟨o, e, e1, e2, _⟩
  · exact data_new h c e1 (by omega) (fun ms0 m e3 => e2 (ms0.map Em.e) m.e (by rw [← he, e3, List.map_append]; rfl))
  · rw [e1] at he
    obtain ⟨m0, m1, rfl, e3, e4⟩ := List.map_eq_append_iff.1 he
    obtain ⟨m, rfl, rfl⟩ : ∃ m, m1 = [m] ∧ m.e = e := by
      match m1, e4 with
      | [m], e4 => exact ⟨m, rfl, by simpa using e4⟩
    have h2 := hr.2.1 m.e (by rw [e1]; exact List.mem_append_right _ List.mem_cons_self)
    rw [List.length_append, List.length_singleton] at hl
    exact data_last h c e2 (by omega) (by omega)
theorem emit_nil (e : Eo) (he : e.bytes = []) {k : Nat} (hr : d.Room k) (hk : k ≤ 90000) : Calls Try.prog 68 #[.pointer (some ⟨db, 0, none⟩), .agg #[.int .i64 e.kind, .int .u8 e.code, .int .u8 e.opt, .slice none 0 0]] W (DecP W0 own db (d.emit e)) := by
  have hl := h.len
  have h1 := hr.1
  obtain ⟨kind, code, opt, bytes⟩ := e
  cases he
  exact emit_any h ⟨⟨kind, code, opt, []⟩, none, 0⟩ (by omega) (own_nil _ _ _ _) (fun g e1 => by cases e1)
set_option maxHeartbeats 1000000 in
theorem command_any (c : Int) {k : Nat} (hr : d.Room k) (hk : k ≤ 90000) : Calls Try.prog 67 #[.pointer (some ⟨db, 0, none⟩), .int .u8 c] W (DecP W0 own db (d.command c)) := by
  have hlt := h.blk.lt
  have a0 := h.blk.cell 0
  have f0 := h.blk.free 0
  have a3 := h.blk.cell 3
  have f3 := h.blk.free 3
  have a4 := h.blk.cell 4
  have f4 := h.blk.free 4
  have a1 := h.blk.cell 1
  have f1 := h.blk.free 1
  simp [Dec.cells] at a0 a3 a4 a1
  have H := Lib.hid h
  have HR := Lib.hid hr
  clear h hr
  unfold Dec.command
  by_cases h1 : c = 255
  · subst h1
    go_enter Try.func67, Try.ntmps67
    go_wp2_with fail
    refine (data_any H.out 255 HR.out hk).mono ?_
    rintro e w1 ⟨rfl, vs1, vo1, ms1, h1⟩
    have H1 := Lib.hid h1
    clear h1
    go_wp2_with fail
    go_end0
    exact ⟨rfl, _, _, _, H1.out⟩
  · have b1 : (c == 255) = false := by simpa using h1
    rw [if_neg h1]
    by_cases h2 : c = 250
    · subst h2
      go_enter Try.func67, Try.ntmps67
      go_wp2_with fail
      go_end0
      exact ⟨rfl, _, _, _, H.out.put (d' := { d with at_ := 3, sub := [], long := false }) (((Mut_set db 0 _).trans (Mut_set db 3 _)).trans (Mut_set db 4 _)) (((H.out.blk.store 0 (.int .i64 3)).store 3 (.slice none 0 0)).store 4 (.bool false)) (.inr ⟨rfl, rfl⟩) (.inl ⟨rfl, rfl, rfl⟩)⟩
    · have b2 : (c == 250) = false := by simpa using h2
      rw [if_neg h2]
      by_cases h3 : 251 ≤ c ∧ c ≤ 254
      · rw [if_pos h3]
        have b3 : decide (c ≥ 251) = true := by simpa using h3.1
        have b4 : decide (c ≤ 254) = true := by simpa using h3.2
        clear h1 h2
        obtain ⟨h31, h32⟩ := h3
        go_enter Try.func67, Try.ntmps67
        go_wp2_with fail
        go_end0
        exact ⟨rfl, _, _, _, H.out.put (d' := { d with at_ := 2, code := c }) ((Mut_set db 0 _).trans (Mut_set db 1 _)) ((H.out.blk.store 0 (.int .i64 2)).store 1 (.int .u8 c)) (.inl ⟨rfl, rfl⟩) (.inl ⟨rfl, rfl, rfl⟩)⟩
      · rw [if_neg h3]
        have b3 : (decide (c ≥ 251) = false) ∨ (decide (c ≥ 251) = true ∧ decide (c ≤ 254) = false) := by
          by_cases h4 : 251 ≤ c
          · exact .inr ⟨by simpa using h4, by simp; omega⟩
          · exact .inl (by simpa using h4)
        clear h1 h2 h3
        by_cases h5 : c = 239
        · subst h5
          clear b3
          go_enter Try.func67, Try.ntmps67
          go_wp2_with fail
          refine (emit_nil H.out ⟨2, 0, 0, []⟩ rfl HR.out hk).mono ?_
          rintro e w1 ⟨rfl, vs1, vo1, ms1, h1⟩
          have H1 := Lib.hid h1
          clear h1
          go_wp2_with fail
          go_end0
          exact ⟨rfl, _, _, _, H1.out⟩
        · rw [if_neg h5]
          have b5 : (c == 239) = false := by simpa using h5
          clear h5
          rcases b3 with b3 | ⟨b3, b4⟩
          all_goals
            go_enter Try.func67, Try.ntmps67
            go_wp2_with fail
            refine (emit_nil H.out ⟨3, c, 0, []⟩ rfl HR.out hk).mono ?_
            rintro e w1 ⟨rfl, vs1, vo1, ms1, h1⟩
            have H1 := Lib.hid h1
            clear h1
            go_wp2_with fail
            go_end0
            exact ⟨rfl, _, _, _, H1.out⟩
set_option maxHeartbeats 1000000 in
theorem begin_any (c : Int) : Calls Try.prog 76 #[.pointer (some ⟨db, 0, none⟩), .int .u8 c] W (DecP W0 own db (d.begin c)) := by
  have hlt := h.blk.lt
  have a0 := h.blk.cell 0
  have f0 := h.blk.free 0
  have a2 := h.blk.cell 2
  have f2 := h.blk.free 2
  simp [Dec.cells] at a0 a2
  have H := Lib.hid h
  clear h
  go_enter Try.func76, Try.ntmps76
  go_wp2_with fail
  go_end0
  exact ⟨rfl, _, _, _, H.out.put (d' := { d with at_ := 5, opt := c }) ((Mut_set db 0 _).trans (Mut_set db 2 _)) ((H.out.blk.store 0 (.int .i64 5)).store 2 (.int .u8 c)) (.inl ⟨rfl, rfl⟩) (.inl ⟨rfl, rfl, rfl⟩)⟩
set_option maxHeartbeats 1000000 in
theorem fault_any (b : Bool) (c : Int) {k : Nat} (hr : d.Room k) (hk : k ≤ 80000) : Calls Try.prog 77 #[.pointer (some ⟨db, 0, none⟩), .bool b, .int .u8 c] W (DecP W0 own db (d.fault (if b then d.opt else 0) c)) := by
  have hlt := h.blk.lt
  have a2 := h.blk.cell 2
  simp [Dec.cells] at a2
  have H := Lib.hid h
  have HR := Lib.hid hr
  clear h hr
  cases b
  case false =>
    go_enter Try.func77, Try.ntmps77
    go_wp2_with fail
    refine (emit_nil (H.out.step (Ext_alloc (Ext_refl W))) ⟨7, 0, 0, []⟩ rfl HR.out (by omega)).mono ?_
    rintro e w1 ⟨rfl, vs1, vo1, ms1, h1⟩
    have H1 := Lib.hid h1
    clear h1 a2
    go_wp2_with fail
    refine (command_any H1.out c (HR.out.emit _ (by simp)) (by omega)).mono ?_
    rintro e w2 ⟨rfl, vs2, vo2, ms2, h2⟩
    have H2 := Lib.hid h2
    clear h2
    go_wp2_with fail
    go_end0
    exact ⟨rfl, _, _, _, H2.out⟩
  case true =>
    go_enter Try.func77, Try.ntmps77
    go_wp2_with fail
    refine (emit_nil (H.out.step (Ext_alloc (Ext_refl W))) ⟨7, 0, d.opt, []⟩ rfl HR.out (by omega)).mono ?_
    rintro e w1 ⟨rfl, vs1, vo1, ms1, h1⟩
    have H1 := Lib.hid h1
    clear h1 a2
    go_wp2_with fail
    refine (command_any H1.out c (HR.out.emit _ (by simp)) (by omega)).mono ?_
    rintro e w2 ⟨rfl, vs2, vo2, ms2, h2⟩
    have H2 := Lib.hid h2
    clear h2
    go_wp2_with fail
    go_end0
    exact ⟨rfl, _, _, _, H2.out⟩
end
end Go.Proofs.Ytioaenidkieiiaa
