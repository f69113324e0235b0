/- How many bytes a decoder's events are; an event that may be. -/
import Derived.Test.YthkioahpnbahhaaD5v
namespace Go.Proofs.Ythkioahpnbahhaa
set_option linter.unusedVariables false
set_option linter.unusedSimpArgs false
open Go.RowKit Go.Proofs.YthkioahpnbahhaaW.PrintWords
theorem writeL_snoc (es : List Ev) (e : Ev) : writeL (es ++ [e]) = writeL es ++ wr1 e := by simp [writeL]
theorem tellL_length (o : Int) (l : List Int) : (tellL o l).length ≤ 6 + 2 * l.length := by
  have h1 := escL_length [o]
  have h2 := escL_length l
  simp only [List.length_singleton] at h1
  unfold tellL
  simp only [List.length_append, List.length_cons, List.length_nil]
  omega
theorem wr1_length (e : Ev) : (wr1 e).length ≤ 6 + 2 * e.bytes.length := by
  have h1 := escL_length e.bytes
  have h2 := tellL_length e.opt e.bytes
  unfold wr1
  by_cases c1 : e.kind = 1
  · rw [if_pos c1]; omega
  rw [if_neg c1]
  by_cases c2 : e.kind = 2
  · rw [if_pos c2]; simp only [List.length_cons, List.length_nil]; omega
  rw [if_neg c2]
  by_cases c3 : e.kind = 3
  · rw [if_pos c3]; simp only [List.length_cons, List.length_nil]; omega
  rw [if_neg c3]
  by_cases c4 : e.kind = 4
  · rw [if_pos c4]; simp only [List.length_cons, List.length_nil]; omega
  rw [if_neg c4]
  by_cases c5 : e.kind = 5
  · rw [if_pos c5]; exact h2
  rw [if_neg c5]
  by_cases c6 : e.kind = 6
  · rw [if_pos c6]; exact h2
  rw [if_neg c6]
  simp
theorem writeL_length (B : Nat) : ∀ es : List Ev, (∀ e ∈ es, e.bytes.length ≤ B) → (writeL es).length ≤ es.length * (6 + 2 * B)
  | [], _ => Nat.zero_le _
  | e :: es, h => by
    have h1 := wr1_length e
    have h2 := h e List.mem_cons_self
    have h3 := writeL_length B es (fun x hx => h x (List.mem_cons_of_mem _ hx))
    have e1 : writeL (e :: es) = wr1 e ++ writeL es := by simp [writeL]
    rw [e1, List.length_append, List.length_cons, Nat.succ_mul]
    omega
/-- what is told, and what is kept of a subnegotiation, as bytes -/
def Dec.wt (d : Dec) : Nat := (writeL d.out).length + 2 * d.sub.length
theorem wt_emit (d : Dec) (e : Ev) (n : Nat) (h : (wr1 e).length ≤ n) : (d.emit e).wt ≤ d.wt + n := by
  unfold Dec.wt Dec.emit
  dsimp only
  rw [writeL_snoc, List.length_append]
  omega
theorem wt_data (d : Dec) (c : Int) : (d.data c).wt ≤ d.wt + 2 := by
  have h1 := escL_length [c]
  simp only [List.length_singleton] at h1
  unfold Dec.wt Dec.data
  dsimp only
  rcases addD_cases d.out c with ⟨e1, _⟩ | ⟨o, l, e1, e2, e3⟩
  · rw [e1, writeL_snoc, List.length_append]
    have : wr1 ⟨1, 0, 0, [c]⟩ = escL [c] := by unfold wr1; rw [if_pos rfl]
    rw [this]
    omega
  · rw [e3, e1, writeL_snoc, writeL_snoc, List.length_append, List.length_append]
    have k1 : wr1 { l with bytes := l.bytes ++ [c] } = escL l.bytes ++ escL [c] := by unfold wr1; rw [if_pos (by exact e2), escL_append]
    have k2 : wr1 l = escL l.bytes := by unfold wr1; rw [if_pos e2]
    rw [k1, k2, List.length_append]
    omega
theorem wt_command (d : Dec) (c : Int) : (d.command c).wt ≤ d.wt + 3 := by
  unfold Dec.command
  by_cases h1 : c = 255
  · rw [if_pos h1]; have := wt_data d c; omega
  rw [if_neg h1]
  by_cases h2 : c = 250
  · rw [if_pos h2]; unfold Dec.wt; simp; omega
  rw [if_neg h2]
  by_cases h3 : 251 ≤ c ∧ c ≤ 254
  · rw [if_pos h3]; unfold Dec.wt; simp
  rw [if_neg h3]
  by_cases h4 : c = 239
  · rw [if_pos h4]; exact wt_emit d _ 3 (by unfold wr1; rw [if_neg (show (2 : Int) ≠ 1 by decide), if_pos rfl]; simp)
  rw [if_neg h4]
  exact wt_emit d _ 3 (by unfold wr1; rw [if_neg (show (3 : Int) ≠ 1 by decide), if_neg (show (3 : Int) ≠ 2 by decide), if_pos rfl]; simp)
theorem wt_fault (d : Dec) (o c : Int) : (d.fault o c).wt ≤ d.wt + 3 := by
  unfold Dec.fault
  have h1 := wt_command (d.emit ⟨7, 0, o, []⟩) c
  have h2 := wt_emit d ⟨7, 0, o, []⟩ 0 (by
    unfold wr1
    rw [if_neg (show (7 : Int) ≠ 1 by decide), if_neg (show (7 : Int) ≠ 2 by decide), if_neg (show (7 : Int) ≠ 3 by decide), if_neg (show (7 : Int) ≠ 4 by decide), if_neg (show (7 : Int) ≠ 5 by decide), if_neg (show (7 : Int) ≠ 6 by decide)]
    simp)
  omega
theorem wt_keep (d : Dec) (c : Int) : (d.keep c).wt ≤ d.wt + 2 := by
  unfold Dec.keep
  by_cases h1 : 256 ≤ d.sub.length
  · rw [if_pos h1]; unfold Dec.wt; simp
  · rw [if_neg h1]; unfold Dec.wt; simp; omega
theorem wt_end (d : Dec) : (d.end).wt ≤ d.wt + 6 := by
  unfold Dec.end Dec.emit Dec.wt
  dsimp only
  have h := tellL_length d.opt d.sub
  have k : wr1 ⟨if d.long = true then 6 else 5, 0, d.opt, d.sub⟩ = tellL d.opt d.sub := by
    unfold wr1
    cases d.long
    · rw [if_neg (show ¬ ((if false = true then (6 : Int) else 5) = 1) by decide), if_neg (show ¬ ((if false = true then (6 : Int) else 5) = 2) by decide), if_neg (show ¬ ((if false = true then (6 : Int) else 5) = 3) by decide), if_neg (show ¬ ((if false = true then (6 : Int) else 5) = 4) by decide), if_pos (show (if false = true then (6 : Int) else 5) = 5 by decide)]
    · rw [if_neg (show ¬ ((if true = true then (6 : Int) else 5) = 1) by decide), if_neg (show ¬ ((if true = true then (6 : Int) else 5) = 2) by decide), if_neg (show ¬ ((if true = true then (6 : Int) else 5) = 3) by decide), if_neg (show ¬ ((if true = true then (6 : Int) else 5) = 4) by decide), if_neg (show ¬ ((if true = true then (6 : Int) else 5) = 5) by decide), if_pos (show (if true = true then (6 : Int) else 5) = 6 by decide)]
  rw [writeL_snoc, List.length_append, k]
  simp only [List.length_nil]
  omega
theorem wt_take (d : Dec) (c : Int) : (d.take c).wt ≤ d.wt + 6 := by
  unfold Dec.take
  by_cases a1 : d.at_ = 1
  · rw [if_pos a1]; have := wt_command d c; omega
  rw [if_neg a1]
  by_cases a2 : d.at_ = 2
  · rw [if_pos a2]; exact wt_emit d _ 6 (by have := wr1_length ⟨4, d.code, c, []⟩; simpa using this)
  rw [if_neg a2]
  by_cases a3 : d.at_ = 3
  · rw [if_pos a3]
    unfold Dec.first Dec.begin
    by_cases h : c = 255
    · rw [if_pos h]; unfold Dec.wt; simp
    · rw [if_neg h]; unfold Dec.wt; simp
  rw [if_neg a3]
  by_cases a4 : d.at_ = 4
  · rw [if_pos a4]
    unfold Dec.second
    by_cases h : c = 255
    · rw [if_pos h]; unfold Dec.begin Dec.wt; simp
    · rw [if_neg h]; have := wt_fault d 0 c; omega
  rw [if_neg a4]
  by_cases a5 : d.at_ = 5
  · rw [if_pos a5]
    unfold Dec.part
    by_cases h : c = 255
    · rw [if_pos h]; unfold Dec.wt; simp
    · rw [if_neg h]; have := wt_keep d c; omega
  rw [if_neg a5]
  by_cases a6 : d.at_ = 6
  · rw [if_pos a6]
    unfold Dec.last
    by_cases h : c = 255
    · rw [if_pos h]; have := wt_keep d c; omega
    · rw [if_neg h]
      by_cases h2 : c = 240
      · rw [if_pos h2]; exact wt_end d
      · rw [if_neg h2]; have := wt_fault d d.opt c; omega
  rw [if_neg a6]
  unfold Dec.outside
  by_cases h : c = 255
  · rw [if_pos h]; unfold Dec.wt; simp
  · rw [if_neg h]; have := wt_data d c; omega
theorem wt_takes : ∀ (b : List Int) (d : Dec), (d.takes b).wt ≤ d.wt + 6 * b.length
  | [], d => by show d.wt ≤ _; omega
  | c :: b, d => by
    have h1 := wt_takes b (d.take c)
    have h2 := wt_take d c
    rw [Dec.takes_cons, List.length_cons]
    omega
theorem all_weight (b : List Int) : (writeL (Dec.zero.takes b).out).length ≤ 6 * b.length := by
  have h := wt_takes b Dec.zero
  unfold Dec.wt at h
  have : (writeL Dec.zero.out).length + 2 * Dec.zero.sub.length = 0 := rfl
  rw [this] at h
  omega
/-- the law's plain -/
def plainE (m : Em) : Em × Bool :=
  if m.e.kind = 1 then (⟨⟨1, 0, 0, m.e.bytes⟩, m.A, m.c⟩, true) else if m.e.kind = 2 then (⟨⟨2, 0, 0, []⟩, none, 0⟩, true)
  else if m.e.kind = 3 then (⟨⟨3, m.e.code, 0, []⟩, none, 0⟩, decide (m.e.code < 250) && decide (m.e.code ≠ 239)) else if m.e.kind = 4 then (⟨⟨4, m.e.code, m.e.opt, []⟩, none, 0⟩, decide (251 ≤ m.e.code) && decide (m.e.code ≤ 254))
  else if m.e.kind = 5 then (⟨⟨5, 0, m.e.opt, m.e.bytes⟩, m.A, m.c⟩, true) else (⟨⟨0, 0, 0, []⟩, none, 0⟩, false)
theorem plainE_plain (m : Em) (hb : m.e.bytes.length ≤ 256) (h : (plainE m).2 = true) : Plain (plainE m).1.e ∧ (plainE m).1.e.bytes.length ≤ 256 := by
  unfold plainE at *
  by_cases c1 : m.e.kind = 1
  · rw [if_pos c1]; exact ⟨.inl ⟨rfl, rfl, rfl⟩, hb⟩
  rw [if_neg c1] at h ⊢
  by_cases c2 : m.e.kind = 2
  · rw [if_pos c2]; exact ⟨.inr (.inl rfl), by simp⟩
  rw [if_neg c2] at h ⊢
  by_cases c3 : m.e.kind = 3
  · rw [if_pos c3] at h ⊢
    simp only [Bool.and_eq_true, decide_eq_true_eq] at h
    exact ⟨.inr (.inr (.inl ⟨m.e.code, rfl, by omega, by omega, by omega, h.2⟩)), by simp⟩
  rw [if_neg c3] at h ⊢
  by_cases c4 : m.e.kind = 4
  · rw [if_pos c4] at h ⊢
    simp only [Bool.and_eq_true, decide_eq_true_eq] at h
    exact ⟨.inr (.inr (.inr (.inl ⟨m.e.code, m.e.opt, rfl, h.1, h.2⟩))), by simp⟩
  rw [if_neg c4] at h ⊢
  by_cases c5 : m.e.kind = 5
  · rw [if_pos c5]; exact ⟨.inr (.inr (.inr (.inr ⟨m.e.opt, m.e.bytes, rfl, hb⟩))), hb⟩
  rw [if_neg c5] at h
  cases h
theorem plainE_rd {W : World} (m : Em) (hm : m.rd W) : (plainE m).1.rd W := by
  have hn : (⟨⟨0, 0, 0, []⟩, none, 0⟩ : Em).rd W := ⟨Rd.nil _ _ _, Nat.le_refl _⟩
  unfold plainE
  by_cases c1 : m.e.kind = 1
  · rw [if_pos c1]; exact hm
  rw [if_neg c1]
  by_cases c2 : m.e.kind = 2
  · rw [if_pos c2]; exact hn
  rw [if_neg c2]
  by_cases c3 : m.e.kind = 3
  · rw [if_pos c3]; exact hn
  rw [if_neg c3]
  by_cases c4 : m.e.kind = 4
  · rw [if_pos c4]; exact hn
  rw [if_neg c4]
  by_cases c5 : m.e.kind = 5
  · rw [if_pos c5]; exact hm
  rw [if_neg c5]
  exact hn
end Go.Proofs.Ythkioahpnbahhaa
