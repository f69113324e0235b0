/- More of the package option: Busy, allow, New. -/
import Derived.Test.YtioaenidkieiiaaOpt
namespace Go.Proofs.Ytioaenidkieiiaa
set_option linter.unusedVariables false
set_option linter.unusedSimpArgs false
open Go.RowKit

theorem way_any (n : Int) (w : World) : Calls Try.prog 51 #[.int .i64 n] w fun e w' => e = .returned (.bool (decide (1 < n))) ∧ w' = w := by
  go_enter Try.func51, Try.ntmps51
  go_wp2
  go_ret
  exact ⟨rfl, rfl⟩

/-- the place of the first that is greater than 1 -/
def IdxP (xs : Nat → Int) (n : Nat) (w : World) (e : Ending) (w' : World) : Prop :=
  w' = w ∧ ((e = .returned (.int .i64 (-1)) ∧ ∀ i, i < n → xs i ≤ 1) ∨ ∃ k : Nat, e = .returned (.int .i64 k) ∧ k < n ∧ 1 < xs k)

set_option maxHeartbeats 1000000 in
theorem index_any (b o n c : Nat) (xs : Nat → Int) (hn : n ≤ 100000) (w : World) (hc : ∀ i, i < n → w.cell? ⟨b, o + i, none⟩ = some (.int .i64 (xs i))) :
    Calls Try.prog 65 #[.slice (some ⟨b, o, none⟩) n c, .func (.func 51) #[] #[]] w (IdxP xs n w) := by
  have HC := Lib.hid hc
  clear hc
  go_enter Try.func65, Try.ntmps65
  go_wp2
  go_loop [8] (fun v => ∃ k : Nat, k ≤ n ∧ v = .int .i64 k ∧ Hid (∀ i, i < k → xs i ≤ 1)) (fun v => n - (intOf v).toNat)
  case atStart => exact ⟨0, Nat.zero_le _, rfl, fun i hi => absurd hi (by omega)⟩
  case round =>
    obtain ⟨k, hk, rfl, H⟩ := hrel
    by_cases hlt : k < n
    · have hcell := HC.out k hlt
      by_cases h1 : 1 < xs k
      · go_wp2_with (go_at_call 51; refine (way_any _ _).mono ?_; rintro e w' ⟨rfl, rfl⟩)
        go_ret
        exact ⟨rfl, .inr ⟨k, rfl, hlt, h1⟩⟩
      · have h1' : xs k ≤ 1 := by omega
        go_wp2_with (go_at_call 51; refine (way_any _ _).mono ?_; rintro e w' ⟨rfl, rfl⟩)
        go_round
        case rel => exact ⟨k + 1, by omega, by go_num, fun i hi => by
          rcases Nat.lt_or_ge i k with h | h
          · exact H.out i h
          · have : i = k := by omega
            subst this; exact h1'⟩
        case measure => simp [intOf]; omega
    · have : k = n := by omega
      subst this
      go_wp2
      go_ret
      exact ⟨rfl, .inl ⟨rfl, H.out⟩⟩

def BoolP (p : Prop) (w : World) (e : Ending) (w' : World) : Prop := w' = w ∧ ∃ r : Bool, e = .returned (.bool r) ∧ (r = true ↔ p)

theorem contains_any (b o n c : Nat) (xs : Nat → Int) (hn : n ≤ 100000) (w : World) (hc : ∀ i, i < n → w.cell? ⟨b, o + i, none⟩ = some (.int .i64 (xs i))) :
    Calls Try.prog 52 #[.slice (some ⟨b, o, none⟩) n c, .func (.func 51) #[] #[]] w (BoolP (∃ i, i < n ∧ 1 < xs i) w) := by
  have HC := Lib.hid (index_any b o n c xs hn w hc)
  clear hc
  go_enter Try.func52, Try.ntmps52
  go_wp2_with fail
  refine HC.out.mono ?_
  rintro e w' ⟨rfl, h⟩
  rcases h with ⟨rfl, h⟩ | ⟨k, rfl, h1, h2⟩
  · have H := Lib.hid h
    clear h
    go_wp2
    go_ret
    refine ⟨rfl, false, rfl, ?_⟩
    simp only [Bool.false_eq_true, false_iff]
    rintro ⟨i, hi, hx⟩
    have := H.out i hi; omega
  · have H := Lib.hid h2
    clear h2
    go_wp2
    go_ret
    exact ⟨rfl, true, rfl, by simp only [true_iff]; exact ⟨k, h1, H.out⟩⟩

theorem Busy_any (b : Nat) (o : Opt) (w : World) (h : OptAt w b o) :
    Calls Try.prog 17 #[.pointer (some ⟨b, 0, none⟩)] w (BoolP (∃ s i, i < 256 ∧ 1 < o.st s i) w) := by
  have hs := h.side true
  have ht := h.side false
  have h1 := Lib.hid (show Calls Try.prog 52 #[.slice (some ⟨b, 0, none⟩) 256 256, .func (.func 51) #[] #[]] w _ from contains_any b 0 256 256 (o.st true) (by omega) w hs.st)
  have h2 := Lib.hid (show Calls Try.prog 52 #[.slice (some ⟨b, 514, none⟩) 256 256, .func (.func 51) #[] #[]] w _ from contains_any b 514 256 256 (o.st false) (by omega) w ht.st)
  clear hs ht h
  go_enter Try.func17, Try.ntmps17
  go_wp2_with fail
  refine h1.out.mono ?_
  rintro e w' ⟨rfl, r, rfl, hr⟩
  cases r
  · have HR := Lib.hid (show ∀ i, i < 256 → o.st true i ≤ 1 from fun i hi => by
      rcases Int.lt_or_le 1 (o.st true i) with hx | hx
      · exact absurd (hr.2 ⟨i, hi, hx⟩) (by simp)
      · exact hx)
    clear hr
    go_wp2_with fail
    refine h2.out.mono ?_
    rintro e w' ⟨rfl, r, rfl, hr⟩
    have HR2 := Lib.hid hr
    clear hr
    go_wp2
    go_ret
    refine ⟨rfl, r, rfl, HR2.out.trans ⟨fun ⟨i, h⟩ => ⟨false, i, h⟩, ?_⟩⟩
    rintro ⟨s, i, hi, hx⟩
    cases s
    · exact ⟨i, hi, hx⟩
    · have := HR.out i hi; omega
  · have HR := Lib.hid (hr.1 rfl)
    clear hr
    go_wp2
    go_ret
    refine ⟨rfl, true, rfl, ?_⟩
    obtain ⟨i, hi, hx⟩ := HR.out
    simp only [true_iff]
    exact ⟨true, i, hi, hx⟩
end Go.Proofs.Ytioaenidkieiiaa
