import Derived.Test.YtmcfckdgolojlaaZGD
import Derived.Test.YtmcfckdgolojlaaZQ6
/- Chapter 16's statements: rows of orders that come in; few. -/
namespace Go.Proofs.Ytmcfckdgolojlaa
set_option linter.unusedVariables false
set_option linter.unusedSimpArgs false
open Go.RowKit Go.WideShapes
theorem fld_bytes {H : Type} {enc : TypeId × Value → H} {W : World} {base : Nat} {sp : Nat → Bool} {held : Bool} {v : Value} {q : Nat} {z : DataW H × List MemPlace} (h : DataW.trod enc Try.prog W base sp held q 69 [v] = some z) :
    ∃ A n c, ∃ l : List Int, v = .slice A n c ∧ l.length = n ∧ n ≤ c ∧ n ≤ maxLen ∧ Rd W 1 A n (u8s l) ∧ ∀ x ∈ l, 0 ≤ x ∧ x < 256 := by
  have hv : ∃ A n c, v = .slice A n c := by
    rcases Go.Deep.open_slice Try.underlying69 h with ⟨hcs, _⟩ | ⟨a, len, cap, m, n, D, Pl, hcs, _⟩
    · exact ⟨none, 0, 0, by simpa using hcs⟩
    · exact ⟨some a, len, cap, by simpa using hcs⟩
  obtain ⟨A, n, c, rfl⟩ := hv
  obtain ⟨d, ps⟩ := z
  obtain ⟨l, h1, h2, h3, h4, h5⟩ := arg_bytes (A := A) (n := n) (c := c) (d := d) (ps := ps) Try.underlying69 Try.underlying5 (by kernel_rfl) ⟨q, h⟩
  exact ⟨A, n, c, l, rfl, h1, h2, h3, h4, h5⟩
theorem fld_pairs {H : Type} {enc : TypeId × Value → H} {W : World} {base : Nat} {sp : Nat → Bool} {held : Bool} {v : Value} {q : Nat} {z : DataW H × List MemPlace} (h : DataW.trod enc Try.prog W base sp held q 68 [v] = some z) :
    ∃ A n c, ∃ l : List Pr, v = .slice A n c ∧ l.length = n ∧ n ≤ c ∧ n ≤ maxLen ∧ Rd W 2 A n (l.flatMap Pr.enc) ∧ ∀ x ∈ l, 0 ≤ x.v ∧ x.v < 256 := by
  have hv : ∃ A n c, v = .slice A n c := by
    rcases Go.Deep.open_slice Try.underlying68 h with ⟨hcs, _⟩ | ⟨a, len, cap, m, n, D, Pl, hcs, _⟩
    · exact ⟨none, 0, 0, by simpa using hcs⟩
    · exact ⟨some a, len, cap, by simpa using hcs⟩
  obtain ⟨A, n, c, rfl⟩ := hv
  obtain ⟨d, ps⟩ := z
  obtain ⟨l, h1, h2, h3, h4, h5⟩ := arg_structs Pr.enc (fun p => 0 ≤ p.v ∧ p.v < 256) (A := A) (n := n) (c := c) (d := d) (ps := ps) Try.underlying68 (e := 131) (k := 2) (by kernel_rfl) (by omega) ⟨q, h⟩ (fun r m y hl hy => by
    obtain ⟨v0, v1, rfl⟩ : ∃ v0 v1, r = [v0, v1] := by
      match r, hl with
      | [a, b], _ => exact ⟨a, b, rfl⟩
    have he := Try.underlying131
    obtain ⟨q0, z0, h0⟩ := row_field he (by kernel_rfl) hy 0 _ rfl v0 rfl
    obtain ⟨q1, z1, h1⟩ := row_field he (by kernel_rfl) hy 1 _ rfl v1 rfl
    obtain ⟨t, rfl, _⟩ := field_int Try.underlying5 h0
    obtain ⟨x, rfl, hx⟩ := field_int Try.underlying5 h1
    exact ⟨⟨t, x⟩, rfl, u8_wf hx⟩)
  exact ⟨A, n, c, l, rfl, h1, h2, h3, h4, h5⟩
set_option maxRecDepth 100000 in
theorem ord_rows {H : Type} {w : World} {A : Option Addr} {n c : Nat} (h : Handed Try.prog H w 59 (.slice A n c)) :
    ∃ xs : List OrdV, xs.length = n ∧ n ≤ c ∧ OsAt [] w A xs ∧ ∀ x ∈ xs, x.o.ps.length ≤ x.cA ∧ x.o.da.length ≤ x.cB := by
  obtain ⟨enc, d, ps, h⟩ := h
  obtain ⟨xs, h1, h2, h3, h4, h5⟩ := arg_structs OrdV.enc (fun x => (x.o.ps.length ≤ x.cA ∧ x.o.da.length ≤ x.cB) ∧ OrAt [] w x.A x.B x.o) Try.underlying59 (e := 71) (k := 6) (by kernel_rfl) (by omega) h (fun r m y hl hy => by
    obtain ⟨v0, v1, v2, v3, v4, v5, rfl⟩ : ∃ v0 v1 v2 v3 v4 v5, r = [v0, v1, v2, v3, v4, v5] := by
      match r, hl with
      | [a, b, c, d, e, f], _ => exact ⟨a, b, c, d, e, f, rfl⟩
    have he := Try.underlying71
    obtain ⟨q0, z0, h0⟩ := row_field he (by kernel_rfl) hy 0 _ rfl v0 rfl
    obtain ⟨q1, z1, h1⟩ := row_field he (by kernel_rfl) hy 1 _ rfl v1 rfl
    obtain ⟨q2, z2, h2⟩ := row_field he (by kernel_rfl) hy 2 _ rfl v2 rfl
    obtain ⟨q3, z3, h3⟩ := row_field he (by kernel_rfl) hy 3 _ rfl v3 rfl
    obtain ⟨q4, z4, h4⟩ := row_field he (by kernel_rfl) hy 4 _ rfl v4 rfl
    obtain ⟨q5, z5, h5⟩ := row_field he (by kernel_rfl) hy 5 _ rfl v5 rfl
    obtain ⟨k, rfl, _⟩ := field_int Try.underlying5 h0
    obtain ⟨a, rfl, _⟩ := field_int Try.underlying3 h1
    obtain ⟨b, rfl, hb⟩ := field_int Try.underlying5 h2
    obtain ⟨ge, rfl⟩ := field_bool Try.underlying4 h3
    obtain ⟨A4, n4, c4, l4, rfl, rfl, p1, p2, p3, p4⟩ := fld_pairs h4
    obtain ⟨A5, n5, c5, l5, rfl, rfl, b1, b2, b3, b4⟩ := fld_bytes h5
    exact ⟨⟨⟨k, a, b, ge, l4, l5⟩, A4, c4, A5, c5⟩, rfl, ⟨p1, b1⟩, ⟨p3, b3, p2, b2, u8_wf hb, p4, b4, by simp, by simp⟩⟩)
  exact ⟨xs, h1, h2, ⟨h1 ▸ h4, h1 ▸ h3, by simp, fun x hx => (h5 x hx).2⟩, fun x hx => (h5 x hx).1⟩
def few16 (xs : List OrdV) : Bool := xs.all (fun x => !decide (30 < x.o.ps.length) && !decide (80 < x.o.da.length)) && decide (xs.length ≤ 20)
set_option maxRecDepth 100000 in
set_option maxHeartbeats 4000000 in
theorem few16_any (A : Option Addr) (c : Nat) (xs : List OrdV) (l : List Nat) (w : World) (ho : OsAt l w A xs) : Calls Try.prog 45 #[.slice A xs.length c] w (Ret (.bool (few16 xs)) w) := by
  have HO := Lib.hid ho
  clear ho
  go_enter Try.func45, Try.ntmps45
  go_wp2_with fail
  go_loopw [4, 7] (fun _ v wr => ∃ k : Nat, k ≤ xs.length ∧ v = .int .i64 k ∧ Hid ((xs.take k).all (fun x => !decide (30 < x.o.ps.length) && !decide (80 < x.o.da.length)) = true) ∧ Hid (Ext w wr)) (fun _ v _ => xs.length - (intOf v).toNat)
  case atStart => exact ⟨0, Nat.zero_le _, rfl, rfl, Ext_refl w⟩
  case round =>
    obtain ⟨k, hk, rfl, HA, HX⟩ := hrel
    by_cases hlt : k < xs.length
    · have HO1 := Lib.hid (HO.out.ext HX.out)
      obtain ⟨rb, ro, eA, hc⟩ := HO1.out.row.elem OrdV.enc OrdV.len hlt (List.getElem?_eq_getElem hlt)
      have d0 := hc 0 _ rfl
      have d1 := hc 1 _ rfl
      have d2 := hc 2 _ rfl
      have d3 := hc 3 _ rfl
      have d4 := hc 4 _ rfl
      have d5 := hc 5 _ rfl
      have hX := HO1.out.each _ (List.getElem_mem hlt)
      have hL : k + 1 < 9223372036854775808 := by have := HO1.out.ln; unfold maxLen at this; omega
      have hpl := hX.pl
      have hdl := hX.dl
      unfold maxLen at hpl hdl
      have HE := Lib.hid (List.take_succ_eq_append_getElem hlt)
      have HIn := Lib.hid (List.getElem_mem hlt)
      generalize xs[k] = x at *
      simp only [Nat.add_zero] at d0
      have HAA := Lib.hid eA
      clear hc hX HO1
      subst eA
      have HF : (few16 xs = true → (!decide (30 < x.o.ps.length) && !decide (80 < x.o.da.length)) = true) := fun h => by
        unfold few16 at h
        rw [Bool.and_eq_true] at h
        exact List.all_eq_true.1 h.1 x HIn.out
      have HFF := Lib.hid HF
      clear HF
      by_cases h3 : 30 < x.o.ps.length
      · have HB : Hid (few16 xs = false) := Lib.hid (by
          rcases Bool.eq_false_or_eq_true (few16 xs) with h | h
          · have := HFF.out h
            simp [h3] at this
          · exact h)
        rw [HB.out]
        have hi3 : (30 : Int) < (x.o.ps.length : Int) := by omega
        go_wp2_with fail
        go_ret
        exact ⟨rfl, Ext_alloc HX.out⟩
      · have hi3 : ¬ (30 : Int) < (x.o.ps.length : Int) := by omega
        by_cases h4 : 80 < x.o.da.length
        · have HB : Hid (few16 xs = false) := Lib.hid (by
            rcases Bool.eq_false_or_eq_true (few16 xs) with h | h
            · have := HFF.out h
              simp [h4] at this
            · exact h)
          rw [HB.out]
          have hi4 : (80 : Int) < (x.o.da.length : Int) := by omega
          go_wp2_with fail
          go_ret
          exact ⟨rfl, Ext_alloc HX.out⟩
        · have hi4 : ¬ (80 : Int) < (x.o.da.length : Int) := by omega
          have HK := Lib.hid (show (!decide (30 < x.o.ps.length) && !decide (80 < x.o.da.length)) = true by simp [h3, h4])
          go_wp2_with fail
          go_roundw
          case rel => exact ⟨k + 1, by omega, by go_num, Lib.hid (by rw [HE.out, List.all_append, HA.out]; simpa using HK.out), Ext_alloc HX.out⟩
          case measure => simp [intOf]; omega
    · have : k = xs.length := by omega
      subst this
      have HF : Hid (few16 xs = decide (xs.length ≤ 20)) := Lib.hid (by
        have := HA.out
        rw [List.take_length] at this
        unfold few16
        rw [this]; rfl)
      have hln := HO.out.ln
      unfold maxLen at hln
      go_wp2_with fail
      go_ret
      exact ⟨by rw [HF.out]; simp; omega, HX.out⟩
end Go.Proofs.Ytmcfckdgolojlaa
