/- Fields of a plane: the package field's functions that only ask (look, Before, After, at, Of, Open, Formatted). -/
import Derived.Test.YtmldhgebbgalbaaP1
namespace Go.Proofs.Ytmldhgebbgalbaa
set_option linter.unusedVariables false
set_option linter.unusedSimpArgs false
open Go.RowKit

/-- the i-th place, from at_ on, step by step -/
def plc (n at_ step : Int) (i : Nat) : Int := (at_ + (i : Int) * step) % n
theorem plc_bd {n : Int} (hn : 1 ≤ n) (at_ step : Int) (i : Nat) : 0 ≤ plc n at_ step i ∧ plc n at_ step i < n := ⟨Int.emod_nonneg _ (by omega), Int.emod_lt_of_pos _ (by omega)⟩
/-- does an attribute stand at a place? -/
def Pl.st (p : Pl) (i : Int) : Bool := (p.at i).st
/-- the first of the places that f takes, among the first m -/
def scan (f : Int → Bool) (n at_ step : Int) : Nat → Option Int
  | 0 => none
  | m + 1 => (scan f n at_ step m).or (if f (plc n at_ step m) then some (plc n at_ step m) else none)
def Pl.lookM (p : Pl) (at_ step : Int) : Int := if 0 ≤ at_ ∧ at_ < p.n then (scan p.st p.n at_ step p.cells.length).getD (-1) else -1
theorem scan_none_succ {f : Int → Bool} {n a s : Int} {m : Nat} (h : scan f n a s m = none) : scan f n a s (m + 1) = if f (plc n a s m) then some (plc n a s m) else none := by rw [scan, h]; rfl
theorem scan_mono {f : Int → Bool} {n a s : Int} {x : Int} : ∀ {m k : Nat}, m ≤ k → scan f n a s m = some x → scan f n a s k = some x := by
  intro m k hk h
  induction k with
  | zero =>
    have : m = 0 := by omega
    subst this; exact h
  | succ k ih =>
    by_cases e : m = k + 1
    · rw [← e]; exact h
    · rw [scan, ih (by omega)]; rfl

set_option maxRecDepth 100000 in
set_option maxHeartbeats 2000000 in
theorem look_any (g c : Nat) (p : Pl) (at_ step : Int) (hs : step = 1 ∨ step = -1) (w : World) (h : PlAt w g c p) :
    Calls Try.prog 53 #[.pointer (some ⟨g, 0, none⟩), .int .i64 at_, .int .i64 step] w (Ret (.int .i64 (p.lookM at_ step)) w) := by
  have HP := Lib.hid h
  have HX := Lib.hid (Ext_refl w)
  have n0 := h.ok.sz.n0
  have n1 := h.ok.sz.n1
  have HZ := Lib.hid h.ok.sz
  have hpn : p.n = (p.cells.length : Int) := rfl
  have HN := Lib.hid hpn
  clear h hpn
  by_cases hi : 0 ≤ at_
  · by_cases hj : at_ < p.n
    · have HL := Lib.hid (show p.lookM at_ step = (scan p.st p.n at_ step p.cells.length).getD (-1) by unfold Pl.lookM; rw [if_pos ⟨hi, hj⟩])
      rw [HL.out]
      go_enter Try.func53, Try.ntmps53
      go_wp2_with (go_at_call 22; refine (Len_any g c p _ (HP.out.ext (by repeat' (first | (with_reducible first | exact HX.out | apply Ext_alloc | apply Ext_drewN | apply Ext_drew | (refine Ext_set ?_ ?_) | exact Ext_refl _) | (simp only [World.size_alloc, World.size_setCell, World.size_drew, size_drewN]; omega) | (simp; done) | (simp; omega))))).mono ?_; rintro e wn ⟨rfl, hb⟩; have HXn := Lib.hid (Ext_trans hb (by repeat' (first | (with_reducible first | exact HX.out | apply Ext_alloc | apply Ext_drewN | apply Ext_drew | (refine Ext_set ?_ ?_) | exact Ext_refl _) | (simp only [World.size_alloc, World.size_setCell, World.size_drew, size_drewN]; omega) | (simp; done) | (simp; omega)))); clear hb HX; have HX := HXn; clear HXn)
      go_loopw [7, 8, 19] (fun _ _ v wr => ∃ k : Nat, (k : Int) ≤ p.n ∧ v = .int .i64 k ∧ Hid (scan p.st p.n at_ step k = none) ∧ Hid (Ext w wr)) (fun _ _ v _ => p.cells.length - (intOf v).toNat)
      case atStart => exact ⟨0, by omega, rfl, rfl, HX.out⟩
      case round =>
        obtain ⟨k, hk, rfl, HS, HX⟩ := hrel
        by_cases hlt : (k : Int) < p.n
        · have HB := Lib.hid (plc_bd n0 at_ step k)
          cases hst : p.st (plc p.n at_ step k)
          all_goals
            have HW := Lib.hid (show (at_ + wrap64 ((k : Int) * step)) % p.n = plc p.n at_ step k by
              have : wrap64 ((k : Int) * step) = (k : Int) * step := by rcases hs with rfl | rfl <;> unfold wrap64 <;> omega
              rw [this]; rfl)
            have HT := Lib.hid hst
            have HC := Lib.hid (scan_none_succ HS.out)
            clear hst
            go_wp2_with fail
            refine (Size_any g c p _ (HP.out.ext HX.out)).mono ?_
            rintro e wn ⟨rfl, hb⟩
            have HXn := Lib.hid (Ext_trans hb (by repeat' (first | (with_reducible first | exact HX.out | apply Ext_alloc | apply Ext_drewN | apply Ext_drew | (refine Ext_set ?_ ?_) | exact Ext_refl _) | (simp only [World.size_alloc, World.size_setCell, World.size_drew, size_drewN]; omega) | (simp; done) | (simp; omega)))); clear hb HX; have HX := HXn; clear HXn
            go_wp2_with fail
            refine (Move_any _ _ _ _ p.n HZ.out _).mono ?_
            rintro e wn ⟨rfl, hb⟩
            rw [HW.out]
            have HXn := Lib.hid (Ext_trans hb (by repeat' (first | (with_reducible first | exact HX.out | apply Ext_alloc | apply Ext_drewN | apply Ext_drew | (refine Ext_set ?_ ?_) | exact Ext_refl _) | (simp only [World.size_alloc, World.size_setCell, World.size_drew, size_drewN]; omega) | (simp; done) | (simp; omega)))); clear hb HX; have HX := HXn; clear HXn
            go_wp2_with fail
            refine (At_any g c p _ _ (HP.out.ext HX.out)).mono ?_
            rintro e wn ⟨rfl, hb⟩
            rw [show (p.at (plc p.n at_ step k)).st = _ from HT.out]
            have HXn := Lib.hid (Ext_trans hb (by repeat' (first | (with_reducible first | exact HX.out | apply Ext_alloc | apply Ext_drewN | apply Ext_drew | (refine Ext_set ?_ ?_) | exact Ext_refl _) | (simp only [World.size_alloc, World.size_setCell, World.size_drew, size_drewN]; omega) | (simp; done) | (simp; omega)))); clear hb HX; have HX := HXn; clear HXn
            have hF := field_st
            go_wp2
          · go_roundw
            case rel => exact ⟨k + 1, by omega, by go_num, by rw [HC.out, HT.out]; rfl, HX.out⟩
            case measure => simp [intOf]; have := HN.out; omega
          · go_ret
            exact ⟨by rw [scan_mono (k := p.cells.length) (m := k + 1) (by have := HN.out; omega) (by rw [HC.out, HT.out]; rfl)]; rfl, HX.out⟩
        · have : k = p.cells.length := by have := HN.out; omega
          subst this
          go_wp2
          go_ret
          exact ⟨by rw [HS.out]; rfl, HX.out⟩
    · have HL := Lib.hid (show p.lookM at_ step = -1 by unfold Pl.lookM; rw [if_neg (fun h => hj h.2)])
      rw [HL.out]
      go_enter Try.func53, Try.ntmps53
      go_wp2_with (go_at_call 22; refine (Len_any g c p _ (HP.out.ext (by repeat' (first | (with_reducible first | exact HX.out | apply Ext_alloc | apply Ext_drewN | apply Ext_drew | (refine Ext_set ?_ ?_) | exact Ext_refl _) | (simp only [World.size_alloc, World.size_setCell, World.size_drew, size_drewN]; omega) | (simp; done) | (simp; omega))))).mono ?_; rintro e wn ⟨rfl, hb⟩; have HXn := Lib.hid (Ext_trans hb (by repeat' (first | (with_reducible first | exact HX.out | apply Ext_alloc | apply Ext_drewN | apply Ext_drew | (refine Ext_set ?_ ?_) | exact Ext_refl _) | (simp only [World.size_alloc, World.size_setCell, World.size_drew, size_drewN]; omega) | (simp; done) | (simp; omega)))); clear hb HX; have HX := HXn; clear HXn)
      go_ret
      exact ⟨rfl, HX.out⟩
  · have HL := Lib.hid (show p.lookM at_ step = -1 by unfold Pl.lookM; rw [if_neg (fun h => hi h.1)])
    rw [HL.out]
    go_enter Try.func53, Try.ntmps53
    go_wp2_with (go_at_call 22; refine (Len_any g c p _ (HP.out.ext (by repeat' (first | (with_reducible first | exact HX.out | apply Ext_alloc | apply Ext_drewN | apply Ext_drew | (refine Ext_set ?_ ?_) | exact Ext_refl _) | (simp only [World.size_alloc, World.size_setCell, World.size_drew, size_drewN]; omega) | (simp; done) | (simp; omega))))).mono ?_; rintro e wn ⟨rfl, hb⟩; have HXn := Lib.hid (Ext_trans hb (by repeat' (first | (with_reducible first | exact HX.out | apply Ext_alloc | apply Ext_drewN | apply Ext_drew | (refine Ext_set ?_ ?_) | exact Ext_refl _) | (simp only [World.size_alloc, World.size_setCell, World.size_drew, size_drewN]; omega) | (simp; done) | (simp; omega)))); clear hb HX; have HX := HXn; clear HXn)
    go_ret
    exact ⟨rfl, HX.out⟩
theorem lookM_bd (p : Pl) (h : p.Ok) (a s : Int) : -1 ≤ p.lookM a s ∧ p.lookM a s < p.n := by
  unfold Pl.lookM
  split
  · have : ∀ m, -1 ≤ (scan p.st p.n a s m).getD (-1) ∧ (scan p.st p.n a s m).getD (-1) < p.n := by
      intro m
      induction m with
      | zero => have := h.sz.n0; exact ⟨Int.le_refl _, show (-1 : Int) < p.n by omega⟩
      | succ m ih =>
        unfold scan
        cases e : scan p.st p.n a s m with
        | some x => rw [e] at ih; exact ih
        | none =>
          have := plc_bd h.sz.n0 a s m
          have := h.sz.n0
          dsimp only [Option.none_or]
          split
          · exact ⟨show (-1 : Int) ≤ plc p.n a s m by omega, show plc p.n a s m < p.n by omega⟩
          · exact ⟨Int.le_refl _, show (-1 : Int) < p.n by omega⟩
    exact this _
  · have := h.sz.n0; omega

theorem Before_any (g c : Nat) (p : Pl) (i : Int) (w : World) (h : PlAt w g c p) : Calls Try.prog 46 #[.pointer (some ⟨g, 0, none⟩), .int .i64 i] w (Ret (.int .i64 (p.lookM i (-1))) w) := by
  have HP := Lib.hid h
  clear h
  go_enter Try.func46, Try.ntmps46
  go_wp2_with fail
  refine (look_any g c p _ _ (.inr rfl) _ HP.out).mono ?_
  rintro e wn ⟨rfl, hb⟩
  have HX := Lib.hid hb
  clear hb
  go_wp2
  go_ret
  exact ⟨rfl, HX.out⟩
theorem Formatted_any (g c : Nat) (p : Pl) (w : World) (h : PlAt w g c p) : Calls Try.prog 28 #[.pointer (some ⟨g, 0, none⟩)] w (Ret (.bool (decide (0 ≤ p.lookM 0 1))) w) := by
  have HP := Lib.hid h
  clear h
  go_enter Try.func28, Try.ntmps28
  go_wp2_with fail
  refine (look_any g c p _ _ (.inl rfl) _ HP.out).mono ?_
  rintro e wn ⟨rfl, hb⟩
  have HX := Lib.hid hb
  clear hb
  go_wp2
  go_ret
  exact ⟨rfl, HX.out⟩
/-- the next attribute's place -/
def Pl.after (p : Pl) (i : Int) : Int := if 0 ≤ i ∧ i < p.n then p.lookM ((i + 1) % p.n) 1 else -1
theorem After_any (g c : Nat) (p : Pl) (i : Int) (w : World) (h : PlAt w g c p) : Calls Try.prog 75 #[.pointer (some ⟨g, 0, none⟩), .int .i64 i] w (Ret (.int .i64 (p.after i)) w) := by
  have HP := Lib.hid h
  have HZ := Lib.hid h.ok.sz
  have HX := Lib.hid (Ext_refl w)
  have n0 := h.ok.sz.n0
  have n1 := h.ok.sz.n1
  clear h
  by_cases hi : 0 ≤ i
  · by_cases hj : i < p.n
    · have HL := Lib.hid (show p.after i = p.lookM ((i + 1) % p.n) 1 by unfold Pl.after; rw [if_pos ⟨hi, hj⟩])
      rw [HL.out]
      go_enter Try.func75, Try.ntmps75
      go_wp2_with (first | (go_at_call 22; refine (Len_any g c p _ (HP.out.ext (by repeat' (first | (with_reducible first | exact HX.out | apply Ext_alloc | apply Ext_drewN | apply Ext_drew | (refine Ext_set ?_ ?_) | exact Ext_refl _) | (simp only [World.size_alloc, World.size_setCell, World.size_drew, size_drewN]; omega) | (simp; done) | (simp; omega))))).mono ?_; rintro e wn ⟨rfl, hb⟩; have HXn := Lib.hid (Ext_trans hb (by repeat' (first | (with_reducible first | exact HX.out | apply Ext_alloc | apply Ext_drewN | apply Ext_drew | (refine Ext_set ?_ ?_) | exact Ext_refl _) | (simp only [World.size_alloc, World.size_setCell, World.size_drew, size_drewN]; omega) | (simp; done) | (simp; omega)))); clear hb HX; have HX := HXn; clear HXn) | (go_at_call 79; refine (Size_any g c p _ (HP.out.ext (by repeat' (first | (with_reducible first | exact HX.out | apply Ext_alloc | apply Ext_drewN | apply Ext_drew | (refine Ext_set ?_ ?_) | exact Ext_refl _) | (simp only [World.size_alloc, World.size_setCell, World.size_drew, size_drewN]; omega) | (simp; done) | (simp; omega))))).mono ?_; rintro e wn ⟨rfl, hb⟩; have HXn := Lib.hid (Ext_trans hb (by repeat' (first | (with_reducible first | exact HX.out | apply Ext_alloc | apply Ext_drewN | apply Ext_drew | (refine Ext_set ?_ ?_) | exact Ext_refl _) | (simp only [World.size_alloc, World.size_setCell, World.size_drew, size_drewN]; omega) | (simp; done) | (simp; omega)))); clear hb HX; have HX := HXn; clear HXn) | (go_at_call 78; refine (Move_any _ _ _ _ p.n HZ.out _).mono ?_; rintro e wn ⟨rfl, hb⟩; have HXn := Lib.hid (Ext_trans hb (by repeat' (first | (with_reducible first | exact HX.out | apply Ext_alloc | apply Ext_drewN | apply Ext_drew | (refine Ext_set ?_ ?_) | exact Ext_refl _) | (simp only [World.size_alloc, World.size_setCell, World.size_drew, size_drewN]; omega) | (simp; done) | (simp; omega)))); clear hb HX; have HX := HXn; clear HXn) | (go_at_call 53; refine (look_any g c p _ _ (.inl rfl) _ (HP.out.ext (by repeat' (first | (with_reducible first | exact HX.out | apply Ext_alloc | apply Ext_drewN | apply Ext_drew | (refine Ext_set ?_ ?_) | exact Ext_refl _) | (simp only [World.size_alloc, World.size_setCell, World.size_drew, size_drewN]; omega) | (simp; done) | (simp; omega))))).mono ?_; rintro e wn ⟨rfl, hb⟩; have HXn := Lib.hid (Ext_trans hb (by repeat' (first | (with_reducible first | exact HX.out | apply Ext_alloc | apply Ext_drewN | apply Ext_drew | (refine Ext_set ?_ ?_) | exact Ext_refl _) | (simp only [World.size_alloc, World.size_setCell, World.size_drew, size_drewN]; omega) | (simp; done) | (simp; omega)))); clear hb HX; have HX := HXn; clear HXn))
      go_ret
      exact ⟨rfl, (by repeat' (first | (with_reducible first | exact HX.out | apply Ext_alloc | apply Ext_drewN | apply Ext_drew | (refine Ext_set ?_ ?_) | exact Ext_refl _) | (simp only [World.size_alloc, World.size_setCell, World.size_drew, size_drewN]; omega) | (simp; done) | (simp; omega)))⟩
    · have HL := Lib.hid (show p.after i = -1 by unfold Pl.after; rw [if_neg (fun h => hj h.2)])
      rw [HL.out]
      go_enter Try.func75, Try.ntmps75
      go_wp2_with (go_at_call 22; refine (Len_any g c p _ (HP.out.ext (by repeat' (first | (with_reducible first | exact HX.out | apply Ext_alloc | apply Ext_drewN | apply Ext_drew | (refine Ext_set ?_ ?_) | exact Ext_refl _) | (simp only [World.size_alloc, World.size_setCell, World.size_drew, size_drewN]; omega) | (simp; done) | (simp; omega))))).mono ?_; rintro e wn ⟨rfl, hb⟩; have HXn := Lib.hid (Ext_trans hb (by repeat' (first | (with_reducible first | exact HX.out | apply Ext_alloc | apply Ext_drewN | apply Ext_drew | (refine Ext_set ?_ ?_) | exact Ext_refl _) | (simp only [World.size_alloc, World.size_setCell, World.size_drew, size_drewN]; omega) | (simp; done) | (simp; omega)))); clear hb HX; have HX := HXn; clear HXn)
      go_ret
      exact ⟨rfl, (by repeat' (first | (with_reducible first | exact HX.out | apply Ext_alloc | apply Ext_drewN | apply Ext_drew | (refine Ext_set ?_ ?_) | exact Ext_refl _) | (simp only [World.size_alloc, World.size_setCell, World.size_drew, size_drewN]; omega) | (simp; done) | (simp; omega)))⟩
  · have HL := Lib.hid (show p.after i = -1 by unfold Pl.after; rw [if_neg (fun h => hi h.1)])
    rw [HL.out]
    go_enter Try.func75, Try.ntmps75
    go_wp2_with (go_at_call 22; refine (Len_any g c p _ (HP.out.ext (by repeat' (first | (with_reducible first | exact HX.out | apply Ext_alloc | apply Ext_drewN | apply Ext_drew | (refine Ext_set ?_ ?_) | exact Ext_refl _) | (simp only [World.size_alloc, World.size_setCell, World.size_drew, size_drewN]; omega) | (simp; done) | (simp; omega))))).mono ?_; rintro e wn ⟨rfl, hb⟩; have HXn := Lib.hid (Ext_trans hb (by repeat' (first | (with_reducible first | exact HX.out | apply Ext_alloc | apply Ext_drewN | apply Ext_drew | (refine Ext_set ?_ ?_) | exact Ext_refl _) | (simp only [World.size_alloc, World.size_setCell, World.size_drew, size_drewN]; omega) | (simp; done) | (simp; omega)))); clear hb HX; have HX := HXn; clear HXn)
    go_ret
    exact ⟨rfl, (by repeat' (first | (with_reducible first | exact HX.out | apply Ext_alloc | apply Ext_drewN | apply Ext_drew | (refine Ext_set ?_ ?_) | exact Ext_refl _) | (simp only [World.size_alloc, World.size_setCell, World.size_drew, size_drewN]; omega) | (simp; done) | (simp; omega)))⟩
end Go.Proofs.Ytmldhgebbgalbaa
