/- Chapter 20: number, may; shift. -/
import Derived.Test.YtmldhgebbgalbaaY1
import Derived.Test.YtmldhgebbgalbaaRM
namespace Go.Proofs.Ytmldhgebbgalbaa
set_option linter.unusedVariables false
set_option linter.unusedSimpArgs false
open Go.RowKit Go.Sort
def digM (b : Int) : Bool := decide (240 ≤ b) && decide (b ≤ 249)
def numM (b : Int) : Bool := digM b || b == 75 || b == 96 || b == 28
set_option maxRecDepth 100000 in
theorem Digit_any (b : Int) (w : World) : Calls Try.prog 84 #[.int .u8 b] w (Ret (.bool (digM b)) w) := by
  by_cases h1 : (240 : Int) ≤ b
  · by_cases h2 : b ≤ 249
    · have e : digM b = true := by simp [digM, h1, h2]
      rw [e]
      go_enter Try.func84, Try.ntmps84
      go_wp2
      go_ret
      exact ⟨rfl, Ext_refl _⟩
    · have e : digM b = false := by simp [digM, h2]
      rw [e]
      go_enter Try.func84, Try.ntmps84
      go_wp2
      go_ret
      exact ⟨rfl, Ext_refl _⟩
  · have e : digM b = false := by simp [digM, h1]
    rw [e]
    go_enter Try.func84, Try.ntmps84
    go_wp2
    go_ret
    exact ⟨rfl, Ext_refl _⟩
set_option maxRecDepth 100000 in
theorem number_any (b : Int) (w : World) : Calls Try.prog 68 #[.int .u8 b] w (Ret (.bool (numM b)) w) := by
  have HX := Lib.hid (Ext_refl w)
  cases hd : digM b
  · have HD := Lib.hid hd
    by_cases h1 : b = 75
    · subst h1
      have e : numM 75 = true := by decide
      rw [e]
      clear e hd
      go_enter Try.func68, Try.ntmps68
      go_wp2_with (go_at_call 84; refine (Digit_any _ _).mono ?_; rintro e wn ⟨rfl, hb⟩; rw [HD.out]; have HXn := Lib.hid (Ext_trans hb (by repeat' (first | (with_reducible first | exact HX.out | apply Ext_alloc | apply Ext_drewN | apply Ext_drew | (refine Ext_set ?_ ?_) | exact Ext_refl _) | (simp only [World.size_alloc, World.size_setCell, World.size_drew, size_drewN]; omega) | (simp; done) | (simp; omega)))); clear hb HX; have HX := HXn; clear HXn)
      go_ret
      exact ⟨rfl, (by repeat' (first | (with_reducible first | exact HX.out | apply Ext_alloc | apply Ext_drewN | apply Ext_drew | (refine Ext_set ?_ ?_) | exact Ext_refl _) | (simp only [World.size_alloc, World.size_setCell, World.size_drew, size_drewN]; omega) | (simp; done) | (simp; omega)))⟩
    · have e1 : (b == 75) = false := by simpa using h1
      by_cases h2 : b = 96
      · subst h2
        have e : numM 96 = true := by decide
        rw [e]
        clear e hd
        go_enter Try.func68, Try.ntmps68
        go_wp2_with (go_at_call 84; refine (Digit_any _ _).mono ?_; rintro e wn ⟨rfl, hb⟩; rw [HD.out]; have HXn := Lib.hid (Ext_trans hb (by repeat' (first | (with_reducible first | exact HX.out | apply Ext_alloc | apply Ext_drewN | apply Ext_drew | (refine Ext_set ?_ ?_) | exact Ext_refl _) | (simp only [World.size_alloc, World.size_setCell, World.size_drew, size_drewN]; omega) | (simp; done) | (simp; omega)))); clear hb HX; have HX := HXn; clear HXn)
        go_ret
        exact ⟨rfl, (by repeat' (first | (with_reducible first | exact HX.out | apply Ext_alloc | apply Ext_drewN | apply Ext_drew | (refine Ext_set ?_ ?_) | exact Ext_refl _) | (simp only [World.size_alloc, World.size_setCell, World.size_drew, size_drewN]; omega) | (simp; done) | (simp; omega)))⟩
      · have e2 : (b == 96) = false := by simpa using h2
        by_cases h3 : b = 28
        · subst h3
          have e : numM 28 = true := by decide
          rw [e]
          clear e hd
          go_enter Try.func68, Try.ntmps68
          go_wp2_with (go_at_call 84; refine (Digit_any _ _).mono ?_; rintro e wn ⟨rfl, hb⟩; rw [HD.out]; have HXn := Lib.hid (Ext_trans hb (by repeat' (first | (with_reducible first | exact HX.out | apply Ext_alloc | apply Ext_drewN | apply Ext_drew | (refine Ext_set ?_ ?_) | exact Ext_refl _) | (simp only [World.size_alloc, World.size_setCell, World.size_drew, size_drewN]; omega) | (simp; done) | (simp; omega)))); clear hb HX; have HX := HXn; clear HXn)
          go_ret
          exact ⟨rfl, (by repeat' (first | (with_reducible first | exact HX.out | apply Ext_alloc | apply Ext_drewN | apply Ext_drew | (refine Ext_set ?_ ?_) | exact Ext_refl _) | (simp only [World.size_alloc, World.size_setCell, World.size_drew, size_drewN]; omega) | (simp; done) | (simp; omega)))⟩
        · have e3 : (b == 28) = false := by simpa using h3
          have e : numM b = false := by simp [numM, hd, h1, h2, h3]
          rw [e]
          clear e hd
          go_enter Try.func68, Try.ntmps68
          go_wp2_with (go_at_call 84; refine (Digit_any _ _).mono ?_; rintro e wn ⟨rfl, hb⟩; rw [HD.out]; have HXn := Lib.hid (Ext_trans hb (by repeat' (first | (with_reducible first | exact HX.out | apply Ext_alloc | apply Ext_drewN | apply Ext_drew | (refine Ext_set ?_ ?_) | exact Ext_refl _) | (simp only [World.size_alloc, World.size_setCell, World.size_drew, size_drewN]; omega) | (simp; done) | (simp; omega)))); clear hb HX; have HX := HXn; clear HXn)
          go_ret
          exact ⟨rfl, (by repeat' (first | (with_reducible first | exact HX.out | apply Ext_alloc | apply Ext_drewN | apply Ext_drew | (refine Ext_set ?_ ?_) | exact Ext_refl _) | (simp only [World.size_alloc, World.size_setCell, World.size_drew, size_drewN]; omega) | (simp; done) | (simp; omega)))⟩
  · have HD := Lib.hid hd
    have e : numM b = true := by simp [numM, hd]
    rw [e]
    clear e hd
    go_enter Try.func68, Try.ntmps68
    go_wp2_with (go_at_call 84; refine (Digit_any _ _).mono ?_; rintro e wn ⟨rfl, hb⟩; rw [HD.out]; have HXn := Lib.hid (Ext_trans hb (by repeat' (first | (with_reducible first | exact HX.out | apply Ext_alloc | apply Ext_drewN | apply Ext_drew | (refine Ext_set ?_ ?_) | exact Ext_refl _) | (simp only [World.size_alloc, World.size_setCell, World.size_drew, size_drewN]; omega) | (simp; done) | (simp; omega)))); clear hb HX; have HX := HXn; clear HXn)
    go_ret
    exact ⟨rfl, (by repeat' (first | (with_reducible first | exact HX.out | apply Ext_alloc | apply Ext_drewN | apply Ext_drew | (refine Ext_set ?_ ?_) | exact Ext_refl _) | (simp only [World.size_alloc, World.size_setCell, World.size_drew, size_drewN]; omega) | (simp; done) | (simp; omega)))⟩
/-- why a byte may not be typed -/
def Pl.mayM (p : Pl) (b : Int) : Int := if p.open_ p.cur = false then 41 else if 0 ≤ p.before p.cur ∧ bitB (p.attrAt (p.before p.cur)) 16 = true ∧ numM b = false then 42 else 0
set_option maxRecDepth 100000 in
set_option maxHeartbeats 2000000 in
theorem may_any (g c : Nat) (p : Pl) (b : Int) (w : World) (h : PlAt w g c p) : Calls Try.prog 41 #[.pointer (some ⟨g, 0, none⟩), .int .u8 b] w (Ret (.int .i64 (p.mayM b)) w) := by
  have HP := Lib.hid h
  have HX := Lib.hid (Ext_refl w)
  have HM := Lib.hid (show p.mayM b = if p.open_ p.cur = false then 41 else if 0 ≤ p.before p.cur ∧ bitB (p.attrAt (p.before p.cur)) 16 = true ∧ numM b = false then 42 else 0 from rfl)
  clear h
  by_cases hb : p.before p.cur < 0
  · have HOF := Lib.hid (show p.ofV p.cur = .tuple #[.agg #[.int .i64 0, .int .i64 0, .int .u8 0], .bool false] by unfold Pl.ofV; rw [if_pos hb])
    have hm := HM.out
    rw [if_neg (c := 0 ≤ p.before p.cur ∧ bitB (p.attrAt (p.before p.cur)) 16 = true ∧ numM b = false) (fun h => by have := h.1; omega)] at hm
    clear HM hb
    cases ho : p.open_ p.cur
    · rw [if_pos ho] at hm
      rw [hm]
      have HO := Lib.hid ho
      clear ho hm
      go_enter Try.func41, Try.ntmps41
      go_wp2_with (first | (go_at_call 26; refine (Cursor_any g c p _ (HP.out.ext (by repeat' (first | (with_reducible first | exact HX.out | apply Ext_alloc | apply Ext_drewN | apply Ext_drew | (refine Ext_set ?_ ?_) | exact Ext_refl _) | (simp only [World.size_alloc, World.size_setCell, World.size_drew, size_drewN]; omega) | (simp; done) | (simp; omega))))).mono ?_; rintro e wn ⟨rfl, hb⟩; have HXn := Lib.hid (Ext_trans hb (by repeat' (first | (with_reducible first | exact HX.out | apply Ext_alloc | apply Ext_drewN | apply Ext_drew | (refine Ext_set ?_ ?_) | exact Ext_refl _) | (simp only [World.size_alloc, World.size_setCell, World.size_drew, size_drewN]; omega) | (simp; done) | (simp; omega)))); clear hb HX; have HX := HXn; clear HXn) | (go_at_call 16; refine (Of_any g c p _ _ (HP.out.ext (by repeat' (first | (with_reducible first | exact HX.out | apply Ext_alloc | apply Ext_drewN | apply Ext_drew | (refine Ext_set ?_ ?_) | exact Ext_refl _) | (simp only [World.size_alloc, World.size_setCell, World.size_drew, size_drewN]; omega) | (simp; done) | (simp; omega))))).mono ?_; rintro e wn ⟨rfl, hb⟩; rw [HOF.out]; have HXn := Lib.hid (Ext_trans hb (by repeat' (first | (with_reducible first | exact HX.out | apply Ext_alloc | apply Ext_drewN | apply Ext_drew | (refine Ext_set ?_ ?_) | exact Ext_refl _) | (simp only [World.size_alloc, World.size_setCell, World.size_drew, size_drewN]; omega) | (simp; done) | (simp; omega)))); clear hb HX; have HX := HXn; clear HXn) | (go_at_call 24; refine (Open_any g c p _ _ (HP.out.ext (by repeat' (first | (with_reducible first | exact HX.out | apply Ext_alloc | apply Ext_drewN | apply Ext_drew | (refine Ext_set ?_ ?_) | exact Ext_refl _) | (simp only [World.size_alloc, World.size_setCell, World.size_drew, size_drewN]; omega) | (simp; done) | (simp; omega))))).mono ?_; rintro e wn ⟨rfl, hb⟩; rw [HO.out]; have HXn := Lib.hid (Ext_trans hb (by repeat' (first | (with_reducible first | exact HX.out | apply Ext_alloc | apply Ext_drewN | apply Ext_drew | (refine Ext_set ?_ ?_) | exact Ext_refl _) | (simp only [World.size_alloc, World.size_setCell, World.size_drew, size_drewN]; omega) | (simp; done) | (simp; omega)))); clear hb HX; have HX := HXn; clear HXn))
      go_ret
      exact ⟨rfl, (by repeat' (first | (with_reducible first | exact HX.out | apply Ext_alloc | apply Ext_drewN | apply Ext_drew | (refine Ext_set ?_ ?_) | exact Ext_refl _) | (simp only [World.size_alloc, World.size_setCell, World.size_drew, size_drewN]; omega) | (simp; done) | (simp; omega)))⟩
    · rw [if_neg (by rw [ho]; simp)] at hm
      rw [hm]
      have HO := Lib.hid ho
      clear ho hm
      go_enter Try.func41, Try.ntmps41
      go_wp2_with (first | (go_at_call 26; refine (Cursor_any g c p _ (HP.out.ext (by repeat' (first | (with_reducible first | exact HX.out | apply Ext_alloc | apply Ext_drewN | apply Ext_drew | (refine Ext_set ?_ ?_) | exact Ext_refl _) | (simp only [World.size_alloc, World.size_setCell, World.size_drew, size_drewN]; omega) | (simp; done) | (simp; omega))))).mono ?_; rintro e wn ⟨rfl, hb⟩; have HXn := Lib.hid (Ext_trans hb (by repeat' (first | (with_reducible first | exact HX.out | apply Ext_alloc | apply Ext_drewN | apply Ext_drew | (refine Ext_set ?_ ?_) | exact Ext_refl _) | (simp only [World.size_alloc, World.size_setCell, World.size_drew, size_drewN]; omega) | (simp; done) | (simp; omega)))); clear hb HX; have HX := HXn; clear HXn) | (go_at_call 16; refine (Of_any g c p _ _ (HP.out.ext (by repeat' (first | (with_reducible first | exact HX.out | apply Ext_alloc | apply Ext_drewN | apply Ext_drew | (refine Ext_set ?_ ?_) | exact Ext_refl _) | (simp only [World.size_alloc, World.size_setCell, World.size_drew, size_drewN]; omega) | (simp; done) | (simp; omega))))).mono ?_; rintro e wn ⟨rfl, hb⟩; rw [HOF.out]; have HXn := Lib.hid (Ext_trans hb (by repeat' (first | (with_reducible first | exact HX.out | apply Ext_alloc | apply Ext_drewN | apply Ext_drew | (refine Ext_set ?_ ?_) | exact Ext_refl _) | (simp only [World.size_alloc, World.size_setCell, World.size_drew, size_drewN]; omega) | (simp; done) | (simp; omega)))); clear hb HX; have HX := HXn; clear HXn) | (go_at_call 24; refine (Open_any g c p _ _ (HP.out.ext (by repeat' (first | (with_reducible first | exact HX.out | apply Ext_alloc | apply Ext_drewN | apply Ext_drew | (refine Ext_set ?_ ?_) | exact Ext_refl _) | (simp only [World.size_alloc, World.size_setCell, World.size_drew, size_drewN]; omega) | (simp; done) | (simp; omega))))).mono ?_; rintro e wn ⟨rfl, hb⟩; rw [HO.out]; have HXn := Lib.hid (Ext_trans hb (by repeat' (first | (with_reducible first | exact HX.out | apply Ext_alloc | apply Ext_drewN | apply Ext_drew | (refine Ext_set ?_ ?_) | exact Ext_refl _) | (simp only [World.size_alloc, World.size_setCell, World.size_drew, size_drewN]; omega) | (simp; done) | (simp; omega)))); clear hb HX; have HX := HXn; clear HXn))
      go_ret
      exact ⟨rfl, (by repeat' (first | (with_reducible first | exact HX.out | apply Ext_alloc | apply Ext_drewN | apply Ext_drew | (refine Ext_set ?_ ?_) | exact Ext_refl _) | (simp only [World.size_alloc, World.size_setCell, World.size_drew, size_drewN]; omega) | (simp; done) | (simp; omega)))⟩
  · have HOF := Lib.hid (show p.ofV p.cur = .tuple #[.agg #[.int .i64 (p.before p.cur), .int .i64 (p.lenAt (p.before p.cur)), .int .u8 (p.attrAt (p.before p.cur))], .bool true] by unfold Pl.ofV; rw [if_neg hb])
    have hb2 : 0 ≤ p.before p.cur := by omega
    have hm := HM.out
    clear HM
    cases ho : p.open_ p.cur
    · rw [if_pos ho] at hm
      rw [hm]
      have HO := Lib.hid ho
      clear ho hm
      go_enter Try.func41, Try.ntmps41
      go_wp2_with (first | (go_at_call 26; refine (Cursor_any g c p _ (HP.out.ext (by repeat' (first | (with_reducible first | exact HX.out | apply Ext_alloc | apply Ext_drewN | apply Ext_drew | (refine Ext_set ?_ ?_) | exact Ext_refl _) | (simp only [World.size_alloc, World.size_setCell, World.size_drew, size_drewN]; omega) | (simp; done) | (simp; omega))))).mono ?_; rintro e wn ⟨rfl, hb⟩; have HXn := Lib.hid (Ext_trans hb (by repeat' (first | (with_reducible first | exact HX.out | apply Ext_alloc | apply Ext_drewN | apply Ext_drew | (refine Ext_set ?_ ?_) | exact Ext_refl _) | (simp only [World.size_alloc, World.size_setCell, World.size_drew, size_drewN]; omega) | (simp; done) | (simp; omega)))); clear hb HX; have HX := HXn; clear HXn) | (go_at_call 16; refine (Of_any g c p _ _ (HP.out.ext (by repeat' (first | (with_reducible first | exact HX.out | apply Ext_alloc | apply Ext_drewN | apply Ext_drew | (refine Ext_set ?_ ?_) | exact Ext_refl _) | (simp only [World.size_alloc, World.size_setCell, World.size_drew, size_drewN]; omega) | (simp; done) | (simp; omega))))).mono ?_; rintro e wn ⟨rfl, hb⟩; rw [HOF.out]; have HXn := Lib.hid (Ext_trans hb (by repeat' (first | (with_reducible first | exact HX.out | apply Ext_alloc | apply Ext_drewN | apply Ext_drew | (refine Ext_set ?_ ?_) | exact Ext_refl _) | (simp only [World.size_alloc, World.size_setCell, World.size_drew, size_drewN]; omega) | (simp; done) | (simp; omega)))); clear hb HX; have HX := HXn; clear HXn) | (go_at_call 24; refine (Open_any g c p _ _ (HP.out.ext (by repeat' (first | (with_reducible first | exact HX.out | apply Ext_alloc | apply Ext_drewN | apply Ext_drew | (refine Ext_set ?_ ?_) | exact Ext_refl _) | (simp only [World.size_alloc, World.size_setCell, World.size_drew, size_drewN]; omega) | (simp; done) | (simp; omega))))).mono ?_; rintro e wn ⟨rfl, hb⟩; rw [HO.out]; have HXn := Lib.hid (Ext_trans hb (by repeat' (first | (with_reducible first | exact HX.out | apply Ext_alloc | apply Ext_drewN | apply Ext_drew | (refine Ext_set ?_ ?_) | exact Ext_refl _) | (simp only [World.size_alloc, World.size_setCell, World.size_drew, size_drewN]; omega) | (simp; done) | (simp; omega)))); clear hb HX; have HX := HXn; clear HXn))
      go_ret
      exact ⟨rfl, (by repeat' (first | (with_reducible first | exact HX.out | apply Ext_alloc | apply Ext_drewN | apply Ext_drew | (refine Ext_set ?_ ?_) | exact Ext_refl _) | (simp only [World.size_alloc, World.size_setCell, World.size_drew, size_drewN]; omega) | (simp; done) | (simp; omega)))⟩
    · rw [if_neg (by rw [ho]; simp)] at hm
      have HO := Lib.hid ho
      clear ho
      generalize p.attrAt (p.before p.cur) = a at *
      generalize p.lenAt (p.before p.cur) = len at *
      generalize hs : p.before p.cur = s at *
      have HS := Lib.hid hs
      clear hs
      cases hq : bitB a 16
      · rw [if_neg (by rw [hq]; simp)] at hm
        rw [hm]
        have HQ := Lib.hid hq
        clear hq hm
        go_enter Try.func41, Try.ntmps41
        go_upto_region 2 with (first | (go_at_call 26; refine (Cursor_any g c p _ (HP.out.ext (by repeat' (first | (with_reducible first | exact HX.out | apply Ext_alloc | apply Ext_drewN | apply Ext_drew | (refine Ext_set ?_ ?_) | exact Ext_refl _) | (simp only [World.size_alloc, World.size_setCell, World.size_drew, size_drewN]; omega) | (simp; done) | (simp; omega))))).mono ?_; rintro e wn ⟨rfl, hb⟩; have HXn := Lib.hid (Ext_trans hb (by repeat' (first | (with_reducible first | exact HX.out | apply Ext_alloc | apply Ext_drewN | apply Ext_drew | (refine Ext_set ?_ ?_) | exact Ext_refl _) | (simp only [World.size_alloc, World.size_setCell, World.size_drew, size_drewN]; omega) | (simp; done) | (simp; omega)))); clear hb HX; have HX := HXn; clear HXn) | (go_at_call 16; refine (Of_any g c p _ _ (HP.out.ext (by repeat' (first | (with_reducible first | exact HX.out | apply Ext_alloc | apply Ext_drewN | apply Ext_drew | (refine Ext_set ?_ ?_) | exact Ext_refl _) | (simp only [World.size_alloc, World.size_setCell, World.size_drew, size_drewN]; omega) | (simp; done) | (simp; omega))))).mono ?_; rintro e wn ⟨rfl, hb⟩; rw [HOF.out]; have HXn := Lib.hid (Ext_trans hb (by repeat' (first | (with_reducible first | exact HX.out | apply Ext_alloc | apply Ext_drewN | apply Ext_drew | (refine Ext_set ?_ ?_) | exact Ext_refl _) | (simp only [World.size_alloc, World.size_setCell, World.size_drew, size_drewN]; omega) | (simp; done) | (simp; omega)))); clear hb HX; have HX := HXn; clear HXn))
        have hzB := Blk.new wn 50 #[.int .i64 s, .int .i64 len, .int .u8 a]
        have hb : Ext wn (wn.alloc (.cells #[.int .i64 s, .int .i64 len, .int .u8 a] 50)) := Ext_alloc (Ext_refl wn)
        generalize wn.alloc (.cells #[.int .i64 s, .int .i64 len, .int .u8 a] 50) = Wz at *
        obtain ⟨zb, hzb⟩ : ∃ zb, wn.heap.size = zb := ⟨_, rfl⟩
        rw [hzb] at hzB ⊢
        clear hzb
        have HZ := Lib.hid hzB
        clear hzB
        have HXn := Lib.hid (Ext_trans hb HX.out)
        clear hb HX
        have HX := HXn
        clear HXn
        go_wp2_with fail
        refine (Cursor_any g c p _ (HP.out.ext HX.out)).mono ?_
        rintro e wq ⟨rfl, hb⟩
        have HX2 := Lib.hid (Ext_trans hb HX.out)
        have HZ2 := Lib.hid (Blk.below' HZ.out hb)
        clear hb HX HZ
        go_wp2_with fail
        refine (Open_any g c p _ _ (HP.out.ext HX2.out)).mono ?_
        rintro e wr ⟨rfl, hb⟩
        rw [HO.out]
        have HX3 := Lib.hid (Ext_trans hb HX2.out)
        have HZ3 := Lib.hid (Blk.below' HZ2.out hb)
        clear hb HX2 HZ2
        have z2 := HZ3.out.cell 2
        simp at z2
        go_wp2_with fail
        refine (Numeric_any _ _).mono ?_
        rintro e wt ⟨rfl, hb⟩
        rw [HQ.out]
        have HX4 := Lib.hid (Ext_trans hb HX3.out)
        clear hb HX3 HZ3 z2
        go_wp2_with fail
        go_ret
        exact ⟨rfl, HX4.out⟩
      · have HQ := Lib.hid hq
        have HNM := Lib.hid (rfl : numM b = numM b)
        cases hu : numM b
        · rw [if_pos ⟨hb2, hq, hu⟩] at hm
          have HU := Lib.hid hu
          rw [hm]
          clear hm hq hu HNM
          go_enter Try.func41, Try.ntmps41
          go_upto_region 2 with (first | (go_at_call 26; refine (Cursor_any g c p _ (HP.out.ext (by repeat' (first | (with_reducible first | exact HX.out | apply Ext_alloc | apply Ext_drewN | apply Ext_drew | (refine Ext_set ?_ ?_) | exact Ext_refl _) | (simp only [World.size_alloc, World.size_setCell, World.size_drew, size_drewN]; omega) | (simp; done) | (simp; omega))))).mono ?_; rintro e wn ⟨rfl, hb⟩; have HXn := Lib.hid (Ext_trans hb (by repeat' (first | (with_reducible first | exact HX.out | apply Ext_alloc | apply Ext_drewN | apply Ext_drew | (refine Ext_set ?_ ?_) | exact Ext_refl _) | (simp only [World.size_alloc, World.size_setCell, World.size_drew, size_drewN]; omega) | (simp; done) | (simp; omega)))); clear hb HX; have HX := HXn; clear HXn) | (go_at_call 16; refine (Of_any g c p _ _ (HP.out.ext (by repeat' (first | (with_reducible first | exact HX.out | apply Ext_alloc | apply Ext_drewN | apply Ext_drew | (refine Ext_set ?_ ?_) | exact Ext_refl _) | (simp only [World.size_alloc, World.size_setCell, World.size_drew, size_drewN]; omega) | (simp; done) | (simp; omega))))).mono ?_; rintro e wn ⟨rfl, hb⟩; rw [HOF.out]; have HXn := Lib.hid (Ext_trans hb (by repeat' (first | (with_reducible first | exact HX.out | apply Ext_alloc | apply Ext_drewN | apply Ext_drew | (refine Ext_set ?_ ?_) | exact Ext_refl _) | (simp only [World.size_alloc, World.size_setCell, World.size_drew, size_drewN]; omega) | (simp; done) | (simp; omega)))); clear hb HX; have HX := HXn; clear HXn))
          have hzB := Blk.new wn 50 #[.int .i64 s, .int .i64 len, .int .u8 a]
          have hb : Ext wn (wn.alloc (.cells #[.int .i64 s, .int .i64 len, .int .u8 a] 50)) := Ext_alloc (Ext_refl wn)
          generalize wn.alloc (.cells #[.int .i64 s, .int .i64 len, .int .u8 a] 50) = Wz at *
          obtain ⟨zb, hzb⟩ : ∃ zb, wn.heap.size = zb := ⟨_, rfl⟩
          rw [hzb] at hzB ⊢
          clear hzb
          have HZ := Lib.hid hzB
          clear hzB
          have HXn := Lib.hid (Ext_trans hb HX.out)
          clear hb HX
          have HX := HXn
          clear HXn
          go_wp2_with fail
          refine (Cursor_any g c p _ (HP.out.ext HX.out)).mono ?_
          rintro e wq ⟨rfl, hb⟩
          have HX2 := Lib.hid (Ext_trans hb HX.out)
          have HZ2 := Lib.hid (Blk.below' HZ.out hb)
          clear hb HX HZ
          go_wp2_with fail
          refine (Open_any g c p _ _ (HP.out.ext HX2.out)).mono ?_
          rintro e wr ⟨rfl, hb⟩
          rw [HO.out]
          have HX3 := Lib.hid (Ext_trans hb HX2.out)
          have HZ3 := Lib.hid (Blk.below' HZ2.out hb)
          clear hb HX2 HZ2
          have z2 := HZ3.out.cell 2
          simp at z2
          go_wp2_with fail
          refine (Numeric_any _ _).mono ?_
          rintro e wt ⟨rfl, hb⟩
          rw [HQ.out]
          have HX4 := Lib.hid (Ext_trans hb HX3.out)
          clear hb HX3 HZ3 z2
          go_wp2_with fail
          refine (number_any _ _).mono ?_
          rintro e wu ⟨rfl, hb⟩
          rw [HU.out]
          have HX5 := Lib.hid (Ext_trans hb HX4.out)
          clear hb HX4
          go_wp2_with fail
          go_ret
          exact ⟨rfl, HX5.out⟩
        · rw [if_neg (fun h => by rw [hu] at h; cases h.2.2)] at hm
          have HU := Lib.hid hu
          rw [hm]
          clear hm hq hu HNM
          go_enter Try.func41, Try.ntmps41
          go_upto_region 2 with (first | (go_at_call 26; refine (Cursor_any g c p _ (HP.out.ext (by repeat' (first | (with_reducible first | exact HX.out | apply Ext_alloc | apply Ext_drewN | apply Ext_drew | (refine Ext_set ?_ ?_) | exact Ext_refl _) | (simp only [World.size_alloc, World.size_setCell, World.size_drew, size_drewN]; omega) | (simp; done) | (simp; omega))))).mono ?_; rintro e wn ⟨rfl, hb⟩; have HXn := Lib.hid (Ext_trans hb (by repeat' (first | (with_reducible first | exact HX.out | apply Ext_alloc | apply Ext_drewN | apply Ext_drew | (refine Ext_set ?_ ?_) | exact Ext_refl _) | (simp only [World.size_alloc, World.size_setCell, World.size_drew, size_drewN]; omega) | (simp; done) | (simp; omega)))); clear hb HX; have HX := HXn; clear HXn) | (go_at_call 16; refine (Of_any g c p _ _ (HP.out.ext (by repeat' (first | (with_reducible first | exact HX.out | apply Ext_alloc | apply Ext_drewN | apply Ext_drew | (refine Ext_set ?_ ?_) | exact Ext_refl _) | (simp only [World.size_alloc, World.size_setCell, World.size_drew, size_drewN]; omega) | (simp; done) | (simp; omega))))).mono ?_; rintro e wn ⟨rfl, hb⟩; rw [HOF.out]; have HXn := Lib.hid (Ext_trans hb (by repeat' (first | (with_reducible first | exact HX.out | apply Ext_alloc | apply Ext_drewN | apply Ext_drew | (refine Ext_set ?_ ?_) | exact Ext_refl _) | (simp only [World.size_alloc, World.size_setCell, World.size_drew, size_drewN]; omega) | (simp; done) | (simp; omega)))); clear hb HX; have HX := HXn; clear HXn))
          have hzB := Blk.new wn 50 #[.int .i64 s, .int .i64 len, .int .u8 a]
          have hb : Ext wn (wn.alloc (.cells #[.int .i64 s, .int .i64 len, .int .u8 a] 50)) := Ext_alloc (Ext_refl wn)
          generalize wn.alloc (.cells #[.int .i64 s, .int .i64 len, .int .u8 a] 50) = Wz at *
          obtain ⟨zb, hzb⟩ : ∃ zb, wn.heap.size = zb := ⟨_, rfl⟩
          rw [hzb] at hzB ⊢
          clear hzb
          have HZ := Lib.hid hzB
          clear hzB
          have HXn := Lib.hid (Ext_trans hb HX.out)
          clear hb HX
          have HX := HXn
          clear HXn
          go_wp2_with fail
          refine (Cursor_any g c p _ (HP.out.ext HX.out)).mono ?_
          rintro e wq ⟨rfl, hb⟩
          have HX2 := Lib.hid (Ext_trans hb HX.out)
          have HZ2 := Lib.hid (Blk.below' HZ.out hb)
          clear hb HX HZ
          go_wp2_with fail
          refine (Open_any g c p _ _ (HP.out.ext HX2.out)).mono ?_
          rintro e wr ⟨rfl, hb⟩
          rw [HO.out]
          have HX3 := Lib.hid (Ext_trans hb HX2.out)
          have HZ3 := Lib.hid (Blk.below' HZ2.out hb)
          clear hb HX2 HZ2
          have z2 := HZ3.out.cell 2
          simp at z2
          go_wp2_with fail
          refine (Numeric_any _ _).mono ?_
          rintro e wt ⟨rfl, hb⟩
          rw [HQ.out]
          have HX4 := Lib.hid (Ext_trans hb HX3.out)
          clear hb HX3 HZ3 z2
          go_wp2_with fail
          refine (number_any _ _).mono ?_
          rintro e wu ⟨rfl, hb⟩
          rw [HU.out]
          have HX5 := Lib.hid (Ext_trans hb HX4.out)
          clear hb HX4
          go_wp2_with fail
          go_ret
          exact ⟨rfl, HX5.out⟩
end Go.Proofs.Ytmldhgebbgalbaa
