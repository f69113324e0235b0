/- The functions of talk that tell, and Leave. -/
import Derived.Test.YtioaenidkieiiaaT7b
namespace Go.Proofs.Ytioaenidkieiiaa
set_option linter.unusedVariables false
set_option linter.unusedSimpArgs false
open Go.RowKit Go.Shelf

def Tk.both (t : Tk) (x : Nat) : Bool := (t.o.st true x == 1) && (t.o.st false x == 1)
def Tk.basic (t : Tk) : Bool := t.both 0 && t.both 25 && t.named

section
variable (B tb ob : Nat) (t : Tk) (w : World) (h : TkAt B w tb ob t)
include h
set_option maxHeartbeats 1000000 in
theorem both_any (x : Nat) (hx : x < 256) : Calls Try.prog 60 #[.pointer (some ⟨tb, 0, none⟩), .int .u8 (x : Int)] w fun e w' => e = .returned (.bool (t.both x)) ∧ w' = w := by
  have H := Lib.hid h
  have hlt := h.blk.lt
  have q1 := h.blk.cell 1
  simp [Tk.enc] at q1
  clear h
  unfold Tk.both
  obtain ⟨a, ha⟩ : ∃ a, (t.o.st true x == 1) = a := ⟨_, rfl⟩
  obtain ⟨b, hb⟩ : ∃ b, (t.o.st false x == 1) = b := ⟨_, rfl⟩
  rw [ha, hb]
  have HA := Lib.hid ha
  have HB := Lib.hid hb
  clear ha hb
  cases a
  · go_enter Try.func60, Try.ntmps60
    go_wp2_with fail
    refine (On_any ob x true t.o hx _ H.out.obj).mono ?_
    rintro e wq ⟨rfl, rfl⟩
    rw [HA.out]
    go_wp2_with fail
    go_ret
    exact ⟨rfl, rfl⟩
  · go_enter Try.func60, Try.ntmps60
    go_wp2_with fail
    refine (On_any ob x true t.o hx _ H.out.obj).mono ?_
    rintro e wq ⟨rfl, rfl⟩
    rw [HA.out]
    go_wp2_with fail
    refine (On_any ob x false t.o hx _ H.out.obj).mono ?_
    rintro e wq ⟨rfl, rfl⟩
    rw [HB.out]
    go_wp2_with fail
    go_ret
    exact ⟨rfl, rfl⟩
set_option maxHeartbeats 1000000 in
theorem Basic_any : Calls Try.prog 35 #[.pointer (some ⟨tb, 0, none⟩)] w fun e w' => e = .returned (.bool t.basic) ∧ w' = w := by
  have H := Lib.hid h
  have hlt := h.blk.lt
  have q2 := h.blk.cell 2
  simp [Tk.enc] at q2
  clear h
  unfold Tk.basic
  obtain ⟨a, ha⟩ : ∃ a, t.both 0 = a := ⟨_, rfl⟩
  obtain ⟨b, hb⟩ : ∃ b, t.both 25 = b := ⟨_, rfl⟩
  rw [ha, hb]
  have HA := Lib.hid ha
  have HB := Lib.hid hb
  clear ha hb
  cases a
  · go_enter Try.func35, Try.ntmps35
    go_wp2_with fail
    refine (both_any B tb ob t _ H.out 0 (by decide)).mono ?_
    rintro e wq ⟨rfl, rfl⟩
    rw [HA.out]
    go_wp2_with fail
    go_ret
    exact ⟨rfl, rfl⟩
  cases b
  · go_enter Try.func35, Try.ntmps35
    go_wp2_with fail
    refine (both_any B tb ob t _ H.out 0 (by decide)).mono ?_
    rintro e wq ⟨rfl, rfl⟩
    rw [HA.out]
    go_wp2_with fail
    refine (both_any B tb ob t _ H.out 25 (by decide)).mono ?_
    rintro e wq ⟨rfl, rfl⟩
    rw [HB.out]
    go_wp2_with fail
    go_ret
    exact ⟨rfl, rfl⟩
  · go_enter Try.func35, Try.ntmps35
    go_wp2_with fail
    refine (both_any B tb ob t _ H.out 0 (by decide)).mono ?_
    rintro e wq ⟨rfl, rfl⟩
    rw [HA.out]
    go_wp2_with fail
    refine (both_any B tb ob t _ H.out 25 (by decide)).mono ?_
    rintro e wq ⟨rfl, rfl⟩
    rw [HB.out]
    go_wp2_with fail
    go_ret
    exact ⟨rfl, rfl⟩
set_option maxHeartbeats 1000000 in
theorem Extended_any : Calls Try.prog 37 #[.pointer (some ⟨tb, 0, none⟩)] w fun e w' => e = .returned (.bool (t.o.st true 40 == 1)) ∧ w' = w := by
  have H := Lib.hid h
  have hlt := h.blk.lt
  have q1 := h.blk.cell 1
  simp [Tk.enc] at q1
  clear h
  go_enter Try.func37, Try.ntmps37
  go_wp2_with fail
  refine (On_any ob 40 true t.o (by decide) _ H.out.obj).mono ?_
  rintro e wq ⟨rfl, rfl⟩
  go_wp2_with fail
  go_ret
  exact ⟨rfl, rfl⟩
theorem Named_any : Calls Try.prog 39 #[.pointer (some ⟨tb, 0, none⟩)] w fun e w' => e = .returned (.bool t.named) ∧ w' = w := by
  have hlt := h.blk.lt
  have q2 := h.blk.cell 2
  simp [Tk.enc] at q2
  clear h
  go_enter Try.func39, Try.ntmps39
  go_wp2_with fail
  go_ret
  exact ⟨rfl, rfl⟩
theorem Name_any : Calls Try.prog 40 #[.pointer (some ⟨tb, 0, none⟩)] w fun e w' => e = .returned (.string t.name) ∧ w' = w := by
  have hlt := h.blk.lt
  have q0 := h.blk.cell 0
  simp [Tk.enc] at q0
  clear h
  go_enter Try.func40, Try.ntmps40
  go_wp2_with fail
  go_ret
  exact ⟨rfl, rfl⟩
theorem Options_any : Calls Try.prog 41 #[.pointer (some ⟨tb, 0, none⟩)] w fun e w' => e = .returned (.pointer (some ⟨ob, 0, none⟩)) ∧ w' = w := by
  have hlt := h.blk.lt
  have q1 := h.blk.cell 1
  simp [Tk.enc] at q1
  clear h
  go_enter Try.func41, Try.ntmps41
  go_wp2_with fail
  go_ret
  exact ⟨rfl, rfl⟩
end

def Tk.leave (t : Tk) : Tk × List Int := (⟨t.name, (t.o.want 252 40).1, t.named⟩, (t.o.want 252 40).2.1)
set_option maxRecDepth 100000 in
set_option maxHeartbeats 1000000 in
theorem Leave_lit (B tb ob : Nat) (nm : ByteArray) (o o' : Opt) (nd : Bool) (l : List Int) (n : Int) (ho : o.want 252 40 = (o', l, n)) (w : World) (h : TkAt B w tb ob ⟨nm, o, nd⟩) :
    Calls Try.prog 34 #[.pointer (some ⟨tb, 0, none⟩)] w (TkP B tb ob (⟨nm, o', nd⟩, l) w) := by
  have H := Lib.hid h
  have hlt := h.blk.lt
  have q1 := h.blk.cell 1
  have HW := Lib.hid ho
  simp [Tk.enc] at q1
  clear h ho
  go_enter Try.func34, Try.ntmps34
  go_wp2_with fail
  refine (Want_lit (x := 40) (by decide) HW.out H.out.obj).mono ?_
  rintro e w3 ⟨v, rfl, hO, hg, hd⟩
  have H3 := Lib.hid (show TkAt B w3 tb ob ⟨nm, o', nd⟩ from ⟨H.out.blk.grown hg (by simp; exact fun e => H.out.ne e), hO, H.out.ne, H.out.htb, H.out.hob⟩)
  have X3 := Lib.hid (Mut2.of_mut_b (a := tb) hg)
  have HD := Lib.hid hd
  clear hO hg hd
  go_wp2_with fail
  go_ret
  exact ⟨_, rfl, H3.out, X3.out, HD.out⟩
theorem Leave_any (B tb ob : Nat) (t : Tk) (w : World) (h : TkAt B w tb ob t) : Calls Try.prog 34 #[.pointer (some ⟨tb, 0, none⟩)] w (TkP B tb ob t.leave w) :=
  Leave_lit B tb ob t.name t.o _ t.named _ _ rfl w h
end Go.Proofs.Ytioaenidkieiiaa
