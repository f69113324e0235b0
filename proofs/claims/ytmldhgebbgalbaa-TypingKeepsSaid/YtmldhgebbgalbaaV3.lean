/- Attributes modified: attr.Modify, field.modify, field.Mark. -/
import Derived.Test.YtmldhgebbgalbaaV2
namespace Go.Proofs.Ytmldhgebbgalbaa
set_option linter.unusedVariables false
set_option linter.unusedSimpArgs false
open Go.RowKit
def modB (b : Int) (on : Bool) : Int := if on then Go.bits .or .u8 b 1 else Go.bits .andNot .u8 b 1
theorem modB_bd (b : Int) (h : 0 ≤ b ∧ b < 256) (on : Bool) : 0 ≤ modB b on ∧ modB b on < 256 := by
  obtain ⟨k, rfl⟩ := Int.eq_ofNat_of_zero_le h.1
  have hk : k < 256 := by omega
  have := (by decide +kernel : ∀ k : Fin 256, ∀ on : Bool, 0 ≤ modB (k.val : Int) on ∧ modB (k.val : Int) on < 256) ⟨k, hk⟩ on
  exact this
theorem Modify_any (b : Int) (on : Bool) (w : World) : Calls Try.prog 23 #[.int .u8 b, .bool on] w (Ret (.int .u8 (modB b on)) w) := by
  cases on
  · go_enter Try.func23, Try.ntmps23
    go_wp2
    go_ret
    exact ⟨rfl, Ext_refl _⟩
  · go_enter Try.func23, Try.ntmps23
    go_wp2
    go_ret
    exact ⟨rfl, Ext_refl _⟩
def Cel.mod (x : Cel) (on : Bool) : Cel := { x with b := modB x.b on }
def Pl.modP (p : Pl) (i : Int) (on : Bool) : Pl := p.set i ((p.at i).mod on)
theorem at_bdd {p : Pl} (hby : ∀ y ∈ p.cells, 0 ≤ y.b ∧ y.b < 256) (i : Int) : 0 ≤ (p.at i).b ∧ (p.at i).b < 256 := by
  unfold Pl.at
  split
  · next h =>
    have : i.toNat < p.cells.length := by have : p.n = p.cells.length := rfl; omega
    rw [List.getD_eq_getElem?_getD, List.getElem?_eq_getElem this]
    exact hby _ (List.getElem_mem this)
  · exact ⟨by decide, by decide⟩
/-- what hands nothing back -/
def PlDo (g c : Nat) (p' : Pl) (w : World) (e : Ending) (w' : World) : Prop := (∃ v, e = .returned v) ∧ PlAt w' g c p' ∧ Chg [g, c] w w'
set_option maxRecDepth 100000 in
set_option maxHeartbeats 4000000 in
theorem modify_any (g c : Nat) (p : Pl) (i : Int) (on : Bool) (w : World) (h : PlAt w g c p) : Calls Try.prog 71 #[.pointer (some ⟨g, 0, none⟩), .int .i64 i, .bool on] w (PlDo g c (p.modP i on) w) := by
  have HP := Lib.hid h
  have HX := Lib.hid (Ext_refl w)
  have HB := Lib.hid (at_bdd h.ok.by_ i)
  obtain ⟨x, hx⟩ : ∃ x, p.at i = x := ⟨_, rfl⟩
  have HAX := Lib.hid hx
  clear h
  rw [hx] at HB
  go_enter Try.func71, Try.ntmps71
  go_wp2_with fail
  refine (At_any g c p i _ HP.out).mono ?_
  rw [hx]
  rintro e w1 ⟨rfl, hb⟩
  have HP1 := Lib.hid (HP.out.ext hb)
  have HX1 := Lib.hid hb
  clear hb hx
  go_wp2_with fail
  refine (Modify_any x.b on _).mono ?_
  rintro e w2 ⟨rfl, hb⟩
  have hbx := (Blk.new w1 46 #[.int .u8 x.b, .bool x.ge, .bool x.st, .int .u8 x.li, .int .u8 x.co]).below' hb
  have HP2 := Lib.hid (HP1.out.ext (Ext_trans hb (Ext_alloc (Ext_refl w1))))
  have HX2 := Lib.hid (Ext_trans hb (Ext_alloc (o := .cells #[.int .u8 x.b, .bool x.ge, .bool x.st, .int .u8 x.li, .int .u8 x.co] 46) HX1.out))
  have hws : w.heap.size ≤ w1.heap.size := HX1.out.size
  have hgl : g < w1.heap.size := HP1.out.glt
  have hcl : c < w1.heap.size := HP1.out.clt
  have e0 := hbx.cell 0
  have e1 := hbx.cell 1
  have e2 := hbx.cell 2
  have e3 := hbx.cell 3
  have e4 := hbx.cell 4
  have f0 := hbx.free 0
  have hbl := hbx.lt
  simp at e0 e1 e2 e3 e4
  obtain ⟨nb, hnb⟩ : ∃ nb, modB x.b on = nb := ⟨_, rfl⟩
  have HNB := Lib.hid hnb
  rw [hnb]
  clear hb hbx HP1 HX1 HX hnb
  generalize w1.heap.size = bx at *
  go_wp2_with fail
  have hp3 : PlAt (w2.setCell ⟨bx, 0, none⟩ (.int .u8 nb)) g c p := HP2.out.chg (l := [bx]) ((Chg.refl _ _).set _ _ _ (.inl (by simp))) (by simp; omega) (by simp; omega)
  have hb2 : 0 ≤ nb ∧ nb < 256 := by rw [← HNB.out]; exact modB_bd _ HB.out on
  refine (Set_any g c p i ⟨nb, x.ge, x.st, x.li, x.co⟩ hb2 _ hp3).mono ?_
  rintro e w3 ⟨rfl, hs, hc⟩
  have HS := Lib.hid hs
  have HC := Lib.hid hc
  clear hs hc hp3
  go_wp2_with fail
  go_end0
  refine ⟨⟨_, rfl⟩, ?_, ?_⟩
  · have : p.modP i on = p.set i ⟨nb, x.ge, x.st, x.li, x.co⟩ := by
      unfold Pl.modP Cel.mod
      rw [HAX.out, HNB.out]
    rw [this]
    exact HS.out
  · exact ((Chg.of_ext HX2.out [g, c]).set bx 0 _ (.inr hws)).trans HC.out
def Pl.mark (p : Pl) (i : Int) : Pl := if p.before i < 0 then p else p.modP (p.before i) true
set_option maxRecDepth 100000 in
set_option maxHeartbeats 4000000 in
theorem Mark_any (g c : Nat) (p : Pl) (i : Int) (w : World) (h : PlAt w g c p) : Calls Try.prog 43 #[.pointer (some ⟨g, 0, none⟩), .int .i64 i] w (PlTo (.bool (decide (0 ≤ p.before i))) g c (p.mark i) w) := by
  have HP := Lib.hid h
  clear h
  by_cases hb0 : p.before i < 0
  · have hv : p.mark i = p := by unfold Pl.mark; rw [if_pos hb0]
    have hd : decide (0 ≤ p.before i) = false := decide_eq_false (by omega)
    have hd2 : decide (p.before i < 0) = true := decide_eq_true hb0
    rw [hv, hd]
    obtain ⟨b, hbb⟩ : ∃ b, p.before i = b := ⟨_, rfl⟩
    rw [hbb] at hd2
    have HBB := Lib.hid hbb
    clear hbb hd hb0 hv
    go_enter Try.func43, Try.ntmps43
    go_wp2_with fail
    refine (Before_any g c p i _ HP.out).mono ?_
    rintro e w1 ⟨rfl, hb⟩
    rw [show p.lookM i (-1) = b from HBB.out]
    have HP1 := Lib.hid (HP.out.ext hb)
    have HX1 := Lib.hid hb
    clear hb
    go_wp2_with fail
    go_ret
    exact ⟨rfl, HP1.out, Chg.of_ext HX1.out _⟩
  · have hv : p.mark i = p.modP (p.before i) true := by unfold Pl.mark; rw [if_neg hb0]
    have hd : decide (0 ≤ p.before i) = true := decide_eq_true (by omega)
    have hd2 : decide (p.before i < 0) = false := decide_eq_false hb0
    rw [hv, hd]
    obtain ⟨b, hbb⟩ : ∃ b, p.before i = b := ⟨_, rfl⟩
    rw [hbb] at hd2 ⊢
    have HBB := Lib.hid hbb
    clear hbb hd hb0 hv
    go_enter Try.func43, Try.ntmps43
    go_wp2_with fail
    refine (Before_any g c p i _ HP.out).mono ?_
    rintro e w1 ⟨rfl, hb⟩
    rw [show p.lookM i (-1) = b from HBB.out]
    have HP1 := Lib.hid (HP.out.ext hb)
    have HX1 := Lib.hid hb
    clear hb
    go_wp2_with fail
    refine (modify_any g c p b true _ HP1.out).mono ?_
    rintro e w2 ⟨⟨v, rfl⟩, hs, hc⟩
    have HS := Lib.hid hs
    have HC := Lib.hid hc
    clear hs hc
    go_wp2_with fail
    go_ret
    exact ⟨rfl, HS.out, (Chg.of_ext HX1.out _).trans HC.out⟩
end Go.Proofs.Ytmldhgebbgalbaa
