/- Bytes held against each other (the document's helper Same). -/
import Derived.Test.YtioaenidkieiiaaB
import Derived.LoopTactic
import Derived.Deep.QuietTactic
import Derived.BigQuiet
namespace Go.Proofs.Ytioaenidkieiiaa
set_option linter.unusedVariables false
set_option linter.unusedSimpArgs false
open Go.RowKit

theorem below_drewN {B : Nat} {w W : World} (h : Below B w W) (n : Nat) : Below B w (W.drewN n) := ⟨h.os, h.tape, h.output, h.size, h.block⟩
theorem take_get {α : Type} {l : List α} {k : Nat} {a : α} (h : l[k]? = some a) : l.take (k + 1) = l.take k ++ [a] := by rw [List.take_add_one, h]; rfl

def SameP (w : World) (l m : List Int) (e : Ending) (w' : World) : Prop := e = .returned (.bool (decide (l = m))) ∧ Below w.heap.size w w'

set_option maxHeartbeats 1000000 in
theorem Same_any (A B : Option Addr) (c d : Nat) (l m : List Int) (hn : l.length ≤ 1000000000) (w : World) (hl : Rd w 1 A l.length (u8s l)) (hm : Rd w 1 B m.length (u8s m)) :
    Calls Try.prog 16 #[.slice A l.length c, .slice B m.length d] w (SameP w l m) := by
  have HL := Lib.hid hl
  have HM := Lib.hid hm
  clear hl hm
  by_cases e : l.length = m.length
  · have e1 : ((l.length : Int) != (m.length : Int)) = false := by rw [bne_eq_false_iff_eq]; omega
    have HE := Lib.hid e
    have he1 : l.length ≤ m.length := by omega
    clear e
    go_enter Try.func16, Try.ntmps16
    go_wp2
    go_loopw [5] (fun v wr => ∃ k : Nat, k ≤ l.length ∧ v = .int .i64 k ∧ Hid (l.take k = m.take k) ∧ ∃ n, wr = w.drewN n) (fun v _ => l.length - (intOf v).toNat)
    case atStart => exact ⟨0, Nat.zero_le _, rfl, rfl, 0, rfl⟩
    case round =>
      obtain ⟨k, hk, rfl, H, n, rfl⟩ := hrel
      by_cases hlt : k < l.length
      · obtain ⟨a, ha⟩ : ∃ a, l[k]? = some a := ⟨_, List.getElem?_eq_getElem hlt⟩
        obtain ⟨b, hb⟩ : ∃ b, m[k]? = some b := ⟨_, List.getElem?_eq_getElem (by omega)⟩
        obtain ⟨b1, o1, u1, rfl, hu1, c1⟩ := HL.out.at1 hlt
        obtain ⟨b2, o2, u2, rfl, hu2, c2⟩ := HM.out.at1 (i := k) (by omega)
        rw [u8s_get, ha] at hu1
        rw [u8s_get, hb] at hu2
        obtain rfl : Value.int .u8 a = u1 := by simpa using hu1
        obtain rfl : Value.int .u8 b = u2 := by simpa using hu2
        have hk0 : (0 : Int) ≤ k := by omega
        have hk1 : (k : Int) < l.length := by omega
        have hk2 : (k : Int) < m.length := by omega
        have HA := Lib.hid ha
        have HB := Lib.hid hb
        clear ha hb hu1 hu2
        by_cases hab : a = b
        · subst hab
          go_wp2
          go_quiet (fail)
          all_goals (go_wp2; go_roundw)
          case rel => exact ⟨k + 1, by omega, by go_num, (show l.take (k + 1) = m.take (k + 1) by rw [take_get HA.out, take_get HB.out, H.out]), _, rfl⟩
          case measure => simp [intOf]; omega
        · have hab1 : (a != b) = true := by rw [bne_iff_ne]; exact hab
          have HN := Lib.hid hab
          clear hab
          go_wp2
          go_quiet (fail)
          all_goals (go_wp2; go_ret)
          all_goals
            refine ⟨?_, by simp only [World.drewN_drewN]; exact below_drewN (Below.refl _ _) _⟩
            have : ¬ l = m := fun h => HN.out (by
              have h1 := HA.out
              rw [h, HB.out] at h1
              exact (Option.some.inj h1).symm)
            simp [this]
      · have : k = l.length := by omega
        subst this
        go_wp2
        go_ret
        refine ⟨?_, below_drewN (Below.refl _ _) n⟩
        have := H.out
        rw [List.take_length, HE.out, List.take_length] at this
        simp [this]
  · have e1 : ((l.length : Int) != (m.length : Int)) = true := by rw [bne_iff_ne]; omega
    have HE := Lib.hid e
    clear e
    go_enter Try.func16, Try.ntmps16
    go_wp2
    go_ret
    refine ⟨?_, Below.refl _ _⟩
    have : ¬ l = m := fun h => HE.out (by rw [h])
    simp [this]
end Go.Proofs.Ytioaenidkieiiaa
