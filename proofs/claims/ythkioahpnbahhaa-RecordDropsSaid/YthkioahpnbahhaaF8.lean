/- RecordDrops: what is let go is in no record. -/
import Derived.Test.YthkioahpnbahhaaF7
namespace Go.Proofs.Ythkioahpnbahhaa
set_option linter.unusedVariables false
set_option linter.unusedSimpArgs false
open Go.RowKit Go.Proofs.YthkioahpnbahhaaW.PrintWords
theorem and16383 (x : Int) : bits .and .i64 x 16383 = x % 16384 := i64_mask x 14 (by decide)
theorem drop_at (a : Int) : ∃ k : Nat, (bits .and .i64 a 16383).tmod 9001 = (k : Int) ∧ k ≤ 9000 := by
  rw [and16383]
  have h0 : 0 ≤ a % 16384 := Int.emod_nonneg _ (by decide)
  rw [Int.tmod_eq_emod_of_nonneg h0]
  exact ⟨(a % 16384 % 9001).toNat, by omega, by omega⟩
set_option maxRecDepth 100000 in
set_option maxHeartbeats 8000000 in
theorem RecordDrops_any (a : Int) (A : Option Addr) (c : Nat) (b : List Int) (hn : b.length ≤ maxLen) (hc : b.length ≤ c) (w : World) (hr : Rd w 1 A b.length (u8s b)) :
    Calls Try.prog 5 #[.int .i64 a, .slice A b.length c] w (Ret (.bool true) w) := by
  unfold maxLen at hn
  have HR := Lib.hid (fun w' (h : Ext w w') => Rd_ext h hr)
  have HX := Lib.hid (Ext_refl w)
  clear hr
  by_cases hl : 300 < b.length
  · have hd : decide ((300 : Int) < (b.length : Int)) = true := decide_eq_true (by omega)
    go_enter Try.func5, Try.ntmps5
    go_wp2_with (go_at_call 11; refine (alive10_any _).mono ?_; rintro e wn ⟨rfl, hb⟩; have HXn := Lib.hid (Ext_trans hb (by repeat' (first | (with_reducible first | exact HX.out | apply Ext_alloc | apply Ext_drewN | apply Ext_drew | (refine Ext_set ?_ ?_) | exact Ext_refl _) | (simp only [World.size_alloc, World.size_setCell, World.size_drew, size_drewN]; omega) | (simp; done) | (simp; omega)))); clear hb HX; have HX := HXn; clear HXn)
    go_ret
    exact ⟨rfl, HX.out⟩
  have hd : decide ((300 : Int) < (b.length : Int)) = false := decide_eq_false (by omega)
  have hl2 : b.length ≤ 300 := by omega
  clear hl
  obtain ⟨k, hk, hkl⟩ := drop_at a
  have hmk := make_bytes k (by omega)
  go_enter Try.func5, Try.ntmps5
  go_wp2_with (go_at_call 11; refine (alive10_any _).mono ?_; rintro e wn ⟨rfl, hb⟩; have HXn := Lib.hid (Ext_trans hb (by repeat' (first | (with_reducible first | exact HX.out | apply Ext_alloc | apply Ext_drewN | apply Ext_drew | (refine Ext_set ?_ ?_) | exact Ext_refl _) | (simp only [World.size_alloc, World.size_setCell, World.size_drew, size_drewN]; omega) | (simp; done) | (simp; omega)))); clear hb HX; have HX := HXn; clear HXn)
  have hX2 : Ext w ((wn.alloc (.cells #[.slice none 0 0, .bool false] 26)).alloc (.cells (u8s (List.replicate k 0)).toArray 5)) := Ext_alloc (Ext_alloc HX.out)
  have hM2 := (MkAt.new wn).ext (Ext_alloc (o := .cells (u8s (List.replicate k 0)).toArray 5) (Ext_refl _))
  have hR2 : Rd ((wn.alloc (.cells #[.slice none 0 0, .bool false] 26)).alloc (.cells (u8s (List.replicate k 0)).toArray 5)) 1 (some ⟨wn.heap.size + 1, 0, none⟩) (List.replicate k (0 : Int)).length (u8s (List.replicate k 0)) := by
    have := lit_rd (wn.alloc (.cells #[.slice none 0 0, .bool false] 26)) (List.replicate k 0)
    rw [World.size_alloc] at this
    exact this
  have hp : w.heap.size ≤ wn.heap.size := HX.out.size
  obtain ⟨l0, hl0⟩ : ∃ l0, List.replicate k (0 : Int) = l0 := ⟨_, rfl⟩
  have hlk : l0.length = k := by rw [← hl0, List.length_replicate]
  rw [hl0] at hX2 hM2 hR2 ⊢
  have HX2 := Lib.hid hX2
  have HM2 := Lib.hid hM2
  have HR2 := Lib.hid hR2
  clear hX2 hM2 hR2 hl0 hk hmk
  subst hlk
  generalize ((wn.alloc (.cells #[.slice none 0 0, .bool false] 26)).alloc (.cells (u8s l0).toArray 5)) = w2 at *
  generalize wn.heap.size = p at *
  have hm1 : (Mk.zero.add l0).b.length = min l0.length 8192 := by
    unfold Mk.add Mk.n Mk.zero
    simp
  have hmin1 : (if (8192 : Int) < (l0.length : Int) then (8192 : Int) else (l0.length : Int)) = ((Mk.zero.add l0).b.length : Int) := by
    rw [hm1]
    by_cases h : (8192 : Int) < (l0.length : Int)
    · rw [if_pos h]; omega
    · rw [if_neg h]; omega
  have hlong : decide ((8192 : Int) < (l0.length : Int)) = (Mk.zero.add l0).long := by
    unfold Mk.add Mk.n Mk.zero
    simp only [List.length_nil, Nat.sub_zero, Bool.false_or]
    exact decide_eq_decide.2 (by omega)
  have hb2 : (Mk.zero.add b) = ⟨b, false⟩ := by
    unfold Mk.add Mk.n Mk.zero
    simp only [List.nil_append, List.length_nil, Nat.sub_zero, Bool.false_or]
    rw [List.take_of_length_le (by omega), decide_eq_false (by omega)]
  have HB2 := Lib.hid hb2
  clear hb2 hm1
  refine (Take_data HM2.out 0 0 (some ⟨p + 1, 0, none⟩) l0.length l0 (by omega) (Nat.le_refl _) HR2.out).mono ?_
  obtain ⟨m1, hm1⟩ : ∃ m1, Mk.zero.add l0 = m1 := ⟨_, rfl⟩
  rw [hm1] at hmin1 hlong ⊢
  clear hm1
  rintro e w3 ⟨he, v3, hv3, ho3, ht3⟩
  unfold Nothing at he
  subst he
  have HX3 : Hid (Ext w w3) := Lib.hid (ht3.ext HX2.out hp (Own.ge HX2.out.size (fun g h => by cases h)))
  have HM3 := Lib.hid hv3
  clear hv3 ho3 ht3 HX2 HM2 HR2 HX
  go_wp2_with fail
  refine (Len_any HM3.out).mono ?_
  rintro e wq ⟨rfl, rfl⟩
  go_wp2_with fail
  refine (Long_any HM3.out).mono ?_
  rintro e w3 ⟨rfl, rfl⟩
  go_wp2_with fail
  refine (Drop_any HM3.out).mono ?_
  rintro e w4 ⟨rfl, hm4, hx4⟩
  have HX4 := Lib.hid (Mut_trans hx4 HX3.out hp)
  have HM4 := Lib.hid hm4
  clear hm4 hx4 HX3 HM3
  go_wp2_with fail
  refine (Len_any HM4.out).mono ?_
  rintro e w5 ⟨rfl, rfl⟩
  go_wp2_with fail
  refine (Long_any HM4.out).mono ?_
  rintro e w4 ⟨rfl, rfl⟩
  go_wp2_with fail
  refine (Take_data HM4.out 0 0 A c b (by omega) hc (HR.out _ HX4.out)).mono ?_
  rw [HB2.out]
  rintro e w6 ⟨he, v6, hv6, ho6, ht6⟩
  unfold Nothing at he
  subst he
  have HX6 : Hid (Ext w w6) := Lib.hid (ht6.ext HX4.out hp (Own.ge HX4.out.size (fun g h => by cases h)))
  have HM6 := Lib.hid hv6
  clear hv6 ho6 ht6 HX4 HM4
  obtain ⟨Av, cv, hvv⟩ := Go.Proofs.YthkioahpnbahhaaW.PrintWords.own_slice HM6.out.row
  subst hvv
  go_wp2_with fail
  refine (Take_end HM6.out 0 0 none 0 0).mono ?_
  rintro e w7 ⟨he, hz7, hv7, hm7⟩
  simp only [Bool.false_eq_true, if_false] at he
  subst he
  have HX7 := Lib.hid (Mut_trans hm7 HX6.out hp)
  have HM7 := Lib.hid hz7
  have HV7 := Lib.hid hv7
  have hcv : b.length ≤ cv := own_len_cap hv7
  clear hz7 hv7 hm7 HX6 HM6
  go_wp2_with (go_at_call 15; refine (SameB_any (by omega) hcv hc (Rd.own HV7.out) (HR.out _ HX7.out)).mono ?_; rintro e w8 ⟨rfl, hx8⟩; have HX8 := Lib.hid (Ext_trans hx8 HX7.out); have HM8 := Lib.hid (HM7.out.ext hx8); clear hx8 HX7 HM7 HV7)
  refine (Len_any HM8.out).mono ?_
  rintro e wq ⟨rfl, rfl⟩
  go_wp2_with fail
  go_ret
  exact ⟨rfl, HX8.out⟩
theorem RecordDrops_walk {H : Type} (w : World) (a : Int) (wa : (Lit.int .i64 a).wf = true) (A : Option Addr) (n c : Nat) (t : Handed Try.prog H w 24 (.slice A n c)) :
    Calls Try.prog 5 #[.int .i64 a, .slice A n c] w (Ret (.bool true) w) := by
  obtain ⟨l, rfl, hc, hn, hr, hb⟩ := byte_row t
  exact RecordDrops_any a A c l hn hc w hr
end Go.Proofs.Ythkioahpnbahhaa
