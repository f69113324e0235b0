/- RecordPlays: of each row of events every answer is as said. -/
import Derived.Test.YthkioahpnbahhaaF14
namespace Go.Proofs.Ythkioahpnbahhaa
set_option linter.unusedVariables false
set_option linter.unusedSimpArgs false
open Go.RowKit Go.Proofs.YthkioahpnbahhaaW.PrintWords
/-- the bytes so far, apart from the maker's -/
structure BAt (W : World) (mb : Nat) (vb : Value) (bl : List Int) (v : Value) : Prop where
  out : ∃ A c, vb = .slice A bl.length c ∧ bl.length ≤ c ∧ Rd W 1 A bl.length (u8s bl) ∧ (0 < bl.length → Off mb A ∧ ∀ g, v.ownBlock = some g → Off g A)
theorem BAt.ext {W W1 : World} {mb : Nat} {vb v : Value} {bl : List Int} (h : BAt W mb vb bl v) (hx : Ext W W1) : BAt W1 mb vb bl v := by
  obtain ⟨A, c, h1, h2, h3, h4⟩ := h.out
  exact ⟨A, c, h1, h2, Rd_ext hx h3, h4⟩
theorem BAt.turn {W W1 : World} {mb : Nat} {vb v v' : Value} {bl : List Int} (h : BAt W mb vb bl v) (ht : Turn (Own W v) mb W W1) (ho : ∀ g, v'.ownBlock = some g → Own W v g) : BAt W1 mb vb bl v' := by
  obtain ⟨A, c, h1, h2, h3, h4⟩ := h.out
  rcases Nat.eq_zero_or_pos bl.length with h0 | h0
  · obtain rfl : bl = [] := List.eq_nil_of_length_eq_zero h0
    exact ⟨A, c, h1, h2, ⟨by simp [u8s], fun h => absurd h (by simp)⟩, fun h => absurd h (by simp)⟩
  · refine ⟨A, c, h1, h2, h3.turn ht (h4 h0).1 (fun ad e => ?_), fun _ => ⟨(h4 h0).1, fun g hg ad e => ?_⟩⟩
    · have := Rd.lt h3 h0 ad e
      rintro (h5 | h5)
      · omega
      · exact (h4 h0).2 _ h5 ad e rfl
    · have := Rd.lt h3 h0 ad e
      rcases ho g hg with h5 | h5
      · omega
      · exact (h4 h0).2 g h5 ad e
theorem BAt.new {W : World} {B mb : Nat} {vb v : Value} {bl : List Int} (h : Bts B W vb bl) (h1 : mb < B) (h2 : ∀ g, v.ownBlock = some g → g < B) : BAt W mb vb bl v := by
  obtain ⟨A, c, k1, k2, k3, k4⟩ := h
  exact ⟨A, c, k1, k2, k3, fun _ => ⟨k4.off h1, fun g hg => k4.off (h2 g hg)⟩⟩
theorem BAt.nil (W : World) (mb : Nat) (A : Option Addr) (c : Nat) (v : Value) : BAt W mb (.slice A 0 c) [] v :=
  ⟨A, c, rfl, Nat.zero_le _, ⟨by simp [u8s], fun h => absurd h (by simp)⟩, fun h => absurd h (by simp)⟩
theorem BAt.rd {W : World} {mb c : Nat} {A : Option Addr} {bl : List Int} {v : Value} (h : BAt W mb (.slice A bl.length c) bl v) : Rd W 1 A bl.length (u8s bl) := by
  obtain ⟨A, c, h1, _, h3, _⟩ := h.out
  cases h1
  exact h3
theorem BAt.mut {W W1 : World} {mb : Nat} {vb v : Value} {bl : List Int} (h : BAt W mb vb bl v) (hm : Mut mb W W1) : BAt W1 mb vb bl (.slice none 0 0) := by
  obtain ⟨A, c, h1, h2, h3, h4⟩ := h.out
  rcases Nat.eq_zero_or_pos bl.length with h0 | h0
  · obtain rfl : bl = [] := List.eq_nil_of_length_eq_zero h0
    exact ⟨A, c, h1, h2, ⟨by simp [u8s], fun h => absurd h (by simp)⟩, fun h => absurd h (by simp)⟩
  · exact ⟨A, c, h1, h2, h3.grown hm (fun g e => by cases e; exact (h4 h0).1), fun _ => ⟨(h4 h0).1, fun g hg => by cases hg⟩⟩
theorem Mk.min_of (bl : List Int) : (if (8192 : Int) < (bl.length : Int) then (8192 : Int) else (bl.length : Int)) = ((Mk.zero.add bl).b.length : Int) := by
  have hm1 : (Mk.zero.add bl).b.length = min bl.length 8192 := by
    unfold Mk.add Mk.n Mk.zero
    simp
  rw [hm1]
  by_cases h : (8192 : Int) < (bl.length : Int)
  · rw [if_pos h]; omega
  · rw [if_neg h]; omega
theorem Mk.long_of (bl : List Int) : decide ((8192 : Int) < (bl.length : Int)) = (Mk.zero.add bl).long := by
  unfold Mk.add Mk.n Mk.zero
  simp only [List.length_nil, Nat.sub_zero, Bool.false_or]
  exact decide_eq_decide.2 (by omega)
theorem Mk.b_of {bl : List Int} (h : (Mk.zero.add bl).long = false) : (Mk.zero.add bl).b = bl := by
  rw [← Mk.long_of, decide_eq_false_iff_not] at h
  unfold Mk.add Mk.n Mk.zero
  simp only [List.nil_append, List.length_nil, Nat.sub_zero]
  exact List.take_of_length_le (by omega)
set_option maxRecDepth 100000 in
set_option maxHeartbeats 8000000 in
theorem RecordPlays_any (A : Option Addr) (c : Nat) (ms : List Em) (hn : ms.length ≤ maxLen) (w : World) (hr : Rd w 4 A ms.length (ms.flatMap Em.enc)) (hm : ∀ m ∈ ms, (Rd w 1 m.A m.e.bytes.length (u8s m.e.bytes) ∧ m.e.bytes.length ≤ m.c) ∧ m.e.bytes.length ≤ maxLen) :
    Calls Try.prog 3 #[.slice A ms.length c] w (Ret (.bool true) w) := by
  unfold maxLen at hn hm
  have HR := Lib.hid (fun w' (h : Ext w w') => Rd_ext h hr)
  have HM := Lib.hid hm
  have HX := Lib.hid (Ext_refl w)
  clear hr hm
  by_cases hl : 60 < ms.length
  · have hd : decide ((60 : Int) < (ms.length : Int)) = true := decide_eq_true (by omega)
    go_enter Try.func3, Try.ntmps3
    go_wp2_with (go_at_call 11; refine (alive10_any _).mono ?_; rintro e wn ⟨rfl, hb⟩; have HXn := Lib.hid (Ext_trans hb (by repeat' (first | (with_reducible first | exact HX.out | apply Ext_alloc | apply Ext_drewN | apply Ext_drew | (refine Ext_set ?_ ?_) | exact Ext_refl _) | (simp only [World.size_alloc, World.size_setCell, World.size_drew, size_drewN]; omega) | (simp; done) | (simp; omega)))); clear hb HX; have HX := HXn; clear HXn)
    go_ret
    exact ⟨rfl, HX.out⟩
  have hd : decide ((60 : Int) < (ms.length : Int)) = false := decide_eq_false (by omega)
  have hn60 : ms.length ≤ 60 := by omega
  clear hl
  go_enter Try.func3, Try.ntmps3
  go_wp2_with (go_at_call 11; refine (alive10_any _).mono ?_; rintro e wn ⟨rfl, hb⟩; have HXn := Lib.hid (Ext_trans hb (by repeat' (first | (with_reducible first | exact HX.out | apply Ext_alloc | apply Ext_drewN | apply Ext_drew | (refine Ext_set ?_ ?_) | exact Ext_refl _) | (simp only [World.size_alloc, World.size_setCell, World.size_drew, size_drewN]; omega) | (simp; done) | (simp; omega)))); clear hb HX; have HX := HXn; clear HXn)
  have HN := Lib.hid (MkAt.new wn)
  have hp : w.heap.size ≤ wn.heap.size := HX.out.size
  go_loopw [4, 6, 7, 8, 9, 18] (fun vb _ _ _ _ v wr => ∃ (k : Nat) (bl : List Int) (vm : Value), k ≤ ms.length ∧ v = .int .i64 k ∧ Hid (MkAt wr wn.heap.size (Mk.zero.add bl) vm) ∧ Hid (BAt wr wn.heap.size vb bl vm) ∧ Hid (Ext w wr) ∧ Hid (∀ g, vm.ownBlock = some g → w.heap.size ≤ g) ∧ bl.length ≤ k * 9000) (fun _ _ _ _ _ v _ => ms.length - (intOf v).toNat)
  case atStart => exact ⟨0, [], .slice none 0 0, Nat.zero_le _, rfl, Lib.hid (by rw [Mk.add_nil]; exact HN.out.ext (Ext_alloc (Ext_refl _))), Lib.hid (BAt.nil _ _ _ _ _), Ext_alloc (Ext_alloc HX.out), fun g hg => (by cases hg), by simp⟩
  case round =>
    clear HN HX
    obtain ⟨k, bl, vm, hk, rfl, HK, HB, HX, HV, hbl⟩ := hrel
    obtain ⟨Ab, cb, rfl, hcb, hrb, hob⟩ := HB.out.out
    by_cases hlt : k < ms.length
    · obtain ⟨m, hx⟩ : ∃ m, ms[k]? = some m := ⟨_, List.getElem?_eq_getElem hlt⟩
      obtain ⟨bb, o, hA, hcell⟩ := (HR.out _ HX.out).elem Em.enc (fun _ => rfl) hlt hx
      have hmem : m ∈ ms := List.mem_of_getElem? hx
      have hmr := HM.out m hmem
      have hwk : IntKind.i64.wrap ((k : Int) + 1) = ((k + 1 : Nat) : Int) := IntWalk.i64_in _ (by omega)
      obtain ⟨⟨kd, co, op, l⟩, Am, cm⟩ := m
      have k0 := hcell 0 _ rfl
      have k1 := hcell 1 _ rfl
      have k2 := hcell 2 _ rfl
      have k3 := hcell 3 _ rfl
      simp only [Nat.add_zero, Em.v] at k0 k1 k2 k3
      subst hA
      have HMR := Lib.hid (fun w' (h : Ext w w') => Rd_ext h hmr.1.1)
      have hmc : l.length ≤ cm := hmr.1.2
      have hml : l.length ≤ 2 ^ 63 - 1 := hmr.2
      clear hcell hx hmem hmr hob hrb
      by_cases hb9 : 9000 < l.length
      · have hd9 : decide ((9000 : Int) < (l.length : Int)) = true := decide_eq_true (by omega)
        go_wp2_with fail
        go_ret
        exact ⟨rfl, Ext_alloc HX.out⟩
      · have hd9 : decide ((9000 : Int) < (l.length : Int)) = false := decide_eq_false (by omega)
        have hl9 : l.length ≤ 9000 := by omega
        clear hb9
        have HK' := Lib.hid (HK.out.ext (Ext_alloc (o := .cells #[.int .i64 kd, .int .u8 co, .int .u8 op, .slice Am l.length cm] 28) (Ext_refl wr)))
        have HB' := Lib.hid (HB.out.ext (Ext_alloc (o := .cells #[.int .i64 kd, .int .u8 co, .int .u8 op, .slice Am l.length cm] 28) (Ext_refl wr)))
        have HBX := Lib.hid (Blk.new wr 28 #[.int .i64 kd, .int .u8 co, .int .u8 op, .slice Am l.length cm])
        have HNE : Hid (wr.heap.size ≠ wn.heap.size) := Lib.hid (fun e => by have := HK.out.blk.lt; omega)
        have HNO : Hid (¬ Own (wr.alloc (.cells #[.int .i64 kd, .int .u8 co, .int .u8 op, .slice Am l.length cm] 28)) vm wr.heap.size) := Lib.hid (by
          rintro (h | h)
          · rw [World.size_alloc] at h; omega
          · have := (World.ownsRow.lt HK.out.row _ h).2; omega)
        by_cases h100 : 100 < kd
        · have hd100 : decide ((100 : Int) < kd) = true := decide_eq_true h100
          have d1 : (kd == 1) = false := by rw [beq_eq_false_iff_ne]; omega
          have d2 : (kd == 2) = false := by rw [beq_eq_false_iff_ne]; omega
          have hmin := Mk.min_of bl
          obtain ⟨M, hM⟩ : ∃ M, Mk.zero.add bl = M := ⟨_, rfl⟩
          rw [hM] at HK' hmin
          clear hM HK
          go_wp2_with fail
          refine (Drop_any HK'.out).mono ?_
          rintro e w3 ⟨rfl, hm3, hx3⟩
          have HX3 : Hid (Ext w w3) := Lib.hid (Mut_trans hx3 (Ext_alloc HX.out) hp)
          have HM3 := Lib.hid hm3
          have hbx3 := HBX.out.grown hx3 (fun e => HNE.out (by injection e))
          have e0 := hbx3.cell 0
          simp at e0
          have e1 := hbx3.cell 1
          simp at e1
          have e2 := hbx3.cell 2
          simp at e2
          have e3 := hbx3.cell 3
          simp at e3
          have HBX3 := Lib.hid hbx3
          have hlt3 := hbx3.lt
          clear hm3 hx3 hbx3 HK' HB HB' HBX k0 k1 k2 k3 HV HX
          go_wp2_with fail
          refine (Take_other _ _ kd co op (by omega) (by omega) Am cm l.length).mono ?_
          rintro e w4 ⟨he, hx4⟩
          unfold Nothing at he
          subst he
          have HX4 := Lib.hid (Ext_trans hx4 (Ext_alloc HX3.out))
          have HM4 := Lib.hid (HM3.out.ext (Ext_trans hx4 (Ext_alloc (Ext_refl _))))
          have hbx4 := HBX3.out.below' (Ext_trans hx4 (Ext_alloc (Ext_refl _)))
          clear e0 e1 e2 e3
          have e0 := hbx4.cell 0
          simp at e0
          have e1 := hbx4.cell 1
          simp at e1
          have e2 := hbx4.cell 2
          simp at e2
          have e3 := hbx4.cell 3
          simp at e3
          clear hbx4 hx4 HX3 HM3 HBX3
          go_wp2_with fail
          refine (Len_any HM4.out).mono ?_
          rintro e wq ⟨rfl, rfl⟩
          go_wp2_with fail
          refine (Long_any HM4.out).mono ?_
          rintro e w4 ⟨rfl, rfl⟩
          go_wp2_with fail
          refine ⟨⟨k + 1, [], .slice none 0 0, by omega, by go_num, Lib.hid (by rw [Mk.add_nil]; exact HM4.out), Lib.hid (BAt.nil _ _ _ _ _), HX4, fun g hg => (by cases hg), by simp⟩, by simp [intOf]; omega⟩
        · have hd100 : decide ((100 : Int) < kd) = false := decide_eq_false h100
          by_cases c1 : kd = 1
          · subst c1
            go_wp2_with fail
            refine (Take_data HK'.out co op Am cm l (by omega) hmc (HMR.out _ (Ext_alloc HX.out))).mono ?_
            rintro e w3 ⟨he, v3, hv3, ho3, ht3⟩
            unfold Nothing at he
            subst he
            rw [Mk.add_add Mk.zero (by show ([] : List Int).length ≤ _; simp) bl l] at hv3
            have HM3 := Lib.hid hv3
            have HB3 := Lib.hid (HB'.out.turn ht3 ho3)
            have hge := Own.ge (W := wr.alloc (.cells #[.int .i64 1, .int .u8 co, .int .u8 op, .slice Am l.length cm] 28)) (Nat.le_trans HX.out.size (by rw [World.size_alloc]; omega)) HV.out
            have HX3 : Hid (Ext w w3) := Lib.hid (ht3.ext (Ext_alloc HX.out) hp hge)
            have HV3 : Hid (∀ g, v3.ownBlock = some g → w.heap.size ≤ g) := Lib.hid (fun g hg => hge g (ho3 g hg))
            have hbx3 : Blk w3 wr.heap.size 28 _ := (ht3.block wr.heap.size HBX.out.lt HNE.out (HNO.out)).trans HBX.out
            have e0 := hbx3.cell 0
            simp at e0
            have e1 := hbx3.cell 1
            simp at e1
            have e2 := hbx3.cell 2
            simp at e2
            have e3 := hbx3.cell 3
            simp at e3
            have HBX3 := Lib.hid hbx3
            clear hv3 ho3 ht3 hge hbx3 HK HK' HB HB' HBX k0 k1 k2 k3 HV HX
            go_wp2_with fail
            refine (Join_two w3 Ab Am cb cm bl l hcb hmc (HB3.out.rd) (HMR.out _ HX3.out) (by omega) (by omega)).mono ?_
            rintro e w4 ⟨v4, rfl, h4, hx4⟩
            obtain ⟨b2, hb2⟩ : ∃ b2, bl ++ l = b2 := ⟨_, rfl⟩
            have hll : b2.length = bl.length + l.length := by rw [← hb2]; exact List.length_append
            rw [← hll, hb2] at h4
            rw [hb2] at HM3
            obtain ⟨A4, c4, rfl⟩ := Go.Proofs.YthkioahpnbahhaaW.PrintWords.own_slice h4
            have HM4 := Lib.hid (HM3.out.ext hx4)
            have HB4 : Hid (BAt w4 wn.heap.size (.slice A4 b2.length c4) b2 v3) := Lib.hid (BAt.new (Bts.of_own h4) (Nat.lt_succ_of_lt HM3.out.blk.lt) (fun g hg => Nat.lt_succ_of_lt (World.ownsRow.lt HM3.out.row g hg).2))
            have HX4 := Lib.hid (Ext_trans hx4 HX3.out)
            have hbx4 := HBX3.out.below' hx4
            clear e0 e1 e2 e3
            have e0 := hbx4.cell 0
            simp at e0
            have e1 := hbx4.cell 1
            simp at e1
            have e2 := hbx4.cell 2
            simp at e2
            have e3 := hbx4.cell 3
            simp at e3
            have hmin := Mk.min_of b2
            have hlong := Mk.long_of b2
            obtain ⟨M, hM⟩ : ∃ M, Mk.zero.add b2 = M := ⟨_, rfl⟩
            rw [hM] at HM4 hmin hlong
            have HMM := Lib.hid hM
            have HLL := Lib.hid hll
            clear hbx4 h4 hx4 hb2 hM hll HM3 HB3 HX3 HBX3
            go_wp2_with fail
            refine (Len_any HM4.out).mono ?_
            rintro e wq ⟨rfl, rfl⟩
            go_wp2_with fail
            refine (Long_any HM4.out).mono ?_
            rintro e w4 ⟨rfl, rfl⟩
            go_wp2_with fail
            refine ⟨⟨k + 1, b2, v3, by omega, by go_num, Lib.hid (by rw [HMM.out]; exact HM4.out), HB4, HX4, HV3.out, by rw [HLL.out]; omega⟩, by simp [intOf]; omega⟩
          · have d1 : (kd == 1) = false := by rw [beq_eq_false_iff_ne]; exact c1
            have hmin := Mk.min_of bl
            have hlong := Mk.long_of bl
            by_cases c2 : kd = 2
            · subst c2
              obtain ⟨M, hM⟩ : ∃ M, Mk.zero.add bl = M := ⟨_, rfl⟩
              have hb_of := @Mk.b_of bl
              rw [hM] at HK' hmin hlong hb_of
              have HBO := Lib.hid hb_of
              clear hM HK hb_of
              obtain ⟨Av, cv, hvm⟩ := Go.Proofs.YthkioahpnbahhaaW.PrintWords.own_slice HK'.out.row
              go_wp2_with fail
              refine (Take_end HK'.out co op Am cm l.length).mono ?_
              rintro e w3 ⟨he, hz3, hv3, hm3⟩
              have HX3 : Hid (Ext w w3) := Lib.hid (Mut_trans hm3 (Ext_alloc HX.out) hp)
              have HM3 := Lib.hid hz3
              have HB3 := Lib.hid (HB'.out.mut hm3)
              have hbx3 := HBX.out.grown hm3 (fun e => HNE.out (by injection e))
              have e0 := hbx3.cell 0
              simp at e0
              have e1 := hbx3.cell 1
              simp at e1
              have e2 := hbx3.cell 2
              simp at e2
              have e3 := hbx3.cell 3
              simp at e3
              have hlt3 := hbx3.lt
              have HBX3 := Lib.hid hbx3
              cases hlg : M.long
              · have hmb := HBO.out hlg
                rw [hlg, hvm, hmb] at he
                rw [hvm, hmb] at hv3
                rw [hlg] at hlong
                simp only [Bool.false_eq_true, if_false] at he
                subst he
                have HV3 := Lib.hid hv3
                have hcv := own_len_cap hv3
                clear hz3 hv3 hm3 hbx3 HBX HBO HK' HB HB' hvm hlg hmb k0 k1 k2 k3 HV HX
                go_wp2_with (go_at_call 15; refine (SameB_any (by omega) hcv hcb (Rd.own HV3.out) HB3.out.rd).mono ?_; rintro e w4 ⟨rfl, hx4⟩; have HX4 := Lib.hid (Ext_trans hx4 HX3.out); have HM4 := Lib.hid (HM3.out.ext hx4); clear hx4 HX3 HM3 HB3 HV3)
                go_wp2_with fail
                refine (Len_any (HM4.out.ext (Ext_alloc (o := .cells #[] 5) (Ext_refl _)))).mono ?_
                rintro e wq ⟨rfl, rfl⟩
                go_wp2_with fail
                refine (Long_any (HM4.out.ext (Ext_alloc (o := .cells #[] 5) (Ext_refl _)))).mono ?_
                rintro e wq ⟨rfl, rfl⟩
                go_wp2_with fail
                refine ⟨⟨k + 1, [], .slice none 0 0, by omega, by go_num, Lib.hid (by rw [Mk.add_nil]; exact HM4.out.ext (Ext_alloc (Ext_refl _))), Lib.hid (BAt.nil _ _ _ _ _), Ext_alloc HX4.out, fun g hg => (by cases hg), by simp⟩, by simp [intOf]; omega⟩
              · rw [hlg] at he hlong
                simp only [if_true] at he
                subst he
                clear hz3 hv3 hm3 hbx3 HBX HBO HK' HB HB' hvm hlg k0 k1 k2 k3 HV HX
                go_wp2_with fail
                go_wp2_with fail
                refine (Len_any (HM3.out.ext (Ext_alloc (o := .cells #[] 5) (Ext_refl _)))).mono ?_
                rintro e wq ⟨rfl, rfl⟩
                go_wp2_with fail
                refine (Long_any (HM3.out.ext (Ext_alloc (o := .cells #[] 5) (Ext_refl _)))).mono ?_
                rintro e wq ⟨rfl, rfl⟩
                go_wp2_with fail
                refine ⟨⟨k + 1, [], .slice none 0 0, by omega, by go_num, Lib.hid (by rw [Mk.add_nil]; exact HM3.out.ext (Ext_alloc (Ext_refl _))), Lib.hid (BAt.nil _ _ _ _ _), Ext_alloc HX3.out, fun g hg => (by cases hg), by simp⟩, by simp [intOf]; omega⟩
            · have d2 : (kd == 2) = false := by rw [beq_eq_false_iff_ne]; exact c2
              obtain ⟨M, hM⟩ : ∃ M, Mk.zero.add bl = M := ⟨_, rfl⟩
              rw [hM] at HK' hmin hlong
              have HMM := Lib.hid hM
              clear hM HK
              go_wp2_with fail
              refine (Take_other _ _ kd co op c1 c2 Am cm l.length).mono ?_
              rintro e w4 ⟨he, hx4⟩
              unfold Nothing at he
              subst he
              have HX4 := Lib.hid (Ext_trans hx4 (Ext_alloc HX.out))
              have HM4 := Lib.hid (HK'.out.ext hx4)
              have HB4 := Lib.hid (HB'.out.ext hx4)
              have hbx4 := HBX.out.below' hx4
              have e0 := hbx4.cell 0
              simp at e0
              have e1 := hbx4.cell 1
              simp at e1
              have e2 := hbx4.cell 2
              simp at e2
              have e3 := hbx4.cell 3
              simp at e3
              clear hbx4 hx4 HX HB HB' HK' HBX k0 k1 k2 k3 c1 c2
              go_wp2_with fail
              refine (Len_any HM4.out).mono ?_
              rintro e wq ⟨rfl, rfl⟩
              go_wp2_with fail
              refine (Long_any HM4.out).mono ?_
              rintro e w4 ⟨rfl, rfl⟩
              go_wp2_with fail
              refine ⟨⟨k + 1, bl, vm, by omega, by go_num, Lib.hid (by rw [HMM.out]; exact HM4.out), HB4, HX4, HV.out, by omega⟩, by simp [intOf]; omega⟩
    · have hke : k = ms.length := by omega
      subst hke
      clear hlt hk
      go_wp2_with fail
      go_ret
      exact ⟨rfl, HX.out⟩
theorem RecordPlays_walk {H : Type} (w : World) (A : Option Addr) (n c : Nat) (t : Handed Try.prog H w 22 (.slice A n c)) :
    Calls Try.prog 3 #[.slice A n c] w (Ret (.bool true) w) := by
  obtain ⟨ms, rfl, hc, hn, hr, hm⟩ := ev_rows10 t
  exact RecordPlays_any A c ms hn w hr hm
end Go.Proofs.Ythkioahpnbahhaa
