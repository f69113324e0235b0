/- Chapter 10's example. -/
import Derived.Test.YthkioahpnbahhaaFB
namespace Go.Proofs.Ythkioahpnbahhaa
set_option linter.unusedVariables false
set_option linter.unusedSimpArgs false
open Go.RowKit Go.Proofs.YthkioahpnbahhaaW.PrintWords
theorem make_bytes (m : Nat) (hm : m ≤ 100000) (W : World) : (Instr.makeSlice 24 (.int .i64 (m : Int)) (.int .i64 (m : Int))).run Try.prog W = .ok (.slice (some ⟨W.heap.size, 0, none⟩) m m) (W.alloc (.cells (u8s (List.replicate m 0)).toArray 5)) := by
  obtain ⟨i0, hi, hz0, hz1, hz2⟩ := info_parts info5'
  have h := run_makeSlice W 24 5 i0 _ Try.underlying24 hi hz0 .i64 .i64 (m : Int) (m : Int) (by omega) (Int.le_refl _) (by rw [hz1]; simp; omega) (by rw [hz2]; omega) (by omega)
  rw [h, hz1]
  simp only [Int.toNat_natCast]
  have e : madeCells (Value.cells (.int .u8 0)) (m * 1) = (u8s (List.replicate m 0)).toArray := by
    refine Array.ext_getElem? (fun i => ?_)
    unfold madeCells
    rw [Array.getElem?_map, Array.getElem?_range, List.getElem?_toArray, u8s_get, List.getElem?_replicate]
    by_cases h : i < m
    · rw [if_pos h, if_pos (by omega)]
      simp [Value.cells, Nat.mod_one]
    · rw [if_neg h, if_neg (by omega)]
      rfl
  rw [e]
/-- a row that was handed out stays while the maker goes on -/
theorem row_data {W W1 : World} {mb : Nat} {m : Mk} {v u : Value} {l : List Int} (h : W.ownsRow 0 5 1 u l.length (u8s l)) (hm : MkAt W mb m v) (hn : ∀ g, u.ownBlock = some g → v.ownBlock ≠ some g) (ht : Turn (Own W v) mb W W1) : W1.ownsRow 0 5 1 u l.length (u8s l) :=
  own_move h (fun k hk => ht.block k (World.ownsRow.lt h k hk).2 (fun e => own_blk_ne h hm.blk (by decide) (by rw [hk, e])) (by
    rintro (h4 | h4)
    · have := (World.ownsRow.lt h k hk).2; omega
    · exact hn k hk h4))
theorem row_mut {W W1 : World} {mb b s n : Nat} {e : TypeId} {m : Mk} {v u : Value} {xs : List Value} (h : W.ownsRow b e s u n xs) (hm : MkAt W mb m v) (ht : Mut mb W W1) (he : 26 ≠ e) : W1.ownsRow b e s u n xs :=
  own_move h (fun k hk => ht.block k (World.ownsRow.lt h k hk).2 (fun e => own_blk_ne h hm.blk he (by rw [hk]; exact e)))
/-- what a take of literal bytes comes to -/
theorem Take_lit {w W : World} {mb : Nat} {m m' : Mk} {v : Value} {l : List Int} {n : Nat} (h : MkAt W mb m v) (hx : Ext w W) (hmb : w.heap.size ≤ mb) (hv : ∀ g, v.ownBlock = some g → w.heap.size ≤ g) (hm : m.add l = m') (hn : l.length = n) (hl : n ≤ 100000) :
    Calls Try.prog 13 #[.pointer (some ⟨mb, 0, none⟩), .agg #[.int .i64 1, .int .u8 0, .int .u8 0, .slice (some ⟨W.heap.size, 0, none⟩) n n]] (W.alloc (.cells (u8s l).toArray 5)) (fun e w' => e = .returned Nothing ∧ ∃ v', MkAt w' mb m' v' ∧ (∀ g, v'.ownBlock = some g → w.heap.size ≤ g) ∧ Ext w w' ∧ (∀ (u : Value) (k : List Int), W.ownsRow 0 5 1 u k.length (u8s k) → (∀ g, u.ownBlock = some g → v.ownBlock ≠ some g) → w'.ownsRow 0 5 1 u k.length (u8s k) ∧ ∀ g, u.ownBlock = some g → v'.ownBlock ≠ some g)) := by
  subst hn
  subst hm
  have hs : W.heap.size ≤ (W.alloc (.cells (u8s l).toArray 5)).heap.size := by simp
  refine (Take_data (h.ext (Ext_alloc (Ext_refl W))) 0 0 (some ⟨W.heap.size, 0, none⟩) l.length l hl (Nat.le_refl _) (lit_rd W l)).mono ?_
  rintro e w' ⟨he, v', h1, h2, h3⟩
  refine ⟨he, v', h1, fun g hg => ?_, h3.ext (Ext_alloc hx) hmb (Own.ge (Nat.le_trans hx.size hs) hv), fun u k hu hn => ⟨row_data (own_ext5 hu (Ext_alloc (Ext_refl W))) (h.ext (Ext_alloc (Ext_refl W))) hn h3, fun g hg e => ?_⟩⟩
  · exact Own.ge (Nat.le_trans hx.size hs) hv g (h2 g hg)
  · rcases h2 g e with h4 | h4
    · have := (World.ownsRow.lt hu g hg).2
      omega
    · exact hn g hg h4
theorem sb_two {ss : List Sb} {a b : List Int} (h : ss.map Sb.l = [a, b]) : ∃ x y, ss = [x, y] ∧ x.l = a ∧ y.l = b := by
  match ss, h with
  | [x, y], h => exact ⟨x, y, rfl, by simpa using h⟩
theorem split1 : splitOut [7, 255, 239, 255, 239] = [[7], []] ∧ splitN [7, 255, 239, 255, 239] = 0 ∧ splitE [7, 255, 239, 255, 239] = 0 := ⟨by kernel_rfl, by kernel_rfl, by kernel_rfl⟩
theorem split2 : splitN [7] = 0 ∧ splitE [7] = 20 := ⟨by kernel_rfl, by kernel_rfl⟩
theorem all1 : (Rs.zero.takes [⟨2, 0, 0, []⟩]).n = 0 ∧ (Rs.zero.takes [⟨2, 0, 0, []⟩]).out = [[]] := ⟨by kernel_rfl, by kernel_rfl⟩
theorem big1 {l : List Int} (h : l.length = 8193) : (Mk.zero.add l).long = true ∧ (Mk.zero.add l).b.length = 8192 := by
  unfold Mk.add Mk.n Mk.zero
  simp [h]
set_option maxRecDepth 100000 in
set_option maxHeartbeats 8000000 in
theorem alive10_any (w : World) : Calls Try.prog 11 #[] w (Ret (.bool true) w) := by
  obtain ⟨L0, hL0⟩ : ∃ L0, List.replicate 8193 (0 : Int) = L0 := ⟨_, rfl⟩
  have hmk : ∀ W : World, (Instr.makeSlice 24 (.int .i64 8193) (.int .i64 8193)).run Try.prog W = .ok (.slice (some ⟨W.heap.size, 0, none⟩) 8193 8193) (W.alloc (.cells (u8s L0).toArray 5)) := fun W => by
    rw [← hL0]
    exact make_bytes 8193 (by omega) W
  have hlen0 : L0.length = 8193 := by rw [← hL0, List.length_replicate]
  have HB1 := Lib.hid (big1 hlen0)
  have HL0 := Lib.hid hlen0
  clear hL0 hlen0
  go_enter Try.func11, Try.ntmps11
  go_wp2_with fail
  have HM0 := Lib.hid (MkAt.new w)
  have HX0 := Lib.hid (Ext_alloc (o := .cells #[.slice none 0 0, .bool false] 26) (Ext_refl w))
  generalize hw0 : w.alloc (.cells #[.slice none 0 0, .bool false] 26) = w0 at *
  have hz0 : w0.heap.size = w.heap.size + 1 := by rw [← hw0]; simp
  clear hw0
  rw [show w.heap.size + 1 = w0.heap.size from hz0.symm]
  refine (Take_lit (m' := ⟨[1], false⟩) (l := [1]) HM0.out HX0.out (Nat.le_refl _) (fun g h => by cases h) (by kernel_rfl) rfl (by decide)).mono ?_
  rintro e w1 ⟨he, v1, hv1, ho1, hx1, -⟩
  unfold Nothing at he
  subst he
  have HM1 := Lib.hid hv1
  have HO1 := Lib.hid ho1
  have HX1 := Lib.hid hx1
  clear hv1 ho1 hx1 HM0 HX0 hz0
  go_wp2_with fail
  refine (Take_lit (m' := ⟨[1, 2], false⟩) (l := [2]) HM1.out HX1.out (Nat.le_refl _) HO1.out (by kernel_rfl) rfl (by decide)).mono ?_
  rintro e w2 ⟨he, v2, hv2, ho2, hx2, -⟩
  unfold Nothing at he
  subst he
  have HM2 := Lib.hid hv2
  have HO2 := Lib.hid ho2
  have HX2 := Lib.hid hx2
  clear hv2 ho2 hx2 HM1 HO1 HX1
  go_wp2_with fail
  refine (Len_any HM2.out).mono ?_
  rintro e wq ⟨rfl, rfl⟩
  obtain ⟨A2, c2, hvv⟩ := Go.Proofs.YthkioahpnbahhaaW.PrintWords.own_slice HM2.out.row
  subst hvv
  go_wp2_with fail
  refine (Take_end HM2.out 0 0 none 0 0).mono ?_
  rintro e w3 ⟨he, hz3, hv3, hm3⟩
  simp only [Bool.false_eq_true, if_false] at he
  subst he
  have HM3 := Lib.hid hz3
  have HV3 := Lib.hid hv3
  have HX3 := Lib.hid (Mut_trans hm3 HX2.out (Nat.le_refl _))
  clear hz3 hv3 hm3 HM2 HO2 HX2
  go_wp2_with fail
  refine (Take_lit (m' := Mk.zero.add L0) (l := L0) HM3.out HX3.out (Nat.le_refl _) (fun g h => by cases h) rfl HL0.out (by omega)).mono ?_
  obtain ⟨m4, hm4⟩ : ∃ m4, Mk.zero.add L0 = m4 := ⟨_, rfl⟩
  have hb1 := HB1.out
  rw [hm4] at hb1 ⊢
  clear hm4
  rintro e w4 ⟨he, v4, hv4, ho4, hx4, hk4⟩
  unfold Nothing at he
  subst he
  have HM4 := Lib.hid hv4
  have HO4 := Lib.hid ho4
  have HX4 := Lib.hid hx4
  have HV4 := Lib.hid (hk4 _ _ HV3.out (fun g _ h => by cases h)).1
  have hlg := hb1.1
  have hle := hb1.2
  clear hv4 ho4 hx4 hk4 HM3 HV3 HX3 hb1 hmk
  go_wp2_with fail
  refine (Long_any HM4.out).mono ?_
  rintro e wq ⟨rfl, rfl⟩
  rw [hlg]
  go_wp2_with fail
  refine (Len_any HM4.out).mono ?_
  rintro e w4 ⟨rfl, rfl⟩
  rw [hle]
  go_wp2_with fail
  refine (Take_end HM4.out 0 0 none 0 0).mono ?_
  rintro e w5 ⟨he, hz5, hv5, hm5⟩
  rw [hlg] at he
  simp only [if_true] at he
  subst he
  have HM5 := Lib.hid hz5
  have HV5 := Lib.hid (row_mut HV4.out HM4.out hm5 (by decide))
  have HX5 := Lib.hid (Mut_trans hm5 HX4.out (Nat.le_refl _))
  clear hz5 hv5 hm5 HM4 HO4 HX4 HV4 hlg hle
  go_wp2_with fail
  refine (Take_lit (m' := ⟨[5], false⟩) (l := [5]) HM5.out HX5.out (Nat.le_refl _) (fun g h => by cases h) (by kernel_rfl) rfl (by decide)).mono ?_
  rintro e w6 ⟨he, v6, hv6, ho6, hx6, hk6⟩
  unfold Nothing at he
  subst he
  have HM6 := Lib.hid hv6
  have HX6 := Lib.hid hx6
  have HV6 := Lib.hid (hk6 _ _ HV5.out (fun g _ h => by cases h)).1
  clear hv6 ho6 hx6 hk6 HM5 HV5 HX5
  go_wp2_with fail
  refine (Split_any (some ⟨w6.heap.size, 0, none⟩) 5 [7, 255, 239, 255, 239] (by decide) (by decide) (w6.alloc (.cells (u8s [7, 255, 239, 255, 239]).toArray 5)) (lit_rd w6 [7, 255, 239, 255, 239])).mono ?_
  rintro e w7 ⟨v7, ss, rfl, hr7, hs7, hl7, hx7⟩
  rw [split1.2.1, split1.2.2]
  rw [split1.1] at hl7
  have hx7' := Ext_trans hx7 (Ext_alloc (o := .cells (u8s [7, 255, 239, 255, 239]).toArray 5) (Ext_refl w6))
  have HX7 := Lib.hid (Ext_trans hx7' HX6.out)
  have HM7 := Lib.hid (HM6.out.ext hx7')
  have HV7 := Lib.hid (own_ext5 HV6.out hx7')
  have HR7 := Lib.hid hr7
  have HS7 := Lib.hid hs7
  have HL7 := Lib.hid hl7
  clear hr7 hs7 hl7 hx7 hx7' HX6 HM6 HV6
  go_wp2_with fail
  refine (Split_any (some ⟨w7.heap.size, 0, none⟩) 1 [7] (by decide) (by decide) (w7.alloc (.cells (u8s [7]).toArray 5)) (lit_rd w7 [7])).mono ?_
  rintro e w8 ⟨v8, s8, rfl, -, -, -, hx8⟩
  rw [split2.1, split2.2]
  have hx8' := Ext_trans hx8 (Ext_alloc (o := .cells (u8s [7]).toArray 5) (Ext_refl w7))
  have HX8 := Lib.hid (Ext_trans hx8' HX7.out)
  have HM8 := Lib.hid (HM7.out.ext hx8')
  have HV8 := Lib.hid (own_ext5 HV7.out hx8')
  have HR8 := Lib.hid (own_ext5 HR7.out hx8')
  have HS8 := Lib.hid (fun s hs => own_ext5 (HS7.out s hs) hx8')
  clear hx8 hx8' HX7 HM7 HV7 HR7 HS7
  go_wp2_with fail
  have hev : EvR (w8.alloc (.cells #[.int .i64 2, .int .u8 0, .int .u8 0, .slice none 0 0] 28)) (.slice (some ⟨w8.heap.size, 0, none⟩) 1 1) [⟨⟨2, 0, 0, []⟩, none, 0⟩] :=
    ⟨_, _, rfl, by simp, Rd.blk (l := [.int .i64 2, .int .u8 0, .int .u8 0, .slice none 0 0]) (Blk.new w8 28 _) rfl, by
      intro m hm
      rw [List.mem_singleton.1 hm]
      exact ⟨Rd.nil _ _ _, Nat.le_refl _⟩⟩
  refine (RAll_any hev (by simp) (by intro m hm; rw [List.mem_singleton.1 hm]; simp)).mono ?_
  rintro e w9 ⟨v9, s9, rfl, hr9, -, hl9, hx9⟩
  rw [show ([(⟨⟨2, 0, 0, []⟩, none, 0⟩ : Em)].map Em.e) = [⟨2, 0, 0, []⟩] from rfl] at hl9 ⊢
  rw [all1.2] at hl9
  rw [all1.1]
  have hsl : s9.length = 1 := by
    have := congrArg List.length hl9
    simpa using this
  obtain ⟨A9, c9, hv9⟩ := Go.Proofs.YthkioahpnbahhaaW.PrintWords.own_slice hr9
  subst hv9
  rw [hsl]
  have hx9' := Ext_trans hx9 (Ext_alloc (o := .cells #[.int .i64 2, .int .u8 0, .int .u8 0, .slice none 0 0] 28) (Ext_refl w8))
  have HX9 := Lib.hid (Ext_trans hx9' HX8.out)
  have HM9 := Lib.hid (HM8.out.ext hx9')
  have HV9 := Lib.hid (own_ext5 HV8.out hx9')
  have HR9 := Lib.hid (own_ext5 HR8.out hx9')
  have HS9 := Lib.hid (fun s hs => own_ext5 (HS8.out s hs) hx9')
  clear hev hr9 hl9 hsl hx9 hx9' HX8 HM8 HV8 HR8 HS8
  obtain ⟨s1, s2, rfl, hs1, hs2⟩ := sb_two HL7.out
  obtain ⟨As1, cs1, ls1⟩ := s1
  obtain ⟨As2, cs2, ls2⟩ := s2
  cases hs1
  cases hs2
  have hform := World.ownsRow.form HR9.out (by simp)
  obtain ⟨go, cap, hvo, _, hgl⟩ := hform
  subst hvo
  have hs9 : (convert 24 9 (.slice A2 2 c2)).run Try.prog w9 = .ok (.string ⟨#[1, 2]⟩) w9 := conv_str (l := [1, 2]) Try.underlying24 Try.underlying5 Try.underlying9 (Rd.own HV9.out) c2
  go_wp2_with fail
  refine (Drop_any HM9.out).mono ?_
  rintro e w10 ⟨rfl, hz10, hm10⟩
  have HM10 := Lib.hid hz10
  have HX10 := Lib.hid (Mut_trans hm10 HX9.out (Nat.le_refl _))
  have hr10 := row_mut HR9.out HM9.out hm10 (by decide)
  have hrow1 := row_mut (HS9.out ⟨As1, cs1, [7]⟩ (by simp)) HM9.out hm10 (by decide)
  have r0 : w10.cell? ⟨go, 0, none⟩ = some (.slice As1 1 cs1) := (add_plain go _) ▸ World.ownsRow.cells hr10 rfl 0 (.slice As1 1 cs1) rfl
  have r1 : w10.cell? ⟨go, 1, none⟩ = some (.slice As2 0 cs2) := (add_plain go _) ▸ World.ownsRow.cells hr10 rfl 1 (.slice As2 0 cs2) rfl
  have hs10 : (convert 24 9 (.slice As1 1 cs1)).run Try.prog w10 = .ok (.string ⟨#[7]⟩) w10 := conv_str (l := [7]) Try.underlying24 Try.underlying5 Try.underlying9 (Rd.own hrow1) cs1
  clear hz10 hm10 hr10 hrow1 hs9 HM9 HX9 HV9 HR9 HS9
  go_wp2_with fail
  refine (Len_any HM10.out).mono ?_
  rintro e wq ⟨rfl, rfl⟩
  go_wp2_with fail
  go_ret
  exact ⟨rfl, HX10.out⟩
end Go.Proofs.Ythkioahpnbahhaa
