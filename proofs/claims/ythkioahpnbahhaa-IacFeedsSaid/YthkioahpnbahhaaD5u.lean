/- IacFeeds: all bytes are the events that are said. -/
import Derived.Test.YthkioahpnbahhaaD5t
import Derived.Test.YthkioahpnbahhaaD5s
namespace Go.Proofs.Ythkioahpnbahhaa
set_option linter.unusedVariables false
set_option linter.unusedSimpArgs false
open Go.RowKit Go.Proofs.YthkioahpnbahhaaW.PrintWords
set_option maxRecDepth 100000 in
set_option maxHeartbeats 8000000 in
theorem IacFeeds_any (A : Option Addr) (c : Nat) (b : List Int) (cut : Int) (hby : ∀ x ∈ b, 0 ≤ x ∧ x < 256) (hn : b.length ≤ maxLen) (hc : b.length ≤ c) (w : World) (hr : Rd w 1 A b.length (u8s b)) :
    Calls Try.prog 6 #[.slice A b.length c, .int .i64 cut] w (Ret (.bool true) w) := by
  unfold maxLen at hn
  have HR := Lib.hid (fun w' (h : Ext w w') => Rd_ext h hr)
  have HBY := Lib.hid (show ∀ x ∈ b, x ≤ 255 from fun x hx => by have := hby x hx; omega)
  have HX := Lib.hid (Ext_refl w)
  have HL0 := Lib.hid (fun (h : 0 < b.length) => Rd.lt hr h)
  clear hr hby
  go_enter Try.func6, Try.ntmps6
  go_wp2_with (go_at_call 24; refine (alive5_any _).mono ?_; rintro e wn ⟨rfl, hb⟩; have HXn := Lib.hid (Ext_trans hb (by repeat' (first | (with_reducible first | exact HX.out | apply Ext_alloc | apply Ext_drewN | apply Ext_drew | (refine Ext_set ?_ ?_) | exact Ext_refl _) | (simp only [World.size_alloc, World.size_setCell, World.size_drew, size_drewN]; omega) | (simp; done) | (simp; omega)))); clear hb HX; have HX := HXn; clear HXn)
  · go_ret
    exact ⟨rfl, HX.out⟩
  · have hl2 : b.length ≤ 2000 := by omega
    have hX2 : Ext w ((wn.alloc (.cells #[.int .i64 0, .int .u8 0, .int .u8 0, .slice none 0 0, .bool false, .slice none 0 0] 57)).alloc (.cells #[.int .i64 0, .int .u8 0, .int .u8 0, .slice none 0 0, .bool false, .slice none 0 0] 57)) := Ext_alloc (Ext_alloc HX.out)
    have hD2 := (DecR.fresh wn).ext (Ext_alloc (o := .cells #[.int .i64 0, .int .u8 0, .int .u8 0, .slice none 0 0, .bool false, .slice none 0 0] 57) (Ext_refl _))
    have hE2 := DecR.fresh (wn.alloc (.cells #[.int .i64 0, .int .u8 0, .int .u8 0, .slice none 0 0, .bool false, .slice none 0 0] 57))
    rw [World.size_alloc] at hE2
    have hs2 : wn.heap.size + 2 ≤ ((wn.alloc (.cells #[.int .i64 0, .int .u8 0, .int .u8 0, .slice none 0 0, .bool false, .slice none 0 0] 57)).alloc (.cells #[.int .i64 0, .int .u8 0, .int .u8 0, .slice none 0 0, .bool false, .slice none 0 0] 57)).heap.size := by simp
    have hp : w.heap.size ≤ wn.heap.size := HX.out.size
    have HX2 := Lib.hid hX2
    have HD2 := Lib.hid hD2
    have HE2 := Lib.hid hE2
    clear hX2 hD2 hE2
    generalize ((wn.alloc (.cells #[.int .i64 0, .int .u8 0, .int .u8 0, .slice none 0 0, .bool false, .slice none 0 0] 57)).alloc (.cells #[.int .i64 0, .int .u8 0, .int .u8 0, .slice none 0 0, .bool false, .slice none 0 0] 57)) = w2 at *
    generalize wn.heap.size = p at *
    refine (Copy_any A c b (by omega) hc w2 (HR.out _ HX2.out)).mono ?_
    rintro e w3 ⟨v3, rfl, ⟨A3, c3, rfl, hc3, hr3, hf3⟩, hx3⟩
    have HX3 := Lib.hid (Ext_trans hx3 HX2.out)
    have HD3 := Lib.hid (HD2.out.ext hx3)
    have HE3 := Lib.hid (HE2.out.ext hx3)
    have HR3 := Lib.hid hr3
    have HF3 := Lib.hid hf3
    have hs3 : p + 2 ≤ w3.heap.size := Nat.le_trans hs2 hx3.size
    clear hr3 hf3 hx3 HX2 HD2 HE2 HX
    go_wp2_with fail
    refine (Feed_new HD3.out A3 c3 b (by omega) hc3 HR3.out (fun _ => HF3.out.off (by omega))).mono ?_
    rintro e w4 ⟨vo, ms, vs, rfl, hd4, he4, hm4, hv4, hx4⟩
    have HX4 := Lib.hid (Mut_trans hx4 HX3.out hp)
    have HD4 := Lib.hid hd4
    have HE4 := Lib.hid he4
    have HM4 := Lib.hid hm4
    have HV4 := Lib.hid hv4
    have HF4 := Lib.hid (HE3.out.mut hx4 (by omega) (fun h => by cases h))
    have HR4 := Lib.hid (HR3.out.grown hx4 (fun g e => by cases e; exact HF3.out.off (by omega)))
    have hs4 : p + 2 ≤ w4.heap.size := Nat.le_trans hs3 hx4.size
    clear hd4 he4 hm4 hv4 hx4 HD3 HE3 HR3 HX3
    go_wp2_with fail
    refine (All_any A c b (by omega) hc HBY.out w4 (HR.out _ HX4.out)).mono ?_
    obtain ⟨op, hop⟩ : ∃ op, decide ((Dec.zero.takes b).at_ ≠ 0) = op := ⟨_, rfl⟩
    unfold AllP
    rw [hop]
    have hop2 : ((({ Dec.zero.takes b with out := [] } : Dec)).at_ != 0) = op := by rw [← hop]; by_cases h : (Dec.zero.takes b).at_ = 0 <;> simp [h]
    rintro e w5 ⟨v5, ms5, rfl, hd5, hm5, hx5⟩
    have HX5 := Lib.hid (Ext_trans hx5 HX4.out)
    have HD5 := Lib.hid (HD4.out.ext hx5)
    have HE5 := Lib.hid (HE4.out.ext hx5)
    have HF5 := Lib.hid (HF4.out.ext hx5)
    have HR5 := Lib.hid (Rd_ext hx5 HR4.out)
    have HW5 := Lib.hid hd5
    have HM5 := Lib.hid (HM4.out.trans hm5.symm)
    have hs5 : p + 2 ≤ w5.heap.size := Nat.le_trans hs4 hx5.size
    clear hd5 hm5 hx5 HD4 HE4 HF4 HR4 HX4
    obtain ⟨A5, c5, rfl⟩ := Go.Proofs.YthkioahpnbahhaaW.PrintWords.own_slice HW5.out.out
    go_wp2_with fail
    have hml := (out_small HM4.out).1
    have hmb := (out_small HM4.out).2
    have HMB : Hid (∀ m ∈ ms, m.e.bytes.length ≤ 1000000) := Lib.hid (fun m hm => by have := hmb m hm; omega)
    have hml2 : ms.length ≤ 100000 := by omega
    have hop := Lib.hid hop2
    clear hmb hml hop2
    refine (as_any HE5.out.rd hml2).mono ?_
    rintro e w6 ⟨v6, rfl, hd6, hx6⟩
    have HR6 := Lib.hid (show EvR w6 v6 ms from by
      obtain ⟨_, _, _, _, _, hmm⟩ := HE5.out.rd
      exact EvR.of_own hd6 (fun m hm => (hmm m hm).ext hx6))
    have HE6 := Lib.hid (HE5.out.ext hx6)
    have HX6 := Lib.hid (Ext_trans hx6 HX5.out)
    have HD6 := Lib.hid (HD5.out.ext hx6)
    have HF6 := Lib.hid (HF5.out.ext hx6)
    have HC6 := Lib.hid (Rd_ext hx6 HR5.out)
    have HW6 := Lib.hid (HW5.out.ext hx6)
    have hs6 : p + 2 ≤ w6.heap.size := Nat.le_trans hs5 hx6.size
    clear hd6 hx6 HE5 HX5 HD5 HF5 HR5 HW5
    go_wp2_with fail
    refine (SameE_any HR6.out HW6.out.rd HM5.out (by omega) HMB.out).mono ?_
    rintro e w7 ⟨rfl, hx7⟩
    have HE7 := Lib.hid (HE6.out.ext hx7)
    have HX7 := Lib.hid (Ext_trans hx7 HX6.out)
    have HD7 := Lib.hid (HD6.out.ext hx7)
    have HF7 := Lib.hid (HF6.out.ext hx7)
    have HC7 := Lib.hid (Rd_ext hx7 HC6.out)
    have HW7 := Lib.hid (HW6.out.ext hx7)
    have hs7 : p + 2 ≤ w7.heap.size := Nat.le_trans hs6 hx7.size
    clear hx7 HE6 HX6 HD6 HF6 HC6 HW6 HR6
    go_wp2_with fail
    refine (DOpen_any HD7.out).mono ?_
    rintro e wq ⟨rfl, rfl⟩
    rw [hop.out]
    obtain ⟨k, hk, hkl⟩ := cut_at cut b.length
    have hkc : k ≤ c := by omega
    have hkk : (k : Int) ≤ (c : Int) := by omega
    have hwl : IntKind.i64.wrap ((b.length : Int) + 1) = (b.length : Int) + 1 := IntWalk.i64_in _ (by omega)
    have hnz : ((b.length : Int) + 1 == 0) = false := by rw [beq_eq_false_iff_ne]; omega
    go_wp2_with (go_at_call 15; refine (SameB_any (by omega) hc3 hc HC7.out (HR.out _ HX7.out)).mono ?_; rintro e w8 ⟨rfl, hx8⟩; have HE8 := Lib.hid (HE7.out.ext hx8); have HX8 := Lib.hid (Ext_trans hx8 HX7.out); have HF8 := Lib.hid (HF7.out.ext hx8); have HW8 := Lib.hid (HW7.out.ext hx8); have hs8 : p + 2 ≤ w8.heap.size := Nat.le_trans hs7 hx8.size; clear hx8 HE7 HX7 HD7 HF7 HC7 HW7)
    have hrk : ∀ w', Ext w w' → Rd w' 1 A k (u8s (b.take k)) := fun w' h => (HR.out w' h).take k hkl
    have hlk : (b.take k).length = k := by rw [List.length_take]; omega
    have hbyk : ∀ x ∈ b.take k, x ≤ 255 := fun x hx => HBY.out x (List.mem_of_mem_take hx)
    clear hk hkk hwl hnz
    generalize b.take k = bk at *
    subst hlk
    have HRk := Lib.hid hrk
    have HBk := Lib.hid hbyk
    clear hrk hbyk
    refine (Feed_new HF8.out A c bk (by omega) hkc (HRk.out _ HX8.out) (fun h0 ad e => by have := HL0.out (by omega) ad e; omega)).mono ?_
    rintro e w9 ⟨vo2, ms2, vs2, rfl, hd9, he9, hm9, hv9, hx9⟩
    have HX9 := Lib.hid (Mut_trans hx9 HX8.out (by omega))
    have HD9 := Lib.hid hd9
    have HE9 := Lib.hid he9
    have HM9 := Lib.hid hm9
    have HG9 := Lib.hid (HE8.out.mut HF8.out.blk hx9)
    have HW9 := Lib.hid (HW8.out.mut hx9 (by omega))
    have hs9 : p + 2 ≤ w9.heap.size := Nat.le_trans hs8 hx9.size
    clear hd9 he9 hm9 hv9 hx9 HE8 HX8 HF8 HW8
    go_wp2_with fail
    refine (All_any A c bk (by omega) hkc HBk.out w9 (HRk.out _ HX9.out)).mono ?_
    obtain ⟨op2, hop2⟩ : ∃ op2, decide ((Dec.zero.takes bk).at_ ≠ 0) = op2 := ⟨_, rfl⟩
    unfold AllP
    rw [hop2]
    have hop3 : ((({ Dec.zero.takes bk with out := [] } : Dec)).at_ != 0) = op2 := by rw [← hop2]; by_cases h : (Dec.zero.takes bk).at_ = 0 <;> simp [h]
    have HP2 := Lib.hid hop3
    clear hop2 hop3
    rintro e w10 ⟨v10, ms10, rfl, hd10, hm10, hx10⟩
    have HX10 := Lib.hid (Ext_trans hx10 HX9.out)
    have HD10 := Lib.hid (HD9.out.ext hx10)
    have HE10 := Lib.hid (HE9.out.ext hx10).rd
    have HG10 := Lib.hid (HG9.out.ext hx10).rd
    have HW10 := Lib.hid (HW9.out.ext hx10)
    have HK10 := Lib.hid hd10
    have HM10 := Lib.hid (HM9.out.trans hm10.symm)
    have hml3 := (out_small HM9.out).1
    have hmb3 := (out_small HM9.out).2
    have HMB3 : Hid (∀ m ∈ ms2, m.e.bytes.length ≤ 1000000) := Lib.hid (fun m hm => by have := hmb3 m hm; omega)
    have hml4 : ms2.length ≤ 100000 := by omega
    clear hd10 hm10 hx10 HD9 HE9 HG9 HW9 HX9 hml3 hmb3 HM9
    obtain ⟨A10, c10, rfl⟩ := Go.Proofs.YthkioahpnbahhaaW.PrintWords.own_slice HK10.out.out
    go_wp2_with fail
    refine (as_any HE10.out hml4).mono ?_
    rintro e w11 ⟨v11, rfl, hd11, hx11⟩
    have HS11 := Lib.hid (AsP.rd hd11 HE10.out hx11)
    have HX11 := Lib.hid (Ext_trans hx11 HX10.out)
    have HD11 := Lib.hid (HD10.out.ext hx11)
    have HG11 := Lib.hid (HG10.out.ext hx11)
    have HW11 := Lib.hid (HW10.out.ext hx11)
    have HK11 := Lib.hid (HK10.out.ext hx11)
    clear hd11 hx11 HE10 HX10 HD10 HG10 HW10 HK10
    go_wp2_with fail
    refine (SameE_any HS11.out HK11.out.rd HM10.out (by omega) HMB3.out).mono ?_
    rintro e w12 ⟨rfl, hx12⟩
    have HX12 := Lib.hid (Ext_trans hx12 HX11.out)
    have HD12 := Lib.hid (HD11.out.ext hx12)
    have HG12 := Lib.hid (HG11.out.ext hx12)
    have HW12 := Lib.hid (HW11.out.ext hx12)
    clear hx12 HS11 HX11 HD11 HG11 HW11 HK11 HM10
    go_wp2_with fail
    refine (DOpen_any HD12.out).mono ?_
    rintro e wq ⟨rfl, rfl⟩
    rw [HP2.out]
    go_wp2_with fail
    refine (IJoin_any HG12.out hml2 HMB.out).mono ?_
    rintro e w13 ⟨v13, ms13, rfl, hj13, hm13, hb13, hn13, hx13⟩
    have HJ13 := Lib.hid hj13.rd
    have HM13 : Hid (ms13.map Em.e = ms5.map Em.e) := Lib.hid (by rw [hm13, ← HM5.out, HM4.out]; exact (all_joined b).1)
    have HB13 : Hid (∀ m ∈ ms13, m.e.bytes.length ≤ 1000000) := Lib.hid (fun m hm => by
      have h1 : m.e ∈ ms.map Em.e := by rw [HM5.out, ← HM13.out]; exact List.mem_map_of_mem hm
      obtain ⟨m', h2, h3⟩ := List.mem_map.1 h1
      rw [← h3]
      exact HMB.out m' h2)
    have hn13' : ms13.length ≤ 100000 := by omega
    have HX13 := Lib.hid (Ext_trans hx13 HX12.out)
    have HW13 := Lib.hid (HW12.out.ext hx13)
    clear hj13 hm13 hb13 hn13 hx13 HX12 HD12 HG12 HW12
    go_wp2_with fail
    refine (as_any HJ13.out hn13').mono ?_
    rintro e w14 ⟨v14, rfl, hd14, hx14⟩
    have HS14 := Lib.hid (AsP.rd hd14 HJ13.out hx14)
    have HX14 := Lib.hid (Ext_trans hx14 HX13.out)
    have HW14 := Lib.hid (HW13.out.ext hx14)
    clear hd14 hx14 HJ13 HX13 HW13
    go_wp2_with fail
    refine (SameE_any HS14.out HW14.out.rd HM13.out (by omega) HB13.out).mono ?_
    rintro e w15 ⟨rfl, hx15⟩
    have HX15 := Lib.hid (Ext_trans hx15 HX14.out)
    go_wp2_with fail
    go_ret
    exact ⟨rfl, HX15.out⟩
theorem IacFeeds_walk {H : Type} (w : World) (A : Option Addr) (n c : Nat) (t : Handed Try.prog H w 24 (.slice A n c)) (a : Int) (wa : (Lit.int .i64 a).wf = true) :
    Calls Try.prog 6 #[.slice A n c, .int .i64 a] w (Ret (.bool true) w) := by
  obtain ⟨l, rfl, hc, hn, hr, hb⟩ := byte_row t
  exact IacFeeds_any A c l a hb hn hc w hr
end Go.Proofs.Ythkioahpnbahhaa
