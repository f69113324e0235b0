/- RecordBack: records that are written are told as they are. -/
import Derived.Test.YthkioahpnbahhaaFC
namespace Go.Proofs.Ythkioahpnbahhaa
set_option linter.unusedVariables false
set_option linter.unusedSimpArgs false
open Go.RowKit Go.Proofs.YthkioahpnbahhaaW.PrintWords
theorem and63 (x : Int) : bits .and .i64 x 63 = x % 64 := i64_mask x 6 (by decide)
theorem recL_length (rs : List (List Int)) (h : ∀ l ∈ rs, l.length ≤ 500) : (recL rs).length ≤ rs.length * 1002 := by
  induction rs with
  | nil => exact Nat.zero_le _
  | cons l rs ih =>
    have h1 := escL_length l
    have h2 := h l List.mem_cons_self
    have h3 := ih (fun x hx => h x (List.mem_cons_of_mem _ hx))
    have e : recL (l :: rs) = (escL l ++ [255, 239]) ++ recL rs := by simp [recL]
    rw [e]
    simp only [List.length_append, List.length_cons, List.length_nil]
    omega
set_option maxRecDepth 100000 in
set_option maxHeartbeats 8000000 in
theorem RecordBack_any (A A2 : Option Addr) (c c2 : Nat) (ss : List Sb) (zs : List Int) (hn : ss.length ≤ maxLen) (hn2 : zs.length ≤ maxLen) (hc : ss.length ≤ c) (w : World) (hr : Rd w 1 A ss.length (ss.map Sb.v)) (hs : ∀ s ∈ ss, s.l.length ≤ s.c ∧ Rd w 1 s.A s.l.length (u8s s.l) ∧ s.l.length ≤ maxLen) (hr2 : Rd w 1 A2 zs.length (zs.map (Value.int .i64))) :
    Calls Try.prog 10 #[.slice A ss.length c, .slice A2 zs.length c2] w (Ret (.bool true) w) := by
  unfold maxLen at hn hn2 hs
  have HR := Lib.hid (fun w' (h : Ext w w') => Rd_ext h hr)
  have HS := Lib.hid hs
  have HR2 := Lib.hid (fun w' (h : Ext w w') => Rd_ext h hr2)
  have HX := Lib.hid (Ext_refl w)
  clear hr hr2 hs
  by_cases hl : 20 < ss.length
  · have hd : decide ((20 : Int) < (ss.length : Int)) = true := decide_eq_true (by omega)
    go_enter Try.func10, Try.ntmps10
    go_wp2_with (go_at_call 11; refine (alive10_any _).mono ?_; rintro e wn ⟨rfl, hb⟩; have HXn := Lib.hid (Ext_trans hb (by repeat' (first | (with_reducible first | exact HX.out | apply Ext_alloc | apply Ext_drewN | apply Ext_drew | (refine Ext_set ?_ ?_) | exact Ext_refl _) | (simp only [World.size_alloc, World.size_setCell, World.size_drew, size_drewN]; omega) | (simp; done) | (simp; omega)))); clear hb HX; have HX := HXn; clear HXn)
    go_ret
    exact ⟨rfl, HX.out⟩
  have hd : decide ((20 : Int) < (ss.length : Int)) = false := decide_eq_false (by omega)
  by_cases hl2 : 60 < zs.length
  · have hd2 : decide ((60 : Int) < (zs.length : Int)) = true := decide_eq_true (by omega)
    go_enter Try.func10, Try.ntmps10
    go_wp2_with (go_at_call 11; refine (alive10_any _).mono ?_; rintro e wn ⟨rfl, hb⟩; have HXn := Lib.hid (Ext_trans hb (by repeat' (first | (with_reducible first | exact HX.out | apply Ext_alloc | apply Ext_drewN | apply Ext_drew | (refine Ext_set ?_ ?_) | exact Ext_refl _) | (simp only [World.size_alloc, World.size_setCell, World.size_drew, size_drewN]; omega) | (simp; done) | (simp; omega)))); clear hb HX; have HX := HXn; clear HXn)
    go_ret
    exact ⟨rfl, HX.out⟩
  have hd2 : decide ((60 : Int) < (zs.length : Int)) = false := decide_eq_false (by omega)
  have hb2 : ss.length ≤ 20 := by omega
  have hz2' : zs.length ≤ 60 := by omega
  clear hl hl2
  obtain ⟨i5, hi5, hz50, hz51, hz52⟩ := info_parts info5'
  go_enter Try.func10, Try.ntmps10
  go_wp2_with (go_at_call 11; refine (alive10_any _).mono ?_; rintro e wn ⟨rfl, hb⟩; have HXn := Lib.hid (Ext_trans hb (by repeat' (first | (with_reducible first | exact HX.out | apply Ext_alloc | apply Ext_drewN | apply Ext_drew | (refine Ext_set ?_ ?_) | exact Ext_refl _) | (simp only [World.size_alloc, World.size_setCell, World.size_drew, size_drewN]; omega) | (simp; done) | (simp; omega)))); clear hb HX; have HX := HXn; clear HXn)
  have HS0 := Lib.hid (show (wn.alloc (.cells #[] 5)).ownsRow w.heap.size 5 1 (.slice (some ⟨wn.heap.size, 0, none⟩) 0 0) 0 [] from Go.Proofs.YthkioahpnbahhaaW.PrintWords.own_weaken (World.ownsRow_lit wn #[] 0 (Nat.le_refl _) (by decide) rfl) HX.out.size)
  go_loopw [5, 7, 31] (fun v5 _ v wr => ∃ (k : Nat) (al : List Int), k ≤ ss.length ∧ v = .int .i64 k ∧ Hid (wr.ownsRow w.heap.size 5 1 v5 al.length (u8s al)) ∧ Hid (Ext w wr) ∧ Hid (al = recL ((ss.take k).map Sb.l)) ∧ Hid (∀ s ∈ ss.take k, s.l.length ≤ 500) ∧ al.length ≤ k * 1002) (fun _ _ v _ => ss.length - (intOf v).toNat)
  case atStart => exact ⟨0, [], Nat.zero_le _, rfl, HS0.out, Ext_alloc HX.out, Lib.hid rfl, Lib.hid (fun s hs => by simp at hs), by simp⟩
  case round =>
    clear HS0 HX
    obtain ⟨k, al, hk, rfl, HY, HX, HA, H5, hal⟩ := hrel
    obtain ⟨A5, c5, rfl⟩ := Go.Proofs.YthkioahpnbahhaaW.PrintWords.own_slice HY.out
    have hsz := HX.out.size
    by_cases hlt : k < ss.length
    · obtain ⟨s, hx⟩ : ∃ s, ss[k]? = some s := ⟨_, List.getElem?_eq_getElem hlt⟩
      obtain ⟨bb, o, hA, hcell⟩ := (HR.out _ HX.out).2 (by omega)
      have x0 := hcell k s.v (by rw [List.getElem?_map, hx]; rfl)
      have hsr := HS.out s (List.mem_of_getElem? hx)
      have HTK := Lib.hid (show ss.take (k + 1) = ss.take k ++ [s] by rw [List.take_add_one, hx]; rfl)
      have hwk : IntKind.i64.wrap ((k : Int) + 1) = ((k + 1 : Nat) : Int) := IntWalk.i64_in _ (by omega)
      obtain ⟨As, cs, l⟩ := s
      simp only [Sb.v] at x0
      subst hA
      have HSR := Lib.hid hsr
      have hlm : l.length ≤ 2 ^ 63 - 1 := hsr.2.2
      clear hcell hx hsr
      by_cases hb5 : 500 < l.length
      · have hd5 : decide ((500 : Int) < (l.length : Int)) = true := decide_eq_true (by omega)
        go_wp2_with fail
        go_ret
        exact ⟨rfl, HX.out⟩
      · have hd5 : decide ((500 : Int) < (l.length : Int)) = false := decide_eq_false (by omega)
        have hl5 : l.length ≤ 500 := by omega
        clear hb5
        have hrec := Record_any As cs l (by omega) HSR.out.1 _ (Rd_ext HX.out HSR.out.2.1)
        have hrl : (escL l ++ [255, 239]).length ≤ 1002 := by have := escL_length l; simp only [List.length_append, List.length_cons, List.length_nil]; omega
        obtain ⟨rl, hre⟩ : ∃ rl, escL l ++ [255, 239] = rl := ⟨_, rfl⟩
        rw [hre] at hrec hrl
        have HRE := Lib.hid hre
        clear hre
        go_wp2_with fail
        refine hrec.mono ?_
        clear hrec
        rintro e w3 ⟨v3, rfl, ⟨A3, c3, rfl, hc3, hr3, hf3⟩, hx3⟩
        have HX3 := Lib.hid (Ext_trans hx3 HX.out)
        have HY3 := Lib.hid (own_ext5 HY.out hx3)
        have HR3 := Lib.hid hr3
        have hz3 : w.heap.size ≤ w3.heap.size := HX3.out.size
        clear hr3 hf3 hx3 hc3 HX HY x0
        go_wp2_with (at_builtin; go_must (refine list_append_rd w.heap.size rfl (.tmp 38) (.tmp 40) 24 rfl 5 i5 _ 1 1 Try.underlying24 hi5 hz50 hz51 hz52 rfl (by decide) (.slice A5 al.length c5) al.length (u8s al) (by rfl) HY3.out A3 rl.length c3 (u8s rl) (by rfl) HR3.out (by intro u hu; obtain ⟨x, _, rfl⟩ := List.mem_map.1 hu; rfl) (by unfold maxLen; omega) (by omega) hz3 ?_); intro A6 c6 w6 hq hg; have HX6 : Hid (Ext w w6) := Lib.hid (HX3.out.grown hg hz3 (fun g hg => (own_base HY3.out g hg).1)); have HQ := Lib.hid hq; clear hq hg)
        have hll : (al ++ rl).length = al.length + rl.length := List.length_append
        refine ⟨⟨k + 1, al ++ rl, by omega, by go_num, Lib.hid ?_, HX6, Lib.hid ?_, Lib.hid ?_, by rw [hll]; omega⟩, by simp [intOf]; omega⟩
        · rw [hll, u8s_append]; exact HQ.out
        · rw [HTK.out, List.map_append, List.map_singleton, recL_snoc, ← HA.out, HRE.out]
        · intro x hx
          rw [HTK.out] at hx
          rcases List.mem_append.1 hx with hx | hx
          · exact H5.out x hx
          · rw [List.mem_singleton.1 hx]; exact hl5
    · have hke : k = ss.length := by omega
      subst hke
      rw [List.take_length] at HA H5
      have hsp := split_recs (ss.map Sb.l) (fun l hl => by
        obtain ⟨s, hs, rfl⟩ := List.mem_map.1 hl
        have := H5.out s hs
        omega)
      rw [← HA.out] at hsp
      have HSP := Lib.hid hsp
      clear hlt hk hsp
      go_wp2_with fail
      refine (Split_any A5 c5 al (by omega) (own_len_cap HY.out) _ (Rd.own HY.out)).mono ?_
      rintro e w3 ⟨v3, s3, rfl, hr3, hs3, hl3, hx3⟩
      rw [HSP.out.2.1, HSP.out.2.2]
      have hl3' : s3.map Sb.l = ss.map Sb.l := hl3.trans HSP.out.1
      have hlen3 : ∀ s ∈ s3, s.l.length ≤ 500 := fun s hs => by
        have : s.l ∈ ss.map Sb.l := by rw [← hl3']; exact List.mem_map_of_mem hs
        obtain ⟨s', h1, h2⟩ := List.mem_map.1 this
        rw [← h2]
        exact H5.out s' h1
      have hn3 : s3.length = ss.length := by have := congrArg List.length hl3'; simpa using this
      have HX3 := Lib.hid (Ext_trans hx3 HX.out)
      have HY3 := Lib.hid (own_ext5 HY.out hx3)
      have HG3 := Lib.hid (RowsR.of_own hr3 hs3 (fun s hs => by have := hlen3 s hs; omega))
      have HA3 : Hid (RowsR w3 (.slice A ss.length c) ss) := Lib.hid ⟨A, c, rfl, hc, HR.out _ HX3.out, fun s hs => ⟨(HS.out s hs).1, Rd_ext HX3.out (HS.out s hs).2.1, by have := H5.out s hs; omega⟩⟩
      have HL3 := Lib.hid hl3'
      have HB3 : Hid (∀ s ∈ s3, s.l.length ≤ 1000000) := Lib.hid (fun s hs => by have := hlen3 s hs; omega)
      clear hr3 hs3 hl3 hl3' hlen3 hx3 HX HY
      go_wp2_with fail
      refine (SameAll_any HG3.out HA3.out HL3.out (by omega) HB3.out).mono ?_
      rintro e w4 ⟨rfl, hx4⟩
      have HX4 := Lib.hid (Ext_trans hx4 HX3.out)
      have HY4 := Lib.hid (own_ext5 HY3.out hx4)
      clear hx4 HX3 HY3 HG3 HA3
      have hs20 : ss.length * 1002 ≤ 20040 := by omega
      have HAL := Lib.hid hal
      have HRS := Lib.hid (show Rest w4 (.slice A5 al.length c5) (al.drop 0) from ⟨A5, c5, by simp, by simpa using own_len_cap HY4.out, fun w' hx => by simpa using Rd_ext hx (Rd.own HY4.out), by simpa using fun h => Rd.lt (Rd.own HY4.out) h⟩)
      have HS5 : Hid (w4.heap.size + 1 = (w4.alloc (.cells #[.int .i64 0, .int .u8 0, .int .u8 0, .slice none 0 0, .bool false, .slice none 0 0] 57)).heap.size) := Lib.hid (by simp)
      have HD5 := Lib.hid (DecR.fresh w4)
      have HX5 := Lib.hid (Ext_alloc (o := (.cells #[.int .i64 0, .int .u8 0, .int .u8 0, .slice none 0 0, .bool false, .slice none 0 0] 57)) (Ext_refl w4))
      clear HY4
      go_wp2_with fail
      have hs5 := HS5.out
      clear HS5
      rw [hs5]
      generalize (w4.alloc (.cells #[.int .i64 0, .int .u8 0, .int .u8 0, .slice none 0 0, .bool false, .slice none 0 0] 57)) = w5 at *
      obtain ⟨p, hp⟩ : ∃ p, w4.heap.size = p := ⟨_, rfl⟩
      rw [hp] at HD5 hs5
      simp only [hp]
      have HP := Lib.hid hp
      clear hp
      have HZZ := Lib.hid hs5.symm
      clear hs5
      have HPW := Lib.hid (show w4.heap.size ≤ p by rw [HP.out]; exact Nat.le_refl _)
      obtain ⟨i0, hi0, hy0, hy1, hy2⟩ := info_parts infoE
      go_loopw [12, 13, 15, 65] (fun v12 v13 _ v wr => ∃ (k : Nat) (q : Nat) (vs : Value) (msP : List Em), k ≤ zs.length ∧ v = .int .i64 k ∧ q ≤ al.length ∧ Hid (Rest w4 v13 (al.drop q)) ∧ Hid (PAt w5.heap.size wr v12 msP vs) ∧ Hid (Mut p w5 wr) ∧ Hid (DecR wr p { Dec.zero.takes (al.take q) with out := [] } vs) ∧ Hid (∀ g, vs.ownBlock = some g → w5.heap.size ≤ g) ∧ Hid (joinL (msP.map Em.e) = joinL (Dec.zero.takes (al.take q)).out) ∧ Hid (msP.length ≤ 2 * q ∧ ∀ m ∈ msP, m.e.bytes.length ≤ 50000)) (fun _ _ _ v _ => zs.length - (intOf v).toNat)
      case atStart => exact ⟨0, 0, .slice none 0 0, [], Nat.zero_le _, rfl, Nat.zero_le _, HRS, ⟨World.ownsRow_lit w5 #[] 0 (Nat.le_refl _) (by decide) rfl, fun m hm => (by cases hm), fun m hm => (by cases hm)⟩, (Ext_alloc (Ext_refl w5)).mut _, Lib.hid (HD5.out.ext (Ext_alloc (Ext_refl w5))), fun g h => (by cases h), Lib.hid rfl, ⟨by simp, fun m hm => (by cases hm)⟩⟩
      case round =>
        clear HD5 HRS
        obtain ⟨k, q, vs, msP, hk, rfl, hq, HRe, HPP, HMu, HD, HV, HJ, HL⟩ := hrel
        have HXr := Lib.hid (Mut_trans HMu.out HX5.out HPW.out)
        have hal2 := HAL.out
        obtain ⟨L, hL⟩ : ∃ L, al.drop q = L := ⟨_, rfl⟩
        have HLl := Lib.hid (show L.length = al.length - q by rw [← hL, List.length_drop])
        have hLb : L.length ≤ 20040 := by have := HLl.out; omega
        rw [hL] at HRe
        have HLq' := Lib.hid hL
        clear hL
        obtain ⟨Aq, cq, rfl, hcq, hrq, hlq⟩ := HRe.out.out
        have HRq := Lib.hid hrq
        have HLq := Lib.hid hlq
        clear hrq hlq
        have hsr : p + 1 ≤ wr.heap.size := by have := HMu.out.size; have := HZZ.out; omega
        have hp4 := HPW.out
        have hw45 : w4.heap.size ≤ w5.heap.size := HX5.out.size
        by_cases hlt : k < zs.length
        · obtain ⟨z, hz⟩ : ∃ z, zs[k]? = some z := ⟨_, List.getElem?_eq_getElem hlt⟩
          obtain ⟨bz, oz, hA2, hcz⟩ := (HR2.out _ (Ext_trans HXr.out HX4.out)).2 (by omega)
          have hcell := hcz k (.int .i64 z) (by rw [← i64s, i64s_get, hz]; rfl)
          subst hA2
          clear hcz hz
          obtain ⟨r, hr1, hr2⟩ : ∃ r : Nat, (if (L.length : Int) < bits .and .i64 z 63 then (L.length : Int) else bits .and .i64 z 63) = (r : Int) ∧ r ≤ L.length := by
            rw [and63]
            have h0 : 0 ≤ z % 64 := Int.emod_nonneg _ (by decide)
            by_cases h : (L.length : Int) < z % 64
            · exact ⟨L.length, by rw [if_pos h], Nat.le_refl _⟩
            · exact ⟨(z % 64).toNat, by rw [if_neg h]; omega, by omega⟩
          have hrc : (r : Int) ≤ (cq : Int) := by omega
          have hwk : IntKind.i64.wrap ((k : Int) + 1) = ((k + 1 : Nat) : Int) := IntWalk.i64_in _ (by omega)
          go_wp2_with fail
          obtain ⟨Lr, hLr⟩ : ∃ Lr, L.take r = Lr := ⟨_, rfl⟩
          have hlr : Lr.length = r := by rw [← hLr, List.length_take]; omega
          have HLr := Lib.hid hLr
          have hrk : ∀ w', Ext w4 w' → Rd w' 1 Aq r (u8s Lr) := fun w' h => by rw [← hLr]; exact (HRq.out w' h).take r hr2
          clear hLr hr1
          subst hlr
          have HRk := Lib.hid hrk
          clear hrk
          obtain ⟨A8, c8, rfl⟩ := Go.Proofs.YthkioahpnbahhaaW.PrintWords.own_slice HPP.out.out
          have hz4 : w5.heap.size ≤ wr.heap.size := HMu.out.size
          refine (Feed_any HD.out Aq cq Lr (by omega) (by omega) (HRk.out _ HXr.out) (fun h0 ad e => by have := HLq.out (by omega) ad e; omega) (fun h0 ad e => ⟨by have := HLq.out (by omega) ad e; omega, fun h => by have := HV.out _ h; have := HLq.out (by omega) ad e; omega⟩)).mono ?_
          rintro e w6 ⟨vo2, ms2, vs2, rfl, hd5, he5, hm5, ho5, ht5⟩
          obtain ⟨A5', c5', rfl⟩ := Go.Proofs.YthkioahpnbahhaaW.PrintWords.own_slice he5.out
          have hRoom : (({ Dec.zero.takes (al.take q) with out := [] } : Dec).takes Lr).Room (0 + 2 * Lr.length) := Dec.Room.takes ⟨by show ([] : List Ev).length ≤ 0; simp, fun e he => (by cases he), HD.out.len⟩ Lr
          have hms2 : ms2.length = (({ Dec.zero.takes (al.take q) with out := [] } : Dec).takes Lr).out.length := by rw [← hm5, List.length_map]
          have hn2' : ms2.length ≤ 2 * Lr.length := by rw [hms2]; have := hRoom.1; omega
          have hb2' : ∀ m ∈ ms2, m.e.bytes.length ≤ 50000 := fun m hm => by
            have := hRoom.2.1 m.e (by rw [← hm5]; exact List.mem_map_of_mem hm)
            omega
          have hbp : al.take (q + Lr.length) = al.take q ++ Lr := by rw [List.take_add, HLq'.out, HLr.out]
          have hcut := cut_step (al.take q) Lr (msP.map Em.e) HJ.out
          rw [← hbp] at hcut
          have HP5 := Lib.hid (HPP.out.feed HD.out ht5 ho5)
          have HMu5 := Lib.hid (HMu.out.turn ht5 HV.out)
          have HV5 : Hid (∀ g, vs2.ownBlock = some g → w5.heap.size ≤ g) := Lib.hid (fun g hg => by
            rcases ho5 g hg with h | h
            · omega
            · exact HV.out g h)
          have HD5 := Lib.hid (show DecR w6 p { Dec.zero.takes (al.take (q + Lr.length)) with out := [] } vs2 from hcut.2 ▸ hd5)
          have HE5 := Lib.hid he5
          have HJ5 : Hid (joinL ((msP ++ ms2).map Em.e) = joinL (Dec.zero.takes (al.take (q + Lr.length))).out) := Lib.hid (by rw [List.map_append, hm5]; exact hcut.1)
          have hlP := HL.out.1
          have HL5 : Hid ((msP ++ ms2).length ≤ 2 * (q + Lr.length) ∧ ∀ m ∈ msP ++ ms2, m.e.bytes.length ≤ 50000) := Lib.hid ⟨by rw [List.length_append]; omega, fun m hm => by
            rcases List.mem_append.1 hm with hm | hm
            · exact HL.out.2 m hm
            · exact hb2' m hm⟩
          have hz5 : w5.heap.size ≤ w6.heap.size := HMu5.out.size
          clear hd5 he5 hm5 ho5 ht5 hRoom hms2 hb2' hbp hcut HD HPP HMu HV HJ HL
          go_wp2_with (at_builtin; go_must (refine list_append_rd w5.heap.size rfl (.tmp 74) (.tmp 78) 22 rfl 28 i0 _ 4 40 Try.underlying22 hi0 hy0 hy1 hy2 rfl (by decide) (.slice A8 msP.length c8) msP.length (msP.flatMap Em.enc) (by rfl) HP5.out.out A5' ms2.length c5' (ms2.flatMap Em.enc) (by rfl) (Rd.own HE5.out.out) (by intro u hu; obtain ⟨a, _, ha⟩ := List.mem_flatMap.1 hu; simp [Em.enc, Em.v] at ha; rcases ha with rfl | rfl | rfl | rfl <;> rfl) (by unfold maxLen; omega) (by omega) hz5 ?_); intro A6 c6 w7 hq6 hg6; have HP6 := Lib.hid (HP5.out.add HE5.out hq6 hg6); have HD6 := Lib.hid (HD5.out.aside HP5.out hg6); have HMu6 := Lib.hid (HMu5.out.ownd hg6 (fun g hg => (own_base HP5.out.out g hg).1)); clear hq6 hg6)
          refine ⟨⟨k + 1, q + Lr.length, vs2, msP ++ ms2, by omega, by go_num, by have := HLl.out; omega, Lib.hid ?_, HP6, HMu6, HD6, HV5, HJ5, HL5⟩, by simp [intOf]; omega⟩
          have := Rest.step hcq HRq.out HLq.out hr2
          rwa [← HLq'.out, List.drop_drop, HLq'.out] at this
        · have hke : k = zs.length := by omega
          clear hlt hk
          subst hke
          obtain ⟨A8, c8, rfl⟩ := Go.Proofs.YthkioahpnbahhaaW.PrintWords.own_slice HPP.out.out
          have hz4 : w5.heap.size ≤ wr.heap.size := HMu.out.size
          go_wp2_with fail
          refine (Feed_any HD.out Aq cq L (by omega) (by omega) (HRq.out _ HXr.out) (fun h0 ad e => by have := HLq.out h0 ad e; omega) (fun h0 ad e => ⟨by have := HLq.out h0 ad e; omega, fun h => by have := HV.out _ h; have := HLq.out h0 ad e; omega⟩)).mono ?_
          rintro e w6 ⟨vo2, ms2, vs2, rfl, hd5, he5, hm5, ho5, ht5⟩
          obtain ⟨A5', c5', rfl⟩ := Go.Proofs.YthkioahpnbahhaaW.PrintWords.own_slice he5.out
          have hRoom : (({ Dec.zero.takes (al.take q) with out := [] } : Dec).takes L).Room (0 + 2 * L.length) := Dec.Room.takes ⟨by show ([] : List Ev).length ≤ 0; simp, fun e he => (by cases he), HD.out.len⟩ L
          have hms2 : ms2.length = (({ Dec.zero.takes (al.take q) with out := [] } : Dec).takes L).out.length := by rw [← hm5, List.length_map]
          have hn2' : ms2.length ≤ 2 * L.length := by rw [hms2]; have := hRoom.1; omega
          have hb2' : ∀ m ∈ ms2, m.e.bytes.length ≤ 50000 := fun m hm => by
            have := hRoom.2.1 m.e (by rw [← hm5]; exact List.mem_map_of_mem hm)
            omega
          have hcut := cut_step (al.take q) L (msP.map Em.e) HJ.out
          rw [show al.take q ++ L = al by rw [← HLq'.out, List.take_append_drop]] at hcut
          have HP5 := Lib.hid (HPP.out.feed HD.out ht5 ho5)
          have HMu5 := Lib.hid (HMu.out.turn ht5 HV.out)
          have HE5 := Lib.hid he5
          have hrecs : Rs.zero.takes ((msP ++ ms2).map Em.e) = { m := Mk.zero, out := ss.map Sb.l, n := 0 } := by
            obtain ⟨_, _, hb, _, _⟩ := recs_all (ss.map Sb.l)
            have hj := hcut.1
            rw [← hm5, ← List.map_append] at hj
            rw [← Rs.joined Rs.zero (by show ([] : List Int).length ≤ _; simp), hj, Rs.joined Rs.zero (by show ([] : List Int).length ≤ _; simp), HA.out, hb, Rs.recs _ _ rfl (fun l hl => by
              obtain ⟨s, hs, rfl⟩ := List.mem_map.1 hl
              have := H5.out s hs
              omega)]
            simp [Rs.zero]
          have HRC := Lib.hid hrecs
          have hlP := HL.out.1
          have hLn : (msP ++ ms2).length ≤ 100000 := by rw [List.length_append]; omega
          have HL5 : Hid (∀ m ∈ msP ++ ms2, m.e.bytes.length ≤ 100000) := Lib.hid (fun m hm => by
            rcases List.mem_append.1 hm with hm | hm
            · have := HL.out.2 m hm; omega
            · have := hb2' m hm; omega)
          have hz5 : w5.heap.size ≤ w6.heap.size := HMu5.out.size
          clear hd5 he5 hm5 ho5 ht5 hRoom hms2 hb2' hcut HD HPP HMu HV HJ HL hrecs
          go_wp2_with (at_builtin; go_must (refine list_append_rd w5.heap.size rfl (.tmp 84) (.tmp 86) 22 rfl 28 i0 _ 4 40 Try.underlying22 hi0 hy0 hy1 hy2 rfl (by decide) (.slice A8 msP.length c8) msP.length (msP.flatMap Em.enc) (by rfl) HP5.out.out A5' ms2.length c5' (ms2.flatMap Em.enc) (by rfl) (Rd.own HE5.out.out) (by intro u hu; obtain ⟨a, _, ha⟩ := List.mem_flatMap.1 hu; simp [Em.enc, Em.v] at ha; rcases ha with rfl | rfl | rfl | rfl <;> rfl) (by unfold maxLen; omega) (by omega) hz5 ?_); intro A6 c6 w7 hq6 hg6; have HP6 := Lib.hid (HP5.out.add HE5.out hq6 hg6).rd; have HMu6 := Lib.hid (HMu5.out.ownd hg6 (fun g hg => (own_base HP5.out.out g hg).1)); clear hq6 hg6)
          have HX7 := Lib.hid (Ext_trans (Mut_trans HMu6.out HX5.out hp4) HX4.out)
          clear HMu6 HP5 HE5 HMu5
          refine (RAll_any HP6.out hLn HL5.out).mono ?_
          rintro e w8 ⟨v8, s8, rfl, hr8, hs8, hl8, hx8⟩
          rw [HRC.out] at hl8
          have hl8 : s8.map Sb.l = ss.map Sb.l := hl8
          rw [HRC.out]
          have hlen8 : ∀ s ∈ s8, s.l.length ≤ 500 := fun s hs => by
            have : s.l ∈ ss.map Sb.l := by rw [← hl8]; exact List.mem_map_of_mem hs
            obtain ⟨s', h1, h2⟩ := List.mem_map.1 this
            rw [← h2]
            exact H5.out s' h1
          have hn8 : s8.length = ss.length := by have := congrArg List.length hl8; simpa using this
          have HX8 := Lib.hid (Ext_trans hx8 HX7.out)
          have HG8 := Lib.hid (RowsR.of_own hr8 hs8 (fun s hs => by have := hlen8 s hs; omega))
          have HA8 : Hid (RowsR w8 (.slice A ss.length c) ss) := Lib.hid ⟨A, c, rfl, hc, HR.out _ HX8.out, fun s hs => ⟨(HS.out s hs).1, Rd_ext HX8.out (HS.out s hs).2.1, by have := H5.out s hs; omega⟩⟩
          have HL8 : Hid (s8.map Sb.l = ss.map Sb.l) := Lib.hid hl8
          have HB8 : Hid (∀ s ∈ s8, s.l.length ≤ 1000000) := Lib.hid (fun s hs => by have := hlen8 s hs; omega)
          have hn8' : s8.length ≤ 1000000 := by omega
          obtain ⟨A9, c9, rfl⟩ := Go.Proofs.YthkioahpnbahhaaW.PrintWords.own_slice hr8
          have HN8 := Lib.hid hn8
          clear hr8 hs8 hl8 hlen8 hx8 HX7 HP6 hn8
          go_wp2_with fail
          refine (SameAll_any HG8.out HA8.out HL8.out hn8' HB8.out).mono ?_
          rintro e w9 ⟨rfl, hx9⟩
          have HX9 := Lib.hid (Ext_trans hx9 HX8.out)
          clear hx9
          go_wp2_with fail
          go_ret
          exact ⟨rfl, HX9.out⟩
theorem RecordBack_walk {H : Type} (w : World) (A : Option Addr) (n c : Nat) (t : Handed Try.prog H w 34 (.slice A n c)) (A2 : Option Addr) (n2 c2 : Nat) (t2 : Handed Try.prog H w 66 (.slice A2 n2 c2)) :
    Calls Try.prog 10 #[.slice A n c, .slice A2 n2 c2] w (Ret (.bool true) w) := by
  obtain ⟨ss, rfl, hc, hn, hr, hs⟩ := sb_rows t
  obtain ⟨zs, rfl, hn2, hr2⟩ := int_row t2
  exact RecordBack_any A A2 c c2 ss zs hn hn2 hc w hr hs hr2
end Go.Proofs.Ythkioahpnbahhaa
