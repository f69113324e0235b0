/- IacCuts: cut into whatever parts, bytes are the same events. -/
import Derived.Test.YthkioahpnbahhaaD5v
import Derived.Test.YthkioahpnbahhaaD5s
namespace Go.Proofs.Ythkioahpnbahhaa
set_option linter.unusedVariables false
set_option linter.unusedSimpArgs false
open Go.RowKit Go.Proofs.YthkioahpnbahhaaW.PrintWords
def i64s (l : List Int) : List Value := l.map (Value.int .i64)
theorem i64s_get (l : List Int) (i : Nat) : (i64s l)[i]? = (l[i]?).map (Value.int .i64) := List.getElem?_map ..
theorem int_row {H : Type} {w : World} {A : Option Addr} {n c : Nat} (h : Handed Try.prog H w 66 (.slice A n c)) :
    ∃ l : List Int, l.length = n ∧ n ≤ maxLen ∧ Rd w 1 A n (i64s l) := by
  obtain ⟨enc, d, ps, h⟩ := h
  obtain ⟨l, h1, _, h2, h3, _⟩ := arg_structs (fun z : Int => [Value.int .i64 z]) (fun _ => True) Try.underlying66 (e := 3) (k := 1) (by kernel_rfl) (by omega) h (fun r m y hl hy => by
    obtain ⟨z, rfl, _⟩ := DataW.trod_int Try.underlying3 hy
    exact ⟨z, by simp, trivial⟩)
  refine ⟨l, h1, h2, ?_⟩
  have e : l.flatMap (fun z : Int => [Value.int .i64 z]) = i64s l := by unfold i64s; rw [List.map_eq_flatMap]
  rwa [e] at h3
/-- what is left of the bytes -/
structure Rest (w : World) (v : Value) (l : List Int) : Prop where
  out : ∃ A c, v = .slice A l.length c ∧ l.length ≤ c ∧ (∀ w', Ext w w' → Rd w' 1 A l.length (u8s l)) ∧ (0 < l.length → ∀ ad, A = some ad → ad.block < w.heap.size)
theorem Rest.step {w : World} {L : List Int} {Aq : Option Addr} {cq r : Nat} (hc : L.length ≤ cq) (hr : ∀ w', Ext w w' → Rd w' 1 Aq L.length (u8s L)) (hl : 0 < L.length → ∀ ad, Aq = some ad → ad.block < w.heap.size) (hk : r ≤ L.length) :
    Rest w (.slice (if cq = r then Aq else Option.map (fun x => x.add r) Aq) (L.length - r) (cq - r)) (L.drop r) := by
  refine ⟨_, cq - r, by rw [List.length_drop], by rw [List.length_drop]; omega, fun w' hx => ?_, fun h0 ad e => ?_⟩
  · rw [List.length_drop]
    rcases Nat.eq_zero_or_pos (L.length - r) with h0 | h0
    · exact ⟨by simp [u8s], fun h => absurd h (by omega)⟩
    · rw [if_neg (by omega)]
      obtain ⟨b, o, hA, _⟩ := (hr w' hx).2 (by omega)
      subst hA
      exact Rd.drop (hr w' hx) r hk
  · rw [List.length_drop] at h0
    rw [if_neg (by omega)] at e
    cases Aq with
    | none => cases e
    | some a =>
      cases e
      have := hl (by omega) a rfl
      obtain ⟨b, o, hA, _⟩ := (hr w (Ext_refl w)).2 (by omega)
      cases hA
      show ((⟨b, o, none⟩ : Addr).add r).block < w.heap.size
      rw [add_at]
      exact this
set_option maxRecDepth 100000 in
set_option maxHeartbeats 8000000 in
theorem IacCuts_any (A A2 : Option Addr) (c c2 : Nat) (b zs : List Int) (hby : ∀ x ∈ b, 0 ≤ x ∧ x < 256) (hn : b.length ≤ maxLen) (hn2 : zs.length ≤ maxLen) (hc : b.length ≤ c) (w : World) (hr : Rd w 1 A b.length (u8s b)) (hr2 : Rd w 1 A2 zs.length (i64s zs)) :
    Calls Try.prog 7 #[.slice A b.length c, .slice A2 zs.length c2] w (Ret (.bool true) w) := by
  unfold maxLen at hn hn2
  have HR := Lib.hid (fun w' (h : Ext w w') => Rd_ext h hr)
  have HR2 := Lib.hid (fun w' (h : Ext w w') => Rd_ext h hr2)
  have HX := Lib.hid (Ext_refl w)
  have HL0 := Lib.hid (fun (h : 0 < b.length) => Rd.lt hr h)
  clear hr hr2 hby
  by_cases hl : 2000 < b.length
  · have hd : decide ((2000 : Int) < (b.length : Int)) = true := decide_eq_true (by omega)
    go_enter Try.func7, Try.ntmps7
    go_wp2_with (go_at_call 24; refine (alive5_any _).mono ?_; rintro e wn ⟨rfl, hb⟩; have HXn := Lib.hid (Ext_trans hb (by repeat' (first | (with_reducible first | exact HX.out | apply Ext_alloc | apply Ext_drewN | apply Ext_drew | (refine Ext_set ?_ ?_) | exact Ext_refl _) | (simp only [World.size_alloc, World.size_setCell, World.size_drew, size_drewN]; omega) | (simp; done) | (simp; omega)))); clear hb HX; have HX := HXn; clear HXn)
    go_ret
    exact ⟨rfl, HX.out⟩
  have hd : decide ((2000 : Int) < (b.length : Int)) = false := decide_eq_false (by omega)
  by_cases hl2 : 200 < zs.length
  · have hd2 : decide ((200 : Int) < (zs.length : Int)) = true := decide_eq_true (by omega)
    go_enter Try.func7, Try.ntmps7
    go_wp2_with (go_at_call 24; refine (alive5_any _).mono ?_; rintro e wn ⟨rfl, hb⟩; have HXn := Lib.hid (Ext_trans hb (by repeat' (first | (with_reducible first | exact HX.out | apply Ext_alloc | apply Ext_drewN | apply Ext_drew | (refine Ext_set ?_ ?_) | exact Ext_refl _) | (simp only [World.size_alloc, World.size_setCell, World.size_drew, size_drewN]; omega) | (simp; done) | (simp; omega)))); clear hb HX; have HX := HXn; clear HXn)
    go_ret
    exact ⟨rfl, HX.out⟩
  have hd2 : decide ((200 : Int) < (zs.length : Int)) = false := decide_eq_false (by omega)
  have hb2 : b.length ≤ 2000 := by omega
  have hz2 : zs.length ≤ 200 := by omega
  clear hl hl2
  go_enter Try.func7, Try.ntmps7
  go_wp2_with (go_at_call 24; refine (alive5_any _).mono ?_; rintro e wn ⟨rfl, hb⟩; have HXn := Lib.hid (Ext_trans hb (by repeat' (first | (with_reducible first | exact HX.out | apply Ext_alloc | apply Ext_drewN | apply Ext_drew | (refine Ext_set ?_ ?_) | exact Ext_refl _) | (simp only [World.size_alloc, World.size_setCell, World.size_drew, size_drewN]; omega) | (simp; done) | (simp; omega)))); clear hb HX; have HX := HXn; clear HXn)
  have hX2 : Ext w ((wn.alloc (.cells #[.int .i64 0, .int .u8 0, .int .u8 0, .slice none 0 0, .bool false, .slice none 0 0] 57)).alloc (.cells #[.int .i64 0, .int .u8 0, .int .u8 0, .slice none 0 0, .bool false, .slice none 0 0] 57)) := Ext_alloc (Ext_alloc (HX.out))
  have hD2_0 := (DecR.ext (DecR.fresh wn) (Ext_alloc (o := (.cells #[.int .i64 0, .int .u8 0, .int .u8 0, .slice none 0 0, .bool false, .slice none 0 0] 57)) (Ext_refl _)))
  have hD2_1 := (DecR.fresh (wn.alloc (.cells #[.int .i64 0, .int .u8 0, .int .u8 0, .slice none 0 0, .bool false, .slice none 0 0] 57)))
  simp only [World.size_alloc, Nat.add_assoc, Nat.reduceAdd] at hD2_1
  have hs2 : wn.heap.size + 2 ≤ ((wn.alloc (.cells #[.int .i64 0, .int .u8 0, .int .u8 0, .slice none 0 0, .bool false, .slice none 0 0] 57)).alloc (.cells #[.int .i64 0, .int .u8 0, .int .u8 0, .slice none 0 0, .bool false, .slice none 0 0] 57)).heap.size := by simp
  have hp : w.heap.size ≤ wn.heap.size := HX.out.size
  have HX2 := Lib.hid hX2
  have HD2_0 := Lib.hid hD2_0
  have HD2_1 := Lib.hid hD2_1
  clear hX2 HX hD2_0 hD2_1
  generalize ((wn.alloc (.cells #[.int .i64 0, .int .u8 0, .int .u8 0, .slice none 0 0, .bool false, .slice none 0 0] 57)).alloc (.cells #[.int .i64 0, .int .u8 0, .int .u8 0, .slice none 0 0, .bool false, .slice none 0 0] 57)) = w2 at *
  generalize wn.heap.size = p at *
  refine (Feed_new HD2_0.out A c b (by omega) hc (HR.out _ HX2.out) (fun h0 ad e => by have := HL0.out h0 ad e; omega)).mono ?_
  rintro e w3 ⟨vo, ms, vsd, rfl, hd3, he3, hm3, hv3, hx3⟩
  have HX3 := Lib.hid (Mut_trans hx3 HX2.out hp)
  have HD3 := Lib.hid hd3
  have HE3 := Lib.hid (HD2_1.out.mut hx3 (by omega) (fun h => by cases h))
  have HG3 := Lib.hid he3.rd
  have HM3 := Lib.hid hm3
  have hs3 : p + 2 ≤ w3.heap.size := Nat.le_trans hs2 hx3.size
  have hml := (out_small hm3).1
  have hmb := (out_small hm3).2
  have hml2 : ms.length ≤ 100000 := by omega
  have HMB : Hid (∀ m ∈ ms, m.e.bytes.length ≤ 1000000) := Lib.hid (fun m hm => by have := hmb m hm; omega)
  clear hd3 he3 hm3 hv3 hx3 HX2 HD2_0 HD2_1 hml hmb
  go_wp2_with fail
  refine (IJoin_any HG3.out hml2 HMB.out).mono ?_
  rintro e w4 ⟨v4, ms4, rfl, hj4, hm4, hb4, hn4, hx4⟩
  have HX4 := Lib.hid (Ext_trans hx4 HX3.out)
  have HD4 := Lib.hid (HD3.out.ext hx4)
  have HE4 := Lib.hid (HE3.out.ext hx4)
  have HJ4 := Lib.hid hj4
  have HM4 : Hid (ms4.map Em.e = (Dec.zero.takes b).out) := Lib.hid (by rw [hm4, HM3.out]; exact (all_joined b).1)
  have hs4 : p + 2 ≤ w4.heap.size := Nat.le_trans hs3 hx4.size
  clear hj4 hm4 hb4 hn4 hx4 HX3 HD3 HE3 HG3 HM3 HMB hml2
  obtain ⟨i0, hi, hz0, hz1, hz2⟩ := info_parts infoE
  go_wp2_with fail
  go_loopw [8, 9, 11, 29] (fun v8 v9 _ v wr => ∃ (k : Nat) (q : Nat) (vs : Value) (msP : List Em), k ≤ zs.length ∧ v = .int .i64 k ∧ q ≤ b.length ∧ Hid (Rest w v9 (b.drop q)) ∧ Hid (PAt w4.heap.size wr v8 msP vs) ∧ Hid (Mut (p + 1) w4 wr) ∧ Hid (DecR wr (p + 1) { Dec.zero.takes (b.take q) with out := [] } vs) ∧ Hid (∀ g, vs.ownBlock = some g → w4.heap.size ≤ g) ∧ Hid (joinL (msP.map Em.e) = joinL (Dec.zero.takes (b.take q)).out) ∧ Hid (msP.length ≤ 2 * q ∧ ∀ m ∈ msP, m.e.bytes.length ≤ 5000)) (fun _ _ _ v _ => zs.length - (intOf v).toNat)
  case atStart => exact ⟨0, 0, .slice none 0 0, [], Nat.zero_le _, rfl, Nat.zero_le _, ⟨A, c, by simp, by simpa using hc, by simpa using HR.out, by simpa using HL0.out⟩, ⟨World.ownsRow_lit w4 #[] 0 (Nat.le_refl _) (by decide) rfl, fun m hm => (by cases hm), fun m hm => (by cases hm)⟩, (Ext_alloc (Ext_refl w4)).mut _, Lib.hid (HE4.out.ext (Ext_alloc (Ext_refl w4))), fun g h => (by cases h), Lib.hid rfl, ⟨by simp, fun m hm => (by cases hm)⟩⟩
  case round =>
    obtain ⟨k, q, vs, msP, hk, rfl, hq, HRe, HP, HMu, HD, HV, HJ, HL⟩ := hrel
    have HXr := Lib.hid (Mut_trans HMu.out HX4.out (by omega))
    obtain ⟨L, hL⟩ : ∃ L, b.drop q = L := ⟨_, rfl⟩
    have HLl := Lib.hid (show L.length = b.length - q by rw [← hL, List.length_drop])
    have hLb : L.length ≤ 2000 := by have := HLl.out; omega
    rw [hL] at HRe
    have HLq' := Lib.hid hL
    clear hL
    obtain ⟨Aq, cq, rfl, hcq, hrq, hlq⟩ := HRe.out.out
    have HRq := Lib.hid hrq
    have HLq := Lib.hid hlq
    clear hrq hlq
    have hsr : p + 2 ≤ wr.heap.size := Nat.le_trans hs4 HMu.out.size
    by_cases hlt : k < zs.length
    · obtain ⟨z, hz⟩ : ∃ z, zs[k]? = some z := ⟨_, List.getElem?_eq_getElem hlt⟩
      obtain ⟨bz, oz, hA2, hcz⟩ := (HR2.out _ HXr.out).2 (by omega)
      have hcell := hcz k (.int .i64 z) (by rw [i64s_get, hz]; rfl)
      subst hA2
      clear hcz hz
      obtain ⟨r, hr1, hr2⟩ : ∃ r : Nat, (if (L.length : Int) < bits .and .i64 z 255 then (L.length : Int) else bits .and .i64 z 255) = (r : Int) ∧ r ≤ L.length := by
        rw [and255]
        have h0 : 0 ≤ z % 256 := Int.emod_nonneg _ (by decide)
        by_cases h : (L.length : Int) < z % 256
        · exact ⟨L.length, by rw [if_pos h], Nat.le_refl _⟩
        · exact ⟨(z % 256).toNat, by rw [if_neg h]; omega, by omega⟩
      have hrc : (r : Int) ≤ (cq : Int) := by omega
      go_wp2_with fail
      obtain ⟨Lr, hLr⟩ : ∃ Lr, L.take r = Lr := ⟨_, rfl⟩
      have hlr : Lr.length = r := by rw [← hLr, List.length_take]; omega
      have HLr := Lib.hid hLr
      have hrk : ∀ w', Ext w w' → Rd w' 1 Aq r (u8s Lr) := fun w' h => by rw [← hLr]; exact (HRq.out w' h).take r hr2
      clear hLr hr1
      subst hlr
      have HRk := Lib.hid hrk
      clear hrk
      obtain ⟨A8, c8, rfl⟩ := Go.Proofs.YthkioahpnbahhaaW.PrintWords.own_slice HP.out.out
      have hz4 : w4.heap.size ≤ wr.heap.size := HMu.out.size
      have hp4 : w.heap.size ≤ p := hp
      refine (Feed_any HD.out Aq cq Lr (by omega) (by omega) (HRk.out _ HXr.out) (fun h0 ad e => by have := HLq.out (by omega) ad e; omega) (fun h0 ad e => ⟨by have := HLq.out (by omega) ad e; omega, fun h => by have := HV.out _ h; have := HLq.out (by omega) ad e; omega⟩)).mono ?_
      rintro e w5 ⟨vo2, ms2, vs2, rfl, hd5, he5, hm5, ho5, ht5⟩
      obtain ⟨A5, c5, rfl⟩ := Go.Proofs.YthkioahpnbahhaaW.PrintWords.own_slice he5.out
      have hRoom : (({ Dec.zero.takes (b.take q) with out := [] } : Dec).takes Lr).Room (0 + 2 * Lr.length) := Dec.Room.takes ⟨by show ([] : List Ev).length ≤ 0; simp, fun e he => (by cases he), HD.out.len⟩ Lr
      have hms2 : ms2.length = (({ Dec.zero.takes (b.take q) with out := [] } : Dec).takes Lr).out.length := by rw [← hm5, List.length_map]
      have hn2' : ms2.length ≤ 2 * Lr.length := by rw [hms2]; have := hRoom.1; omega
      have hb2' : ∀ m ∈ ms2, m.e.bytes.length ≤ 5000 := fun m hm => by
        have := hRoom.2.1 m.e (by rw [← hm5]; exact List.mem_map_of_mem hm)
        omega
      have hbp : b.take (q + Lr.length) = b.take q ++ Lr := by rw [List.take_add, HLq'.out, HLr.out]
      have hcut := cut_step (b.take q) Lr (msP.map Em.e) HJ.out
      rw [← hbp] at hcut
      have HP5 := Lib.hid (HP.out.feed HD.out ht5 ho5)
      have HMu5 := Lib.hid (HMu.out.turn ht5 HV.out)
      have HV5 : Hid (∀ g, vs2.ownBlock = some g → w4.heap.size ≤ g) := Lib.hid (fun g hg => by
        rcases ho5 g hg with h | h
        · omega
        · exact HV.out g h)
      have HD5 := Lib.hid (show DecR w5 (p + 1) { Dec.zero.takes (b.take (q + Lr.length)) with out := [] } vs2 from hcut.2 ▸ hd5)
      have HE5 := Lib.hid he5
      have HJ5 : Hid (joinL ((msP ++ ms2).map Em.e) = joinL (Dec.zero.takes (b.take (q + Lr.length))).out) := Lib.hid (by rw [List.map_append, hm5]; exact hcut.1)
      have hlP := HL.out.1
      have HL5 : Hid ((msP ++ ms2).length ≤ 2 * (q + Lr.length) ∧ ∀ m ∈ msP ++ ms2, m.e.bytes.length ≤ 5000) := Lib.hid ⟨by rw [List.length_append]; omega, fun m hm => by
        rcases List.mem_append.1 hm with hm | hm
        · exact HL.out.2 m hm
        · exact hb2' m hm⟩
      have hz5 : w4.heap.size ≤ w5.heap.size := HMu5.out.size
      clear hd5 he5 hm5 ho5 ht5 hRoom hms2 hb2' hbp hcut HD HP HMu HV HJ HL
      go_wp2_with (at_builtin; go_must (refine list_append_rd w4.heap.size rfl (.tmp 38) (.tmp 42) 22 rfl 28 i0 _ 4 40 Try.underlying22 hi hz0 hz1 hz2 rfl (by decide) (.slice A8 msP.length c8) msP.length (msP.flatMap Em.enc) (by rfl) HP5.out.out A5 ms2.length c5 (ms2.flatMap Em.enc) (by rfl) (Rd.own HE5.out.out) (by intro u hu; obtain ⟨a, _, ha⟩ := List.mem_flatMap.1 hu; simp [Em.enc, Em.v] at ha; rcases ha with rfl | rfl | rfl | rfl <;> rfl) (by unfold maxLen; omega) (by omega) hz5 ?_); intro A6 c6 w6 hq6 hg6; have HP6 := Lib.hid (HP5.out.add HE5.out hq6 hg6); have HD6 := Lib.hid (HD5.out.aside HP5.out hg6); have HMu6 := Lib.hid (HMu5.out.ownd hg6 (fun g hg => (own_base HP5.out.out g hg).1)); clear hq6 hg6)
      refine ⟨⟨k + 1, q + Lr.length, vs2, msP ++ ms2, by omega, by go_num, by have := HLl.out; omega, Lib.hid ?_, HP6, HMu6, HD6, HV5, HJ5, HL5⟩, by simp [intOf]; omega⟩
      have := Rest.step hcq HRq.out HLq.out hr2
      rwa [← HLq'.out, List.drop_drop, HLq'.out] at this
    · have hke : k = zs.length := by omega
      clear hlt hk
      subst hke
      obtain ⟨A8, c8, rfl⟩ := Go.Proofs.YthkioahpnbahhaaW.PrintWords.own_slice HP.out.out
      have hz4 : w4.heap.size ≤ wr.heap.size := HMu.out.size
      go_wp2_with fail
      refine (Feed_any HD.out Aq cq L (by omega) (by omega) (HRq.out _ HXr.out) (fun h0 ad e => by have := HLq.out h0 ad e; omega) (fun h0 ad e => ⟨by have := HLq.out h0 ad e; omega, fun h => by have := HV.out _ h; have := HLq.out h0 ad e; omega⟩)).mono ?_
      rintro e w5 ⟨vo2, ms2, vs2, rfl, hd5, he5, hm5, ho5, ht5⟩
      obtain ⟨A5, c5, rfl⟩ := Go.Proofs.YthkioahpnbahhaaW.PrintWords.own_slice he5.out
      have hRoom : (({ Dec.zero.takes (b.take q) with out := [] } : Dec).takes L).Room (0 + 2 * L.length) := Dec.Room.takes ⟨by show ([] : List Ev).length ≤ 0; simp, fun e he => (by cases he), HD.out.len⟩ L
      have hms2 : ms2.length = (({ Dec.zero.takes (b.take q) with out := [] } : Dec).takes L).out.length := by rw [← hm5, List.length_map]
      have hn2' : ms2.length ≤ 2 * L.length := by rw [hms2]; have := hRoom.1; omega
      have hb2' : ∀ m ∈ ms2, m.e.bytes.length ≤ 5000 := fun m hm => by
        have := hRoom.2.1 m.e (by rw [← hm5]; exact List.mem_map_of_mem hm)
        omega
      have hcut := cut_step (b.take q) L (msP.map Em.e) HJ.out
      rw [show b.take q ++ L = b by rw [← HLq'.out, List.take_append_drop]] at hcut
      have HP5 := Lib.hid (HP.out.feed HD.out ht5 ho5)
      have HMu5 := Lib.hid (HMu.out.turn ht5 HV.out)
      have HD5 := Lib.hid (show DecR w5 (p + 1) { Dec.zero.takes b with out := [] } vs2 from hcut.2 ▸ hd5)
      have HE5 := Lib.hid he5
      have HJ5 : Hid (joinL ((msP ++ ms2).map Em.e) = (Dec.zero.takes b).out) := Lib.hid (by rw [List.map_append, hm5, hcut.1]; exact (all_joined b).1)
      have hlP := HL.out.1
      have hLn : (msP ++ ms2).length ≤ 100000 := by rw [List.length_append]; omega
      have HL5 : Hid (∀ m ∈ msP ++ ms2, m.e.bytes.length ≤ 1000000) := Lib.hid (fun m hm => by
        rcases List.mem_append.1 hm with hm | hm
        · have := HL.out.2 m hm; omega
        · have := hb2' m hm; omega)
      have hz5 : w4.heap.size ≤ w5.heap.size := HMu5.out.size
      clear hd5 he5 hm5 ho5 ht5 hRoom hms2 hb2' hcut HD HP HMu HV HJ HL
      go_wp2_with (at_builtin; go_must (refine list_append_rd w4.heap.size rfl (.tmp 48) (.tmp 50) 22 rfl 28 i0 _ 4 40 Try.underlying22 hi hz0 hz1 hz2 rfl (by decide) (.slice A8 msP.length c8) msP.length (msP.flatMap Em.enc) (by rfl) HP5.out.out A5 ms2.length c5 (ms2.flatMap Em.enc) (by rfl) (Rd.own HE5.out.out) (by intro u hu; obtain ⟨a, _, ha⟩ := List.mem_flatMap.1 hu; simp [Em.enc, Em.v] at ha; rcases ha with rfl | rfl | rfl | rfl <;> rfl) (by unfold maxLen; omega) (by omega) hz5 ?_); intro A6 c6 w6 hq6 hg6; have HP6 := Lib.hid (HP5.out.add HE5.out hq6 hg6).rd; have HD6 := Lib.hid (HD5.out.aside HP5.out hg6); have HMu6 := Lib.hid (HMu5.out.ownd hg6 (fun g hg => (own_base HP5.out.out g hg).1)); clear hq6 hg6)
      have HX6 := Lib.hid (Mut_trans HMu6.out HX4.out (by omega))
      have HJ6 := Lib.hid (HJ4.out.mut HMu6.out (by omega)).rd
      have HC6 := Lib.hid (HD4.out.mut HMu6.out (by omega) (own_blk_ne HD4.out.sub HE4.out.blk (by decide)))
      clear HMu6 HP5 HE5 HMu5 HD5
      refine (IJoin_any HP6.out hLn HL5.out).mono ?_
      rintro e w7 ⟨v7, ms7, rfl, hj7, hm7, hb7, hn7, hx7⟩
      have HS7 := Lib.hid hj7.rd
      have HM7 : Hid (ms7.map Em.e = ms4.map Em.e) := Lib.hid (by rw [hm7, HJ5.out, HM4.out])
      have hs7 := out_small (b := b) (ms := ms7) (by rw [hm7, HJ5.out])
      have hn7' : ms7.length ≤ 100000 := by have := hs7.1; omega
      have HB7 : Hid (∀ m ∈ ms7, m.e.bytes.length ≤ 1000000) := Lib.hid (fun m hm => by have := hs7.2 m hm; omega)
      have hs4' := (out_small HM4.out).1
      have hn4' : ms4.length ≤ 100000 := by omega
      have HX7 := Lib.hid (Ext_trans hx7 HX6.out)
      have HJ7 := Lib.hid (HJ6.out.ext hx7)
      have HC7 := Lib.hid (HC6.out.ext hx7)
      have HD7 := Lib.hid (HD6.out.ext hx7)
      clear hj7 hm7 hb7 hn7 hs7 hs4' hx7 HX6 HJ6 HC6 HD6 HP6
      go_wp2_with fail
      refine (as_any HS7.out hn7').mono ?_
      rintro e w8 ⟨v8, rfl, hd8, hx8⟩
      have HS8 := Lib.hid (AsP.rd hd8 HS7.out hx8)
      have HX8 := Lib.hid (Ext_trans hx8 HX7.out)
      have HJ8 := Lib.hid (HJ7.out.ext hx8)
      have HC8 := Lib.hid (HC7.out.ext hx8)
      have HD8 := Lib.hid (HD7.out.ext hx8)
      clear hd8 hx8 HX7 HJ7 HC7 HD7 HS7
      go_wp2_with fail
      refine (as_any HJ8.out hn4').mono ?_
      rintro e w9 ⟨v9, rfl, hd9, hx9⟩
      have HT9 := Lib.hid (AsP.rd hd9 HJ8.out hx9)
      have HS9 := Lib.hid (HS8.out.ext hx9)
      have HX9 := Lib.hid (Ext_trans hx9 HX8.out)
      have HC9 := Lib.hid (HC8.out.ext hx9)
      have HD9 := Lib.hid (HD8.out.ext hx9)
      clear hd9 hx9 HX8 HJ8 HC8 HD8 HS8
      go_wp2_with fail
      refine (SameE_any HS9.out HT9.out HM7.out (by omega) HB7.out).mono ?_
      rintro e w10 ⟨rfl, hx10⟩
      have HX10 := Lib.hid (Ext_trans hx10 HX9.out)
      have HC10 := Lib.hid (HC9.out.ext hx10)
      have HD10 := Lib.hid (HD9.out.ext hx10)
      clear hx10 HX9 HC9 HD9 HS9 HT9
      obtain ⟨op, hop⟩ : ∃ op, ((({ Dec.zero.takes b with out := [] } : Dec)).at_ != 0) = op := ⟨_, rfl⟩
      have HOP := Lib.hid hop
      clear hop
      go_wp2_with (first
        | (go_at_call 30; refine (DOpen_any HC10.out).mono ?_; rintro e wq ⟨rfl, rfl⟩; rw [HOP.out])
        | (go_at_call 30; refine (DOpen_any HD10.out).mono ?_; rintro e wq ⟨rfl, rfl⟩; rw [HOP.out]))
      go_ret
      exact ⟨rfl, HX10.out⟩
theorem IacCuts_walk {H : Type} (w : World) (A : Option Addr) (n c : Nat) (t : Handed Try.prog H w 24 (.slice A n c)) (A2 : Option Addr) (n2 c2 : Nat) (t2 : Handed Try.prog H w 66 (.slice A2 n2 c2)) :
    Calls Try.prog 7 #[.slice A n c, .slice A2 n2 c2] w (Ret (.bool true) w) := by
  obtain ⟨l, rfl, hc, hn, hr, hb⟩ := byte_row t
  obtain ⟨zs, rfl, hn2, hr2⟩ := int_row t2
  exact IacCuts_any A A2 c c2 l zs hb hn hn2 hc w hr hr2
end Go.Proofs.Ythkioahpnbahhaa
