/- iac.Join: events with data that follows data laid together. -/
import Derived.Test.YthkioahpnbahhaaD5p
import Derived.Deep.AppendLies
namespace Go.Proofs.Ythkioahpnbahhaa
set_option linter.unusedVariables false
set_option linter.unusedSimpArgs false
open Go.RowKit Go.Proofs.YthkioahpnbahhaaW.PrintWords
theorem joinL_snoc (es : List Ev) (e : Ev) : joinL (es ++ [e]) = joinE (joinL es) e := List.foldl_append
def JoinP (w : World) (ms : List Em) (e : Ending) (w' : World) : Prop := ∃ v ms', e = .returned v ∧ JAt w.heap.size w' v ms' ∧ ms'.map Em.e = joinL (ms.map Em.e) ∧ (∀ m ∈ ms', m.e.bytes.length ≤ ms.length * 1000000) ∧ ms'.length ≤ ms.length ∧ Ext w w'
set_option maxRecDepth 100000 in
set_option maxHeartbeats 8000000 in
theorem IJoin_any {w : World} {vo : Value} {ms : List Em} (h : EvR w vo ms) (hn : ms.length ≤ 100000) (hb : ∀ m ∈ ms, m.e.bytes.length ≤ 1000000) : Calls Try.prog 31 #[vo] w (JoinP w ms) := by
  obtain ⟨A, c, rfl, hc, hr, hm⟩ := h
  obtain ⟨i0, hi, hz0, hz1, hz2⟩ := info_parts infoE
  obtain ⟨i5, hi5, hz50, hz51, hz52⟩ := info_parts info5'
  have HR := Lib.hid hr
  have HM := Lib.hid hm
  have HB := Lib.hid hb
  clear hr hm hc hb
  go_enter Try.func31, Try.ntmps31
  go_wp2_with fail
  go_loopw [3, 5, 6, 9, 23, 33] (fun v3 _ _ v _ _ wr => ∃ (k : Nat) (ms1 : List Em), k ≤ ms.length ∧ v = .int .i64 k ∧ Hid (JAt w.heap.size wr v3 ms1) ∧ Hid (Ext w wr) ∧ Hid (ms1.map Em.e = joinL ((ms.take k).map Em.e)) ∧ Hid (ms1.length ≤ k ∧ ∀ m ∈ ms1, m.e.bytes.length ≤ k * 1000000)) (fun _ _ _ v _ _ _ => ms.length - (intOf v).toNat)
  case atStart => exact ⟨0, [], Nat.zero_le _, rfl, ⟨own_nil _ _ _ _, fun m hm => (by cases hm), List.Pairwise.nil⟩, Ext_refl w, rfl, ⟨Nat.le_refl _, fun m hm => (by cases hm)⟩⟩
  case round =>
    obtain ⟨k, ms1, hk, rfl, HO, HX, HJ, HL⟩ := hrel
    obtain ⟨A3, c3, rfl⟩ := Go.Proofs.YthkioahpnbahhaaW.PrintWords.own_slice HO.out.out
    by_cases hlt : k < ms.length
    · obtain ⟨m, hx⟩ : ∃ m, ms[k]? = some m := ⟨_, List.getElem?_eq_getElem hlt⟩
      obtain ⟨bb, o, hA, hcell⟩ := (Rd_ext HX.out HR.out).elem Em.enc (fun _ => rfl) hlt hx
      have k0 := hcell 0 _ rfl
      have k1 := hcell 1 _ rfl
      have k2 := hcell 2 _ rfl
      have k3 := hcell 3 _ rfl
      simp only [Nat.add_zero, Em.v] at k0 k1 k2 k3
      subst hA
      have hmem : m ∈ ms := List.mem_of_getElem? hx
      have HX1 := Lib.hid (show ms.take (k + 1) = ms.take k ++ [m] by rw [List.take_add_one, hx]; rfl)
      have hmb := HB.out m hmem
      have hrm := HM.out m hmem
      have HRM := Lib.hid hrm.1
      have hrmc := hrm.2
      have hml := HL.out.1
      have hsz := HX.out.size
      clear hcell hx hrm hmem
      go_wp2_with fail
      refine (Clone_any m.A m.c m.e.bytes (by omega) hrmc (wr.alloc (.cells #[.int .i64 m.e.kind, .int .u8 m.e.code, .int .u8 m.e.opt, .slice m.A m.e.bytes.length m.c] 28)) (Rd_ext (Ext_alloc HX.out) HRM.out)).mono ?_
      rintro e w2 ⟨v2, rfl, hv2, hx2⟩
      obtain ⟨A2, c2, rfl⟩ := Go.Proofs.YthkioahpnbahhaaW.PrintWords.own_slice hv2
      have HB2 := Lib.hid (Blk.below' (Blk.new wr 28 #[.int .i64 m.e.kind, .int .u8 m.e.code, .int .u8 m.e.opt, .slice m.A m.e.bytes.length m.c]) hx2)
      have HV2 := Lib.hid hv2
      have HX2 := Lib.hid (Ext_trans hx2 (Ext_alloc (Ext_refl wr)))
      have d3 := HB2.out.cell 3
      have d3f := HB2.out.free 3
      have d3l := HB2.out.lt
      simp at d3
      have hsz1 : wr.heap.size + 1 ≤ w2.heap.size := by have := hx2.size; simp at this; omega
      clear hv2 hx2
      go_upto_region 6 with (fail)
      have hV3 : (w2.setCell ⟨wr.heap.size, 3, none⟩ (.slice A2 m.e.bytes.length c2)).ownsRow (wr.heap.size + 1) 5 1 (.slice A2 m.e.bytes.length c2) m.e.bytes.length (u8s m.e.bytes) := by
        have h1 := own_move HV2.out (w1 := w2.setCell ⟨wr.heap.size, 3, none⟩ (.slice A2 m.e.bytes.length c2)) (fun k hk => (Mut_set wr.heap.size 3 _).block k (World.ownsRow.lt HV2.out k hk).2 (fun e => own_blk_ne HV2.out HB2.out (by decide) (by rw [hk, e])))
        simpa using h1
      have HV3 := Lib.hid hV3
      have HB3 := Lib.hid (HB2.out.store 3 (.slice A2 m.e.bytes.length c2))
      have HXr : Hid (Ext wr (w2.setCell ⟨wr.heap.size, 3, none⟩ (.slice A2 m.e.bytes.length c2))) := Lib.hid (Ext_set (p := ⟨wr.heap.size, 3, none⟩) (u := .slice A2 m.e.bytes.length c2) HX2.out (Nat.le_refl _))
      have hs3 : w2.heap.size ≤ (w2.setCell ⟨wr.heap.size, 3, none⟩ (.slice A2 m.e.bytes.length c2)).heap.size := by simp
      clear d3 d3f d3l HB2 HV2 HX2 hV3
      generalize w2.setCell ⟨wr.heap.size, 3, none⟩ (.slice A2 m.e.bytes.length c2) = w3 at *
      have HX3 := Lib.hid (Ext_trans HXr.out HX.out)
      have HO3 := Lib.hid (HO.out.ext HXr.out)
      have hbs : w.heap.size ≤ wr.heap.size + 1 := by omega
      have HNE : Hid (∀ g, (Value.slice A2 m.e.bytes.length c2).ownBlock = some g → ∀ a ∈ ms1, a.v.ownBlock ≠ some g) := Lib.hid (fun g hg a ha e => by
        have h1 := (World.ownsRow.lt HV3.out g hg).1
        have h2 := (World.ownsRow.lt (HO.out.row a ha) g e).2
        omega)
      have hsz3 : w.heap.size ≤ w3.heap.size := HX3.out.size
      have b0 := HB3.out.cell 0
      have b1 := HB3.out.cell 1
      have b2 := HB3.out.cell 2
      have b3 := HB3.out.cell 3
      have b3l := HB3.out.lt
      simp at b0 b1 b2 b3
      clear k0 k1 k2 k3 HO HX HXr
      have HJN : Hid (joinL ((ms.take (k + 1)).map Em.e) = joinE (ms1.map Em.e) m.e) := Lib.hid (by rw [HX1.out, List.map_append, List.map_singleton, joinL_snoc, ← HJ.out])
      have HBD : Hid (∀ a ∈ ms1, a.e.bytes.length ≤ (k + 1) * 1000000) := Lib.hid (fun a ha => Nat.le_trans (HL.out.2 a ha) (Nat.mul_le_mul_right _ (Nat.le_succ k)))
      have HBm : Hid (m.e.bytes.length ≤ (k + 1) * 1000000) := Lib.hid (Nat.le_trans hmb (Nat.le_mul_of_pos_left _ (Nat.succ_pos k)))
      clear HX1 HJ
      have hwk : IntKind.i64.wrap ((k : Int) + 1) = ((k + 1 : Nat) : Int) := IntWalk.i64_in _ (by omega)
      by_cases hA : m.e.kind = 1 ∧ m.e.bytes = []
      · have q1 : (m.e.kind == 1) = true := by rw [hA.1]; rfl
        have q2 : ((m.e.bytes.length : Int) == 0) = true := by rw [hA.2]; rfl
        have HA := Lib.hid hA
        clear hA
        go_wp2_with fail
        refine ⟨⟨k + 1, ms1, by omega, by go_num, HO3, HX3, Lib.hid ?_, Lib.hid ⟨by omega, HBD.out⟩⟩, by simp [intOf]; omega⟩
        rw [HJN.out, joinE_nil HA.out.1 HA.out.2]
      · have HA := Lib.hid hA
        clear hA
        rcases joinE_cases (ms1.map Em.e) m.e (fun h1 h2 => HA.out ⟨h1, h2⟩) with ⟨e1, e2⟩ | ⟨o1, l1, e1, e2, e3, e4⟩
        · have HE1 := Lib.hid e1
          have HE2 := Lib.hid e2
          clear e1 e2
          have fin : ∀ (w6 : World) (A6 : Option Addr) (c6 : Nat), JAt w.heap.size w6 (.slice A6 (ms1.length + 1) c6) (ms1 ++ [⟨m.e, A2, c2⟩]) → (ms1 ++ [(⟨m.e, A2, c2⟩ : Em)]).map Em.e = joinL ((ms.take (k + 1)).map Em.e) ∧ (ms1 ++ [(⟨m.e, A2, c2⟩ : Em)]).length ≤ k + 1 ∧ ∀ a ∈ ms1 ++ [(⟨m.e, A2, c2⟩ : Em)], a.e.bytes.length ≤ (k + 1) * 1000000 := by
            intro w6 A6 c6 _
            refine ⟨by rw [HJN.out, HE1.out, List.map_append]; rfl, by rw [List.length_append, List.length_singleton]; omega, fun a ha => ?_⟩
            rcases List.mem_append.1 ha with ha | ha
            · exact HBD.out a ha
            · rw [List.mem_singleton.1 ha]; exact HBm.out
          have FIN := Lib.hid fin
          clear fin
          by_cases hk1 : m.e.kind = 1
          · have q1 : (m.e.kind == 1) = true := by rw [hk1]; rfl
            have q2 : ((m.e.bytes.length : Int) == 0) = false := by
              have : m.e.bytes ≠ [] := fun h => HA.out ⟨hk1, h⟩
              have : m.e.bytes.length ≠ 0 := fun h => this (List.eq_nil_of_length_eq_zero h)
              simp; omega
            rcases List.eq_nil_or_concat ms1 with hm1 | ⟨ms0, l, hm1⟩
            · have q3 : ms1.length = 0 := by rw [hm1]; rfl
              clear hk1 q3
              subst hm1
              go_wp2_with (at_builtin; go_must (refine list_append_at w.heap.size rfl (.tmp 19) (.tmp 21) 22 rfl 28 i0 _ 4 40 Try.underlying22 hi hz0 hz1 hz2 rfl (by decide) (.slice A3 ([] : List Em).length c3) ([] : List Em).length (([] : List Em).flatMap Em.enc) (by rfl) (own_alloc HO3.out.out _) ⟨w3.heap.size, 0, none⟩ 1 1 (Em.mk m.e A2 c2).enc (by rfl) rfl (by exact World.news_of_block (heap_alloc_new w3 (.cells (Em.mk m.e A2 c2).enc.toArray 28))) (by intro u hu; simp [Em.enc, Em.v] at hu; rcases hu with rfl | rfl | rfl | rfl <;> rfl) (by unfold maxLen; omega) (by omega) (by simp; omega) ?_); intro A6 c6 w6 hq hg; have HX6 : Hid (Ext w w6) := Lib.hid ((Ext_alloc HX3.out).grown hg (Ext_alloc HX3.out).size (fun g hg => (own_base HO3.out.out g hg).1)); have HQ := Lib.hid ((HO3.out.ext (Ext_alloc (o := .cells (Em.mk m.e A2 c2).enc.toArray 28) (Ext_refl w3))).add (Em.mk m.e A2 c2) (Go.Proofs.YthkioahpnbahhaaW.PrintWords.own_weaken (own_ext5 HV3.out (Ext_alloc (o := .cells (Em.mk m.e A2 c2).enc.toArray 28) (Ext_refl w3))) hbs) HNE.out hq hg); clear hq hg)
              refine ⟨⟨k + 1, _, by omega, by go_num, HQ, HX6, Lib.hid (FIN.out _ _ _ HQ.out).1, Lib.hid (FIN.out _ _ _ HQ.out).2⟩, by simp [intOf]; omega⟩
            · rw [List.concat_eq_append] at hm1
              have hnl : l.e.kind ≠ 1 := fun h => HE2.out (ms0.map Em.e) l.e (by rw [hm1, List.map_append]; rfl) ⟨hk1, h⟩
              subst hm1
              have hll : (ms0 ++ [l]).length = ms0.length + 1 := by simp
              obtain ⟨go, cap, hvo, _, hgl⟩ := World.ownsRow.form HO3.out.out (by simp)
              injection hvo with hv1 _ hv2
              subst hv1
              subst hv2
              have hfl : (ms0.flatMap Em.enc).length = ms0.length * 4 := flat_length Em.enc 4 (fun _ => rfl) ms0
              have hrow := HO3.out.out
              have ek : w3.cell? ⟨go, ms0.length * 4, none⟩ = some (.int .i64 l.e.kind) := (add_plain go _) ▸ World.ownsRow.cells hrow rfl (ms0.length * 4) (.int .i64 l.e.kind) (by rw [List.flatMap_append, List.getElem?_append_right (by omega), hfl]; simp [Em.enc])
              have eb : w3.cell? ⟨go, ms0.length * 4 + 3, none⟩ = some (.slice l.A l.e.bytes.length l.c) := (add_plain go _) ▸ World.ownsRow.cells hrow rfl (ms0.length * 4 + 3) (.slice l.A l.e.bytes.length l.c) (by rw [List.flatMap_append, List.getElem?_append_right (by omega), hfl, show ms0.length * 4 + 3 - ms0.length * 4 = 3 from by omega]; simp [Em.enc, Em.v])
              have hw : IntKind.i64.wrap (ms0.length : Int) = (ms0.length : Int) := IntWalk.i64_in _ (by omega)
              have hb1 : (ms0.length : Int) < (ms0.length : Int) + 1 := by omega
              have hpos : (0 : Int) < (ms0.length : Int) + 1 := by omega
              clear hrow
              rw [hll]
              have hk2 : (l.e.kind == 1) = false := by simpa using hnl
              clear hk1 hnl eb
              go_wp2_with (at_builtin; go_must (refine list_append_at w.heap.size rfl (.tmp 19) (.tmp 21) 22 rfl 28 i0 _ 4 40 Try.underlying22 hi hz0 hz1 hz2 rfl (by decide) (.slice (some ⟨go, 0, none⟩) (ms0 ++ [l]).length c3) (ms0 ++ [l]).length ((ms0 ++ [l]).flatMap Em.enc) (by first | rfl | (rw [hll]; rfl)) (own_alloc HO3.out.out _) ⟨w3.heap.size, 0, none⟩ 1 1 (Em.mk m.e A2 c2).enc (by rfl) rfl (by exact World.news_of_block (heap_alloc_new w3 (.cells (Em.mk m.e A2 c2).enc.toArray 28))) (by intro u hu; simp [Em.enc, Em.v] at hu; rcases hu with rfl | rfl | rfl | rfl <;> rfl) (by unfold maxLen; omega) (by omega) (by simp; omega) ?_); intro A6 c6 w6 hq hg; have HX6 : Hid (Ext w w6) := Lib.hid ((Ext_alloc HX3.out).grown hg (Ext_alloc HX3.out).size (fun g hg => (own_base HO3.out.out g hg).1)); have HQ := Lib.hid ((HO3.out.ext (Ext_alloc (o := .cells (Em.mk m.e A2 c2).enc.toArray 28) (Ext_refl w3))).add (Em.mk m.e A2 c2) (Go.Proofs.YthkioahpnbahhaaW.PrintWords.own_weaken (own_ext5 HV3.out (Ext_alloc (o := .cells (Em.mk m.e A2 c2).enc.toArray 28) (Ext_refl w3))) hbs) HNE.out hq hg); clear hq hg)
              have hl2 := hll
              refine ⟨⟨k + 1, _, by omega, by go_num, by rw [hll] at HQ; exact HQ, HX6, Lib.hid (FIN.out _ _ _ HQ.out).1, Lib.hid (FIN.out _ _ _ HQ.out).2⟩, by simp [intOf]; omega⟩
          · have q1 : (m.e.kind == 1) = false := by simpa using hk1
            clear hk1
            go_wp2_with (at_builtin; go_must (refine list_append_at w.heap.size rfl (.tmp 19) (.tmp 21) 22 rfl 28 i0 _ 4 40 Try.underlying22 hi hz0 hz1 hz2 rfl (by decide) (.slice A3 ms1.length c3) ms1.length (ms1.flatMap Em.enc) (by rfl) (own_alloc HO3.out.out _) ⟨w3.heap.size, 0, none⟩ 1 1 (Em.mk m.e A2 c2).enc (by rfl) rfl (by exact World.news_of_block (heap_alloc_new w3 (.cells (Em.mk m.e A2 c2).enc.toArray 28))) (by intro u hu; simp [Em.enc, Em.v] at hu; rcases hu with rfl | rfl | rfl | rfl <;> rfl) (by unfold maxLen; omega) (by omega) (by simp; omega) ?_); intro A6 c6 w6 hq hg; have HX6 : Hid (Ext w w6) := Lib.hid ((Ext_alloc HX3.out).grown hg (Ext_alloc HX3.out).size (fun g hg => (own_base HO3.out.out g hg).1)); have HQ := Lib.hid ((HO3.out.ext (Ext_alloc (o := .cells (Em.mk m.e A2 c2).enc.toArray 28) (Ext_refl w3))).add (Em.mk m.e A2 c2) (Go.Proofs.YthkioahpnbahhaaW.PrintWords.own_weaken (own_ext5 HV3.out (Ext_alloc (o := .cells (Em.mk m.e A2 c2).enc.toArray 28) (Ext_refl w3))) hbs) HNE.out hq hg); clear hq hg)
            refine ⟨⟨k + 1, _, by omega, by go_num, HQ, HX6, Lib.hid (FIN.out _ _ _ HQ.out).1, Lib.hid (FIN.out _ _ _ HQ.out).2⟩, by simp [intOf]; omega⟩
        · obtain ⟨ms0, m1, rfl, rfl, e5⟩ := List.map_eq_append_iff.1 e1
          obtain ⟨l, rfl, rfl⟩ : ∃ l, m1 = [l] ∧ l.e = l1 := by
            match m1, e5 with
            | [l], e5 => exact ⟨l, rfl, by simpa using e5⟩
          have q1 : (m.e.kind == 1) = true := by rw [e2]; rfl
          have hpb : 0 < m.e.bytes.length := by
            rcases Nat.eq_zero_or_pos m.e.bytes.length with h | h
            · exact absurd ⟨e2, List.eq_nil_of_length_eq_zero h⟩ HA.out
            · exact h
          have q2 : ((m.e.bytes.length : Int) == 0) = false := by rw [beq_eq_false_iff_ne]; omega
          have hk2 : (l.e.kind == 1) = true := by rw [e3]; rfl
          have HE4 := Lib.hid e4
          have HE2 := Lib.hid e2
          clear e1 e2 e3 e4 e5
          have hll : (ms0 ++ [l]).length = ms0.length + 1 := by simp
          obtain ⟨go, cap, hvo, _, hgl⟩ := World.ownsRow.form HO3.out.out (by simp)
          injection hvo with hv1 _ hv2
          subst hv1
          subst hv2
          have hfl : (ms0.flatMap Em.enc).length = ms0.length * 4 := flat_length Em.enc 4 (fun _ => rfl) ms0
          have hrow := HO3.out.out
          have ek : w3.cell? ⟨go, ms0.length * 4, none⟩ = some (.int .i64 l.e.kind) := (add_plain go _) ▸ World.ownsRow.cells hrow rfl (ms0.length * 4) (.int .i64 l.e.kind) (by rw [List.flatMap_append, List.getElem?_append_right (by omega), hfl]; simp [Em.enc])
          have eb : w3.cell? ⟨go, ms0.length * 4 + 3, none⟩ = some (.slice l.A l.e.bytes.length l.c) := (add_plain go _) ▸ World.ownsRow.cells hrow rfl (ms0.length * 4 + 3) (.slice l.A l.e.bytes.length l.c) (by rw [List.flatMap_append, List.getElem?_append_right (by omega), hfl, show ms0.length * 4 + 3 - ms0.length * 4 = 3 from by omega]; simp [Em.enc, Em.v])
          have hw : IntKind.i64.wrap (ms0.length : Int) = (ms0.length : Int) := IntWalk.i64_in _ (by omega)
          have hb1 : (ms0.length : Int) < (ms0.length : Int) + 1 := by omega
          have hpos : (0 : Int) < (ms0.length : Int) + 1 := by omega
          clear hrow
          rw [hll]
          obtain ⟨g2, cap2, hv2, _, hg2⟩ := World.ownsRow.form HV3.out hpb
          injection hv2 with hv3 _ hv4
          subst hv3
          subst hv4
          have hlb : l.e.bytes.length ≤ k * 1000000 := HL.out.2 l (by simp)
          have hlb2 : k * 1000000 ≤ 100000 * 1000000 := Nat.mul_le_mul_right 1000000 (show k ≤ 100000 by omega)
          go_upto_region 10 with (fail)
          have hgo3 : go < w3.heap.size := hgl
          go_region_law
            ((refine step_append_lies _ rfl (.tmp 58) (.tmp 60) 24 rfl w.heap.size 5 i5 _ 1 1 Try.underlying24 hi5 hz50 hz51 hz52 rfl (by decide) l.v l.e.bytes.length (u8s l.e.bytes) (by rfl) (by exact (HO3.out.ext (Ext_drew (Ext_refl w3))).row l (List.mem_append_right _ List.mem_cons_self)) ⟨g2, 0, none⟩ m.e.bytes.length c2 (u8s m.e.bytes) (by rfl) (by simp [u8s]) (by exact fun j u hu => World.ownsRow.cells HV3.out rfl j u hu) (by intro u hu; obtain ⟨x, _, rfl⟩ := List.mem_map.1 hu; rfl) hpb (by unfold maxLen; omega) (by omega) (by exact hsz3) _ rfl ?_
              intro g4 cap4 w4 hq hg hv hgl4
              have HH := Lib.hid (HO3.out.ext (Ext_drew (Ext_refl w3)))
              have hrow1 : w4.ownsRow w.heap.size 28 4 (.slice (some ⟨go, 0, none⟩) (ms0 ++ [l]).length c3) (ms0 ++ [l]).length ((ms0 ++ [l]).flatMap Em.enc) := own_move HH.out.out (fun k hk => hg.block k (World.ownsRow.lt HH.out.out k hk).2 (fun e => HH.out.mo (List.mem_append_right _ List.mem_cons_self) k e.symm hk))
              have m3 : w4.cell? ⟨go, ms0.length * 4 + 3, none⟩ = some (.slice l.A l.e.bytes.length l.c) := (add_plain go _) ▸ World.ownsRow.cells hrow1 rfl (ms0.length * 4 + 3) (.slice l.A l.e.bytes.length l.c) (by rw [List.flatMap_append, List.getElem?_append_right (by omega), hfl, show ms0.length * 4 + 3 - ms0.length * 4 = 3 from by omega]; simp [Em.enc, Em.v])
              have m3f : w4.frozen? ⟨go, ms0.length * 4 + 3, none⟩ = false := by exact World.ownsRow.frozenAt hrow1 _
              have mlt : go < w4.heap.size := (World.ownsRow.lt hrow1 go rfl).2
              have HQ := Lib.hid hq
              have HG := Lib.hid hg
              have HV := Lib.hid hv
              clear hq hg hv hrow1))
          all_goals
            have hin : l ∈ ms0 ++ [l] := List.mem_append_right _ List.mem_cons_self
            have hlen : (l.e.bytes ++ m.e.bytes).length = l.e.bytes.length + m.e.bytes.length := List.length_append
            have HF := Lib.hid (HH.out.last (l := m.e.bytes) (v' := .slice (some ⟨g4, 0, none⟩) (l.e.bytes.length + m.e.bytes.length) cap4) (by rw [hlen]) (by rw [hlen, u8s_append]; exact HQ.out) HG.out (by rcases HV.out with h | h; exact .inl h.symm; exact .inr (congrArg some h)) (by rw [hll]) rfl)
            have HX4 : Hid (Ext w w4) := Lib.hid ((Ext_drew HX3.out).grown HG.out hsz3 (fun g hg => (own_base (HH.out.row l hin) g hg).1))
            have HX5 := Lib.hid (Ext_set (p := ⟨go, ms0.length * 4 + 3, none⟩) (u := .slice (some ⟨g4, 0, none⟩) (l.e.bytes.length + m.e.bytes.length) cap4) HX4.out (own_base HH.out.out go rfl).1)
            rw [hll] at HF
            generalize w4.setCell ⟨go, ms0.length * 4 + 3, none⟩ (.slice (some ⟨g4, 0, none⟩) (l.e.bytes.length + m.e.bytes.length) cap4) = w5 at *
            clear m3 m3f mlt HQ HG HV HH HX4 ek eb
            go_wp2_with fail
            refine ⟨⟨k + 1, ms0 ++ [⟨{ l.e with bytes := l.e.bytes ++ m.e.bytes }, some ⟨g4, 0, none⟩, cap4⟩], by omega, by go_num, HF, HX5, Lib.hid ?_, Lib.hid ⟨by have := hml; simp only [List.length_append, List.length_singleton] at this ⊢; omega, fun a ha => ?_⟩⟩, by simp [intOf]; omega⟩
            · rw [HJN.out, HE4.out, List.map_append]; rfl
            · rcases List.mem_append.1 ha with ha | ha
              · exact HBD.out a (List.mem_append_left _ ha)
              · rw [List.mem_singleton.1 ha]
                show (l.e.bytes ++ m.e.bytes).length ≤ _
                rw [hlen, Nat.add_mul]
                omega
    · have : k = ms.length := by omega
      subst this
      rw [List.take_length] at HJ
      go_wp2_with fail
      go_ret
      exact ⟨_, ms1, rfl, HO.out, HJ.out, HL.out.2, HL.out.1, HX.out⟩
end Go.Proofs.Ythkioahpnbahhaa
