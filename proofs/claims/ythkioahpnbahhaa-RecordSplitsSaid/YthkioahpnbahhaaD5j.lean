/- The document's add: data behind data. -/
import Derived.Test.YthkioahpnbahhaaD5i
namespace Go.Proofs.Ythkioahpnbahhaa
set_option linter.unusedVariables false
set_option linter.unusedSimpArgs false
open Go.RowKit Go.Proofs.YthkioahpnbahhaaW.PrintWords
theorem JoinO_any (A : Option Addr) (c : Nat) (ss : List Sb) (hl : ss.length ≤ 1000000) (hc : ss.length ≤ c) (hT : (ss.map Sb.l).flatten.length ≤ 1000000000) (w : World) (h : Rd w 1 A ss.length (ss.map Sb.v)) (hs : ∀ s ∈ ss, s.ok w) :
    Calls Try.prog 14 #[.slice A ss.length c] w (fun e w' => ∃ v, e = .returned v ∧ w'.ownsRow w.heap.size 5 1 v (ss.map Sb.l).flatten.length (u8s (ss.map Sb.l).flatten) ∧ Ext w w') := by
  obtain ⟨k, hk⟩ := join_f (ss.map Sb.l) (by rw [List.length_map]; exact hl) hT
  have := PIacFeeds.greenscreenref01_Join.calls k A c (ss.map Sb.l) _ w (C_of_rows h hs (by omega)) (by rw [List.length_map]; exact hc) hk
  rw [List.length_map] at this
  exact this.mono fun _ _ ⟨v, he, h1, h2⟩ => ⟨v, he, own_of_R h1, h2⟩
set_option maxRecDepth 100000 in
set_option maxHeartbeats 2000000 in
theorem add_last {b : Nat} {w : World} {vo : Value} {ms0 : List Em} {m : Em} (h : DocAll b w vo (ms0 ++ [m])) (hb : b ≤ w.heap.size) (c : Int) (A : Option Addr) (cc : Nat) (hm : w.ownsRow b 5 1 (.slice A 1 cc) 1 (u8s [c])) (hn : ms0.length ≤ 100000) (hl : m.e.bytes.length ≤ 1000000) (hk : m.e.kind = 1) :
    Calls Try.prog 41 #[vo, .agg #[.int .i64 1, .int .u8 0, .int .u8 0, .slice A 1 cc]] w (AddP b w (ms0.map Em.e ++ [{ m.e with bytes := m.e.bytes ++ [c] }])) := by
  have hvo := World.ownsRow.form h.out (by simp)
  obtain ⟨go, cap, hvo, _, hgl⟩ := hvo
  subst hvo
  obtain ⟨i0, hi, hz0, hz1, hz2⟩ := info_parts infoD
  obtain ⟨tg, htg⟩ : ∃ t, ms0.map Em.e ++ [{ m.e with bytes := m.e.bytes ++ [c] }] = t := ⟨_, rfl⟩
  rw [htg]
  have HT := Lib.hid htg
  have HD := Lib.hid h
  have HM := Lib.hid hm
  have hmk : (m.e.kind == 1) = true := by rw [hk]; rfl
  have HK := Lib.hid hk
  clear hm h htg hk
  have hrow := HD.out.out
  unfold DocAt at hrow
  have hll : (ms0 ++ [m]).length = ms0.length + 1 := by simp
  rw [hll] at hrow
  have hfl : (ms0.flatMap Em.enc).length = ms0.length * 4 := flat_length Em.enc 4 (fun _ => rfl) ms0
  have hcell : ∀ j u, m.enc[j]? = some u → w.cell? ⟨go, ms0.length * 4 + j, none⟩ = some u := fun j u hu => (add_plain go _) ▸ World.ownsRow.cells hrow rfl (ms0.length * 4 + j) u (by rw [List.flatMap_append, List.getElem?_append_right (by omega), hfl, show ms0.length * 4 + j - ms0.length * 4 = j from by omega]; simpa using hu)
  have e0 := hcell 0 _ rfl
  have e1 := hcell 1 _ rfl
  have e2 := hcell 2 _ rfl
  have e3 := hcell 3 _ rfl
  simp only [Nat.add_zero, Em.v] at e0 e1 e2 e3
  have hw : IntKind.i64.wrap (ms0.length : Int) = (ms0.length : Int) := IntWalk.i64_in _ (by omega)
  have hb1 : (ms0.length : Int) < (ms0.length : Int) + 1 := by omega
  have hpos : (0 : Int) < (ms0.length : Int) + 1 := by omega
  clear hrow hcell
  go_enter Try.func41, Try.ntmps41
  go_wp2_with fail
  have b0 := heap_alloc_new (w.alloc (.cells (Em.mk ⟨1, 0, 0, [c]⟩ A cc).enc.toArray 44)) (.cells m.enc.toArray 44)
  rw [World.size_alloc] at b0
  have hB : Blk (w.alloc (.cells (Em.mk ⟨1, 0, 0, [c]⟩ A cc).enc.toArray 44) |>.alloc (.cells m.enc.toArray 44) |>.alloc (.cells #[m.v, .slice A 1 cc] 24)) (w.heap.size + 1) 44 m.enc.toArray := Blk.alloc b0 _
  have hR : Rd (w.alloc (.cells (Em.mk ⟨1, 0, 0, [c]⟩ A cc).enc.toArray 44) |>.alloc (.cells m.enc.toArray 44) |>.alloc (.cells #[m.v, .slice A 1 cc] 24)) 1 (some ⟨w.heap.size + 1 + 1, 0, none⟩) 2 [m.v, .slice A 1 cc] := by
    have := Rd.own (World.ownsRow_lit (e := 24) (base := 0) (size := 1) (w.alloc (.cells (Em.mk ⟨1, 0, 0, [c]⟩ A cc).enc.toArray 44) |>.alloc (.cells m.enc.toArray 44)) #[m.v, .slice A 1 cc] 2 (Nat.zero_le _) (by decide) rfl)
    rw [World.size_alloc, World.size_alloc] at this
    exact this
  have hX : Ext w (w.alloc (.cells (Em.mk ⟨1, 0, 0, [c]⟩ A cc).enc.toArray 44) |>.alloc (.cells m.enc.toArray 44) |>.alloc (.cells #[m.v, .slice A 1 cc] 24)) := Ext_alloc (Ext_alloc (Ext_alloc (Ext_refl w)))
  have hz : w.heap.size + 1 < (w.alloc (.cells (Em.mk ⟨1, 0, 0, [c]⟩ A cc).enc.toArray 44) |>.alloc (.cells m.enc.toArray 44) |>.alloc (.cells #[m.v, .slice A 1 cc] 24)).heap.size := by simp
  have hWW : (w.alloc (.cells #[.int .i64 1, .int .u8 0, .int .u8 0, .slice A 1 cc] 44) |>.alloc (.cells #[.int .i64 m.e.kind, .int .u8 m.e.code, .int .u8 m.e.opt, .slice m.A m.e.bytes.length m.c] 44) |>.alloc (.cells #[.slice m.A m.e.bytes.length m.c, .slice A 1 cc] 24)) = (w.alloc (.cells (Em.mk ⟨1, 0, 0, [c]⟩ A cc).enc.toArray 44) |>.alloc (.cells m.enc.toArray 44) |>.alloc (.cells #[m.v, .slice A 1 cc] 24)) := rfl
  rw [hWW]
  have HB3 := Lib.hid hB
  have HR3 := Lib.hid hR
  have HX3 := Lib.hid hX
  have hz3 := hX.size
  clear hB hR hX hWW b0 e0 e1 e2 e3
  generalize (w.alloc (.cells (Em.mk ⟨1, 0, 0, [c]⟩ A cc).enc.toArray 44) |>.alloc (.cells m.enc.toArray 44) |>.alloc (.cells #[m.v, .slice A 1 cc] 24)) = W3 at *
  have hin : m ∈ ms0 ++ [m] := List.mem_append_right _ List.mem_cons_self
  refine (JoinO_any (some ⟨w.heap.size + 1 + 1, 0, none⟩) 2 [⟨m.A, m.c, m.e.bytes⟩, ⟨A, cc, [c]⟩] (by simp) (by simp) (by simp; omega) W3 HR3.out (fun s hs => by
    simp only [List.mem_cons, List.not_mem_nil, or_false] at hs
    rcases hs with rfl | rfl
    · exact ⟨own_len_cap (HD.out.row m hin), Rd_ext HX3.out (Rd.own (HD.out.row m hin)), by show m.e.bytes.length ≤ _; omega⟩
    · exact ⟨own_len_cap HM.out, Rd_ext HX3.out (Rd.own HM.out), by simp⟩)).mono ?_
  rintro e w4 ⟨v4, rfl, hv4, hx4⟩
  have hfl4 : (([⟨m.A, m.c, m.e.bytes⟩, ⟨A, cc, [c]⟩] : List Sb).map Sb.l).flatten = m.e.bytes ++ [c] := by simp
  rw [hfl4] at hv4
  obtain ⟨A4, c4, rfl⟩ := Go.Proofs.YthkioahpnbahhaaW.PrintWords.own_slice hv4
  have HV4 := Lib.hid hv4
  have HX4 := Lib.hid (Ext_trans hx4 HX3.out)
  have HB4 := Lib.hid (Blk.below' HB3.out hx4)
  have x0 := HB4.out.cell 0
  have x1 := HB4.out.cell 1
  have x2 := HB4.out.cell 2
  have x3 := HB4.out.cell 3
  have xf := HB4.out.free 3
  simp [Em.enc, Em.v] at x0 x1 x2 x3
  have hz4 : w.heap.size + 1 < w4.heap.size := HB4.out.lt
  have hg4 : go < w4.heap.size := by omega
  clear HB3 HR3 HX3 hv4 hx4 hfl4 hz
  go_upto_region 5 with (fail)
  have hV5 : (w4.setCell ⟨w.heap.size + 1, 3, none⟩ (.slice A4 (m.e.bytes.length + 1) c4)).ownsRow W3.heap.size 5 1 (.slice A4 (m.e.bytes ++ [c]).length c4) (m.e.bytes ++ [c]).length (u8s (m.e.bytes ++ [c])) := own_move HV4.out (fun k hk => (Mut_set (w.heap.size + 1) 3 _).block k (World.ownsRow.lt HV4.out k hk).2 (fun e => own_blk_ne HV4.out HB4.out (by decide) (by rw [hk, e])))
  have HV5 := Lib.hid hV5
  have HB5 := Lib.hid (HB4.out.store 3 (.slice A4 (m.e.bytes.length + 1) c4))
  have HX5 := Lib.hid (Ext_set (p := ⟨w.heap.size + 1, 3, none⟩) (u := .slice A4 (m.e.bytes.length + 1) c4) HX4.out (Nat.le_succ _))
  clear x0 x1 x2 x3 xf HV4 HX4 HB4 hV5 hz4 hg4
  generalize w4.setCell ⟨w.heap.size + 1, 3, none⟩ (.slice A4 (m.e.bytes.length + 1) c4) = w5 at *
  have hz5 : w.heap.size + 1 < w5.heap.size := HB5.out.lt
  have hcap := own_len_cap HD.out.out
  rw [hll] at hcap
  have hcap2 : (ms0.length : Int) ≤ (cap : Int) := by omega
  have hcap3 : 0 < cap := by omega
  have HS := Lib.hid (show (w5.alloc (.cells #[] 44)).ownsRow w5.heap.size 44 4 (.slice (some ⟨w5.heap.size, 0, none⟩) 0 0) 0 [] from World.ownsRow_lit w5 #[] 0 (Nat.le_refl _) (by decide) rfl)
  have HMS : Hid (∀ W, Ext w W → ∀ j u, (ms0.flatMap Em.enc)[j]? = some u → W.cell? ⟨go, j, none⟩ = some u) := Lib.hid (fun W hW j u hu => by
    have h1 := own_ext5 HD.out.out hW
    rw [hll] at h1
    exact (add_plain go _) ▸ World.ownsRow.cells h1 rfl j u (by rw [List.flatMap_append, List.getElem?_append_left (List.getElem?_eq_some_iff.1 hu).1]; exact hu))
  go_wp2_with
    (first
    | (at_builtin; (refine list_append_at w5.heap.size rfl (.tmp 39) (.tmp 43) 42 rfl 44 i0 _ 4 40 Try.underlying42 hi hz0 hz1 hz2 rfl (by decide) (.slice (some ⟨w5.heap.size, 0, none⟩) 0 0) 0 [] (by rfl) HS.out ⟨go, 0, none⟩ ms0.length cap (ms0.flatMap Em.enc) (by rfl) hfl (fun j u hu => (by have := HMS.out _ (Ext_alloc (o := .cells #[] 44) HX5.out) j u hu; rw [add_plain]; exact this)) (by intro u hu; obtain ⟨a, _, ha⟩ := List.mem_flatMap.1 hu; simp [Em.enc, Em.v] at ha; rcases ha with rfl | rfl | rfl | rfl <;> rfl) (by unfold maxLen; omega) (by omega) (by simp) ?_)
       intro A6 c6 w6 hq hg
       rw [List.nil_append, Nat.zero_add] at hq
       have HQ6 := Lib.hid hq
       have hE6 : Ext w5 w6 := (Ext_alloc (o := .cells #[] 44) (Ext_refl w5)).grown hg (by simp) (fun g hg => (own_base HS.out g hg).1)
       have HE6 := Lib.hid hE6
       have HB6 := Lib.hid (Blk.below' HB5.out hE6)
       have x0 := HB6.out.cell 0
       have x1 := HB6.out.cell 1
       have x2 := HB6.out.cell 2
       have x3 := HB6.out.cell 3
       have xl := HB6.out.lt
       simp [Em.enc, Em.v] at x0 x1 x2 x3
       clear hq hg hE6)
    | (at_builtin; go_must (refine list_append_at w5.heap.size rfl (.tmp 45) (.tmp 47) 42 rfl 44 i0 _ 4 40 Try.underlying42 hi hz0 hz1 hz2 rfl (by decide) (.slice A6 ms0.length c6) ms0.length (ms0.flatMap Em.enc) (by rfl) (own_alloc HQ6.out _) ⟨w6.heap.size, 0, none⟩ 1 1 [.int .i64 m.e.kind, .int .u8 m.e.code, .int .u8 m.e.opt, .slice A4 (m.e.bytes.length + 1) c4] (by rfl) rfl (by exact World.news_of_block (heap_alloc_new w6 _)) (by intro u hu; simp at hu; rcases hu with rfl | rfl | rfl | rfl <;> rfl) (by unfold maxLen; omega) (by omega) (by have := HE6.out.size; simp; omega) ?_)
       intro A7 c7 w7 hq hg
       have HQ7 := Lib.hid hq
       have hE7 : Ext w5 w7 := (Ext_alloc HE6.out).grown hg (Ext_alloc HE6.out).size (fun g hg => (own_base HQ6.out g hg).1)
       have HE7 := Lib.hid hE7
       clear hq hg hE7))
  go_ret
  have e1 : (Em.mk { m.e with bytes := m.e.bytes ++ [c] } A4 c4).enc = [.int .i64 m.e.kind, .int .u8 m.e.code, .int .u8 m.e.opt, .slice A4 (m.e.bytes.length + 1) c4] := by simp [Em.enc, Em.v]
  have e2 : [Em.mk { m.e with bytes := m.e.bytes ++ [c] } A4 c4].flatMap Em.enc = [.int .i64 m.e.kind, .int .u8 m.e.code, .int .u8 m.e.opt, .slice A4 (m.e.bytes.length + 1) c4] := by rw [← e1]; simp
  have hE : Ext w w7 := Ext_trans HE7.out HX5.out
  have hb5 : b ≤ w5.heap.size := by omega
  refine ⟨.slice A7 (ms0.length + 1) c7, ms0 ++ [⟨{ m.e with bytes := m.e.bytes ++ [c] }, A4, c4⟩], rfl, ⟨?_, fun a ha => ?_⟩, by rw [← HT.out, List.map_append]; rfl, Below.mono hE hb⟩
  · unfold DocAt
    rw [List.length_append, List.flatMap_append, e2]
    exact Go.Proofs.YthkioahpnbahhaaW.PrintWords.own_weaken HQ7.out hb5
  · rcases List.mem_append.1 ha with ha | ha
    · exact own_ext5 (HD.out.row a (List.mem_append_left _ ha)) hE
    · rw [List.mem_singleton.1 ha]
      exact Go.Proofs.YthkioahpnbahhaaW.PrintWords.own_weaken (own_ext5 HV5.out HE7.out) (by omega)
theorem add_any {b : Nat} {w : World} {vo : Value} {ms : List Em} (h : DocAll b w vo ms) (hb : b ≤ w.heap.size) (c : Int) (A : Option Addr) (cc : Nat) (hm : w.ownsRow b 5 1 (.slice A 1 cc) 1 (u8s [c])) (hn : ms.length ≤ 100000) (hl : ∀ m ∈ ms, m.e.bytes.length ≤ 1000000) :
    Calls Try.prog 41 #[vo, .agg #[.int .i64 1, .int .u8 0, .int .u8 0, .slice A 1 cc]] w (AddP b w (addD (ms.map Em.e) c)) := by
  rcases addD_cases (ms.map Em.e) c with ⟨e1, e2⟩ | ⟨o, e, e1, e2, e3⟩
  · exact add_new h hb c A cc hm e1 hn (fun ms0 m e3 => e2 (ms0.map Em.e) m.e (by rw [e3, List.map_append]; rfl))
  · rw [e3]
    obtain ⟨m0, m1, rfl, rfl, e4⟩ := List.map_eq_append_iff.1 e1
    obtain ⟨m, rfl, rfl⟩ : ∃ m, m1 = [m] ∧ m.e = e := by
      match m1, e4 with
      | [m], e4 => exact ⟨m, rfl, by simpa using e4⟩
    rw [List.length_append, List.length_singleton] at hn
    exact add_last h hb c A cc hm (by omega) (hl m (List.mem_append_right _ List.mem_cons_self)) e2
end Go.Proofs.Ythkioahpnbahhaa
