/- Chapter 20's statements: made (the same text as chapter 19's). -/
import Derived.Test.YtmldhgebbgalbaaQ2
namespace Go.Proofs.Ytmldhgebbgalbaa
set_option linter.unusedVariables false
set_option linter.unusedSimpArgs false
open Go.RowKit
set_option maxRecDepth 100000 in
set_option maxHeartbeats 4000000 in
theorem made_bad (r c at_ : Int) (A : Option Addr) (n d : Nat) (h : cellsM r c = 0) (w : World) : Calls Try.prog 8 #[.agg #[.int .i64 r, .int .i64 c], .slice A n d, .int .i64 at_] w (MadeP w) := by
  have H := Lib.hid h
  clear h
  have HX := Lib.hid (Ext_refl w)
  go_enter Try.func8, Try.ntmps8
  go_wp2_with fail
  refine (RNew_no _ _ H.out _).mono ?_
  rintro e wn ⟨rfl, hb⟩
  have hz0 : w.heap.size < wn.heap.size := (by have := hb.size; (try simp only [World.size_alloc, World.size_setCell, World.size_drew, size_drewN] at this); omega); have hz1 : w.heap.size + 1 < wn.heap.size := (by have := hb.size; (try simp only [World.size_alloc, World.size_setCell, World.size_drew, size_drewN] at this); omega); have hc0_0 : wn.cell? ⟨w.heap.size, 0, none⟩ = some (.int .i64 r) := (cell_ext hb (by unfold In; first | omega | (simp; done) | (simp; omega))).trans (by go_simp); have hf0_0 : wn.frozen? ⟨w.heap.size, 0, none⟩ = false := (frozen_ext hb (by unfold In; first | omega | (simp; done) | (simp; omega))).trans (by go_simp); have hc0_1 : wn.cell? ⟨w.heap.size, 1, none⟩ = some (.int .i64 c) := (cell_ext hb (by unfold In; first | omega | (simp; done) | (simp; omega))).trans (by go_simp); have hf0_1 : wn.frozen? ⟨w.heap.size, 1, none⟩ = false := (frozen_ext hb (by unfold In; first | omega | (simp; done) | (simp; omega))).trans (by go_simp); have hc1_0 : wn.cell? ⟨w.heap.size + 1, 0, none⟩ = some (.int .i64 0) := (cell_ext hb (by unfold In; first | omega | (simp; done) | (simp; omega))).trans (by go_simp); have hf1_0 : wn.frozen? ⟨w.heap.size + 1, 0, none⟩ = false := (frozen_ext hb (by unfold In; first | omega | (simp; done) | (simp; omega))).trans (by go_simp); have hc1_1 : wn.cell? ⟨w.heap.size + 1, 1, none⟩ = some (.int .i64 0) := (cell_ext hb (by unfold In; first | omega | (simp; done) | (simp; omega))).trans (by go_simp); have hf1_1 : wn.frozen? ⟨w.heap.size + 1, 1, none⟩ = false := (frozen_ext hb (by unfold In; first | omega | (simp; done) | (simp; omega))).trans (by go_simp); have hc1_2 : wn.cell? ⟨w.heap.size + 1, 2, none⟩ = some (.slice none 0 0) := (cell_ext hb (by unfold In; first | omega | (simp; done) | (simp; omega))).trans (by go_simp); have hf1_2 : wn.frozen? ⟨w.heap.size + 1, 2, none⟩ = false := (frozen_ext hb (by unfold In; first | omega | (simp; done) | (simp; omega))).trans (by go_simp); have hc1_3 : wn.cell? ⟨w.heap.size + 1, 3, none⟩ = some (.int .i64 0) := (cell_ext hb (by unfold In; first | omega | (simp; done) | (simp; omega))).trans (by go_simp); have hf1_3 : wn.frozen? ⟨w.heap.size + 1, 3, none⟩ = false := (frozen_ext hb (by unfold In; first | omega | (simp; done) | (simp; omega))).trans (by go_simp); have HXn := Lib.hid (Ext_trans hb (by repeat' (first | (with_reducible first | exact HX.out | apply Ext_alloc | apply Ext_drewN | apply Ext_drew | (refine Ext_set ?_ ?_) | exact Ext_refl _) | (simp only [World.size_alloc, World.size_setCell, World.size_drew, size_drewN]; omega) | (simp; done) | (simp; omega)))); clear hb HX; have HX := HXn; clear HXn
  go_wp2
  go_region
  all_goals go_wp2
  refine bodyPost_ret (v := .tuple #[.pointer none, .agg #[.int .i64 0, .int .i64 0, .slice none 0 0, .int .i64 0], .bool false]) (by simp [results, Try.results8, go_sem, hc1_0, hc1_1, hc1_2, hc1_3, hz0, hz1]) rfl ?_
  exact .inl ⟨0, 0, _, 0, rfl, ⟨_, _, _, rfl⟩, (by repeat' (first | (with_reducible first | exact HX.out | apply Ext_alloc | apply Ext_drewN | apply Ext_drew | (refine Ext_set ?_ ?_) | exact Ext_refl _) | (simp only [World.size_alloc, World.size_setCell, World.size_drew, size_drewN]; omega) | (simp; done) | (simp; omega)))⟩
set_option maxRecDepth 100000 in
set_option maxHeartbeats 4000000 in
theorem made_big (r c at_ : Int) (m : Nat) (A : Option Addr) (n d : Nat) (h : SzOk r c m) (hm : 60 < m) (w : World) : Calls Try.prog 8 #[.agg #[.int .i64 r, .int .i64 c], .slice A n d, .int .i64 at_] w (MadeP w) := by
  have H := Lib.hid h
  have n1 := h.n1
  clear h
  have HX := Lib.hid (Ext_refl w)
  go_enter Try.func8, Try.ntmps8
  go_wp2_with fail
  refine (RNew_yes _ _ _ H.out _).mono ?_
  rintro e wn ⟨b, rfl, hrow, hb, hbs⟩
  have hz0 : w.heap.size < wn.heap.size := (by have := hb.size; (try simp only [World.size_alloc, World.size_setCell, World.size_drew, size_drewN] at this); omega); have hz1 : w.heap.size + 1 < wn.heap.size := (by have := hb.size; (try simp only [World.size_alloc, World.size_setCell, World.size_drew, size_drewN] at this); omega); have hc0_0 : wn.cell? ⟨w.heap.size, 0, none⟩ = some (.int .i64 r) := (cell_ext hb (by unfold In; first | omega | (simp; done) | (simp; omega))).trans (by go_simp); have hf0_0 : wn.frozen? ⟨w.heap.size, 0, none⟩ = false := (frozen_ext hb (by unfold In; first | omega | (simp; done) | (simp; omega))).trans (by go_simp); have hc0_1 : wn.cell? ⟨w.heap.size, 1, none⟩ = some (.int .i64 c) := (cell_ext hb (by unfold In; first | omega | (simp; done) | (simp; omega))).trans (by go_simp); have hf0_1 : wn.frozen? ⟨w.heap.size, 1, none⟩ = false := (frozen_ext hb (by unfold In; first | omega | (simp; done) | (simp; omega))).trans (by go_simp); have hc1_0 : wn.cell? ⟨w.heap.size + 1, 0, none⟩ = some (.int .i64 0) := (cell_ext hb (by unfold In; first | omega | (simp; done) | (simp; omega))).trans (by go_simp); have hf1_0 : wn.frozen? ⟨w.heap.size + 1, 0, none⟩ = false := (frozen_ext hb (by unfold In; first | omega | (simp; done) | (simp; omega))).trans (by go_simp); have hc1_1 : wn.cell? ⟨w.heap.size + 1, 1, none⟩ = some (.int .i64 0) := (cell_ext hb (by unfold In; first | omega | (simp; done) | (simp; omega))).trans (by go_simp); have hf1_1 : wn.frozen? ⟨w.heap.size + 1, 1, none⟩ = false := (frozen_ext hb (by unfold In; first | omega | (simp; done) | (simp; omega))).trans (by go_simp); have hc1_2 : wn.cell? ⟨w.heap.size + 1, 2, none⟩ = some (.slice none 0 0) := (cell_ext hb (by unfold In; first | omega | (simp; done) | (simp; omega))).trans (by go_simp); have hf1_2 : wn.frozen? ⟨w.heap.size + 1, 2, none⟩ = false := (frozen_ext hb (by unfold In; first | omega | (simp; done) | (simp; omega))).trans (by go_simp); have hc1_3 : wn.cell? ⟨w.heap.size + 1, 3, none⟩ = some (.int .i64 0) := (cell_ext hb (by unfold In; first | omega | (simp; done) | (simp; omega))).trans (by go_simp); have hf1_3 : wn.frozen? ⟨w.heap.size + 1, 3, none⟩ = false := (frozen_ext hb (by unfold In; first | omega | (simp; done) | (simp; omega))).trans (by go_simp); have HXn := Lib.hid (Ext_trans hb (by repeat' (first | (with_reducible first | exact HX.out | apply Ext_alloc | apply Ext_drewN | apply Ext_drew | (refine Ext_set ?_ ?_) | exact Ext_refl _) | (simp only [World.size_alloc, World.size_setCell, World.size_drew, size_drewN]; omega) | (simp; done) | (simp; omega)))); clear hb HX; have HX := HXn; clear HXn
  clear hrow hbs
  go_wp2
  go_region
  all_goals go_wp2
  refine bodyPost_ret (v := .tuple #[.pointer none, .agg #[.int .i64 r, .int .i64 c, .slice (some ⟨b, 0, none⟩) m m, .int .i64 0], .bool false]) (by simp [results, Try.results8, go_sem, hc1_0, hc1_1, hc1_2, hc1_3, hz0, hz1]) rfl ?_
  exact .inl ⟨_, _, _, _, rfl, ⟨_, _, _, rfl⟩, (by repeat' (first | (with_reducible first | exact HX.out | apply Ext_alloc | apply Ext_drewN | apply Ext_drew | (refine Ext_set ?_ ?_) | exact Ext_refl _) | (simp only [World.size_alloc, World.size_setCell, World.size_drew, size_drewN]; omega) | (simp; done) | (simp; omega)))⟩
set_option maxRecDepth 100000 in
set_option maxHeartbeats 4000000 in
theorem made_ok (r c at_ : Int) (m : Nat) (A : Option Addr) (d : Nat) (cs : List Cel) (hcs : ∀ x ∈ cs, 0 ≤ x.b ∧ x.b < 256) (hcl : cs.length ≤ maxLen) (h : SzOk r c m) (hm : m ≤ 60) (w : World) (hr : Rd w 5 A cs.length (cs.flatMap Cel.enc)) :
    Calls Try.prog 8 #[.agg #[.int .i64 r, .int .i64 c], .slice A cs.length d, .int .i64 at_] w (MadeP w) := by
  have H := Lib.hid h
  have n0 := h.n0
  unfold maxLen at hcl
  have HCS := Lib.hid hcs
  have HR := Lib.hid (fun w' (h : Ext w w') => Rd_ext h hr)
  clear h hcs hr
  have HX := Lib.hid (Ext_refl w)
  go_enter Try.func8, Try.ntmps8
  go_wp2_with fail
  refine (RNew_yes _ _ _ H.out _).mono ?_
  rintro e wn ⟨x, rfl, hrow, hb, hbs⟩
  have hz0 : w.heap.size < wn.heap.size := (by have := hb.size; (try simp only [World.size_alloc, World.size_setCell, World.size_drew, size_drewN] at this); omega); have hc0_0 : wn.cell? ⟨w.heap.size, 0, none⟩ = some (.int .i64 r) := (cell_ext hb (by unfold In; first | omega | (simp; done) | (simp; omega))).trans (by go_simp); have hf0_0 : wn.frozen? ⟨w.heap.size, 0, none⟩ = false := (frozen_ext hb (by unfold In; first | omega | (simp; done) | (simp; omega))).trans (by go_simp); have hc0_1 : wn.cell? ⟨w.heap.size, 1, none⟩ = some (.int .i64 c) := (cell_ext hb (by unfold In; first | omega | (simp; done) | (simp; omega))).trans (by go_simp); have hf0_1 : wn.frozen? ⟨w.heap.size, 1, none⟩ = false := (frozen_ext hb (by unfold In; first | omega | (simp; done) | (simp; omega))).trans (by go_simp); have b7 := Blk.below' (Blk.new (w.alloc (.cells #[.int .i64 r, .int .i64 c] 23)) 29 #[.int .i64 0, .int .i64 0, .slice none 0 0, .int .i64 0]) hb
  rw [World.size_alloc] at b7
  have HXn := Lib.hid (Ext_trans hb (by repeat' (first | (with_reducible first | exact HX.out | apply Ext_alloc | apply Ext_drewN | apply Ext_drew | (refine Ext_set ?_ ?_) | exact Ext_refl _) | (simp only [World.size_alloc, World.size_setCell, World.size_drew, size_drewN]; omega) | (simp; done) | (simp; omega)))); clear hb HX; have HX := HXn; clear HXn
  have b9 := Blk.new wn 29 #[.int .i64 r, .int .i64 c, .slice (some ⟨x, 0, none⟩) m m, .int .i64 0]
  have HXB := Lib.hid (Ext_alloc (o := .cells #[.int .i64 r, .int .i64 c, .slice (some ⟨x, 0, none⟩) m m, .int .i64 0] 29) HX.out)
  have hE9 := Ext_alloc (o := .cells #[.int .i64 r, .int .i64 c, .slice (some ⟨x, 0, none⟩) m m, .int .i64 0] 29) (Ext_refl wn)
  have b7' := Blk.below' b7 hE9
  have hrow' := Blk.below' hrow hE9
  have hbs' : w.heap.size + 2 ≤ x := by simp at hbs; omega
  have hx9 : x < wn.heap.size := hrow.lt
  have hz9 : w.heap.size + 1 < wn.heap.size := b7.lt
  clear hrow b7 hE9 hbs HX
  go_wp2_with fail
  generalize wn.alloc (.cells #[.int .i64 r, .int .i64 c, .slice (some ⟨x, 0, none⟩) m m, .int .i64 0] 29) = W1 at *
  generalize wn.heap.size = b9_ at *
  refine (New_yes _ _ _ H.out _).mono ?_
  rintro e w2 ⟨g, b, rfl, hP, hb2, hg, hbb⟩
  have P0 := Lib.hid hP
  have B7 := Lib.hid (Blk.below' b7' hb2)
  have B9 := Lib.hid (Blk.below' b9 hb2)
  have BR := Lib.hid (Blk.below' hrow' hb2)
  have E2 := Lib.hid (Ext_trans hb2 HXB.out)
  have h9 : b9_ < W1.heap.size := b9.lt
  have hwg : w.heap.size ≤ g ∧ w.heap.size ≤ b := by omega
  have hlt9 : b9_ < g ∧ b9_ < b := by omega
  have hn9 : b9_ ∉ [g, b] := by simp; omega
  have hn7 : (w.heap.size + 1) ∉ [g, b] := by simp; omega
  have hnx : x ∉ [g, b] := by simp; omega
  have hx7 : x ≠ w.heap.size + 1 ∧ x ≠ b9_ ∧ b9_ ≠ w.heap.size + 1 := by omega
  clear hP hb2 b7' b9 hrow' HXB hg hbb
  go_wp2_with fail
  go_loopw [13, 14, 36] (fun _ _ v wr => ∃ k : Nat, k ≤ cs.length ∧ v = .int .i64 k ∧ Hid (PlAt wr g b ⟨r, c, overC (List.replicate m Cel.zero) cs k, 0⟩) ∧ Hid (Blk wr x 46 (cellRow (overC (List.replicate m Cel.zero) cs k))) ∧
    Hid (Blk wr b9_ 29 #[.int .i64 r, .int .i64 c, .slice (some ⟨x, 0, none⟩) m m, .int .i64 0]) ∧ Hid (Blk wr (w.heap.size + 1) 29 #[.int .i64 0, .int .i64 0, .slice none 0 0, .int .i64 0]) ∧ Hid (Ext w wr)) (fun _ _ v _ => cs.length - (intOf v).toNat)
  case atStart => exact ⟨0, Nat.zero_le _, rfl, P0.out, BR.out, B9.out, B7.out, E2.out⟩
  case round =>
    obtain ⟨k, hk, rfl, HP, HR1, H9, H7, HE⟩ := hrel
    have hol := overC_len (List.replicate m Cel.zero) cs k
    rw [List.length_replicate] at hol
    have q2 : ∀ o, (wr.alloc o).cell? ⟨b9_, 2, none⟩ = some (.slice (some ⟨x, 0, none⟩) m m) := fun o => (cell_In H9.out.lt).trans ((H9.out.cell 2).trans rfl)
    by_cases hlt : k < cs.length
    · obtain ⟨ga, oa, rfl, hc⟩ := (HR.out _ HE.out).elem Cel.enc Cel.len hlt (List.getElem?_eq_getElem hlt)
      have hxb := HCS.out cs[k] (List.getElem_mem hlt)
      have HG := Lib.hid (show cs.getD k Cel.zero = cs[k] by simp [hlt])
      generalize cs[k] = z at hc hxb HG
      have d0 := hc 0 _ rfl
      have d1 := hc 1 _ rfl
      have d2 := hc 2 _ rfl
      have d3 := hc 3 _ rfl
      have d4 := hc 4 _ rfl
      simp only [Nat.add_zero] at d0
      clear hc
      by_cases hkm : k < m
      · go_wp2_with fail
        have hE1 := Ext_alloc (o := .cells #[.int .u8 z.b, .bool z.ge, .bool z.st, .int .u8 z.li, .int .u8 z.co] 46) (Ext_refl wr)
        have hB1 := Blk.new wr 46 #[.int .u8 z.b, .bool z.ge, .bool z.st, .int .u8 z.li, .int .u8 z.co]
        have hgz : wr.heap.size ∉ [g, b] := by have := HP.out.glt; have := HP.out.clt; simp; omega
        generalize wr.alloc (.cells #[.int .u8 z.b, .bool z.ge, .bool z.st, .int .u8 z.li, .int .u8 z.co] 46) = W2 at *
        generalize wr.heap.size = bz at *
        refine (Set_any g b _ k z hxb _ (HP.out.ext hE1)).mono ?_
        rintro e wt ⟨rfl, hs, hch⟩
        rw [set_over HG.out hol hkm] at hs
        have HS := Lib.hid hs
        have BZ := Lib.hid (hB1.chg hch hgz)
        have BRt := Lib.hid ((Blk.below' HR1.out hE1).chg hch hnx)
        have B9t := Lib.hid ((Blk.below' H9.out hE1).chg hch hn9)
        have B7t := Lib.hid ((Blk.below' H7.out hE1).chg hch hn7)
        have HEt := Lib.hid (hch.ext (Ext_trans hE1 HE.out) (by simp; omega))
        have z0 := BZ.out.cell 0
        have z1 := BZ.out.cell 1
        have z2 := BZ.out.cell 2
        have z3 := BZ.out.cell 3
        have z4 := BZ.out.cell 4
        have y2 := B9t.out.cell 2
        simp at z0 z1 z2 z3 z4 y2
        have hkl : k < (overC (List.replicate m Cel.zero) cs k).length := by omega
        have r0 := row_cell BRt.out hkl 0 _ rfl
        have r1 := row_cell BRt.out hkl 1 _ rfl
        have r2 := row_cell BRt.out hkl 2 _ rfl
        have r3 := row_cell BRt.out hkl 3 _ rfl
        have r4 := row_cell BRt.out hkl 4 _ rfl
        simp only [Nat.add_zero] at r0
        have f0 := BRt.out.free (k * 5)
        have f1 := BRt.out.free (k * 5 + 1)
        have f2 := BRt.out.free (k * 5 + 2)
        have f3 := BRt.out.free (k * 5 + 3)
        have f4 := BRt.out.free (k * 5 + 4)
        clear hs hch hE1 hB1 q2 d0 d1 d2 d3 d4
        go_wp2
        have hC : Chg [x] wt (((((wt.setCell ⟨x, k * 5, none⟩ (.int .u8 z.b)).setCell ⟨x, k * 5 + 1, none⟩ (.bool z.ge)).setCell ⟨x, k * 5 + 2, none⟩ (.bool z.st)).setCell ⟨x, k * 5 + 3, none⟩ (.int .u8 z.li)).setCell ⟨x, k * 5 + 4, none⟩ (.int .u8 z.co)) :=
          (((((Chg.refl [x] wt).set _ _ _ (.inl (by simp))).set _ _ _ (.inl (by simp))).set _ _ _ (.inl (by simp))).set _ _ _ (.inl (by simp))).set _ _ _ (.inl (by simp))
        have hN := ((((BRt.out.store (k * 5) (.int .u8 z.b)).store (k * 5 + 1) (.bool z.ge)).store (k * 5 + 2) (.bool z.st)).store (k * 5 + 3) (.int .u8 z.li)).store (k * 5 + 4) (.int .u8 z.co)
        unfold cellRow at hN
        rw [flat_set0 _ _ hkl z] at hN
        have hnx2 : g ∉ [x] ∧ b ∉ [x] := by simp at hnx ⊢; omega
        go_roundw
        case rel => exact ⟨k + 1, by omega, by go_num, HS.out.chg hC hnx2.1 hnx2.2, by rw [overC, HG.out]; exact hN, B9t.out.chg hC (by simp; omega), B7t.out.chg hC (by simp; omega), hC.ext HEt.out (by simp; omega)⟩
        case measure => simp [intOf]; omega
      · have ho : overC (List.replicate m Cel.zero) cs (k + 1) = overC (List.replicate m Cel.zero) cs k := by rw [overC, List.set_eq_of_length_le (by omega)]
        have HO := Lib.hid ho
        clear ho
        go_wp2
        have hE1 := Ext_alloc (o := .cells #[.int .u8 z.b, .bool z.ge, .bool z.st, .int .u8 z.li, .int .u8 z.co] 46) (Ext_refl wr)
        go_roundw
        case rel => exact ⟨k + 1, by omega, by go_num, by rw [HO.out]; exact HP.out.ext hE1, by rw [HO.out]; exact Blk.below' HR1.out hE1, Blk.below' H9.out hE1, Blk.below' H7.out hE1, Ext_trans hE1 HE.out⟩
        case measure => simp [intOf]; omega
    · have : k = cs.length := by omega
      subst this
      have q2e := H9.out.cell 2
      have q3e := H9.out.cell 3
      have f3e := H9.out.free 3
      simp at q2e q3e
      clear q2
      have hb := and255 at_
      have hq0 := tmod_bd (bits .and .i64 at_ 255) m n0
      have hq1 : 0 ≤ Int.tmod (bits .and .i64 at_ 255) m := by rw [hb]; exact Int.tmod_nonneg _ (Int.emod_nonneg _ (by omega))
      have hq2 : Int.tmod (bits .and .i64 at_ 255) m < m := hq0.2
      have HQ := Lib.hid (show Int.tmod (bits .and .i64 at_ 255) m = Int.tmod (bits .and .i64 at_ 255) m from rfl)
      clear hb hq0
      go_wp2_with fail
      generalize Int.tmod (bits .and .i64 at_ 255) m = q at *
      have hC : Chg [b9_] wr (wr.setCell ⟨b9_, 3, none⟩ (.int .i64 q)) := (Chg.refl [b9_] wr).set _ _ _ (.inl (by simp))
      have hn9' : g ∉ [b9_] ∧ b ∉ [b9_] := by simp; omega
      refine (Point_any g b _ q _ (HP.out.chg hC hn9'.1 hn9'.2)).mono ?_
      rintro e wt ⟨rfl, hs, hch⟩
      have hs' : PlAt wt g b ⟨r, c, overC (List.replicate m Cel.zero) cs cs.length, q⟩ := by
        unfold Pl.point at hs
        rw [if_pos (show Pl.has ⟨r, c, overC (List.replicate m Cel.zero) cs cs.length, 0⟩ q = true from decide_eq_true (by show 0 ≤ q ∧ q < (((overC (List.replicate m Cel.zero) cs cs.length).length : Nat) : Int); rw [hol]; exact ⟨hq1, hq2⟩))] at hs
        exact hs
      have HS := Lib.hid hs'
      have B9t := Lib.hid ((H9.out.store 3 (.int .i64 q)).chg hch hn9)
      have B7t := Lib.hid ((H7.out.chg hC (by simp; omega)).chg hch hn7)
      have BRt := Lib.hid ((HR1.out.chg hC (by simp; omega)).chg hch hnx)
      have HEt := Lib.hid (hch.ext (hC.ext HE.out (by simp; omega)) (by simp; omega))
      have a0 := B9t.out.cell 0
      have a1 := B9t.out.cell 1
      have a2 := B9t.out.cell 2
      have a3 := B9t.out.cell 3
      have e0 := B7t.out.cell 0
      have e1 := B7t.out.cell 1
      have e2 := B7t.out.cell 2
      have e3 := B7t.out.cell 3
      have g0 := B7t.out.free 0
      have g1 := B7t.out.free 1
      have g2 := B7t.out.free 2
      have g3 := B7t.out.free 3
      simp at a0 a1 a2 a3 e0 e1 e2 e3
      clear hs hs' hch hC q2e q3e f3e
      go_wp2
      go_region
      all_goals go_wp2
      refine bodyPost_ret (v := .tuple #[.pointer (some ⟨g, 0, none⟩), .agg #[.int .i64 r, .int .i64 c, .slice (some ⟨x, 0, none⟩) m m, .int .i64 q], .bool true]) (by simp [results, Try.results8, go_sem, e0, e1, e2, e3]) rfl ?_
      have hC : Chg [w.heap.size + 1] wt ((((wt.setCell ⟨w.heap.size + 1, 0, none⟩ (.int .i64 r)).setCell ⟨w.heap.size + 1, 1, none⟩ (.int .i64 c)).setCell ⟨w.heap.size + 1, 2, none⟩ (.slice (some ⟨x, 0, none⟩) m m)).setCell ⟨w.heap.size + 1, 3, none⟩ (.int .i64 q)).drew :=
        (((((Chg.refl [w.heap.size + 1] wt).set _ _ _ (.inl (by simp))).set _ _ _ (.inl (by simp))).set _ _ _ (.inl (by simp))).set _ _ _ (.inl (by simp))).drew
      refine .inr ⟨g, b, x, ⟨r, c, overC (List.replicate m Cel.zero) cs cs.length, q⟩, ?_, HS.out.chg hC (by simp; omega) (by simp; omega), BRt.out.chg hC (by simp; omega), hC.ext HEt.out (by simp), hwg.1, hwg.2, by omega, ?_, ?_, by rw [hol]; exact hm⟩
      · simp only [hol]
      · intro e; apply hnx; simp [e]
      · intro e; apply hnx; simp [e]
end Go.Proofs.Ytmldhgebbgalbaa
