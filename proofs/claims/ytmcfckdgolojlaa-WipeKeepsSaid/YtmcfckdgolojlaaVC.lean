/- Chapter 17's example. -/
import Derived.Test.YtmcfckdgolojlaaVA
import Derived.Test.YtmcfckdgolojlaaVB
namespace Go.Proofs.Ytmcfckdgolojlaa
set_option linter.unusedVariables false
set_option linter.unusedSimpArgs false
open Go.RowKit
def lit17 : List Cel := [⟨0, false, true, 0, 0⟩, ⟨193, false, false, 0, 0⟩, ⟨194, false, false, 0, 0⟩, ⟨32, false, true, 0, 0⟩, ⟨195, false, false, 0, 0⟩]
def lpA : Pl := ⟨1, 5, lit17, 0⟩
def lpB : Pl := ⟨1, 5, [⟨1, false, true, 0, 0⟩, ⟨193, false, false, 0, 0⟩, Cel.zero, ⟨32, false, true, 0, 0⟩, ⟨195, false, false, 0, 0⟩], 0⟩
def lpC : Pl := ⟨1, 5, [⟨0, false, true, 0, 0⟩, Cel.zero, Cel.zero, ⟨32, false, true, 0, 0⟩, ⟨195, false, false, 0, 0⟩], 1⟩
def lpD : Pl := ⟨1, 5, [⟨0, false, true, 0, 0⟩, Cel.zero, Cel.zero, ⟨32, false, true, 0, 0⟩, Cel.zero], 1⟩
def lpE : Pl := ⟨1, 5, [Cel.zero, Cel.zero, Cel.zero, Cel.zero, Cel.zero], 0⟩
set_option maxRecDepth 100000 in
set_option maxHeartbeats 4000000 in
theorem alive17_any (w : World) : Calls Try.prog 36 #[] w (Ret (.bool true) w) := by
  have HZ := Lib.hid (show SzOk 1 5 ((5 : Nat) : Int) from ⟨by decide, by decide, by decide, by decide, by decide, by decide, by decide⟩)
  go_enter Try.func36, Try.ntmps36
  go_wp2_with fail
  refine (New_yes 1 5 5 HZ.out _).mono ?_
  rintro e w2 ⟨g, b, rfl, hP, hb2, hg, hbb⟩
  have P0 := Lib.hid hP
  have E2 := Lib.hid hb2
  clear hP hb2
  go_wp2
  have hB : Blk (w2.alloc (.cells #[.int .u8 0, .bool false, .bool true, .int .u8 0, .int .u8 0, .int .u8 193, .bool false, .bool false, .int .u8 0, .int .u8 0, .int .u8 194, .bool false, .bool false, .int .u8 0, .int .u8 0, .int .u8 32, .bool false, .bool true, .int .u8 0, .int .u8 0, .int .u8 195, .bool false, .bool false, .int .u8 0, .int .u8 0] 38)) w2.heap.size 38 (cellRow lit17) := Blk.new w2 38 _
  have hE := Ext_alloc (o := .cells #[.int .u8 0, .bool false, .bool true, .int .u8 0, .int .u8 0, .int .u8 193, .bool false, .bool false, .int .u8 0, .int .u8 0, .int .u8 194, .bool false, .bool false, .int .u8 0, .int .u8 0, .int .u8 32, .bool false, .bool true, .int .u8 0, .int .u8 0, .int .u8 195, .bool false, .bool false, .int .u8 0, .int .u8 0] 38) (Ext_refl w2)
  have hgl : g < w2.heap.size ∧ b < w2.heap.size := ⟨P0.out.glt, P0.out.clt⟩
  generalize w2.alloc (.cells #[.int .u8 0, .bool false, .bool true, .int .u8 0, .int .u8 0, .int .u8 193, .bool false, .bool false, .int .u8 0, .int .u8 0, .int .u8 194, .bool false, .bool false, .int .u8 0, .int .u8 0, .int .u8 32, .bool false, .bool true, .int .u8 0, .int .u8 0, .int .u8 195, .bool false, .bool false, .int .u8 0, .int .u8 0] 38) = W3 at *
  generalize w2.heap.size = lb at *
  have P3 := Lib.hid (P0.out.ext hE)
  have L3 := Lib.hid hB
  have E3 := Lib.hid (Ext_trans hE E2.out)
  have hnl : lb ∉ [g, b] := by simp; omega
  clear hB hE P0 E2
  go_loopw [3, 4, 28] (fun _ _ v wr => ∃ k : Nat, k ≤ 5 ∧ v = .int .i64 k ∧ Hid (PlAt wr g b ⟨1, 5, overC (List.replicate 5 Cel.zero) lit17 k, 0⟩) ∧ Hid (Blk wr lb 38 (cellRow lit17)) ∧ Hid (Ext w wr)) (fun _ _ v _ => 5 - (intOf v).toNat)
  case atStart => exact ⟨0, by omega, rfl, P3.out, L3.out, E3.out⟩
  case round =>
    obtain ⟨k, hk, rfl, HP, HL, HE⟩ := hrel
    by_cases hlt : k < 5
    · have hkl : k < lit17.length := hlt
      have d0 := row_cell HL.out hkl 0 _ rfl
      have d1 := row_cell HL.out hkl 1 _ rfl
      have d2 := row_cell HL.out hkl 2 _ rfl
      have d3 := row_cell HL.out hkl 3 _ rfl
      have d4 := row_cell HL.out hkl 4 _ rfl
      have hxb : 0 ≤ (lit17[k]).b ∧ (lit17[k]).b < 256 := (show ∀ x ∈ lit17, 0 ≤ x.b ∧ x.b < 256 by decide) _ (List.getElem_mem hkl)
      have HG := Lib.hid (show lit17.getD k Cel.zero = lit17[k] by simp [hkl])
      have hol := overC_len (List.replicate 5 Cel.zero) lit17 k
      rw [List.length_replicate] at hol
      generalize lit17[k] = z at *
      simp only [Nat.add_zero] at d0
      go_wp2_with fail
      have hE1 := Ext_alloc (o := .cells #[.int .u8 z.b, .bool z.ge, .bool z.st, .int .u8 z.li, .int .u8 z.co] 38) (Ext_refl wr)
      refine (Set_any g b _ k z hxb _ (HP.out.ext hE1)).mono ?_
      rintro e wt ⟨rfl, hs, hch⟩
      rw [set_over HG.out hol hlt] at hs
      have HS := Lib.hid hs
      have HLt := Lib.hid ((Blk.below' HL.out hE1).chg hch hnl)
      have HEt := Lib.hid (hch.ext (Ext_trans hE1 HE.out) (by simp; omega))
      clear hs hch hE1 d0 d1 d2 d3 d4
      go_wp2
      go_roundw
      case rel => exact ⟨k + 1, by omega, by go_num, HS.out, HLt.out, HEt.out⟩
      case measure => simp [intOf]; omega
    · have : k = 5 := by omega
      subst this
      have h6 : (⟨1, 5, overC (List.replicate 5 Cel.zero) lit17 5, 0⟩ : Pl) = lpA := by decide +kernel
      have H1o := Lib.hid (h6 ▸ HP.out)
      have H2 := Lib.hid (Chg.refl [g, b] wr)
      have hF := field_b
      clear h6 HP HL
      go_wp2_with fail
      refine (Rest_field g b lpA 2 (by decide +kernel) (by decide +kernel) _ H1o.out).mono ?_
      rintro e wt ⟨rfl, hs, hch⟩
      rw [show (lpA.restP 2).mark 2 = lpB from by decide +kernel] at hs
      rw [show ((lpA.restL 2).length : Int) = 1 from by decide +kernel, show decide (0 ≤ (lpA.restP 2).before 2) = true from by decide +kernel]
      have H1 := Lib.hid hs
      have H2n := Lib.hid (H2.out.trans hch)
      clear hs hch H1o H2
      have H1o := H1
      have H2 := H2n
      clear H2n H1
      go_wp2_with fail
      refine (Rest_shut g b lpB 4 (by decide +kernel) _ H1o.out).mono ?_
      rintro e wt ⟨rfl, hs, hch⟩
      rw [show lpB = lpB from by decide +kernel] at hs
      skip
      have H1 := Lib.hid hs
      have H2n := Lib.hid (H2.out.trans hch)
      clear hs hch H1o H2
      have H1o := H1
      have H2 := H2n
      clear H2n H1
      go_wp2_with fail
      refine (At_any g b lpB 0 _ H1o.out).mono ?_
      rintro e wt ⟨rfl, hb⟩
      rw [show (lpB.at 0).b = 1 from by decide +kernel, show (lpB.at 0).ge = false from by decide +kernel, show (lpB.at 0).st = true from by decide +kernel, show (lpB.at 0).li = 0 from by decide +kernel, show (lpB.at 0).co = 0 from by decide +kernel]
      have H1 := Lib.hid (H1o.out.ext hb)
      have H2n := Lib.hid (H2.out.trans (Chg.of_ext hb [g, b]))
      clear hb H1o H2
      have H1o := H1
      have H2 := H2n
      clear H2n H1
      go_wp2_with fail
      refine (Open17_any g b lpB _ H1o.out).mono ?_
      rintro e wt ⟨rfl, hs, hch⟩
      rw [show ((lpB.opk lpB.cells.length).1.tameK (((lpB.opk lpB.cells.length).1.flds lpB.cells.length).map FV.key)).point ((lpB.opk lpB.cells.length).1.tameK (((lpB.opk lpB.cells.length).1.flds lpB.cells.length).map FV.key)).homeM = lpC from by decide +kernel] at hs
      rw [show ((lpB.opk lpB.cells.length).2 : Int) = 2 from by decide +kernel]
      have H1 := Lib.hid hs
      have H2n := Lib.hid (H2.out.trans hch)
      clear hs hch H1o H2
      have H1o := H1
      have H2 := H2n
      clear H2n H1
      go_wp2_with fail
      refine (Inside_any g b lpC 3 1 0 (by decide) (by decide) _ H1o.out).mono ?_
      rintro e wt ⟨rfl, hs, hch⟩
      rw [show lpC.gone (plcN lpC.n 3 (plcM lpC.n 1)) = lpD from by decide +kernel] at hs
      rw [show (plcM lpC.n 1 : Int) = 1 from by decide +kernel]
      have H1 := Lib.hid hs
      have H2n := Lib.hid (H2.out.trans hch)
      clear hs hch H1o H2
      have H1o := H1
      have H2 := H2n
      clear H2n H1
      go_wp2_with fail
      refine (At_any g b lpD 4 _ H1o.out).mono ?_
      rintro e wt ⟨rfl, hb⟩
      rw [show (lpD.at 4).b = 0 from by decide +kernel, show (lpD.at 4).ge = false from by decide +kernel, show (lpD.at 4).st = false from by decide +kernel, show (lpD.at 4).li = 0 from by decide +kernel, show (lpD.at 4).co = 0 from by decide +kernel]
      have H1 := Lib.hid (H1o.out.ext hb)
      have H2n := Lib.hid (H2.out.trans (Chg.of_ext hb [g, b]))
      clear hb H1o H2
      have H1o := H1
      have H2 := H2n
      clear H2n H1
      go_wp2_with fail
      refine (Cursor_any g b lpD _ H1o.out).mono ?_
      rintro e wt ⟨rfl, hb⟩
      rw [show lpD.cur = 1 from by decide +kernel]
      have H1 := Lib.hid (H1o.out.ext hb)
      have H2n := Lib.hid (H2.out.trans (Chg.of_ext hb [g, b]))
      clear hb H1o H2
      have H1o := H1
      have H2 := H2n
      clear H2n H1
      go_wp2_with fail
      refine (All17_any g b lpD _ H1o.out).mono ?_
      rintro e wt ⟨rfl, hs, hch⟩
      rw [show lpD.clr = lpE from by decide +kernel] at hs
      skip
      have H1 := Lib.hid hs
      have H2n := Lib.hid (H2.out.trans hch)
      clear hs hch H1o H2
      have H1o := H1
      have H2 := H2n
      clear H2n H1
      go_wp2_with fail
      refine (Formatted_any g b lpE _ H1o.out).mono ?_
      rintro e wt ⟨rfl, hb⟩
      rw [show decide (0 ≤ lpE.lookM 0 1) = false from by decide +kernel]
      have H1 := Lib.hid (H1o.out.ext hb)
      have H2n := Lib.hid (H2.out.trans (Chg.of_ext hb [g, b]))
      clear hb H1o H2
      have H1o := H1
      have H2 := H2n
      clear H2n H1
      go_wp2_with fail
      refine (Cursor_any g b lpE _ H1o.out).mono ?_
      rintro e wt ⟨rfl, hb⟩
      rw [show lpE.cur = 0 from by decide +kernel]
      have H1 := Lib.hid (H1o.out.ext hb)
      have H2n := Lib.hid (H2.out.trans (Chg.of_ext hb [g, b]))
      clear hb H1o H2
      have H1o := H1
      have H2 := H2n
      clear H2n H1
      go_wp2
      go_ret
      exact ⟨rfl, H2.out.ext HE.out (by simp; omega)⟩
end Go.Proofs.Ytmcfckdgolojlaa
