/- Chapter 19's example. -/
import Derived.Test.YtmcfckdgolojlaaQ2
namespace Go.Proofs.Ytmcfckdgolojlaa
set_option linter.unusedVariables false
set_option linter.unusedSimpArgs false
open Go.RowKit

def litC : List Cel := [⟨0, false, true, 0, 0⟩, ⟨193, false, false, 0, 0⟩, ⟨32, false, true, 0, 0⟩, ⟨0, false, true, 0, 0⟩, ⟨194, false, false, 0, 0⟩, ⟨195, false, false, 0, 0⟩]
def litP (k : Int) : Pl := ⟨2, 3, litC, k⟩
set_option maxRecDepth 100000 in
set_option maxHeartbeats 4000000 in
theorem alive_any (w : World) : Calls Try.prog 13 #[] w (Ret (.bool true) w) := by
  have HZ := Lib.hid (show SzOk 2 3 ((6 : Nat) : Int) from ⟨by decide, by decide, by decide, by decide, by decide, by decide, by decide⟩)
  go_enter Try.func13, Try.ntmps13
  go_wp2_with fail
  refine (New_yes 2 3 6 HZ.out _).mono ?_
  rintro e w2 ⟨g, b, rfl, hP, hb2, hg, hbb⟩
  have P0 := Lib.hid hP
  have E2 := Lib.hid hb2
  clear hP hb2
  go_wp2
  have hB : Blk (w2.alloc (.cells #[.int .u8 0, .bool false, .bool true, .int .u8 0, .int .u8 0, .int .u8 193, .bool false, .bool false, .int .u8 0, .int .u8 0, .int .u8 32, .bool false, .bool true, .int .u8 0, .int .u8 0, .int .u8 0, .bool false, .bool true, .int .u8 0, .int .u8 0, .int .u8 194, .bool false, .bool false, .int .u8 0, .int .u8 0, .int .u8 195, .bool false, .bool false, .int .u8 0, .int .u8 0] 38)) w2.heap.size 38 (cellRow litC) := Blk.new w2 38 _
  have hE := Ext_alloc (o := .cells #[.int .u8 0, .bool false, .bool true, .int .u8 0, .int .u8 0, .int .u8 193, .bool false, .bool false, .int .u8 0, .int .u8 0, .int .u8 32, .bool false, .bool true, .int .u8 0, .int .u8 0, .int .u8 0, .bool false, .bool true, .int .u8 0, .int .u8 0, .int .u8 194, .bool false, .bool false, .int .u8 0, .int .u8 0, .int .u8 195, .bool false, .bool false, .int .u8 0, .int .u8 0] 38) (Ext_refl w2)
  have hgl : g < w2.heap.size ∧ b < w2.heap.size := ⟨P0.out.glt, P0.out.clt⟩
  generalize w2.alloc (.cells #[.int .u8 0, .bool false, .bool true, .int .u8 0, .int .u8 0, .int .u8 193, .bool false, .bool false, .int .u8 0, .int .u8 0, .int .u8 32, .bool false, .bool true, .int .u8 0, .int .u8 0, .int .u8 0, .bool false, .bool true, .int .u8 0, .int .u8 0, .int .u8 194, .bool false, .bool false, .int .u8 0, .int .u8 0, .int .u8 195, .bool false, .bool false, .int .u8 0, .int .u8 0] 38) = W3 at *
  generalize w2.heap.size = lb at *
  have P3 := Lib.hid (P0.out.ext hE)
  have L3 := Lib.hid hB
  have E3 := Lib.hid (Ext_trans hE E2.out)
  have hnl : lb ∉ [g, b] := by simp; omega
  clear hB hE P0 E2
  go_loopw [3, 4, 28] (fun _ _ v wr => ∃ k : Nat, k ≤ 6 ∧ v = .int .i64 k ∧ Hid (PlAt wr g b ⟨2, 3, overC (List.replicate 6 Cel.zero) litC k, 0⟩) ∧ Hid (Blk wr lb 38 (cellRow litC)) ∧ Hid (Ext w wr)) (fun _ _ v _ => 6 - (intOf v).toNat)
  case atStart => exact ⟨0, by omega, rfl, P3.out, L3.out, E3.out⟩
  case round =>
    obtain ⟨k, hk, rfl, HP, HL, HE⟩ := hrel
    by_cases hlt : k < 6
    · have hkl : k < litC.length := hlt
      have d0 := row_cell HL.out hkl 0 _ rfl
      have d1 := row_cell HL.out hkl 1 _ rfl
      have d2 := row_cell HL.out hkl 2 _ rfl
      have d3 := row_cell HL.out hkl 3 _ rfl
      have d4 := row_cell HL.out hkl 4 _ rfl
      have hxb : 0 ≤ (litC[k]).b ∧ (litC[k]).b < 256 := (show ∀ x ∈ litC, 0 ≤ x.b ∧ x.b < 256 by decide) _ (List.getElem_mem hkl)
      have HG := Lib.hid (show litC.getD k Cel.zero = litC[k] by simp [hkl])
      have hol := overC_len (List.replicate 6 Cel.zero) litC k
      rw [List.length_replicate] at hol
      generalize litC[k] = z at *
      simp only [Nat.add_zero] at d0
      go_wp2_with fail
      have hE1 := Ext_alloc (o := .cells #[.int .u8 z.b, .bool z.ge, .bool z.st, .int .u8 z.li, .int .u8 z.co] 38) (Ext_refl wr)
      refine (Set_any g b _ k z hxb _ (HP.out.ext hE1)).mono ?_
      rintro e wt ⟨rfl, hs, hch⟩
      rw [set_over HG.out hol hlt] at hs
      have HS := Lib.hid hs
      have HLt := Lib.hid ((Blk.below' HL.out hE1).chg hch hnl)
      have HEt := Lib.hid (hch.ext (Ext_trans hE1 HE.out) (by simp; omega))
      clear hs hch hE1 d0 d1 d2 d3 d4
      go_wp2
      go_roundw
      case rel => exact ⟨k + 1, by omega, by go_num, HS.out, HLt.out, HEt.out⟩
      case measure => simp [intOf]; omega
    · have : k = 6 := by omega
      subst this
      have h6 : (⟨2, 3, overC (List.replicate 6 Cel.zero) litC 6, 0⟩ : Pl) = litP 0 := by decide +kernel
      have H1o := Lib.hid (h6 ▸ HP.out)
      have H2 := Lib.hid (Chg.refl [g, b] wr)
      clear h6 HP HL
      go_wp2_with fail
      refine (Point_any g b (litP 0) 1 _ H1o.out).mono ?_
      rintro e wt ⟨rfl, hs, hch⟩
      rw [show (litP 0).point 1 = litP 1 from by decide +kernel] at hs
      rw [show (litP 0).has 1 = true from by decide +kernel]
      have H1 := Lib.hid hs
      have H2n := Lib.hid (H2.out.trans hch)
      clear hs hch H1o H2
      have H1o := H1
      have H2 := H2n
      clear H2n H1
      go_wp2_with fail
      refine (Tab_any g b (litP 1) _ H1o.out).mono ?_
      rintro e wt ⟨rfl, hs, hch⟩
      rw [show (litP 1).point ((litP 1).seekM (litP 1).cur 1) = litP 4 from by decide +kernel] at hs
      rw [show (litP 1).seekM (litP 1).cur 1 = 4 from by decide +kernel]
      have H1 := Lib.hid hs
      have H2n := Lib.hid (H2.out.trans hch)
      clear hs hch H1o H2
      have H1o := H1
      have H2 := H2n
      clear H2n H1
      go_wp2_with fail
      refine (Tab_any g b (litP 4) _ H1o.out).mono ?_
      rintro e wt ⟨rfl, hs, hch⟩
      rw [show (litP 4).point ((litP 4).seekM (litP 4).cur 1) = litP 1 from by decide +kernel] at hs
      rw [show (litP 4).seekM (litP 4).cur 1 = 1 from by decide +kernel]
      have H1 := Lib.hid hs
      have H2n := Lib.hid (H2.out.trans hch)
      clear hs hch H1o H2
      have H1o := H1
      have H2 := H2n
      clear H2n H1
      go_wp2_with fail
      refine (Point_any g b (litP 1) 5 _ H1o.out).mono ?_
      rintro e wt ⟨rfl, hs, hch⟩
      rw [show (litP 1).point 5 = litP 5 from by decide +kernel] at hs
      rw [show (litP 1).has 5 = true from by decide +kernel]
      have H1 := Lib.hid hs
      have H2n := Lib.hid (H2.out.trans hch)
      clear hs hch H1o H2
      have H1o := H1
      have H2 := H2n
      clear H2n H1
      go_wp2_with fail
      refine (Back_any g b (litP 5) _ H1o.out).mono ?_
      rintro e wt ⟨rfl, hs, hch⟩
      rw [show (litP 5).point (litP 5).backM = litP 4 from by decide +kernel] at hs
      rw [show (litP 5).backM = 4 from by decide +kernel]
      have H1 := Lib.hid hs
      have H2n := Lib.hid (H2.out.trans hch)
      clear hs hch H1o H2
      have H1o := H1
      have H2 := H2n
      clear H2n H1
      go_wp2_with fail
      refine (Back_any g b (litP 4) _ H1o.out).mono ?_
      rintro e wt ⟨rfl, hs, hch⟩
      rw [show (litP 4).point (litP 4).backM = litP 1 from by decide +kernel] at hs
      rw [show (litP 4).backM = 1 from by decide +kernel]
      have H1 := Lib.hid hs
      have H2n := Lib.hid (H2.out.trans hch)
      clear hs hch H1o H2
      have H1o := H1
      have H2 := H2n
      clear H2n H1
      go_wp2_with fail
      refine (Newline_any g b (litP 1) _ H1o.out).mono ?_
      rintro e wt ⟨rfl, hs, hch⟩
      rw [show (litP 1).point (litP 1).newlineM = litP 4 from by decide +kernel] at hs
      rw [show (litP 1).newlineM = 4 from by decide +kernel]
      have H1 := Lib.hid hs
      have H2n := Lib.hid (H2.out.trans hch)
      clear hs hch H1o H2
      have H1o := H1
      have H2 := H2n
      clear H2n H1
      go_wp2_with fail
      refine (CMove_any g b (litP 4) (-1) 1 _ H1o.out).mono ?_
      rintro e wt ⟨rfl, hs, hch⟩
      rw [show (litP 4).point ((litP 4).moveM (-1) 1) = litP 2 from by decide +kernel] at hs
      rw [show (litP 4).moveM (-1) 1 = 2 from by decide +kernel]
      have H1 := Lib.hid hs
      have H2n := Lib.hid (H2.out.trans hch)
      clear hs hch H1o H2
      have H1o := H1
      have H2 := H2n
      clear H2n H1
      go_wp2_with fail
      refine (CHome_any g b (litP 2) _ H1o.out).mono ?_
      rintro e wt ⟨rfl, hs, hch⟩
      rw [show (litP 2).point (litP 2).homeM = litP 1 from by decide +kernel] at hs
      rw [show (litP 2).homeM = 1 from by decide +kernel]
      have H1 := Lib.hid hs
      have H2n := Lib.hid (H2.out.trans hch)
      clear hs hch H1o H2
      have H1o := H1
      have H2 := H2n
      clear H2n H1
      go_wp2_with fail
      refine (On_any g b (litP 1) _ H1o.out).mono ?_
      rintro e wt ⟨rfl, hs, hch⟩
      rw [show (litP 1).point (litP 1).onM = litP 3 from by decide +kernel] at hs
      rw [show (litP 1).onM = 3 from by decide +kernel]
      have H1 := Lib.hid hs
      have H2n := Lib.hid (H2.out.trans hch)
      clear hs hch H1o H2
      have H1o := H1
      have H2 := H2n
      clear H2n H1
      go_wp2_with fail
      refine (Cursor_any g b (litP 3) _ H1o.out).mono ?_
      rintro e wn ⟨rfl, hb⟩
      rw [show (litP 3).cur = 3 from rfl]
      have HX := Lib.hid hb
      clear hb
      go_wp2
      go_ret
      exact ⟨rfl, Ext_trans HX.out (H2.out.ext HE.out (by simp; omega))⟩
end Go.Proofs.Ytmcfckdgolojlaa
