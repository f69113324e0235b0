import Derived.Test.YtmcfckdgolojlaaZG5
/- Chapter 16: tab. -/
namespace Go.Proofs.Ytmcfckdgolojlaa
set_option linter.unusedVariables false
set_option linter.unusedSimpArgs false
open Go.RowKit
theorem Protected_eq {b : Int} {o : Bool} (h : bitB b 32 = o) (w : World) : Calls Try.prog 60 #[.int .u8 b] w (Ret (.bool o) w) := by
  rw [← h]; exact Protected_any b w
def Br.rested (b : Br) : Br := if b.laid then { b with p := b.p.restK b.at_ (b.p.n - b.at_).toNat } else b
def Br.tab (b : Br) : Br := { b.rested with at_ := b.rested.p.tabK b.rested.at_ (b.rested.p.n - b.rested.at_).toNat }
set_option maxRecDepth 100000 in
set_option maxHeartbeats 4000000 in
theorem tab_any (u g c : Nat) (b : Br) (A B : Option Addr) (cA cB : Nat) (o : Ord) (w : World) (h : BrAt w u g c b) (ho : OrAt [u, g, c] w A B o) : Calls Try.prog 99 #[.pointer (some ⟨u, 0, none⟩), .agg #[.int .u8 o.k, .int .i64 o.a, .int .u8 o.b, .bool o.ge, .slice A o.ps.length cA, .slice B o.da.length cB]] w (Ret1 (.int .i64 0) (BrTo u g c b.tab w)) := by
  have HB := Lib.hid h
  have HO := Lib.hid ho
  clear h ho
  go_enter Try.func99, Try.ntmps99
  go_upto_region 1 with (fail)
  have hE := Ext_alloc (o := .cells #[.int .u8 o.k, .int .i64 o.a, .int .u8 o.b, .bool o.ge, .slice A o.ps.length cA, .slice B o.da.length cB] 71) (Ext_refl w)
  have hB := Blk.new w 71 #[.int .u8 o.k, .int .i64 o.a, .int .u8 o.b, .bool o.ge, .slice A o.ps.length cA, .slice B o.da.length cB]
  generalize w.alloc (.cells #[.int .u8 o.k, .int .i64 o.a, .int .u8 o.b, .bool o.ge, .slice A o.ps.length cA, .slice B o.da.length cB] 71) = W1 at *
  have H1 := Lib.hid (HB.out.ext hE)
  have HO1 := Lib.hid (HO.out.ext hE)
  have HE := Lib.hid hE
  clear HB HO hE
  generalize w.heap.size = bx at *
  have z0 := hB.cell 0
  have z1 := hB.cell 1
  have z2 := hB.cell 2
  have z3 := hB.cell 3
  have z4 := hB.cell 4
  have z5 := hB.cell 5
  have k0 := H1.out.obj.cell 0
  have k1 := H1.out.obj.cell 1
  have k2 := H1.out.obj.cell 2
  have k3 := H1.out.obj.cell 3
  have k4 := H1.out.obj.cell 4
  have k5 := H1.out.obj.cell 5
  have k6 := H1.out.obj.cell 6
  have k7 := H1.out.obj.cell 7
  simp [Br.row] at z0 z1 z2 z3 z4 z5 k0 k1 k2 k3 k4 k5 k6 k7
  clear z0 z1 z2 z3 z4 z5 k2 k3 k4 k5 k6 hB
  have HC1 := Lib.hid (Chg.of_ext HE.out [u, g, c])
  clear HE HO1
  cases hl : b.laid
  · have hb1 : b.rested = b := by unfold Br.rested; rw [hl]; simp
    obtain ⟨b1, hb2⟩ : ∃ b1, b.rested = b1 := ⟨_, rfl⟩
    have H : Hid (BrAt W1 u g c b1) := by rw [← hb2, hb1]; exact H1
    have HC := HC1
    rw [hl] at k7
    clear H1 HC1 k0 k1 hb1
    have hb1 := hb2
    clear hb2
    have k0 := H.out.obj.cell 0
    have k1 := H.out.obj.cell 1
    have a0 := H.out.a0
    have a1 := H.out.a1
    have hn := H.out.pl.ok.sz.n1
    have hsz := H.out.pl.ok.sz
    have hu := H.out.obj.lt
    simp [Br.row] at k0 k1
    obtain ⟨F, hF⟩ : ∃ F, b1.p.tabK b1.at_ (b1.p.n - b1.at_).toNat = F := ⟨_, rfl⟩
    have HF := Lib.hid hF
    have HBT := Lib.hid (show b.tab = { b1 with at_ := F } by rw [← hF, ← hb1]; rfl)
    clear hF
    go_wp2_with fail
    go_loopw [6, 5] (fun _ v wr => ∃ a : Int, v = .int .i64 a ∧ 0 ≤ a ∧ a ≤ b1.p.n ∧ Hid (b1.p.tabK a (b1.p.n - a).toNat = F) ∧ Hid (BrAt wr u g c b1) ∧ Hid (Chg [u, g, c] w wr)) (fun _ v _ => (b1.p.n - intOf v).toNat)
    case atStart => exact ⟨b1.at_, rfl, a0, by omega, HF.out, H.out, HC.out⟩
    case round =>
      clear H HC HF k0 k1 hu
      obtain ⟨a, rfl, ha0, ha1, HF, H, HC⟩ := hrel
      have k0 := H.out.obj.cell 0
      have k1 := H.out.obj.cell 1
      have f1 := H.out.obj.free 1
      simp [Br.row] at k0 k1
      go_wp2_with fail
      refine (LenQ_any g c b1.p _ H.out.pl).mono ?_
      rintro e w2 ⟨rfl, rfl⟩
      by_cases hlt : a < b1.p.n
      · obtain ⟨y, hy⟩ : ∃ y, b1.p.at a = y := ⟨_, rfl⟩
        have hr := HF.out
        rw [show (b1.p.n - a).toNat = (b1.p.n - (a + 1)).toNat + 1 by omega] at hr
        unfold Pl.tabK Pl.st at hr
        rw [if_pos hlt, hy] at hr
        have HY := Lib.hid hy
        clear hy
        go_wp2_with fail
        refine (At_eqB HY.out _ H.out.pl).mono ?_
        rintro e w3 ⟨rfl, hb⟩
        have hE3 : Ext w3 (w3.alloc (.cells #[.int .u8 y.b, .bool y.ge, .bool y.st, .int .u8 y.li, .int .u8 y.co] 38)) := Ext_alloc (Ext_refl _)
        have H3 := Lib.hid (H.out.ext (Ext_trans hE3 hb))
        have HC3 := Lib.hid (HC.out.trans (Chg.of_ext (Ext_trans hE3 hb) _))
        have hY := Blk.new w3 38 #[.int .u8 y.b, .bool y.ge, .bool y.st, .int .u8 y.li, .int .u8 y.co]
        clear hb H HC k0 k1 f1
        go_upto_region 7 with (fail)
        rw [show w3.alloc (.cells #[.int .u8 y.b, .bool y.ge, .bool y.st, .int .u8 y.li, .int .u8 y.co] 38) = w3.alloc (.cells #[.int .u8 y.b, .bool y.ge, .bool y.st, .int .u8 y.li, .int .u8 y.co] 38) from rfl] at *
        generalize w3.alloc (.cells #[.int .u8 y.b, .bool y.ge, .bool y.st, .int .u8 y.li, .int .u8 y.co] 38) = W4 at *
        generalize w3.heap.size = yb at *
        have x0 := hY.cell 0
        have x2 := hY.cell 2
        simp at x0 x2
        have k0 := H3.out.obj.cell 0
        have k1 := H3.out.obj.cell 1
        simp [Br.row] at k0 k1
        clear hE3 hY
        cases hs : y.st
        · rw [hs] at hr x2
          have HR := Lib.hid (show b1.p.tabK (a + 1) (b1.p.n - (a + 1)).toNat = F by simpa using hr)
          clear hr
          go_wp2_with fail
          go_roundw
          case rel => exact ⟨a + 1, by go_num, by omega, by omega, HR.out, H3.out, HC3.out⟩
          case measure => simp [intOf]; omega
        · rw [hs] at hr x2
          obtain ⟨pr, hpr⟩ : ∃ pr, bitB y.b 32 = pr := ⟨_, rfl⟩
          have HPR := Lib.hid hpr
          rw [hpr] at hr
          clear hpr
          go_wp2_with fail
          refine (Protected_eq HPR.out _).mono ?_
          rintro e w5 ⟨rfl, hb⟩
          have H5 := Lib.hid (H3.out.ext hb)
          have HC5 := Lib.hid (HC3.out.trans (Chg.of_ext hb _))
          clear H3 HC3 hb k0 k1 x0 x2
          have k0 := H5.out.obj.cell 0
          simp [Br.row] at k0
          cases pr
          · have HR := Lib.hid (show (a + 1) % b1.p.n = F by simpa using hr)
            clear hr
            go_wp2_with fail
            refine (Size_any g c b1.p _ H5.out.pl).mono ?_
            rintro e w6 ⟨rfl, hb⟩
            have H6 := Lib.hid (H5.out.ext hb)
            have HC6 := Lib.hid (HC5.out.trans (Chg.of_ext hb _))
            clear H5 HC5 hb k0
            go_wp2_with fail
            refine (Move_any _ _ _ _ _ hsz _).mono ?_
            rintro e w7 ⟨rfl, hb⟩
            have H7 := Lib.hid (H6.out.ext hb)
            have HC7 := Lib.hid (HC6.out.trans (Chg.of_ext hb _))
            clear H6 HC6 hb
            have f1 := H7.out.obj.free 1
            have k1 := H7.out.obj.cell 1
            simp [Br.row] at k1
            go_wp2_with fail
            go_ret
            exact ⟨rfl, by rw [HBT.out, ← HR.out]; exact H7.out.store_at _ (mod_bd (by omega)).1 (mod_bd (by omega)).2, HC7.out.set u 1 _ (.inl (by simp))⟩
          · have HR := Lib.hid (show b1.p.tabK (a + 1) (b1.p.n - (a + 1)).toNat = F by simpa using hr)
            clear hr
            go_wp2_with fail
            go_roundw
            case rel => exact ⟨a + 1, by go_num, by omega, by omega, HR.out, H5.out, HC5.out⟩
            case measure => simp [intOf]; omega
      · have hr := HF.out
        rw [show (b1.p.n - a).toNat = 0 by omega] at hr
        unfold Pl.tabK at hr
        have HR := Lib.hid hr
        clear hr
        go_wp2_with fail
        go_ret
        exact ⟨rfl, by rw [HBT.out, ← HR.out]; exact H.out.store_at 0 (by omega) (by omega), HC.out.set u 1 _ (.inl (by simp))⟩
  · have hb1 : b.rested = { b with p := b.p.restK b.at_ (b.p.n - b.at_).toNat } := by unfold Br.rested; rw [hl]; simp
    rw [hl] at k7
    go_wp2_with fail
    refine (rest_any u g c b _ H1.out).mono ?_
    rintro e w2 ⟨⟨v, rfl⟩, h2, hc2⟩
    rw [← hb1] at h2
    have H2 := Lib.hid h2
    have HC2 := Lib.hid (HC1.out.trans hc2)
    clear H1 HC1 h2 hc2 k0 k1
    obtain ⟨b1, hb1⟩ : ∃ b1, b.rested = b1 := ⟨_, rfl⟩
    rw [hb1] at H2
    have H := H2
    have HC := HC2
    clear H2 HC2
    have k0 := H.out.obj.cell 0
    have k1 := H.out.obj.cell 1
    have a0 := H.out.a0
    have a1 := H.out.a1
    have hn := H.out.pl.ok.sz.n1
    have hsz := H.out.pl.ok.sz
    have hu := H.out.obj.lt
    simp [Br.row] at k0 k1
    obtain ⟨F, hF⟩ : ∃ F, b1.p.tabK b1.at_ (b1.p.n - b1.at_).toNat = F := ⟨_, rfl⟩
    have HF := Lib.hid hF
    have HBT := Lib.hid (show b.tab = { b1 with at_ := F } by rw [← hF, ← hb1]; rfl)
    clear hF
    go_wp2_with fail
    go_loopw [6, 5] (fun _ v wr => ∃ a : Int, v = .int .i64 a ∧ 0 ≤ a ∧ a ≤ b1.p.n ∧ Hid (b1.p.tabK a (b1.p.n - a).toNat = F) ∧ Hid (BrAt wr u g c b1) ∧ Hid (Chg [u, g, c] w wr)) (fun _ v _ => (b1.p.n - intOf v).toNat)
    case atStart => exact ⟨b1.at_, rfl, a0, by omega, HF.out, H.out, HC.out⟩
    case round =>
      clear H HC HF k0 k1 hu
      obtain ⟨a, rfl, ha0, ha1, HF, H, HC⟩ := hrel
      have k0 := H.out.obj.cell 0
      have k1 := H.out.obj.cell 1
      have f1 := H.out.obj.free 1
      simp [Br.row] at k0 k1
      go_wp2_with fail
      refine (LenQ_any g c b1.p _ H.out.pl).mono ?_
      rintro e w2 ⟨rfl, rfl⟩
      by_cases hlt : a < b1.p.n
      · obtain ⟨y, hy⟩ : ∃ y, b1.p.at a = y := ⟨_, rfl⟩
        have hr := HF.out
        rw [show (b1.p.n - a).toNat = (b1.p.n - (a + 1)).toNat + 1 by omega] at hr
        unfold Pl.tabK Pl.st at hr
        rw [if_pos hlt, hy] at hr
        have HY := Lib.hid hy
        clear hy
        go_wp2_with fail
        refine (At_eqB HY.out _ H.out.pl).mono ?_
        rintro e w3 ⟨rfl, hb⟩
        have hE3 : Ext w3 (w3.alloc (.cells #[.int .u8 y.b, .bool y.ge, .bool y.st, .int .u8 y.li, .int .u8 y.co] 38)) := Ext_alloc (Ext_refl _)
        have H3 := Lib.hid (H.out.ext (Ext_trans hE3 hb))
        have HC3 := Lib.hid (HC.out.trans (Chg.of_ext (Ext_trans hE3 hb) _))
        have hY := Blk.new w3 38 #[.int .u8 y.b, .bool y.ge, .bool y.st, .int .u8 y.li, .int .u8 y.co]
        clear hb H HC k0 k1 f1
        go_upto_region 7 with (fail)
        rw [show w3.alloc (.cells #[.int .u8 y.b, .bool y.ge, .bool y.st, .int .u8 y.li, .int .u8 y.co] 38) = w3.alloc (.cells #[.int .u8 y.b, .bool y.ge, .bool y.st, .int .u8 y.li, .int .u8 y.co] 38) from rfl] at *
        generalize w3.alloc (.cells #[.int .u8 y.b, .bool y.ge, .bool y.st, .int .u8 y.li, .int .u8 y.co] 38) = W4 at *
        generalize w3.heap.size = yb at *
        have x0 := hY.cell 0
        have x2 := hY.cell 2
        simp at x0 x2
        have k0 := H3.out.obj.cell 0
        have k1 := H3.out.obj.cell 1
        simp [Br.row] at k0 k1
        clear hE3 hY
        cases hs : y.st
        · rw [hs] at hr x2
          have HR := Lib.hid (show b1.p.tabK (a + 1) (b1.p.n - (a + 1)).toNat = F by simpa using hr)
          clear hr
          go_wp2_with fail
          go_roundw
          case rel => exact ⟨a + 1, by go_num, by omega, by omega, HR.out, H3.out, HC3.out⟩
          case measure => simp [intOf]; omega
        · rw [hs] at hr x2
          obtain ⟨pr, hpr⟩ : ∃ pr, bitB y.b 32 = pr := ⟨_, rfl⟩
          have HPR := Lib.hid hpr
          rw [hpr] at hr
          clear hpr
          go_wp2_with fail
          refine (Protected_eq HPR.out _).mono ?_
          rintro e w5 ⟨rfl, hb⟩
          have H5 := Lib.hid (H3.out.ext hb)
          have HC5 := Lib.hid (HC3.out.trans (Chg.of_ext hb _))
          clear H3 HC3 hb k0 k1 x0 x2
          have k0 := H5.out.obj.cell 0
          simp [Br.row] at k0
          cases pr
          · have HR := Lib.hid (show (a + 1) % b1.p.n = F by simpa using hr)
            clear hr
            go_wp2_with fail
            refine (Size_any g c b1.p _ H5.out.pl).mono ?_
            rintro e w6 ⟨rfl, hb⟩
            have H6 := Lib.hid (H5.out.ext hb)
            have HC6 := Lib.hid (HC5.out.trans (Chg.of_ext hb _))
            clear H5 HC5 hb k0
            go_wp2_with fail
            refine (Move_any _ _ _ _ _ hsz _).mono ?_
            rintro e w7 ⟨rfl, hb⟩
            have H7 := Lib.hid (H6.out.ext hb)
            have HC7 := Lib.hid (HC6.out.trans (Chg.of_ext hb _))
            clear H6 HC6 hb
            have f1 := H7.out.obj.free 1
            have k1 := H7.out.obj.cell 1
            simp [Br.row] at k1
            go_wp2_with fail
            go_ret
            exact ⟨rfl, by rw [HBT.out, ← HR.out]; exact H7.out.store_at _ (mod_bd (by omega)).1 (mod_bd (by omega)).2, HC7.out.set u 1 _ (.inl (by simp))⟩
          · have HR := Lib.hid (show b1.p.tabK (a + 1) (b1.p.n - (a + 1)).toNat = F by simpa using hr)
            clear hr
            go_wp2_with fail
            go_roundw
            case rel => exact ⟨a + 1, by go_num, by omega, by omega, HR.out, H5.out, HC5.out⟩
            case measure => simp [intOf]; omega
      · have hr := HF.out
        rw [show (b1.p.n - a).toNat = 0 by omega] at hr
        unfold Pl.tabK at hr
        have HR := Lib.hid hr
        clear hr
        go_wp2_with fail
        go_ret
        exact ⟨rfl, by rw [HBT.out, ← HR.out]; exact H.out.store_at 0 (by omega) (by omega), HC.out.set u 1 _ (.inl (by simp))⟩
end Go.Proofs.Ytmcfckdgolojlaa
