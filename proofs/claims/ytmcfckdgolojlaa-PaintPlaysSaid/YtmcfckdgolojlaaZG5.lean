import Derived.Test.YtmcfckdgolojlaaZG4
/- Chapter 16: data, rest, tab. -/
namespace Go.Proofs.Ytmcfckdgolojlaa
set_option linter.unusedVariables false
set_option linter.unusedSimpArgs false
open Go.RowKit
def Br.data (b : Br) (l : List Int) : Br := l.foldl (fun b x => b.lay (b.char x false)) b
theorem data_snoc (b : Br) (l : List Int) (k : Nat) (hk : k < l.length) : b.data (l.take (k + 1)) = (b.data (l.take k)).lay ((b.data (l.take k)).char l[k] false) := by
  unfold Br.data
  rw [List.take_succ_eq_append_getElem hk, List.foldl_append]
  rfl
set_option maxRecDepth 100000 in
set_option maxHeartbeats 4000000 in
theorem data_any (u g c : Nat) (b : Br) (A B : Option Addr) (cA cB : Nat) (o : Ord) (w : World) (h : BrAt w u g c b) (ho : OrAt [u, g, c] w A B o) : Calls Try.prog 92 #[.pointer (some ⟨u, 0, none⟩), .agg #[.int .u8 o.k, .int .i64 o.a, .int .u8 o.b, .bool o.ge, .slice A o.ps.length cA, .slice B o.da.length cB]] w (Ret1 (.int .i64 0) (BrTo u g c (b.data o.da) w)) := by
  have HB := Lib.hid h
  have HO := Lib.hid ho
  clear h ho
  go_enter Try.func92, Try.ntmps92
  go_wp2_with fail
  have hE := Ext_alloc (o := .cells #[.int .u8 o.k, .int .i64 o.a, .int .u8 o.b, .bool o.ge, .slice A o.ps.length cA, .slice B o.da.length cB] 71) (Ext_refl w)
  have hB := Blk.new w 71 #[.int .u8 o.k, .int .i64 o.a, .int .u8 o.b, .bool o.ge, .slice A o.ps.length cA, .slice B o.da.length cB]
  generalize w.alloc (.cells #[.int .u8 o.k, .int .i64 o.a, .int .u8 o.b, .bool o.ge, .slice A o.ps.length cA, .slice B o.da.length cB] 71) = W1 at *
  have H1 := Lib.hid (HB.out.ext hE)
  have HO1 := Lib.hid (HO.out.ext hE)
  have HE := Lib.hid hE
  clear HB HO hE
  generalize w.heap.size = bx at *
  have z0 := hB.cell 0
  have z1 := hB.cell 1
  have z2 := hB.cell 2
  have z3 := hB.cell 3
  have z4 := hB.cell 4
  have z5 := hB.cell 5
  have k0 := H1.out.obj.cell 0
  have k1 := H1.out.obj.cell 1
  have k2 := H1.out.obj.cell 2
  have k3 := H1.out.obj.cell 3
  have k4 := H1.out.obj.cell 4
  have k5 := H1.out.obj.cell 5
  have k6 := H1.out.obj.cell 6
  have k7 := H1.out.obj.cell 7
  simp [Br.row] at z0 z1 z2 z3 z4 z5 k0 k1 k2 k3 k4 k5 k6 k7
  clear z0 z1 z2 z3 z4 k0 k1 k2 k3 k4 k5 k6 k7
  have HC1 := Lib.hid (Chg.of_ext HE.out [u, g, c])
  clear HE
  go_loopw [6, 10] (fun _ v wr => ∃ k : Nat, k ≤ o.da.length ∧ v = .int .i64 k ∧ Hid (BrAt wr u g c (b.data (o.da.take k))) ∧ Hid (OrAt [u, g, c] wr A B o) ∧ Hid (Chg [u, g, c] w wr)) (fun _ v _ => o.da.length - (intOf v).toNat)
  case atStart => exact ⟨0, by omega, rfl, H1.out, HO1.out, HC1.out⟩
  case round =>
    clear H1 HO1 HC1 z5 hB
    obtain ⟨k, hk, rfl, H1, HO1, HC1⟩ := hrel
    by_cases hlt : k < o.da.length
    · obtain ⟨db, dof, x, eB, hx, d0⟩ := HO1.out.da.at1 hlt
      rw [u8s_get, List.getElem?_eq_getElem hlt, Option.map_some, Option.some.injEq] at hx
      subst hx
      have hxb := HO1.out.db _ (List.getElem_mem hlt)
      have HS := Lib.hid (data_snoc b o.da k hlt)
      have hL : k + 1 < 9223372036854775808 := by have := HO1.out.dl; unfold maxLen at this; omega
      generalize b.data (o.da.take k) = bk at *
      generalize o.da[k] = x at *
      have HBB := Lib.hid eB
      subst eB
      go_wp2_with fail
      refine (char_any u g c bk x false _ H1.out).mono ?_
      rintro e w2 ⟨rfl, hb⟩
      have H2 := Lib.hid (H1.out.ext hb)
      have HO2 := Lib.hid (HO1.out.ext hb)
      have HC2 := Lib.hid (HC1.out.trans (Chg.of_ext hb _))
      clear H1 HO1 HC1 hb d0
      go_wp2_with fail
      refine (lay_any u g c bk (bk.char x false) hxb _ H2.out).mono ?_
      rintro e w3 ⟨⟨v, rfl⟩, hb3, hc3⟩
      have H3 := Lib.hid hb3
      have HO3 := Lib.hid (HO2.out.chg hc3)
      have HC3 := Lib.hid (HC2.out.trans hc3)
      clear H2 HO2 HC2 hb3 hc3
      go_wp2_with fail
      go_roundw
      case rel => exact ⟨k + 1, by omega, by go_num, by rw [HS.out]; exact H3.out, HO3.out, HC3.out⟩
      case measure => simp [intOf]; omega
    · have : k = o.da.length := by omega
      subst this
      rw [List.take_length] at H1
      go_wp2
      go_ret
      exact ⟨rfl, H1.out, HC1.out⟩
/-- what rest leaves: from the place on, up to the next attribute -/
def Pl.restK (p : Pl) (a : Int) : Nat → Pl
  | 0 => p
  | k + 1 => if a < p.n ∧ p.st a = false then (p.set a Cel.zero).restK (a + 1) k else p
/-- the place behind the next open attribute -/
def Pl.tabK (p : Pl) (a : Int) : Nat → Int
  | 0 => 0
  | k + 1 => if a < p.n then (if p.st a && !bitB (p.at a).b 32 then (a + 1) % p.n else p.tabK (a + 1) k) else 0
set_option maxRecDepth 100000 in
set_option maxHeartbeats 4000000 in
theorem rest_any (u g c : Nat) (b : Br) (w : World) (h : BrAt w u g c b) : Calls Try.prog 113 #[.pointer (some ⟨u, 0, none⟩)] w (Void (BrTo u g c { b with p := b.p.restK b.at_ (b.p.n - b.at_).toNat } w)) := by
  have a0 := h.a0
  have a1 := h.a1
  have hn := h.pl.ok.sz.n1
  have k0 := h.obj.cell 0
  have k1 := h.obj.cell 1
  simp [Br.row] at k0 k1
  have H := Lib.hid h
  have HC := Lib.hid (Chg.refl [u, g, c] w)
  obtain ⟨F, hF⟩ : ∃ F, b.p.restK b.at_ (b.p.n - b.at_).toNat = F := ⟨_, rfl⟩
  have HF := Lib.hid hF
  rw [hF]
  clear h hF
  go_enter Try.func113, Try.ntmps113
  go_wp2_with fail
  go_loopw [2] (fun v wr => ∃ (a : Int) (Q : Pl), v = .int .i64 a ∧ 0 ≤ a ∧ a ≤ b.p.n ∧ Q.n = b.p.n ∧ Hid (Q.restK a (b.p.n - a).toNat = F) ∧ Hid (BrAt wr u g c { b with p := Q }) ∧ Hid (Chg [u, g, c] w wr)) (fun v _ => (b.p.n - intOf v).toNat)
  case atStart => exact ⟨b.at_, b.p, rfl, a0, by omega, rfl, HF.out, H.out, HC.out⟩
  case round =>
    clear H HC HF k0 k1
    obtain ⟨a, Q, rfl, ha0, ha1, hq, HF, H, HC⟩ := hrel
    have k0 := H.out.obj.cell 0
    simp [Br.row] at k0
    have hqn := Lib.hid hq
    go_wp2_with fail
    refine (LenQ_any g c Q _ H.out.pl).mono ?_
    rintro e w2 ⟨rfl, rfl⟩
    rw [hq]
    by_cases hlt : a < b.p.n
    · have hfs := field_st
      obtain ⟨y, hy⟩ : ∃ y, Q.at a = y := ⟨_, rfl⟩
      have HY := Lib.hid hy
      have hfuel : (b.p.n - a).toNat = (b.p.n - (a + 1)).toNat + 1 := by omega
      have hr := HF.out
      rw [hfuel] at hr
      unfold Pl.restK Pl.st at hr
      rw [hq, hy] at hr
      clear hy hfuel
      cases hs : y.st
      · rw [hs, if_pos ⟨hlt, rfl⟩] at hr
        have HR := Lib.hid hr
        clear hr
        go_wp2_with fail
        refine (At_eqB HY.out _ H.out.pl).mono ?_
        rintro e w3 ⟨rfl, hb⟩
        have H3 := Lib.hid (H.out.ext hb)
        have HC3 := Lib.hid (HC.out.trans (Chg.of_ext hb _))
        have k0 := H3.out.obj.cell 0
        simp [Br.row] at k0
        clear hb H HC
        rw [hs]
        go_wp2_with fail
        refine (Set_any g c Q a Cel.zero (by decide) _ H3.out.pl).mono ?_
        rintro e w4 ⟨rfl, h4, hc4⟩
        have h5 := H3.out.pl_to h4 hc4 (set_n _ _ _)
        have H5 := Lib.hid h5
        have HC5 := Lib.hid (HC3.out.trans (hc4.mono (by simp)))
        clear H3 HC3 h4 hc4 h5 hfs
        go_wp2_with fail
        go_roundw
        case rel => exact ⟨a + 1, Q.set a Cel.zero, by go_num, by omega, by omega, by rw [set_n]; exact hqn.out, HR.out, H5.out, HC5.out⟩
        case measure => simp [intOf]; omega
      · rw [hs, if_neg (by simp)] at hr
        subst hr
        go_wp2_with fail
        refine (At_eqB HY.out _ H.out.pl).mono ?_
        rintro e w3 ⟨rfl, hb⟩
        have H3 := Lib.hid (H.out.ext hb)
        have HC3 := Lib.hid (HC.out.trans (Chg.of_ext hb _))
        clear hb H HC
        rw [hs]
        go_wp2_with fail
        go_end0
        exact ⟨⟨_, rfl⟩, H3.out, HC3.out⟩
    · have hr := HF.out
      rw [show (b.p.n - a).toNat = 0 by omega] at hr
      unfold Pl.restK at hr
      subst hr
      go_wp2_with fail
      go_end0
      exact ⟨⟨_, rfl⟩, H.out, HC.out⟩
end Go.Proofs.Ytmcfckdgolojlaa
