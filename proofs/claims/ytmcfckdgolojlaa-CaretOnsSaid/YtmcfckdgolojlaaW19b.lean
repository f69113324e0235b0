/- Chapter 19: CaretOns. -/
import Derived.Test.YtmcfckdgolojlaaQ6
import Derived.Test.YtmcfckdgolojlaaS4
namespace Go.Proofs.Ytmcfckdgolojlaa
set_option linter.unusedVariables false
set_option linter.unusedSimpArgs false
open Go.RowKit
set_option maxRecDepth 100000 in
set_option maxHeartbeats 4000000 in
theorem CaretOns_any (r c at_ : Int) (A : Option Addr) (d : Nat) (cs : List Cel) (hcs : ∀ x ∈ cs, 0 ≤ x.b ∧ x.b < 256) (hcl : cs.length ≤ maxLen) (w : World) (hr : Rd w 5 A cs.length (cs.flatMap Cel.enc)) :
    Calls Try.prog 4 #[.agg #[.int .i64 r, .int .i64 c], .slice A cs.length d, .int .i64 at_] w (Ret (.bool true) w) := by
  have HCS := Lib.hid hcs
  have HCL := Lib.hid hcl
  have HR := Lib.hid (fun w' (h : Ext w w') => Rd_ext h hr)
  have HX := Lib.hid (Ext_refl w)
  clear hcs hcl hr
  go_enter Try.func4, Try.ntmps4
  go_wp2_with fail
  refine (alive_any _).mono ?_
  rintro e wn ⟨rfl, hb⟩
  have hz0 : w.heap.size < wn.heap.size := (by have := hb.size; (try simp only [World.size_alloc, World.size_setCell, World.size_drew, size_drewN] at this); omega); have hc0_0 : wn.cell? ⟨w.heap.size, 0, none⟩ = some (.int .i64 r) := (cell_ext hb (by unfold In; first | omega | (simp; done) | (simp; omega))).trans (by go_simp); have hf0_0 : wn.frozen? ⟨w.heap.size, 0, none⟩ = false := (frozen_ext hb (by unfold In; first | omega | (simp; done) | (simp; omega))).trans (by go_simp); have hc0_1 : wn.cell? ⟨w.heap.size, 1, none⟩ = some (.int .i64 c) := (cell_ext hb (by unfold In; first | omega | (simp; done) | (simp; omega))).trans (by go_simp); have hf0_1 : wn.frozen? ⟨w.heap.size, 1, none⟩ = false := (frozen_ext hb (by unfold In; first | omega | (simp; done) | (simp; omega))).trans (by go_simp); have HXn := Lib.hid (Ext_trans hb (by repeat' (first | (with_reducible first | exact HX.out | apply Ext_alloc | apply Ext_drewN | apply Ext_drew | (refine Ext_set ?_ ?_) | exact Ext_refl _) | (simp only [World.size_alloc, World.size_setCell, World.size_drew, size_drewN]; omega) | (simp; done) | (simp; omega)))); clear hb HX; have HX := HXn; clear HXn
  go_wp2_with fail
  refine (made_any r c at_ A d cs HCS.out HCL.out _ (HR.out _ HX.out)).mono ?_
  rintro e w3 (⟨a, b, v, k, rfl, ⟨A1, n1, d1, rfl⟩, hb⟩ | ⟨g, b, x, p, rfl, hP, hx, hb, hg, hbb, hxx, hne1, hne2, hp6⟩)
  · have HXn := Lib.hid (Ext_trans hb (by repeat' (first | (with_reducible first | exact HX.out | apply Ext_alloc | apply Ext_drewN | apply Ext_drew | (refine Ext_set ?_ ?_) | exact Ext_refl _) | (simp only [World.size_alloc, World.size_setCell, World.size_drew, size_drewN]; omega) | (simp; done) | (simp; omega)))); clear hb HX; have HX := HXn; clear HXn
    go_wp2_with fail
    go_ret
    exact ⟨rfl, (by repeat' (first | (with_reducible first | exact HX.out | apply Ext_alloc | apply Ext_drewN | apply Ext_drew | (refine Ext_set ?_ ?_) | exact Ext_refl _) | (simp only [World.size_alloc, World.size_setCell, World.size_drew, size_drewN]; omega) | (simp; done) | (simp; omega)))⟩
  go_wp2_with fail
  have hws : w.heap.size ≤ wn.heap.size := HX.out.size
  have hg' : w.heap.size ≤ g := by omega
  have hb' : w.heap.size ≤ b := by omega
  have hl3 : g < w3.heap.size ∧ b < w3.heap.size ∧ x < w3.heap.size := ⟨hP.obj.lt, hP.row.lt, hx.lt⟩
  have hE := Ext_alloc (o := .cells #[.int .i64 p.rows, .int .i64 p.cols, .slice (some ⟨x, 0, none⟩) p.cells.length p.cells.length, .int .i64 p.cur] 28) (Ext_refl w3)
  have HP := Lib.hid (hP.ext hE)
  have HXC := Lib.hid (Blk.below' hx hE)
  have HBX := Lib.hid (Blk.new w3 28 #[.int .i64 p.rows, .int .i64 p.cols, .slice (some ⟨x, 0, none⟩) p.cells.length p.cells.length, .int .i64 p.cur])
  have HE := Lib.hid (Ext_trans hE (Ext_trans hb HX.out))
  have HOK := Lib.hid hP.ok
  have HBY := Lib.hid hP.ok.by_
  have hn0 := hP.ok.sz.n0
  have hlx : w3.heap.size ∉ [g, b] := by simp; omega
  have hxl : x ∉ [g, b] := by simp; omega
  have hgl : ∀ i, i ∈ [g, b] → w.heap.size ≤ i := by intro i hi; simp at hi; omega
  have hgu : ∀ i, i ∈ [g, b] → i < w3.heap.size := by intro i hi; simp at hi; omega
  have hc4 : p.cells.length ≤ 4096 := by omega
  clear hP hx hE hb HX hg hbb hxx hne1 hne2 hl3 HCS HCL HR
  generalize w3.heap.size = bx at *
  generalize w3.alloc (.cells #[.int .i64 p.rows, .int .i64 p.cols, .slice (some ⟨x, 0, none⟩) p.cells.length p.cells.length, .int .i64 p.cur] 28) = W4 at *
  have hbw : w.heap.size ≤ W4.heap.size := HE.out.size
  refine (Opens_any x p hc4 HBY.out _ HXC.out).mono ?_
  rintro e w5 ⟨A5, c5, rfl, ho, hb⟩
  have hgb : g < W4.heap.size ∧ b < W4.heap.size := ⟨HP.out.obj.lt, HP.out.row.lt⟩
  have HO5 := Lib.hid ho
  have HP5 := Lib.hid (HP.out.ext hb)
  have HE5 := Lib.hid (Ext_trans hb HE.out)
  clear ho hb HP HXC HBX HE
  have hgo : ∀ i, i ∈ [g, b] → i < W4.heap.size := by intro i hi; simp at hi; omega
  generalize W4.heap.size = bo at *
  go_wp2_with fail
  refine (Cursor_any g b p _ HP5.out).mono ?_
  rintro e w6 ⟨rfl, hb⟩
  have HO6 := Lib.hid (own_ext HO5.out hb)
  have HP6 := Lib.hid (HP5.out.ext hb)
  have HE6 := Lib.hid (Ext_trans hb HE5.out)
  clear hb HO5 HP5 HE5
  go_wp2_with fail
  refine (Len_any g b p _ HP6.out).mono ?_
  rintro e w7 ⟨rfl, hb⟩
  have HO7 := Lib.hid (own_ext HO6.out hb)
  have HP7 := Lib.hid (HP6.out.ext hb)
  have HE7 := Lib.hid (Ext_trans hb HE6.out)
  clear hb HO6 HP6 HE6
  go_wp2_with fail
  refine (On_any g b p _ HP7.out).mono ?_
  rintro e w8 ⟨rfl, hs, hch⟩
  have HO8 := Lib.hid (own_chg HO7.out hch hgo)
  have HP8 := Lib.hid hs
  have HE8 := Lib.hid (hch.ext HE7.out hgl)
  clear hs hch HO7 HP7 HE7
  have hk0 := HOK.out.k0
  have hk1 := HOK.out.k1
  have hn6 : p.n ≤ 60 := by have : p.n = (p.cells.length : Int) := rfl; omega
  have hnz : (p.n == 0) = false := by simp; omega
  have hw1 : IntKind.i64.wrap (p.cur + 1) = p.cur + 1 := IntWalk.i64_in _ (by omega)
  have hm1 : Int.tmod (p.cur + 1) p.n = (p.cur + 1) % p.n := Int.tmod_eq_emod_of_nonneg (by omega)
  have hw2 : IntKind.i64.wrap (p.cur + 2) = p.cur + 2 := IntWalk.i64_in _ (by omega)
  have hm2 : Int.tmod (p.cur + 2) p.n = (p.cur + 2) % p.n := Int.tmod_eq_emod_of_nonneg (by omega)
  have hb1 := Int.emod_nonneg (p.cur + 1) (by omega : p.n ≠ 0)
  have hb2 := Int.emod_lt_of_pos (p.cur + 1) (by omega : 0 < p.n)
  have hb3 := Int.emod_nonneg (p.cur + 2) (by omega : p.n ≠ 0)
  have hb4 := Int.emod_lt_of_pos (p.cur + 2) (by omega : 0 < p.n)
  go_wp2_with fail
  refine (At_any g b _ _ _ HP8.out).mono ?_
  rintro e w9 ⟨rfl, hb⟩
  rw [point_at]
  have hyb := at_bd HBY.out ((p.cur + 1) % p.n)
  have hon : p.onM = if (p.at ((p.cur + 1) % p.n)).st then (if bitB (p.at ((p.cur + 1) % p.n)).b 32 && bitB (p.at ((p.cur + 1) % p.n)).b 16 then p.seekM ((p.cur + 1) % p.n) 1 else (p.cur + 1 + 1) % p.n) else (p.cur + 1) % p.n := rfl
  have hsk := skip_bits (p.at ((p.cur + 1) % p.n)).b hyb
  generalize p.at ((p.cur + 1) % p.n) = y at *
  have hE9 := Ext_alloc (o := .cells #[.int .u8 y.b, .bool y.ge, .bool y.st, .int .u8 y.li, .int .u8 y.co] 38) (Ext_refl w9)
  have HO10 := Lib.hid (own_ext HO8.out (Ext_trans hE9 hb))
  have HP10 := Lib.hid (HP8.out.ext (Ext_trans hE9 hb))
  have HE10 := Lib.hid (Ext_trans hE9 (Ext_trans hb HE8.out))
  have HY := Lib.hid (Blk.new w9 38 #[.int .u8 y.b, .bool y.ge, .bool y.st, .int .u8 y.li, .int .u8 y.co])
  clear hb hE9 HO8 HP8 HE8
  have HON := Lib.hid hon
  clear hon
  generalize p.onM = gv at *
  rcases Nat.eq_zero_or_pos p.opensL.length with hln | hln
  · have HG0 := Lib.hid (show ∀ q : Int, True from fun _ => trivial)
    cases hst : y.st
    · have HG := Lib.hid (show gv = (p.cur + 1) % p.n by rw [HON.out, hst]; rfl)
      rw [HG.out] at *
      simp only [hst] at HE10
      go_wp2_with fail
      go_ret
      exact ⟨rfl, HE10.out⟩
    · simp only [hst] at HE10
      cases hbb : (bitB y.b 32 && bitB y.b 16)
      · have HG := Lib.hid (show gv = (p.cur + 2) % p.n by rw [HON.out, hst, hbb, Int.add_assoc]; rfl)
        rw [HG.out] at *
        rw [hbb] at hsk
        go_wp2_with fail
        go_ret
        exact ⟨rfl, HE10.out⟩
      · rw [hbb] at hsk
        go_wp2_with fail
        go_ret
        exact ⟨rfl, HE10.out⟩
  · obtain ⟨m, hm⟩ : ∃ m, p.opensL.length = m + 1 := ⟨p.opensL.length - 1, by omega⟩
    have HOF := Lib.hid (show p.has (p.ofst 0) = true from has_emod hn0 _)
    have hml : p.opensL.length ≤ 60 := by have h1 := opens_len p (p.starts p.cells.length).length; have h2 := starts_len p p.cells.length; unfold Pl.opensL; omega
    have HHM := Lib.hid (home_ofst HBY.out hln)
    have HBK := Lib.hid (show (p.point (p.ofst 0)).backM = p.ofst m by rw [back_at HBY.out hln, if_pos rfl, hm]; rfl)
    have HE0 := Lib.hid ((opens_enum HBY.out).at_ hln)
    have HEM := Lib.hid ((opens_enum HBY.out).at_ (show m < p.opensL.length by omega))
    cases hst : y.st
    · have HG := Lib.hid (show gv = (p.cur + 1) % p.n by rw [HON.out, hst]; rfl)
      rw [HG.out] at *
      simp only [hst] at HE10 HP10 HO10
      go_wp2_with fail
      refine (CHome_any g b _ _ HP10.out).mono ?_
      rintro e wa ⟨rfl, hs, hch⟩
      rw [point_homeM, HHM.out, point_point _ _ _ HOF.out] at hs
      rw [point_homeM, HHM.out]
      have HOa := Lib.hid (own_chg HO10.out hch hgo)
      have HPa := Lib.hid hs
      have HEa := Lib.hid (hch.ext HE10.out hgl)
      clear hs hch HO10 HP10 HE10
      go_wp2_with fail
      refine (Back_any g b _ _ HPa.out).mono ?_
      rintro e wb ⟨rfl, hs, hch⟩
      rw [HBK.out]
      have HOb := Lib.hid (own_chg HOa.out hch hgo)
      have HEb := Lib.hid (hch.ext HEa.out hgl)
      clear hs hch HOa HPa HEa
      obtain ⟨ga, oa, eA, hc⟩ := (Rd.own HOb.out).2 (by omega)
      subst eA
      have a0 := hc 0 _ (get_i64s (by omega))
      have am := hc m _ (get_i64s (by omega))
      rw [Nat.add_zero] at a0
      clear hc
      have e0 := HE0.out
      have em := HEM.out
      have f0 : p.ofst 0 = (p.opensL.getD 0 0 + 1) % p.n := rfl
      have fm : p.ofst m = (p.opensL.getD m 0 + 1) % p.n := rfl
      rw [f0, fm]
      generalize p.opensL.getD 0 0 = o0 at *
      generalize p.opensL.getD m 0 = om at *
      have hv1 : IntKind.i64.wrap (o0 + 1) = o0 + 1 := IntWalk.i64_in _ (by omega)
      have hv2 : Int.tmod (o0 + 1) p.n = (o0 + 1) % p.n := Int.tmod_eq_emod_of_nonneg (by omega)
      have hv3 : IntKind.i64.wrap (om + 1) = om + 1 := IntWalk.i64_in _ (by omega)
      have hv4 : Int.tmod (om + 1) p.n = (om + 1) % p.n := Int.tmod_eq_emod_of_nonneg (by omega)
      have hv5 : IntKind.i64.wrap (((m + 1 : Nat) : Int) - 1) = (m : Int) := by rw [IntWalk.i64_in _ (by omega)]; omega
      rw [hm] at *
      go_wp2_with fail
      go_ret
      exact ⟨by simp, HEb.out⟩
    · simp only [hst] at HE10 HP10 HO10
      cases hbb : (bitB y.b 32 && bitB y.b 16)
      · have HG := Lib.hid (show gv = (p.cur + 2) % p.n by rw [HON.out, hst, hbb, Int.add_assoc]; rfl)
        rw [HG.out] at *
        rw [hbb] at hsk
        go_wp2_with fail
        refine (CHome_any g b _ _ HP10.out).mono ?_
        rintro e wa ⟨rfl, hs, hch⟩
        rw [point_homeM, HHM.out, point_point _ _ _ HOF.out] at hs
        rw [point_homeM, HHM.out]
        have HOa := Lib.hid (own_chg HO10.out hch hgo)
        have HPa := Lib.hid hs
        have HEa := Lib.hid (hch.ext HE10.out hgl)
        clear hs hch HO10 HP10 HE10
        go_wp2_with fail
        refine (Back_any g b _ _ HPa.out).mono ?_
        rintro e wb ⟨rfl, hs, hch⟩
        rw [HBK.out]
        have HOb := Lib.hid (own_chg HOa.out hch hgo)
        have HEb := Lib.hid (hch.ext HEa.out hgl)
        clear hs hch HOa HPa HEa
        obtain ⟨ga, oa, eA, hc⟩ := (Rd.own HOb.out).2 (by omega)
        subst eA
        have a0 := hc 0 _ (get_i64s (by omega))
        have am := hc m _ (get_i64s (by omega))
        rw [Nat.add_zero] at a0
        clear hc
        have e0 := HE0.out
        have em := HEM.out
        have f0 : p.ofst 0 = (p.opensL.getD 0 0 + 1) % p.n := rfl
        have fm : p.ofst m = (p.opensL.getD m 0 + 1) % p.n := rfl
        rw [f0, fm]
        generalize p.opensL.getD 0 0 = o0 at *
        generalize p.opensL.getD m 0 = om at *
        have hv1 : IntKind.i64.wrap (o0 + 1) = o0 + 1 := IntWalk.i64_in _ (by omega)
        have hv2 : Int.tmod (o0 + 1) p.n = (o0 + 1) % p.n := Int.tmod_eq_emod_of_nonneg (by omega)
        have hv3 : IntKind.i64.wrap (om + 1) = om + 1 := IntWalk.i64_in _ (by omega)
        have hv4 : Int.tmod (om + 1) p.n = (om + 1) % p.n := Int.tmod_eq_emod_of_nonneg (by omega)
        have hv5 : IntKind.i64.wrap (((m + 1 : Nat) : Int) - 1) = (m : Int) := by rw [IntWalk.i64_in _ (by omega)]; omega
        rw [hm] at *
        go_wp2_with fail
        go_ret
        exact ⟨by simp, HEb.out⟩
      · rw [hbb] at hsk
        have HG := Lib.hid (show p.open_ gv = true by rw [HON.out, hst, hbb]; exact seekM_open HBY.out hln _ (.inl rfl))
        go_wp2_with fail
        refine (Open_any g b _ _ _ HP10.out).mono ?_
        rintro e wo ⟨rfl, hb⟩
        rw [point_open, HG.out]
        have HPo := Lib.hid (HP10.out.ext hb)
        have HOo := Lib.hid (own_ext HO10.out hb)
        have HEo := Lib.hid (Ext_trans hb HE10.out)
        clear hb HP10 HO10 HE10
        have HP10 := HPo
        have HO10 := HOo
        have HE10 := HEo
        clear HPo HOo HEo
        go_wp2_with fail
        refine (CHome_any g b _ _ HP10.out).mono ?_
        rintro e wa ⟨rfl, hs, hch⟩
        rw [point_homeM, HHM.out, point_point _ _ _ HOF.out] at hs
        rw [point_homeM, HHM.out]
        have HOa := Lib.hid (own_chg HO10.out hch hgo)
        have HPa := Lib.hid hs
        have HEa := Lib.hid (hch.ext HE10.out hgl)
        clear hs hch HO10 HP10 HE10
        go_wp2_with fail
        refine (Back_any g b _ _ HPa.out).mono ?_
        rintro e wb ⟨rfl, hs, hch⟩
        rw [HBK.out]
        have HOb := Lib.hid (own_chg HOa.out hch hgo)
        have HEb := Lib.hid (hch.ext HEa.out hgl)
        clear hs hch HOa HPa HEa
        obtain ⟨ga, oa, eA, hc⟩ := (Rd.own HOb.out).2 (by omega)
        subst eA
        have a0 := hc 0 _ (get_i64s (by omega))
        have am := hc m _ (get_i64s (by omega))
        rw [Nat.add_zero] at a0
        clear hc
        have e0 := HE0.out
        have em := HEM.out
        have f0 : p.ofst 0 = (p.opensL.getD 0 0 + 1) % p.n := rfl
        have fm : p.ofst m = (p.opensL.getD m 0 + 1) % p.n := rfl
        rw [f0, fm]
        generalize p.opensL.getD 0 0 = o0 at *
        generalize p.opensL.getD m 0 = om at *
        have hv1 : IntKind.i64.wrap (o0 + 1) = o0 + 1 := IntWalk.i64_in _ (by omega)
        have hv2 : Int.tmod (o0 + 1) p.n = (o0 + 1) % p.n := Int.tmod_eq_emod_of_nonneg (by omega)
        have hv3 : IntKind.i64.wrap (om + 1) = om + 1 := IntWalk.i64_in _ (by omega)
        have hv4 : Int.tmod (om + 1) p.n = (om + 1) % p.n := Int.tmod_eq_emod_of_nonneg (by omega)
        have hv5 : IntKind.i64.wrap (((m + 1 : Nat) : Int) - 1) = (m : Int) := by rw [IntWalk.i64_in _ (by omega)]; omega
        rw [hm] at *
        go_wp2_with fail
        go_ret
        exact ⟨by simp, HEb.out⟩
set_option maxRecDepth 100000 in
theorem CaretOns_walk {H : Type} (w : World) {base : Nat} (v : Value) (t0 : Handed Try.prog H w 23 v) (k0 : Value.okWide Try.prog w .any base 23 v) (A : Option Addr) (n d : Nat) (t1 : Handed Try.prog H w 24 (.slice A n d))
    (a2 : Int) (w2 : (Lit.int .i64 a2).wf = true) :
    Calls Try.prog 4 #[v, .slice A n d, .int .i64 a2] w (Ret (.bool true) w) := by
  obtain ⟨r, c, rfl, _, _⟩ := size_arg t0 k0
  obtain ⟨cs, rfl, _, hl, hr, hcs⟩ := cel_rows t1
  exact CaretOns_any r c a2 A d cs hcs hl w hr
end Go.Proofs.Ytmcfckdgolojlaa
