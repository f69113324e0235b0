/- Chapter 16: PaintRounds. -/
import Derived.Test.YtmcfckdgolojlaaW16a
import Derived.Test.YtmcfckdgolojlaaGG
namespace Go.Proofs.Ytmcfckdgolojlaa
set_option linter.unusedVariables false
set_option linter.unusedSimpArgs false
open Go.RowKit
theorem infoU8b : (Try.prog.info? 5).map (fun i => (i.zero, i.size, i.bytes)) = some (some (.int .u8 0), 1, 1) := by kernel_rfl
theorem own_newB {W : World} {b B : Nat} {t : TypeId} {sz : Nat} (h : Blk W b t #[]) (hb : B ≤ b) : W.ownsRow B t sz (.slice (some ⟨b, 0, none⟩) 0 0) 0 [] :=
  ⟨by simp, .inr ⟨b, 0, #[], rfl, hb, h, Nat.le_refl _, Nat.zero_le _, by simp, by simp⟩⟩
set_option maxRecDepth 100000 in
set_option maxHeartbeats 16000000 in
theorem PaintRounds_any (r c from_ bv : Int) (hbv : 0 ≤ bv ∧ bv < 256) (A A2 : Option Addr) (d d2 : Nat) (cs : List Cel) (xs : List OrdV) (hd2 : xs.length ≤ d2) (hcs : ∀ x ∈ cs, 0 ≤ x.b ∧ x.b < 256) (hcl : cs.length ≤ maxLen) (w : World) (hr : Rd w 5 A cs.length (cs.flatMap Cel.enc)) (ho : OsAt [] w A2 xs) :
    Calls Try.prog 12 #[.agg #[.int .i64 r, .int .i64 c], .slice A cs.length d, .slice A2 xs.length d2, .int .i64 from_, .int .u8 bv] w (Ret (.bool true) w) := by
  have HCS := Lib.hid hcs
  have HCL := Lib.hid hcl
  have HR := Lib.hid (fun w' (h : Ext w w') => Rd_ext h hr)
  have HO := Lib.hid (fun (l : List Nat) (hl : ∀ i, i ∈ l → w.heap.size ≤ i) w' (h : Ext w w') => (ho.more (m := l) (fun i hi => .inr (hl i hi))).ext h)
  have HOL := Lib.hid ho.ln
  have HX := Lib.hid (Ext_refl w)
  clear hcs hcl hr ho
  go_enter Try.func12, Try.ntmps12
  go_wp2_with fail
  refine (alive16_any _).mono ?_
  rintro e wn ⟨rfl, hb⟩
  have hz0 : w.heap.size < wn.heap.size := (by have := hb.size; (try simp only [World.size_alloc, World.size_setCell, World.size_drew, size_drewN] at this); omega); have hc0_0 : wn.cell? ⟨w.heap.size, 0, none⟩ = some (.int .i64 r) := (cell_ext hb (by unfold In; first | omega | (simp; done) | (simp; omega))).trans (by go_simp); have hf0_0 : wn.frozen? ⟨w.heap.size, 0, none⟩ = false := (frozen_ext hb (by unfold In; first | omega | (simp; done) | (simp; omega))).trans (by go_simp); have hc0_1 : wn.cell? ⟨w.heap.size, 1, none⟩ = some (.int .i64 c) := (cell_ext hb (by unfold In; first | omega | (simp; done) | (simp; omega))).trans (by go_simp); have hf0_1 : wn.frozen? ⟨w.heap.size, 1, none⟩ = false := (frozen_ext hb (by unfold In; first | omega | (simp; done) | (simp; omega))).trans (by go_simp); have HXn := Lib.hid (Ext_trans hb (by repeat' (first | (with_reducible first | exact HX.out | apply Ext_alloc | apply Ext_drewN | apply Ext_drew | (refine Ext_set ?_ ?_) | exact Ext_refl _) | (simp only [World.size_alloc, World.size_setCell, World.size_drew, size_drewN]; omega) | (simp; done) | (simp; omega)))); clear hb HX; have HX := HXn; clear HXn
  go_wp2_with fail
  refine (made16_any r c A d cs HCS.out HCL.out _ (HR.out _ HX.out)).mono ?_
  rintro e w3 (⟨a, b, v, k, rfl, ⟨A1, n1, d1, rfl⟩, hb⟩ | ⟨g, b, x, p, rfl, hP, hx, hb, hg, hbb, hxx, hne1, hne2, hp6⟩)
  · have HXn := Lib.hid (Ext_trans hb (by repeat' (first | (with_reducible first | exact HX.out | apply Ext_alloc | apply Ext_drewN | apply Ext_drew | (refine Ext_set ?_ ?_) | exact Ext_refl _) | (simp only [World.size_alloc, World.size_setCell, World.size_drew, size_drewN]; omega) | (simp; done) | (simp; omega)))); clear hb HX; have HX := HXn; clear HXn
    go_wp2_with fail
    go_ret
    exact ⟨rfl, (by repeat' (first | (with_reducible first | exact HX.out | apply Ext_alloc | apply Ext_drewN | apply Ext_drew | (refine Ext_set ?_ ?_) | exact Ext_refl _) | (simp only [World.size_alloc, World.size_setCell, World.size_drew, size_drewN]; omega) | (simp; done) | (simp; omega)))⟩
  have hws : w.heap.size ≤ wn.heap.size := HX.out.size
  have hpn : p.n = (p.cells.length : Int) := rfl
  have hn1 : 1 ≤ p.n := hP.ok.sz.n0
  have hn2 : p.n ≤ 60 := by rw [hpn]; omega
  have HP3 := Lib.hid hP
  have HE3 := Lib.hid (Ext_trans hb HX.out)
  have hgw : w.heap.size ≤ g := by omega
  have hbw : w.heap.size ≤ b := by omega
  clear hP hx hb HX hg hbb hxx hne1 hne2 HCS HCL HR hpn hp6 hws hc0_0 hf0_0 hc0_1 hf0_1 hz0
  go_wp2_with fail
  have hE4 := Ext_alloc (o := .cells #[.int .i64 p.rows, .int .i64 p.cols, .slice (some ⟨x, 0, none⟩) p.cells.length p.cells.length, .int .i64 p.cur] 28) (Ext_refl w3)
  have HP4 := Lib.hid (HP3.out.ext hE4)
  have HE4 := Lib.hid (Ext_trans hE4 HE3.out)
  clear hE4 HP3 HE3
  generalize w3.alloc (.cells #[.int .i64 p.rows, .int .i64 p.cols, .slice (some ⟨x, 0, none⟩) p.cells.length p.cells.length, .int .i64 p.cur] 28) = W4 at *
  refine (few16_any A2 d2 xs [] _ (HO.out [] (by simp) _ HE4.out)).mono ?_
  rintro e w5 ⟨rfl, hb⟩
  have HP5 := Lib.hid (HP4.out.ext hb)
  have HE5 := Lib.hid (Ext_trans hb HE4.out)
  clear hb HP4 HE4
  cases hf : few16 xs
  · go_wp2_with fail
    go_ret
    exact ⟨rfl, HE5.out⟩
  have hxl : xs.length ≤ 20 := by
    unfold few16 at hf
    rw [Bool.and_eq_true, decide_eq_true_eq] at hf
    exact hf.2
  clear hf
  obtain ⟨fr, hfr, fr0, fr1⟩ : ∃ fr : Int, Int.tmod (bits .and .i64 from_ 255) p.n = fr ∧ 0 ≤ fr ∧ fr < p.n := by
    rw [and255]
    have h0 : 0 ≤ from_ % 256 := Int.emod_nonneg _ (by omega)
    rw [Int.tmod_eq_emod_of_nonneg h0]
    exact ⟨_, rfl, Int.emod_nonneg _ (by omega), Int.emod_lt_of_pos _ (by omega)⟩
  have hr0 : p.n ≠ 0 := by omega
  go_wp2_with fail
  refine (LenQ_any g b p _ HP5.out).mono ?_
  rintro e w6 ⟨rfl, rfl⟩
  go_wp2_with fail
  have HFR := Lib.hid hfr
  clear hfr hr0
  obtain ⟨F, hF⟩ : ∃ F, (Br.at0 p fr).run (xs.map OrdV.o) = F := ⟨_, rfl⟩
  have hfn : F.2.1 ≤ xs.length := by rw [← hF]; have := run_len (xs.map OrdV.o) (Br.at0 p fr); rw [List.length_map] at this; exact this
  refine (Paint_eq rfl rfl hF ⟨fr0, fr1⟩ _ HP5.out (HO.out [g, b] (by simp; omega) _ HE5.out)).mono ?_
  rintro e w7 ⟨rfl, hp7, hch, fa0, fa1⟩
  have HP7 := Lib.hid hp7
  have HE7 := Lib.hid (hch.ext HE5.out (by intro i hi; simp at hi; omega))
  clear hp7 hch HP5 HE5 hF HFR
  obtain ⟨⟨P, a, lk, ld⟩, m, e⟩ := F
  simp only at hfn HP7 fa0 fa1 ⊢
  have hPn := HP7.out.ok.sz.n1
  go_wp2_with fail
  refine (LenQ_any g b P _ HP7.out).mono ?_
  rintro e9 w8 ⟨rfl, rfl⟩
  go_wp2_with fail
  refine (PClone_any g b P _ HP7.out).mono ?_
  rintro e9 wa ⟨g2, c2, rfl, hq, hxa, hg2, hc2⟩
  have HPa := Lib.hid (HP7.out.ext hxa)
  have HEa := Lib.hid (Ext_trans hxa HE7.out)
  have HQa := Lib.hid hq
  have s0 := HE7.out.size
  have l1 := HP7.out.glt
  have l2 := HP7.out.clt
  have l3 := HQa.out.glt
  have l4 := HQa.out.clt
  clear hxa hq HP7 HE7
  go_wp2_with fail
  have hD := (Blk.new wa 5 #[.int .u8 bv]).alloc (.cells #[.int .u8 119, .int .i64 0, .int .u8 0, .bool false, .slice none 0 0, .slice none 0 0, .int .u8 0, .int .i64 0, .int .u8 0, .bool false, .slice none 0 0, .slice (some ⟨wa.heap.size, 0, none⟩) 1 1] 71)
  have hR := Blk.new (wa.alloc (.cells #[.int .u8 bv] 5)) 71 #[.int .u8 119, .int .i64 0, .int .u8 0, .bool false, .slice none 0 0, .slice none 0 0, .int .u8 0, .int .i64 0, .int .u8 0, .bool false, .slice none 0 0, .slice (some ⟨wa.heap.size, 0, none⟩) 1 1]
  rw [World.size_alloc] at hR
  have hE : Ext wa ((wa.alloc (.cells #[.int .u8 bv] 5)).alloc (.cells #[.int .u8 119, .int .i64 0, .int .u8 0, .bool false, .slice none 0 0, .slice none 0 0, .int .u8 0, .int .i64 0, .int .u8 0, .bool false, .slice none 0 0, .slice (some ⟨wa.heap.size, 0, none⟩) 1 1] 71)) := Ext_alloc (Ext_alloc (Ext_refl wa))
  obtain ⟨Wb, hW⟩ : ∃ Wb, (wa.alloc (.cells #[.int .u8 bv] 5)).alloc (.cells #[.int .u8 119, .int .i64 0, .int .u8 0, .bool false, .slice none 0 0, .slice none 0 0, .int .u8 0, .int .i64 0, .int .u8 0, .bool false, .slice none 0 0, .slice (some ⟨wa.heap.size, 0, none⟩) 1 1] 71) = Wb := ⟨_, rfl⟩
  rw [hW] at hD hR hE ⊢
  clear hW
  refine (Paint_row g2 c2 P (wa.heap.size + 1) 2 [ordN 119 0 0, ordD [bv] wa.heap.size] wa.heap.size [bv] a ⟨fa0, fa1⟩ _ (HQa.out.ext hE) hR (by simp; omega) ?hx (by show 2 ≤ maxLen; unfold maxLen; omega) (q := P) (at_ := a) (n := 0) (e := 31) ?hq).mono ?_
  case hx =>
    intro x hx
    simp only [List.mem_cons, List.not_mem_nil, or_false] at hx
    rcases hx with rfl | rfl
    · exact OrAt_nil _ _ _ _ _ (by decide) _
    · exact OrAt_data _ _ [bv] wa.heap.size hD (by simp; omega) (by show 1 ≤ maxLen; unfold maxLen; omega) (by simpa using hbv)
  case hq =>
    have := run_77 P a bv [(ordD [bv] wa.heap.size).o]
    rw [show [ordN 119 0 0, ordD [bv] wa.heap.size].map OrdV.o = ⟨119, 0, 0, false, [], []⟩ :: [(ordD [bv] wa.heap.size).o] from rfl, this]
    exact ⟨rfl, rfl, rfl, rfl⟩
  rintro e9 wc ⟨rfl, hs, hch⟩
  have HQc := Lib.hid hs
  have HPc := Lib.hid ((HPa.out.ext hE).chg hch (by simp; omega) (by simp; omega))
  have HEc := Lib.hid (hch.ext (Ext_trans hE HEa.out) (by intro i hi; simp at hi; omega))
  clear hs hch hE hD hR HQa HPa HEa
  go_wp2_with fail
  refine (PSame_r _ HPc.out HQc.out).mono ?_
  rintro e9 wd ⟨rfl, hb⟩
  have HQd := Lib.hid (HQc.out.ext hb)
  have HPd := Lib.hid (HPc.out.ext hb)
  have HEd := Lib.hid (Ext_trans hb HEc.out)
  clear hb HQc HPc HEc
  go_wp2_with fail
  have hEe : Ext wd (wd.alloc (.cells #[] 5)) := Ext_alloc (Ext_refl wd)
  have hBe := Blk.new wd 5 #[]
  obtain ⟨We, hWe⟩ : ∃ We, wd.alloc (.cells #[] 5) = We := ⟨_, rfl⟩
  rw [hWe] at hEe hBe ⊢
  clear hWe
  refine (LenQ_any g b P _ (HPd.out.ext hEe)).mono ?_
  rintro e9 wf ⟨rfl, rfl⟩
  obtain ⟨ln, hln⟩ : ∃ ln, P.cells.length = ln := ⟨_, rfl⟩
  have hPl : P.n = (ln : Int) := by rw [← hln]; rfl
  rw [hPl]
  have HOW := Lib.hid (own_newB (B := wd.heap.size) (sz := 1) hBe (by omega))
  have HEE := Lib.hid hEe
  have hlb : ln ≤ 4096 := by omega
  clear hEe hBe
  go_wp2_with fail
  go_loopw [21, 22, 108] (fun v21 _ v wr => ∃ k : Nat, k ≤ ln ∧ v = .int .i64 k ∧ Hid (wr.ownsRow wd.heap.size 5 1 v21 k (u8s (dat bv k))) ∧ Hid (Ext wd wr)) (fun _ _ v _ => ln - (intOf v).toNat)
  case atStart => exact ⟨0, by omega, rfl, HOW.out, HEE.out⟩
  case round =>
    clear HOW HEE
    obtain ⟨k, hk, rfl, HO2, H2⟩ := hrel
    obtain ⟨A9, c9, rfl⟩ := own_slice HO2.out
    by_cases hlt : k < ln
    · go_wp2_with (at_builtin; refine append_one wd.heap.size rfl (.tmp 111) (.tmp 116) 69 5 (.int .u8 0) 1 1 rfl Try.underlying69 infoU8b rfl (by decide) (.slice A9 _ c9) _ _ [.int .u8 (byt bv k)] HO2.out (by rfl) (by rfl) rfl rfl (by rfl) (by omega) (by unfold maxLen; omega) H2.out.size ?_; intro g9 c9 w1 hown hg hge; have HO3 := Lib.hid hown; have HG1 := Lib.hid hg; clear hown hg)
      go_roundw
      case rel => exact ⟨k + 1, by omega, by go_num, Lib.hid (by rw [dat_succ, u8s_append]; exact HO3.out), Lib.hid (Below.grown H2.out HG1.out H2.out.size (fun g hg => (own_base HO2.out g hg).1))⟩
      case measure => simp [intOf]; omega
    · have hkk : k = ln := by omega
      subst hkk
      go_wp2_with fail
      obtain ⟨Z, hZ⟩ : ∃ Z, ((Br.at0 P a).data (dat bv k)).p = Z := ⟨_, rfl⟩
      obtain ⟨z1, z2, z3, z4⟩ := data_round P a bv (by omega) fa0 fa1 k (by omega)
      rw [hZ] at z2 z3 z4
      rw [hPl, Int.add_emod_right, Int.emod_eq_of_lt fa0 (by omega)] at z1
      rw [hPl] at z2 z4
      have hrun : (Br.at0 P a).run [⟨0, 0, 0, false, [], dat bv k⟩] = ({ (Br.at0 P a).data (dat bv k) with laid := decide (0 < (dat bv k).length) }, 1, 0) := run_data P a bv (dat bv k)
      have HRD := Lib.hid (Rd.own HO2.out)
      have hoff : ∀ ad, A9 = some ad → wd.heap.size ≤ ad.block := fun ad e => by
        have := (own_base HO2.out ad.block (by rw [e]; rfl)).1
        omega
      have HPe := Lib.hid (HPd.out.ext H2.out)
      have HQe := Lib.hid (HQd.out.ext H2.out)
      have HEe := Lib.hid (Ext_trans H2.out HEd.out)
      have gd1 := HPd.out.glt
      have gd2 := HPd.out.clt
      have gd3 := HQd.out.glt
      have gd4 := HQd.out.clt
      have gs := H2.out.size
      clear HO2 H2 HPd HQd HEd
      have hR := Blk.new wr 71 #[.int .u8 0, .int .i64 0, .int .u8 0, .bool false, .slice none 0 0, .slice A9 k c9]
      have hE := Ext_alloc (o := .cells #[.int .u8 0, .int .i64 0, .int .u8 0, .bool false, .slice none 0 0, .slice A9 k c9] 71) (Ext_refl wr)
      obtain ⟨Wg, hW⟩ : ∃ Wg, wr.alloc (.cells #[.int .u8 0, .int .i64 0, .int .u8 0, .bool false, .slice none 0 0, .slice A9 k c9] 71) = Wg := ⟨_, rfl⟩
      rw [hW] at hR hE ⊢
      clear hW
      have hdl : (dat bv k).length = k := dat_len bv k
      refine (Paint_row g2 c2 P wr.heap.size 1 [⟨⟨0, 0, 0, false, [], dat bv k⟩, none, 0, A9, c9⟩] 0 [] a ⟨fa0, fa1⟩ _ (HQe.out.ext hE) (by show Blk Wg wr.heap.size 71 #[.int .u8 0, .int .i64 0, .int .u8 0, .bool false, .slice none 0 0, .slice A9 (dat bv k).length c9]; rw [hdl]; exact hR) (by simp; omega) ?hx2 (by show 1 ≤ maxLen; unfold maxLen; omega) (q := Z) (at_ := a) (n := 1) (e := 0) ?hq2).mono ?_
      case hx2 =>
        intro x hx
        simp only [List.mem_cons, List.not_mem_nil, or_false] at hx
        subst hx
        refine ⟨Rd.nil _ _ _, ?_, by simp, ?_, ⟨by simp, by simp⟩, by simp, ?_, fun _ _ h => absurd h (by simp), fun i hi _ ad e => ?_⟩
        · show Rd Wg 1 A9 (dat bv k).length (u8s (dat bv k))
          rw [hdl]
          exact Rd_ext hE HRD.out
        · show (dat bv k).length ≤ maxLen
          rw [hdl]; unfold maxLen; omega
        · intro y hy
          obtain ⟨i, _, rfl⟩ := List.mem_map.1 hy
          unfold byt
          exact ⟨Int.emod_nonneg _ (by omega), Int.emod_lt_of_pos _ (by omega)⟩
        · have := hoff ad e
          simp at hi
          omega
      case hq2 =>
        rw [show [(⟨⟨0, 0, 0, false, [], dat bv k⟩, none, 0, A9, c9⟩ : OrdV)].map OrdV.o = [⟨0, 0, 0, false, [], dat bv k⟩] from rfl, hrun]
        exact ⟨hZ, z1, rfl, rfl⟩
      rintro e9 wh ⟨rfl, hs, hch⟩
      have HQh := Lib.hid hs
      have HPh := Lib.hid ((HPe.out.ext hE).chg hch (by simp; omega) (by simp; omega))
      have HEh := Lib.hid (hch.ext (Ext_trans hE HEe.out) (by intro i hi; simp at hi; omega))
      have HZ4 := Lib.hid z4
      have HZ3 := Lib.hid z3
      clear hs hch hE hR HQe HPe HEe z4 z3 hrun HRD hZ
      go_wp2_with fail
      refine (LenQ_any g b P _ HPh.out).mono ?_
      rintro e9 wi ⟨rfl, rfl⟩
      rw [hPl]
      go_wp2_with fail
      go_loopw [26, 131] (fun _ v wr => ∃ j : Nat, j ≤ k ∧ v = .int .i64 j ∧ Hid (PlAt wr g2 c2 Z) ∧ Hid (PlAt wr g b P) ∧ Hid (Ext w wr)) (fun _ v _ => k - (intOf v).toNat)
      case atStart => exact ⟨0, by omega, rfl, HQh, HPh, HEh⟩
      case round =>
        clear HQh HPh HEh
        obtain ⟨j, hj, rfl, HQ, HP, HE⟩ := hrel
        by_cases hjk : j < k
        · have hx := HZ4.out j hjk
          unfold byt at hx
          have HXX := Lib.hid hx
          have hk0 : (k : Int) ≠ 0 := by omega
          clear hx
          go_wp2_with fail
          refine (LenQ_any g b P _ HP.out).mono ?_
          rintro e9 wj ⟨rfl, rfl⟩
          rw [hPl]
          go_wp2_with fail
          refine (At_eqB HXX.out _ HQ.out).mono ?_
          rintro e9 wk ⟨rfl, hb⟩
          have HQ2 := Lib.hid (HQ.out.ext hb)
          have HP2 := Lib.hid (HP.out.ext hb)
          have HE2 := Lib.hid (Ext_trans hb HE.out)
          clear hb HQ HP HE
          go_wp2_with fail
          go_roundw
          case rel => exact ⟨j + 1, by omega, by go_num, HQ2, HP2, HE2⟩
          case measure => simp [intOf]; omega
        · go_wp2_with fail
          refine (Cursor_any g2 c2 Z _ HQ.out).mono ?_
          rintro e9 wj ⟨rfl, hb⟩
          rw [HZ3.out]
          have HP2 := Lib.hid (HP.out.ext hb)
          have HE2 := Lib.hid (Ext_trans hb HE.out)
          clear hb HQ HP HE
          go_wp2_with fail
          refine (Cursor_any g b P _ HP2.out).mono ?_
          rintro e9 wk ⟨rfl, hb⟩
          go_wp2_with fail
          go_ret
          exact ⟨rfl, Ext_trans hb HE2.out⟩
set_option maxRecDepth 100000 in
theorem PaintRounds_walk {H : Type} (w : World) {base : Nat} (v : Value) (t0 : Handed Try.prog H w 23 v) (k0 : Value.okWide Try.prog w .any base 23 v) (A : Option Addr) (n d : Nat) (t1 : Handed Try.prog H w 24 (.slice A n d))
    (A2 : Option Addr) (n2 d2 : Nat) (t2 : Handed Try.prog H w 59 (.slice A2 n2 d2)) (a3 : Int) (w3 : (Lit.int .i64 a3).wf = true) (a4 : Int) (w4 : (Lit.int .u8 a4).wf = true) :
    Calls Try.prog 12 #[v, .slice A n d, .slice A2 n2 d2, .int .i64 a3, .int .u8 a4] w (Ret (.bool true) w) := by
  obtain ⟨r, c, rfl, _, _⟩ := size_arg t0 k0
  obtain ⟨cs, rfl, _, hl, hr, hcs⟩ := cel_rows t1
  obtain ⟨xs, rfl, hd2, ho, _⟩ := ord_rows t2
  exact PaintRounds_any r c a3 a4 (u8_wf w4) A A2 d d2 cs xs hd2 hcs hl w hr ho
end Go.Proofs.Ytmcfckdgolojlaa
