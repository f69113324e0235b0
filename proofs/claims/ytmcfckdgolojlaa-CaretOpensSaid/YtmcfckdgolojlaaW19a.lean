/- Chapter 19: CaretOpens. -/
import Derived.Test.YtmcfckdgolojlaaQ6
import Derived.Test.YtmcfckdgolojlaaS3
namespace Go.Proofs.Ytmcfckdgolojlaa
set_option linter.unusedVariables false
set_option linter.unusedSimpArgs false
open Go.RowKit
set_option maxRecDepth 100000 in
set_option maxHeartbeats 4000000 in
theorem CaretOpens_any (r c at_ rows cols : Int) (A : Option Addr) (d : Nat) (cs : List Cel) (hcs : ∀ x ∈ cs, 0 ≤ x.b ∧ x.b < 256) (hcl : cs.length ≤ maxLen) (w : World) (hr : Rd w 5 A cs.length (cs.flatMap Cel.enc)) :
    Calls Try.prog 5 #[.agg #[.int .i64 r, .int .i64 c], .slice A cs.length d, .int .i64 at_, .int .i64 rows, .int .i64 cols] w (Ret (.bool true) w) := by
  have HCS := Lib.hid hcs
  have HCL := Lib.hid hcl
  have HR := Lib.hid (fun w' (h : Ext w w') => Rd_ext h hr)
  have HX := Lib.hid (Ext_refl w)
  clear hcs hcl hr
  go_enter Try.func5, Try.ntmps5
  go_wp2_with fail
  refine (alive_any _).mono ?_
  rintro e wn ⟨rfl, hb⟩
  have hz0 : w.heap.size < wn.heap.size := (by have := hb.size; (try simp only [World.size_alloc, World.size_setCell, World.size_drew, size_drewN] at this); omega); have hc0_0 : wn.cell? ⟨w.heap.size, 0, none⟩ = some (.int .i64 r) := (cell_ext hb (by unfold In; first | omega | (simp; done) | (simp; omega))).trans (by go_simp); have hf0_0 : wn.frozen? ⟨w.heap.size, 0, none⟩ = false := (frozen_ext hb (by unfold In; first | omega | (simp; done) | (simp; omega))).trans (by go_simp); have hc0_1 : wn.cell? ⟨w.heap.size, 1, none⟩ = some (.int .i64 c) := (cell_ext hb (by unfold In; first | omega | (simp; done) | (simp; omega))).trans (by go_simp); have hf0_1 : wn.frozen? ⟨w.heap.size, 1, none⟩ = false := (frozen_ext hb (by unfold In; first | omega | (simp; done) | (simp; omega))).trans (by go_simp); have HXn := Lib.hid (Ext_trans hb (by repeat' (first | (with_reducible first | exact HX.out | apply Ext_alloc | apply Ext_drewN | apply Ext_drew | (refine Ext_set ?_ ?_) | exact Ext_refl _) | (simp only [World.size_alloc, World.size_setCell, World.size_drew, size_drewN]; omega) | (simp; done) | (simp; omega)))); clear hb HX; have HX := HXn; clear HXn
  go_wp2_with fail
  refine (made_any r c at_ A d cs HCS.out HCL.out _ (HR.out _ HX.out)).mono ?_
  rintro e w3 (⟨a, b, v, k, rfl, ⟨A1, n1, d1, rfl⟩, hb⟩ | ⟨g, b, x, p, rfl, hP, hx, hb, hg, hbb, hxx, hne1, hne2, hp6⟩)
  · have HXn := Lib.hid (Ext_trans hb (by repeat' (first | (with_reducible first | exact HX.out | apply Ext_alloc | apply Ext_drewN | apply Ext_drew | (refine Ext_set ?_ ?_) | exact Ext_refl _) | (simp only [World.size_alloc, World.size_setCell, World.size_drew, size_drewN]; omega) | (simp; done) | (simp; omega)))); clear hb HX; have HX := HXn; clear HXn
    go_wp2_with fail
    go_ret
    exact ⟨rfl, (by repeat' (first | (with_reducible first | exact HX.out | apply Ext_alloc | apply Ext_drewN | apply Ext_drew | (refine Ext_set ?_ ?_) | exact Ext_refl _) | (simp only [World.size_alloc, World.size_setCell, World.size_drew, size_drewN]; omega) | (simp; done) | (simp; omega)))⟩
  · go_wp2_with fail
    have hws : w.heap.size ≤ wn.heap.size := HX.out.size
    have hg' : w.heap.size ≤ g := by omega
    have hb' : w.heap.size ≤ b := by omega
    have hl3 : g < w3.heap.size ∧ b < w3.heap.size ∧ x < w3.heap.size := ⟨hP.obj.lt, hP.row.lt, hx.lt⟩
    have hE := Ext_alloc (o := .cells #[.int .i64 p.rows, .int .i64 p.cols, .slice (some ⟨x, 0, none⟩) p.cells.length p.cells.length, .int .i64 p.cur] 28) (Ext_refl w3)
    have HP := Lib.hid (hP.ext hE)
    have HXC := Lib.hid (Blk.below' hx hE)
    have HBX := Lib.hid (Blk.new w3 28 #[.int .i64 p.rows, .int .i64 p.cols, .slice (some ⟨x, 0, none⟩) p.cells.length p.cells.length, .int .i64 p.cur])
    have HE := Lib.hid (Ext_trans hE (Ext_trans hb HX.out))
    have HOK := Lib.hid hP.ok
    have HBY := Lib.hid hP.ok.by_
    have hn0 := hP.ok.sz.n0
    have hlx : w3.heap.size ∉ [g, b] := by simp; omega
    have hxl : x ∉ [g, b] := by simp; omega
    have hgl : ∀ i, i ∈ [g, b] → w.heap.size ≤ i := by intro i hi; simp at hi; omega
    have hc4 : p.cells.length ≤ 4096 := by omega
    clear hP hx hE hb HX hg hbb hxx hne1 hne2 hl3 HCS HCL HR
    generalize w3.heap.size = bx at *
    generalize w3.alloc (.cells #[.int .i64 p.rows, .int .i64 p.cols, .slice (some ⟨x, 0, none⟩) p.cells.length p.cells.length, .int .i64 p.cur] 28) = W4 at *
    rw [and255, and255]
    have hro : 0 ≤ rows % 256 ∧ rows % 256 < 256 := by omega
    have hco : 0 ≤ cols % 256 ∧ cols % 256 < 256 := by omega
    generalize rows % 256 = ro at *
    generalize cols % 256 = co at *
    have hnr : wrap64 (-ro) = -ro := IntWalk.wrap64_in _ (by omega)
    have hnc : wrap64 (-co) = -co := IntWalk.wrap64_in _ (by omega)
    have HRC := Lib.hid (And.intro hro hco)
    clear hro hco
    refine (Cursor_any g b p _ HP.out).mono ?_
    rintro e w5 ⟨rfl, hb⟩
    have HP5 := Lib.hid (HP.out.ext hb)
    have HXC5 := Lib.hid (Blk.below' HXC.out hb)
    have HBX5 := Lib.hid (Blk.below' HBX.out hb)
    have HE5 := Lib.hid (Ext_trans hb HE.out)
    clear hb HP HXC HBX HE
    go_wp2_with fail
    refine (CMove_any g b p _ _ _ HP5.out).mono ?_
    rintro e w6 ⟨rfl, hs, hch⟩
    have HP6 := Lib.hid hs
    have HXC6 := Lib.hid (HXC5.out.chg hch hxl)
    have HBX6 := Lib.hid (HBX5.out.chg hch hlx)
    have HE6 := Lib.hid (hch.ext HE5.out hgl)
    clear hs hch HP5 HXC5 HBX5 HE5
    go_wp2_with fail
    refine (CMove_any g b _ _ _ _ HP6.out).mono ?_
    rintro e w7 ⟨rfl, hs, hch⟩
    rw [move_back HOK.out, point_point _ _ _ (by simp [Pl.has]; exact ⟨HOK.out.k0, HOK.out.k1⟩), point_self] at hs
    rw [move_back HOK.out]
    have HP7 := Lib.hid hs
    have HXC7 := Lib.hid (HXC6.out.chg hch hxl)
    have HBX7 := Lib.hid (HBX6.out.chg hch hlx)
    have HE7 := Lib.hid (hch.ext HE6.out hgl)
    clear hs hch HP6 HXC6 HBX6 HE6
    have u0 := HBX7.out.cell 0
    have u1 := HBX7.out.cell 1
    have u2 := HBX7.out.cell 2
    have u3 := HBX7.out.cell 3
    simp at u0 u1 u2 u3
    go_wp2_with fail
    refine (Opens_any x p hc4 HBY.out _ HXC7.out).mono ?_
    rintro e w8 ⟨A8, c8, rfl, -, hb⟩
    have HP8 := Lib.hid (HP7.out.ext hb)
    have HE8 := Lib.hid (Ext_trans hb HE7.out)
    clear hb u0 u1 u2 u3 HP7 HE7 HXC7 HBX7
    have HOP := Lib.hid (goes_open (p := p) HBY.out)
    have HNO := Lib.hid (goes_none (p := p) HBY.out)
    generalize p.opensL.length = m at *
    go_wp2_with fail
    obtain ⟨sm, hsm⟩ : ∃ sm, decide (0 < m) = sm := ⟨_, rfl⟩
    rw [hsm]
    have HSM := Lib.hid hsm
    clear hsm
    go_loopw [16, 17, 52] (fun _ _ v wr => ∃ k : Nat, k ≤ 4 ∧ v = .int .i64 k ∧ Hid (∃ q, PlAt wr g b (p.point q)) ∧ Hid (Ext w wr)) (fun _ _ v _ => 4 - (intOf v).toNat)
    case atStart => exact ⟨0, Nat.zero_le _, rfl, ⟨p.cur, by rw [point_self]; exact HP8.out⟩, HE8.out⟩
    case round =>
      obtain ⟨k, hk, rfl, HQ, HE⟩ := hrel
      obtain ⟨q, hq⟩ := HQ.out
      have HP := Lib.hid hq
      clear hq HQ HP8 HE8
      by_cases hlt : k < 4
      · have HW := Lib.hid (HOP.out)
        go_wp2_with fail
        refine (Point_any g b _ _ _ HP.out).mono ?_
        rintro e w9 ⟨rfl, hs, hch⟩
        rw [point_point _ _ _ (by simp [Pl.has]; exact ⟨HOK.out.k0, HOK.out.k1⟩), point_self] at hs
        have HP9 := Lib.hid hs
        have HE9 := Lib.hid (hch.ext HE.out hgl)
        clear hs hch HP HE
        have hkk : k = 0 ∨ k = 1 ∨ k = 2 ∨ k = 3 := by omega
        obtain ⟨gv, hgv⟩ : ∃ gv, gv = p.goes k := ⟨_, rfl⟩
        have HGV := Lib.hid hgv
        have HV1 := Lib.hid (fun h => (HOP.out h k : p.open_ (p.goes k) = true))
        have HV0 := Lib.hid (fun h h' => HNO.out h hn0 h' k)
        rw [← hgv] at HV1 HV0
        clear hgv
        rcases hkk with hq | hq | hq | hq
        all_goals
          (first
          | (go_wp2_with fail
             refine (Tab_any g b _ _ HP9.out).mono ?_
             have HG := Lib.hid (show gv = p.seekM p.cur 1 by rw [HGV.out, hq]; rfl))
          | (go_wp2_with fail
             refine (Back_any g b _ _ HP9.out).mono ?_
             have HG := Lib.hid (show gv = p.backM by rw [HGV.out, hq]; rfl))
          | (go_wp2_with fail
             refine (Newline_any g b _ _ HP9.out).mono ?_
             have HG := Lib.hid (show gv = p.newlineM by rw [HGV.out, hq]; rfl))
          | (go_wp2_with fail
             refine (CHome_any g b _ _ HP9.out).mono ?_
             have HG := Lib.hid (show gv = p.homeM by rw [HGV.out, hq]; rfl)))
          rintro e wa ⟨rfl, hs, hch⟩
          rw [← HG.out] at hs ⊢
          have HPa := Lib.hid hs
          have HEa := Lib.hid (hch.ext HE9.out hgl)
          clear hs hch HP9 HE9 HG
          have hms := HSM.out
          cases sm
          rotate_left 1
          · have HV := Lib.hid (HV1.out (of_decide_eq_true hms))
            clear hms
            go_wp2_with fail
            refine (Open_any g b _ _ _ HPa.out).mono ?_
            rintro e wb ⟨rfl, hb⟩
            rw [point_open, HV.out]
            have HPb := Lib.hid (HPa.out.ext hb)
            have HEb := Lib.hid (Ext_trans hb HEa.out)
            clear hb HPa HEa
            go_wp2_with fail
            go_roundw
            case rel => exact ⟨k + 1, by omega, by go_num, ⟨_, HPb.out⟩, HEb.out⟩
            case measure => simp [intOf]; omega
          · have HM0 := Lib.hid (show m = 0 by have := of_decide_eq_false hms; omega)
            clear hms
            go_wp2_with fail
            refine (Formatted_any g b _ _ HPa.out).mono ?_
            rintro e wb ⟨rfl, hb⟩
            rw [point_lookM]
            have HPb := Lib.hid (HPa.out.ext hb)
            have HEb := Lib.hid (Ext_trans hb HEa.out)
            clear hb HPa HEa
            obtain ⟨fm, hfm⟩ : ∃ fm, decide (0 ≤ p.lookM 0 1) = fm := ⟨_, rfl⟩
            rw [hfm]
            cases fm
            rotate_left 1
            · have HV := Lib.hid (HV0.out HM0.out (of_decide_eq_true hfm))
              clear hfm
              rw [HV.out]
              go_wp2_with fail
              go_roundw
              case rel => exact ⟨k + 1, by omega, by go_num, ⟨_, HPb.out⟩, HEb.out⟩
              case measure => simp [intOf]; omega
            · clear hfm
              go_wp2_with fail
              go_roundw
              case rel => exact ⟨k + 1, by omega, by go_num, ⟨_, HPb.out⟩, HEb.out⟩
              case measure => simp [intOf]; omega
      · have : k = 4 := by omega
        subst this
        go_wp2_with fail
        go_ret
        exact ⟨rfl, HE.out⟩
set_option maxRecDepth 100000 in
theorem CaretOpens_walk {H : Type} (w : World) {base : Nat} (v : Value) (t0 : Handed Try.prog H w 23 v) (k0 : Value.okWide Try.prog w .any base 23 v) (A : Option Addr) (n d : Nat) (t1 : Handed Try.prog H w 24 (.slice A n d))
    (a2 : Int) (w2 : (Lit.int .i64 a2).wf = true) (a3 : Int) (w3 : (Lit.int .i64 a3).wf = true) (a4 : Int) (w4 : (Lit.int .i64 a4).wf = true) :
    Calls Try.prog 5 #[v, .slice A n d, .int .i64 a2, .int .i64 a3, .int .i64 a4] w (Ret (.bool true) w) := by
  obtain ⟨r, c, rfl, _, _⟩ := size_arg t0 k0
  obtain ⟨cs, rfl, _, hl, hr, hcs⟩ := cel_rows t1
  exact CaretOpens_any r c a2 a3 a4 A d cs hcs hl w hr
end Go.Proofs.Ytmcfckdgolojlaa
