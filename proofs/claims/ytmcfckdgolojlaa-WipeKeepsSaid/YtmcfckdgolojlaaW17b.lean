/- Chapter 17: WipeKeeps. -/
import Derived.Test.YtmcfckdgolojlaaVC
import Derived.Test.YtmcfckdgolojlaaVG
import Derived.Test.YtmcfckdgolojlaaQ6
import Derived.Lib.QuietBelow
import Derived.BigQuiet
namespace Go.Proofs.Ytmcfckdgolojlaa
set_option linter.unusedVariables false
set_option linter.unusedSimpArgs false
open Go.RowKit
theorem Blk.ext' {w w' : World} {b : Nat} {t : TypeId} {cs : Array Value} (h : Blk w b t cs) (hb : Ext w w') : Blk w' b t cs := Blk.below' h hb
theorem At_eq {g c : Nat} {p : Pl} {i : Int} {y : Cel} (hy : p.at i = y) (w : World) (h : PlAt w g c p) : Calls Try.prog 21 #[.pointer (some ⟨g, 0, none⟩), .int .i64 i] w (Ret (.agg #[.int .u8 y.b, .bool y.ge, .bool y.st, .int .u8 y.li, .int .u8 y.co]) w) := by
  rw [← hy]; exact At_any g c p i w h
theorem Modify_eq {b nb : Int} (hb : modB b false = nb) (w : World) : Calls Try.prog 42 #[.int .u8 b, .bool false] w (Ret (.int .u8 nb) w) := by
  rw [← hb]; exact Modify_any b false w
theorem Open_eq {g c : Nat} {p : Pl} {i : Int} {o : Bool} (ho : p.open_ i = o) (w : World) (h : PlAt w g c p) : Calls Try.prog 22 #[.pointer (some ⟨g, 0, none⟩), .int .i64 i] w (Ret (.bool o) w) := by
  rw [← ho]; exact Open_any g c p i w h
theorem At_eq2 {g c : Nat} {p : Pl} {i : Int} {y : Cel} (w : World) (h : PlAt w g c p) (hy : p.at i = y) : Calls Try.prog 21 #[.pointer (some ⟨g, 0, none⟩), .int .i64 i] w (Ret (.agg #[.int .u8 y.b, .bool y.ge, .bool y.st, .int .u8 y.li, .int .u8 y.co]) w) := At_eq hy w h
theorem AtZ_eq {g c : Nat} {p : Pl} {i : Int} (w : World) (h : PlAt w g c p) (hy : p.at i = Cel.zero) : Calls Try.prog 21 #[.pointer (some ⟨g, 0, none⟩), .int .i64 i] w (Ret (.agg #[.int .u8 0, .bool false, .bool false, .int .u8 0, .int .u8 0]) w) := At_eq hy w h
theorem PSame_ret {g c g2 c2 : Nat} {p : Pl} (w : World) (h : PlAt w g c p) (h2 : PlAt w g2 c2 p) : Calls Try.prog 35 #[.pointer (some ⟨g, 0, none⟩), .pointer (some ⟨g2, 0, none⟩)] w (Ret (.bool true) w) :=
  (PSame_any g c g2 c2 p w h h2).mono fun e w' ⟨h1, m, hm⟩ => ⟨h1, by rw [hm]; exact Ext_drewN (Ext_refl _)⟩
set_option maxRecDepth 100000 in
set_option maxHeartbeats 16000000 in
theorem WipeKeeps_any (r c at_ : Int) (A : Option Addr) (d : Nat) (cs : List Cel) (hcs : ∀ x ∈ cs, 0 ≤ x.b ∧ x.b < 256) (hcl : cs.length ≤ maxLen) (w : World) (hr : Rd w 5 A cs.length (cs.flatMap Cel.enc)) :
    Calls Try.prog 8 #[.agg #[.int .i64 r, .int .i64 c], .slice A cs.length d, .int .i64 at_] w (Ret (.bool true) w) := by
  have HCS := Lib.hid hcs
  have HCL := Lib.hid hcl
  have HR := Lib.hid (fun w' (h : Ext w w') => Rd_ext h hr)
  have HX := Lib.hid (Ext_refl w)
  clear hcs hcl hr
  go_enter Try.func8, Try.ntmps8
  go_wp2_with fail
  refine (alive17_any _).mono ?_
  rintro e wn ⟨rfl, hb⟩
  have hz0 : w.heap.size < wn.heap.size := (by have := hb.size; (try simp only [World.size_alloc, World.size_setCell, World.size_drew, size_drewN] at this); omega); have hc0_0 : wn.cell? ⟨w.heap.size, 0, none⟩ = some (.int .i64 r) := (cell_ext hb (by unfold In; first | omega | (simp; done) | (simp; omega))).trans (by go_simp); have hf0_0 : wn.frozen? ⟨w.heap.size, 0, none⟩ = false := (frozen_ext hb (by unfold In; first | omega | (simp; done) | (simp; omega))).trans (by go_simp); have hc0_1 : wn.cell? ⟨w.heap.size, 1, none⟩ = some (.int .i64 c) := (cell_ext hb (by unfold In; first | omega | (simp; done) | (simp; omega))).trans (by go_simp); have hf0_1 : wn.frozen? ⟨w.heap.size, 1, none⟩ = false := (frozen_ext hb (by unfold In; first | omega | (simp; done) | (simp; omega))).trans (by go_simp); have HXn := Lib.hid (Ext_trans hb (by repeat' (first | (with_reducible first | exact HX.out | apply Ext_alloc | apply Ext_drewN | apply Ext_drew | (refine Ext_set ?_ ?_) | exact Ext_refl _) | (simp only [World.size_alloc, World.size_setCell, World.size_drew, size_drewN]; omega) | (simp; done) | (simp; omega)))); clear hb HX; have HX := HXn; clear HXn
  go_wp2_with fail
  refine (made17_any r c A d cs HCS.out HCL.out _ (HR.out _ HX.out)).mono ?_
  rintro e w3 (⟨a, b, v, k, rfl, ⟨A1, n1, d1, rfl⟩, hb⟩ | ⟨g, b, x, p, rfl, hP, hx, hb, hg, hbb, hxx, hne1, hne2, hp6⟩)
  · have HXn := Lib.hid (Ext_trans hb (by repeat' (first | (with_reducible first | exact HX.out | apply Ext_alloc | apply Ext_drewN | apply Ext_drew | (refine Ext_set ?_ ?_) | exact Ext_refl _) | (simp only [World.size_alloc, World.size_setCell, World.size_drew, size_drewN]; omega) | (simp; done) | (simp; omega)))); clear hb HX; have HX := HXn; clear HXn
    go_wp2_with fail
    go_ret
    exact ⟨rfl, (by repeat' (first | (with_reducible first | exact HX.out | apply Ext_alloc | apply Ext_drewN | apply Ext_drew | (refine Ext_set ?_ ?_) | exact Ext_refl _) | (simp only [World.size_alloc, World.size_setCell, World.size_drew, size_drewN]; omega) | (simp; done) | (simp; omega)))⟩
  have hws : w.heap.size ≤ wn.heap.size := HX.out.size
  have hpn : p.n = (p.cells.length : Int) := rfl
  have hn1 : 1 ≤ p.n := hP.ok.sz.n0
  have hn2 : p.n ≤ 60 := by rw [hpn]; omega
  have HPN := Lib.hid hpn
  have HP3 := Lib.hid hP
  have HE3 := Lib.hid (Ext_trans hb HX.out)
  clear hP hx hb HX hg hbb hxx hne1 hne2 HCS HCL HR hpn hp6 hws hc0_0 hf0_0 hc0_1 hf0_1 hz0
  go_wp2_with fail
  have hE4 := Ext_alloc (o := .cells #[.int .i64 p.rows, .int .i64 p.cols, .slice (some ⟨x, 0, none⟩) p.cells.length p.cells.length, .int .i64 p.cur] 28) (Ext_refl w3)
  have HP4 := Lib.hid (HP3.out.ext hE4)
  have HE4 := Lib.hid (Ext_trans hE4 HE3.out)
  clear hE4 HP3 HE3
  generalize w3.alloc (.cells #[.int .i64 p.rows, .int .i64 p.cols, .slice (some ⟨x, 0, none⟩) p.cells.length p.cells.length, .int .i64 p.cur] 28) = W4 at *
  refine (PClone_any g b p _ HP4.out).mono ?_
  rintro e w7 ⟨g2, c2, rfl, hq, hx7, hg2, hc2⟩
  have HP7 := Lib.hid (HP4.out.ext hx7)
  have HE7 := Lib.hid (Ext_trans hx7 HE4.out)
  have HQ7 := Lib.hid hq
  have hl6 : g < W4.heap.size ∧ b < W4.heap.size := ⟨HP4.out.glt, HP4.out.clt⟩
  have hw6 : w.heap.size ≤ W4.heap.size := HE4.out.size
  have hx7s := hx7.size
  clear hx7 hq HP4 HE4
  go_wp2_with fail
  refine (PClone_any g b p _ HP7.out).mono ?_
  rintro e w8 ⟨g3, c3, rfl, hr3, hx8, hg3, hc3⟩
  have HP8 := Lib.hid (HP7.out.ext hx8)
  have HE8 := Lib.hid (Ext_trans hx8 HE7.out)
  have HQ8 := Lib.hid (HQ7.out.ext hx8)
  have HR8 := Lib.hid hr3
  have hl7 : g2 < w7.heap.size ∧ c2 < w7.heap.size := ⟨HQ7.out.glt, HQ7.out.clt⟩
  clear hx8 hr3 HP7 HE7 HQ7
  go_wp2_with fail
  refine (Rest_keep g2 c2 p at_ _ HQ8.out).mono ?_
  rintro e w9 ⟨Q, n, is, rfl, hq9, hch, hKQ, hAR⟩
  have HQ9 := Lib.hid hq9
  have n1 : g ∉ [g2, c2] ∧ b ∉ [g2, c2] := by simp; omega
  have n2 : g3 ∉ [g2, c2] ∧ c3 ∉ [g2, c2] := by simp; omega
  have HP9 := Lib.hid (HP8.out.chg hch n1.1 n1.2)
  have HR9 := Lib.hid (HR8.out.chg hch n2.1 n2.2)
  have HE9 := Lib.hid (hch.ext HE8.out (by intro i hi; simp at hi; omega))
  have HKQ := Lib.hid hKQ
  have HAR := Lib.hid hAR
  clear hq9 hch HP8 HR8 HE8 HQ8 hKQ hAR
  go_wp2_with fail
  refine (Open_keep g3 c3 p _ HR9.out).mono ?_
  rintro e w10 ⟨R, m, rfl, hr10, hch, hKR, hAO⟩
  have HR10 := Lib.hid hr10
  have n3 : g ∉ [g3, c3] ∧ b ∉ [g3, c3] := by simp; omega
  have n4 : g2 ∉ [g3, c3] ∧ c2 ∉ [g3, c3] := by simp; omega
  have HP10 := Lib.hid (HP9.out.chg hch n3.1 n3.2)
  have HQ10 := Lib.hid (HQ9.out.chg hch n4.1 n4.2)
  have HE10 := Lib.hid (hch.ext HE9.out (by intro i hi; simp at hi; omega))
  have HKR := Lib.hid hKR
  have HAO := Lib.hid hAO
  clear hr10 hch HP9 HR9 HE9 HQ9 n1 n2 n3 n4 hg3 hc3 hg2 hc2 hKR hAO hl6 hw6 hx7s hl7
  go_wp2_with (go_at_call 18; refine (LenQ_any g b p _ HP10.out).mono ?_; rintro e w11 ⟨rfl, rfl⟩)
  go_loopw [14, 15, 43] (fun _ _ v wr => ∃ k : Nat, (k : Int) ≤ p.n ∧ v = .int .i64 k ∧ Hid (PlAt wr g b p) ∧ Hid (PlAt wr g2 c2 Q) ∧ Hid (PlAt wr g3 c3 R) ∧ Hid (Ext w wr)) (fun _ _ v _ => (p.n - intOf v).toNat)
  case atStart => exact ⟨0, by omega, rfl, HP10, HQ10, HR10, HE10⟩
  case round =>
    clear HP10 HQ10 HR10 HE10
    obtain ⟨k, hk, rfl, HP, HQ, HR, HE⟩ := hrel
    by_cases hlt : (k : Int) < p.n
    · have hk0 : (0 : Int) ≤ (k : Int) := by omega
      have hKq := HKQ.out.2.2.2.2 (k : Int) hk0 hlt
      have hKr := HKR.out.2 (k : Int) hk0 hlt
      obtain ⟨y, hy⟩ : ∃ y, p.at (k : Int) = y := ⟨_, rfl⟩
      obtain ⟨yq, hyq⟩ : ∃ yq, Q.at (k : Int) = yq := ⟨_, rfl⟩
      obtain ⟨yr, hyr⟩ : ∃ yr, R.at (k : Int) = yr := ⟨_, rfl⟩
      have hst : p.st (k : Int) = y.st := by unfold Pl.st; rw [hy]
      rw [hst, hy, hyq] at hKq
      rw [hst, hy, hyr] at hKr
      go_wp2_with fail
      refine (At_eq hy _ HP.out).mono ?_
      rintro e w12 ⟨rfl, hb⟩
      have hE5 := Ext_alloc (o := .cells #[.int .u8 y.b, .bool y.ge, .bool y.st, .int .u8 y.li, .int .u8 y.co] 38) hb
      have HP5 := Lib.hid (HP.out.ext hE5)
      have HQ5 := Lib.hid (HQ.out.ext hE5)
      have HR5 := Lib.hid (HR.out.ext hE5)
      have HE5 := Lib.hid (Ext_trans hE5 HE.out)
      have hB5 := Blk.new w12 38 #[.int .u8 y.b, .bool y.ge, .bool y.st, .int .u8 y.li, .int .u8 y.co]
      have HPK := Lib.hid hy
      have HQK := Lib.hid hyq
      have HRK := Lib.hid hyr
      clear hE5 hb hy hyq hyr HP HQ HR HE
      go_wp2_with fail
      generalize w12.alloc (.cells #[.int .u8 y.b, .bool y.ge, .bool y.st, .int .u8 y.li, .int .u8 y.co] 38) = W5 at *
      generalize w12.heap.size = yb at *
      have z0 := hB5.cell 0
      have z1 := hB5.cell 1
      have z2 := hB5.cell 2
      have z3 := hB5.cell 3
      have z4 := hB5.cell 4
      simp at z0 z1 z2 z3 z4
      have z0 := cell_regrown z0
      have z1 := cell_regrown z1
      have z2 := cell_regrown z2
      have z3 := cell_regrown z3
      have z4 := cell_regrown z4
      have hF := field_b
      have hF2 := field_st
      have HYB := Lib.hid hB5.lt
      clear hB5
      cases hs : y.st
      · cases ho : p.open_ (k : Int)
        · have HOP := Lib.hid ho
          have e1 := hKq.2 hs ho
          have e2 := hKr.2.1 hs ho
          rw [e1] at HQK
          rw [e2] at HRK
          clear hKq hKr ho e1 e2 hst
          refine wp_region_quiet_below rfl (by kernel_rfl) ?_
          repeat (go_big_quiet_step (fail))
          refine wpQuiet_nil ?_
          intro _ hw'
          obtain ⟨⟨dq, osq⟩, hw''⟩ := hw'
          subst hw''
          have hE6 := below_regrown W5 dq osq
          have y0 := z0 dq osq
          have y1 := z1 dq osq
          have y2 := z2 dq osq
          have y3 := z3 dq osq
          have y4 := z4 dq osq
          have hP6 := HP5.out.ext hE6
          have hQ6 := HQ5.out.ext hE6
          have hR6 := HR5.out.ext hE6
          have hE65 := Ext_trans hE6 HE5.out
          clear z0 z1 z2 z3 z4 HP5 HQ5 HR5 HE5 hE6
          generalize «Sort».grow (redrawn W5 dq) osq = W6 at *
          have z0 := cell_regrown y0
          have z1 := cell_regrown y1
          have z2 := cell_regrown y2
          have z3 := cell_regrown y3
          have z4 := cell_regrown y4
          have HP5 := Lib.hid hP6
          have HQ5 := Lib.hid hQ6
          have HR5 := Lib.hid hR6
          have HE5 := Lib.hid hE65
          clear hP6 hQ6 hR6 hE65
          go_wp2_with fail
          refine wp_region_quiet_below rfl (by kernel_rfl) ?_
          repeat (go_big_quiet_step (first | (go_at_call 21; exact Calls.regrown_of (At_eq2 _ (by first | exact HQ5.out.ext (below_regrown _ _ _) | exact HR5.out.ext (below_regrown _ _ _) | exact HP5.out.ext (below_regrown _ _ _)) (by first | exact HQK.out | exact HRK.out | exact HPK.out))) | (go_at_call 42; exact Calls.regrown_of (Modify_eq (by first | exact HMQ.out | exact HMR.out | exact HMY.out) _)) | (go_at_call 22; exact Calls.regrown_of (Open_eq HOP.out _ (HP5.out.ext (below_regrown _ _ _))))))
          refine wpQuiet_nil ?_
          intro _ hw'
          obtain ⟨⟨dq, osq⟩, hw''⟩ := hw'
          subst hw''
          have hE6 := below_regrown W6 dq osq
          have y0 := z0 dq osq
          have y1 := z1 dq osq
          have y2 := z2 dq osq
          have y3 := z3 dq osq
          have y4 := z4 dq osq
          have hP6 := HP5.out.ext hE6
          have hQ6 := HQ5.out.ext hE6
          have hR6 := HR5.out.ext hE6
          have hE65 := Ext_trans hE6 HE5.out
          clear z0 z1 z2 z3 z4 HP5 HQ5 HR5 HE5 hE6
          generalize «Sort».grow (redrawn W6 dq) osq = W7 at *
          have z0 := cell_regrown y0
          have z1 := cell_regrown y1
          have z2 := cell_regrown y2
          have z3 := cell_regrown y3
          have z4 := cell_regrown y4
          have HP5 := Lib.hid hP6
          have HQ5 := Lib.hid hQ6
          have HR5 := Lib.hid hR6
          have HE5 := Lib.hid hE65
          clear hP6 hQ6 hR6 hE65
          go_wp2_with (go_at_call 22; refine (Open_eq HOP.out _ HP5.out).mono ?_; rintro e w6 ⟨rfl, hb⟩; have HP6 := Lib.hid (HP5.out.ext hb); have HQ6 := Lib.hid (HQ5.out.ext hb); have HR6 := Lib.hid (HR5.out.ext hb); have HE6 := Lib.hid (Ext_trans hb HE5.out); clear hb)
          go_roundw
          case rel => exact ⟨k + 1, by omega, by go_num, HP6.out, HQ6.out, HR6.out, HE6.out⟩
          case measure => simp [intOf]; omega
        · have HOP := Lib.hid ho
          have e2 := hKr.2.2 ho
          rw [e2] at HRK
          clear hKq hKr ho e2 hst
          refine wp_region_quiet_below rfl (by kernel_rfl) ?_
          repeat (go_big_quiet_step (fail))
          refine wpQuiet_nil ?_
          intro _ hw'
          obtain ⟨⟨dq, osq⟩, hw''⟩ := hw'
          subst hw''
          have hE6 := below_regrown W5 dq osq
          have y0 := z0 dq osq
          have y1 := z1 dq osq
          have y2 := z2 dq osq
          have y3 := z3 dq osq
          have y4 := z4 dq osq
          have hP6 := HP5.out.ext hE6
          have hQ6 := HQ5.out.ext hE6
          have hR6 := HR5.out.ext hE6
          have hE65 := Ext_trans hE6 HE5.out
          clear z0 z1 z2 z3 z4 HP5 HQ5 HR5 HE5 hE6
          generalize «Sort».grow (redrawn W5 dq) osq = W6 at *
          have z0 := cell_regrown y0
          have z1 := cell_regrown y1
          have z2 := cell_regrown y2
          have z3 := cell_regrown y3
          have z4 := cell_regrown y4
          have HP5 := Lib.hid hP6
          have HQ5 := Lib.hid hQ6
          have HR5 := Lib.hid hR6
          have HE5 := Lib.hid hE65
          clear hP6 hQ6 hR6 hE65
          go_wp2_with fail
          refine wp_region_quiet_below rfl (by kernel_rfl) ?_
          repeat (go_big_quiet_step (first | (go_at_call 21; exact Calls.regrown_of (At_eq2 _ (by first | exact HQ5.out.ext (below_regrown _ _ _) | exact HR5.out.ext (below_regrown _ _ _) | exact HP5.out.ext (below_regrown _ _ _)) (by first | exact HQK.out | exact HRK.out | exact HPK.out))) | (go_at_call 42; exact Calls.regrown_of (Modify_eq (by first | exact HMQ.out | exact HMR.out | exact HMY.out) _)) | (go_at_call 22; exact Calls.regrown_of (Open_eq HOP.out _ (HP5.out.ext (below_regrown _ _ _))))))
          refine wpQuiet_nil ?_
          intro _ hw'
          obtain ⟨⟨dq, osq⟩, hw''⟩ := hw'
          subst hw''
          have hE6 := below_regrown W6 dq osq
          have y0 := z0 dq osq
          have y1 := z1 dq osq
          have y2 := z2 dq osq
          have y3 := z3 dq osq
          have y4 := z4 dq osq
          have hP6 := HP5.out.ext hE6
          have hQ6 := HQ5.out.ext hE6
          have hR6 := HR5.out.ext hE6
          have hE65 := Ext_trans hE6 HE5.out
          clear z0 z1 z2 z3 z4 HP5 HQ5 HR5 HE5 hE6
          generalize «Sort».grow (redrawn W6 dq) osq = W7 at *
          have z0 := cell_regrown y0
          have z1 := cell_regrown y1
          have z2 := cell_regrown y2
          have z3 := cell_regrown y3
          have z4 := cell_regrown y4
          have HP5 := Lib.hid hP6
          have HQ5 := Lib.hid hQ6
          have HR5 := Lib.hid hR6
          have HE5 := Lib.hid hE65
          clear hP6 hQ6 hR6 hE65
          go_wp2_with (go_at_call 22; refine (Open_eq HOP.out _ HP5.out).mono ?_; rintro e w6 ⟨rfl, hb⟩; have HP6 := Lib.hid (HP5.out.ext hb); have HQ6 := Lib.hid (HQ5.out.ext hb); have HR6 := Lib.hid (HR5.out.ext hb); have HE6 := Lib.hid (Ext_trans hb HE5.out); clear hb)
          refine (At_eq2 _ HR6.out HRK.out).mono ?_
          rintro e w8 ⟨rfl, hb⟩
          have HP7 := Lib.hid (HP6.out.ext hb)
          have HQ7 := Lib.hid (HQ6.out.ext hb)
          have HR7 := Lib.hid (HR6.out.ext hb)
          have HE7 := Lib.hid (Ext_trans hb HE6.out)
          clear hb
          dsimp only [Cel.zero]
          go_wp2_with fail
          go_roundw
          case rel => exact ⟨k + 1, by omega, by go_num, HP7.out, HQ7.out, HR7.out, HE7.out⟩
          case measure => simp [intOf]; omega
      · obtain ⟨m1, m2⟩ := hKq.1 hs
        obtain ⟨m3, m4⟩ := hKr.1 hs
        obtain ⟨nb, hnb⟩ : ∃ nb, modB y.b false = nb := ⟨_, rfl⟩
        rw [hnb] at m1 m3
        have HMY := Lib.hid hnb
        have HMQ := Lib.hid m1
        have HMR := Lib.hid m3
        have ho : p.open_ (k : Int) = false := by
          rcases Bool.eq_false_or_eq_true (p.open_ (k : Int)) with h1 | h1
          · have := open_st h1
            rw [hst, hs] at this
            cases this
          · exact h1
        have HOP := Lib.hid ho
        clear hKq hKr ho hnb m1 m3 hst
        refine wp_region_quiet_below rfl (by kernel_rfl) ?_
        repeat (go_big_quiet_step (first | (go_at_call 21; exact Calls.regrown_of (At_eq2 _ (by first | exact HQ5.out.ext (below_regrown _ _ _) | exact HR5.out.ext (below_regrown _ _ _) | exact HP5.out.ext (below_regrown _ _ _)) (by first | exact HQK.out | exact HRK.out | exact HPK.out))) | (go_at_call 42; exact Calls.regrown_of (Modify_eq (by first | exact HMQ.out | exact HMR.out | exact HMY.out) _)) | (go_at_call 22; exact Calls.regrown_of (Open_eq HOP.out _ (HP5.out.ext (below_regrown _ _ _))))))
        refine wpQuiet_nil ?_
        intro _ hw'
        obtain ⟨⟨dq, osq⟩, hw''⟩ := hw'
        subst hw''
        have hE6 := below_regrown W5 dq osq
        have y0 := z0 dq osq
        have y1 := z1 dq osq
        have y2 := z2 dq osq
        have y3 := z3 dq osq
        have y4 := z4 dq osq
        have hP6 := HP5.out.ext hE6
        have hQ6 := HQ5.out.ext hE6
        have hR6 := HR5.out.ext hE6
        have hE65 := Ext_trans hE6 HE5.out
        clear z0 z1 z2 z3 z4 HP5 HQ5 HR5 HE5 hE6
        generalize «Sort».grow (redrawn W5 dq) osq = W6 at *
        have z0 := cell_regrown y0
        have z1 := cell_regrown y1
        have z2 := cell_regrown y2
        have z3 := cell_regrown y3
        have z4 := cell_regrown y4
        have HP5 := Lib.hid hP6
        have HQ5 := Lib.hid hQ6
        have HR5 := Lib.hid hR6
        have HE5 := Lib.hid hE65
        clear hP6 hQ6 hR6 hE65
        go_wp2_with fail
        refine wp_region_quiet_below rfl (by kernel_rfl) ?_
        repeat (go_big_quiet_step (fail))
        refine wpQuiet_nil ?_
        intro _ hw'
        obtain ⟨⟨dq, osq⟩, hw''⟩ := hw'
        subst hw''
        have hE6 := below_regrown W6 dq osq
        have y0 := z0 dq osq
        have y1 := z1 dq osq
        have y2 := z2 dq osq
        have y3 := z3 dq osq
        have y4 := z4 dq osq
        have hP6 := HP5.out.ext hE6
        have hQ6 := HQ5.out.ext hE6
        have hR6 := HR5.out.ext hE6
        have hE65 := Ext_trans hE6 HE5.out
        clear z0 z1 z2 z3 z4 HP5 HQ5 HR5 HE5 hE6
        generalize «Sort».grow (redrawn W6 dq) osq = W7 at *
        have z0 := cell_regrown y0
        have z1 := cell_regrown y1
        have z2 := cell_regrown y2
        have z3 := cell_regrown y3
        have z4 := cell_regrown y4
        have HP5 := Lib.hid hP6
        have HQ5 := Lib.hid hQ6
        have HR5 := Lib.hid hR6
        have HE5 := Lib.hid hE65
        clear hP6 hQ6 hR6 hE65
        go_wp2_with (go_at_call 22; refine (Open_eq HOP.out _ HP5.out).mono ?_; rintro e w6 ⟨rfl, hb⟩; have HP6 := Lib.hid (HP5.out.ext hb); have HQ6 := Lib.hid (HQ5.out.ext hb); have HR6 := Lib.hid (HR5.out.ext hb); have HE6 := Lib.hid (Ext_trans hb HE5.out); clear hb)
        go_roundw
        case rel => exact ⟨k + 1, by omega, by go_num, HP6.out, HQ6.out, HR6.out, HE6.out⟩
        case measure => simp [intOf]; omega
    · have HX := hk
      obtain ⟨q1, q2, q3, q4, q5⟩ := HKQ.out
      clear q4 q5 HX HKQ HKR HPN hn1 hn2
      have HOP := Lib.hid q1.symm
      have HP5 := HP
      have HQ5 := HQ
      have HR5 := HR
      have HE5 := HE
      clear HP HQ HR HE q1
      cases is
      · clear q3
        go_wp2_with fail
        refine (Open_eq HOP.out _ HP5.out).mono ?_
        rintro e w6 ⟨rfl, hb⟩
        have HQ6 := Lib.hid (HQ5.out.ext hb)
        have HR6 := Lib.hid (HR5.out.ext hb)
        have HE6 := Lib.hid (Ext_trans hb HE5.out)
        clear hb HP5 HQ5 HR5 HE5
        go_wp2_with fail
        refine (PClone_any g2 c2 Q _ HQ6.out).mono ?_
        rintro e w7 ⟨g4, c4, rfl, hq, hx7, hg4, hc4⟩
        have HS7 := Lib.hid hq
        have HQ7 := Lib.hid (HQ6.out.ext hx7)
        have HR7 := Lib.hid (HR6.out.ext hx7)
        have HE7 := Lib.hid (Ext_trans hx7 HE6.out)
        have f1 := HQ6.out.glt
        have f2 := HQ6.out.clt
        have f3 := HR6.out.glt
        have f4 := HR6.out.clt
        have f5 := HE6.out.size
        have f6 := hx7.size
        have f7 := HS7.out.glt
        have f8 := HS7.out.clt
        clear hq hx7 HQ6 HR6 HE6
        go_wp2_with fail
        refine (PClone_any g3 c3 R _ HR7.out).mono ?_
        rintro e w8 ⟨g5, c5, rfl, hq, hx8, hg5, hc5⟩
        have HT8 := Lib.hid hq
        have HS8 := Lib.hid (HS7.out.ext hx8)
        have HQ8 := Lib.hid (HQ7.out.ext hx8)
        have HR8 := Lib.hid (HR7.out.ext hx8)
        have HE8 := Lib.hid (Ext_trans hx8 HE7.out)
        clear hq hx8 HQ7 HR7 HE7 HS7
        go_wp2_with fail
        refine (HAR.out _ g4 c4 HS8.out).mono ?_
        rintro e w9 ⟨⟨n9, b9, rfl⟩, hq, hch⟩
        have HS9 := Lib.hid hq
        have HQ9 := Lib.hid (HQ8.out.chg hch (by simp; omega) (by simp; omega))
        have HR9 := Lib.hid (HR8.out.chg hch (by simp; omega) (by simp; omega))
        have HT9 := Lib.hid (HT8.out.chg hch (by simp; omega) (by simp; omega))
        have HE9 := Lib.hid (hch.ext HE8.out (by intro i hi; simp at hi; omega))
        clear hq hch HS8 HQ8 HR8 HT8 HE8
        go_wp2_with fail
        refine (HAO.out _ g5 c5 HT9.out).mono ?_
        rintro e w10 ⟨⟨n10, rfl⟩, hq, hch⟩
        have HT5 := Lib.hid hq
        have HQ5 := Lib.hid (HQ9.out.chg hch (by simp; omega) (by simp; omega))
        have HR5 := Lib.hid (HR9.out.chg hch (by simp; omega) (by simp; omega))
        have HS5 := Lib.hid (HS9.out.chg hch (by simp; omega) (by simp; omega))
        have HE5 := Lib.hid (hch.ext HE9.out (by intro i hi; simp at hi; omega))
        clear hq hch HS9 HQ9 HR9 HT9 HE9 f1 f2 f3 f4 f5 f6 f7 f8 hg4 hc4 hg5 hc5
        go_wp2_with fail
        refine (PSame_ret _ HS5.out HQ5.out).mono ?_
        rintro e w11 ⟨rfl, hb⟩
        have HT6 := Lib.hid (HT5.out.ext hb)
        have HR6 := Lib.hid (HR5.out.ext hb)
        have HE6 := Lib.hid (Ext_trans hb HE5.out)
        clear hb HS5 HQ5 HT5 HR5 HE5
        go_wp2_with fail
        refine (PSame_ret _ HT6.out HR6.out).mono ?_
        rintro e w12 ⟨rfl, hb⟩
        go_wp2
        go_ret
        exact ⟨rfl, Ext_trans hb HE6.out⟩
      · have HQK := Lib.hid (q3 rfl)
        clear q3
        go_wp2_with fail
        refine (Open_eq HOP.out _ HP5.out).mono ?_
        rintro e w5 ⟨rfl, hb⟩
        have HQ6 := Lib.hid (HQ5.out.ext hb)
        have HR6 := Lib.hid (HR5.out.ext hb)
        have HE6 := Lib.hid (Ext_trans hb HE5.out)
        clear hb HP5 HQ5 HR5 HE5
        go_wp2_with fail
        refine (AtZ_eq _ HQ6.out HQK.out).mono ?_
        rintro e w6 ⟨rfl, hb⟩
        have HQ5 := Lib.hid (HQ6.out.ext hb)
        have HR5 := Lib.hid (HR6.out.ext hb)
        have HE5 := Lib.hid (Ext_trans hb HE6.out)
        clear hb HQ6 HR6 HE6
        have HQ6 := HQ5
        have HR6 := HR5
        have HE6 := HE5
        clear HQ5 HR5 HE5
        go_wp2_with fail
        refine (PClone_any g2 c2 Q _ HQ6.out).mono ?_
        rintro e w7 ⟨g4, c4, rfl, hq, hx7, hg4, hc4⟩
        have HS7 := Lib.hid hq
        have HQ7 := Lib.hid (HQ6.out.ext hx7)
        have HR7 := Lib.hid (HR6.out.ext hx7)
        have HE7 := Lib.hid (Ext_trans hx7 HE6.out)
        have f1 := HQ6.out.glt
        have f2 := HQ6.out.clt
        have f3 := HR6.out.glt
        have f4 := HR6.out.clt
        have f5 := HE6.out.size
        have f6 := hx7.size
        have f7 := HS7.out.glt
        have f8 := HS7.out.clt
        clear hq hx7 HQ6 HR6 HE6
        go_wp2_with fail
        refine (PClone_any g3 c3 R _ HR7.out).mono ?_
        rintro e w8 ⟨g5, c5, rfl, hq, hx8, hg5, hc5⟩
        have HT8 := Lib.hid hq
        have HS8 := Lib.hid (HS7.out.ext hx8)
        have HQ8 := Lib.hid (HQ7.out.ext hx8)
        have HR8 := Lib.hid (HR7.out.ext hx8)
        have HE8 := Lib.hid (Ext_trans hx8 HE7.out)
        clear hq hx8 HQ7 HR7 HE7 HS7
        go_wp2_with fail
        refine (HAR.out _ g4 c4 HS8.out).mono ?_
        rintro e w9 ⟨⟨n9, b9, rfl⟩, hq, hch⟩
        have HS9 := Lib.hid hq
        have HQ9 := Lib.hid (HQ8.out.chg hch (by simp; omega) (by simp; omega))
        have HR9 := Lib.hid (HR8.out.chg hch (by simp; omega) (by simp; omega))
        have HT9 := Lib.hid (HT8.out.chg hch (by simp; omega) (by simp; omega))
        have HE9 := Lib.hid (hch.ext HE8.out (by intro i hi; simp at hi; omega))
        clear hq hch HS8 HQ8 HR8 HT8 HE8
        go_wp2_with fail
        refine (HAO.out _ g5 c5 HT9.out).mono ?_
        rintro e w10 ⟨⟨n10, rfl⟩, hq, hch⟩
        have HT5 := Lib.hid hq
        have HQ5 := Lib.hid (HQ9.out.chg hch (by simp; omega) (by simp; omega))
        have HR5 := Lib.hid (HR9.out.chg hch (by simp; omega) (by simp; omega))
        have HS5 := Lib.hid (HS9.out.chg hch (by simp; omega) (by simp; omega))
        have HE5 := Lib.hid (hch.ext HE9.out (by intro i hi; simp at hi; omega))
        clear hq hch HS9 HQ9 HR9 HT9 HE9 f1 f2 f3 f4 f5 f6 f7 f8 hg4 hc4 hg5 hc5
        go_wp2_with fail
        refine (PSame_ret _ HS5.out HQ5.out).mono ?_
        rintro e w11 ⟨rfl, hb⟩
        have HT6 := Lib.hid (HT5.out.ext hb)
        have HR6 := Lib.hid (HR5.out.ext hb)
        have HE6 := Lib.hid (Ext_trans hb HE5.out)
        clear hb HS5 HQ5 HT5 HR5 HE5
        go_wp2_with fail
        refine (PSame_ret _ HT6.out HR6.out).mono ?_
        rintro e w12 ⟨rfl, hb⟩
        go_wp2
        go_ret
        exact ⟨rfl, Ext_trans hb HE6.out⟩
set_option maxRecDepth 100000 in
theorem WipeKeeps_walk {H : Type} (w : World) {base : Nat} (v : Value) (t0 : Handed Try.prog H w 23 v) (k0 : Value.okWide Try.prog w .any base 23 v) (A : Option Addr) (n d : Nat) (t1 : Handed Try.prog H w 24 (.slice A n d))
    (a2 : Int) (w2 : (Lit.int .i64 a2).wf = true) :
    Calls Try.prog 8 #[v, .slice A n d, .int .i64 a2] w (Ret (.bool true) w) := by
  obtain ⟨r, c, rfl, _, _⟩ := size_arg t0 k0
  obtain ⟨cs, rfl, _, hl, hr, hcs⟩ := cel_rows t1
  exact WipeKeeps_any r c a2 A d cs hcs hl w hr
end Go.Proofs.Ytmcfckdgolojlaa
