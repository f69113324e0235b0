/- Chapter 20: TypingRows. -/
import Derived.Test.YtmldhgebbgalbaaY7
import Derived.Test.YtmldhgebbgalbaaY8
import Derived.Test.YtmldhgebbgalbaaQ6
namespace Go.Proofs.Ytmldhgebbgalbaa
set_option linter.unusedVariables false
set_option linter.unusedSimpArgs false
open Go.RowKit Go.WideShapes
theorem made20_any (r c at_ : Int) (A : Option Addr) (d : Nat) (cs : List Cel) (hcs : ∀ x ∈ cs, 0 ≤ x.b ∧ x.b < 256) (hcl : cs.length ≤ maxLen) (w : World) (hr : Rd w 5 A cs.length (cs.flatMap Cel.enc)) :
    Calls Try.prog 8 #[.agg #[.int .i64 r, .int .i64 c], .slice A cs.length d, .int .i64 at_] w (MadeP w) := by
  rcases cellsM_cases r c with h | h
  · exact made_bad r c at_ A _ d h w
  · obtain ⟨m, hm⟩ := Int.eq_ofNat_of_zero_le (show 0 ≤ cellsM r c by have := h.n0; omega)
    rw [hm] at h
    by_cases h6 : 60 < m
    · exact made_big r c at_ m A _ d h h6 w
    · exact made_ok r c at_ m A d cs hcs hcl h (by omega) w hr
theorem PSame_r {g c g2 c2 : Nat} {p : Pl} (w : World) (h : PlAt w g c p) (h2 : PlAt w g2 c2 p) : Calls Try.prog 21 #[.pointer (some ⟨g, 0, none⟩), .pointer (some ⟨g2, 0, none⟩)] w (Ret (.bool true) w) :=
  (PSame_any g c g2 c2 p w h h2).mono fun e w' ⟨h1, m, hm⟩ => ⟨h1, by rw [hm]; exact Ext_drewN (Ext_refl _)⟩
/-- how far the law's own loop is: all is well yet, or it has met an error -/
def StrGo (F : Pl × Nat × Int) (l : List Int) (ins : Bool) (k : Nat) (Q : Pl) (f : Int) : Prop := (f = 0 ∧ F = ((Q.strM ins (l.drop k)).1, k + (Q.strM ins (l.drop k)).2.1, (Q.strM ins (l.drop k)).2.2)) ∨ (f ≠ 0 ∧ k < l.length ∧ F = (Q, k, f))
set_option maxRecDepth 100000 in
set_option maxHeartbeats 16000000 in
theorem TypingRows_any (r c at_ : Int) (ins : Bool) (A A2 : Option Addr) (d d2 : Nat) (cs : List Cel) (l : List Int) (hl : l.length ≤ maxLen) (hbs : ∀ x ∈ l, 0 ≤ x ∧ x < 256) (hcs : ∀ x ∈ cs, 0 ≤ x.b ∧ x.b < 256) (hcl : cs.length ≤ maxLen) (w : World) (hr : Rd w 5 A cs.length (cs.flatMap Cel.enc)) (hr2 : Rd w 1 A2 l.length (u8s l)) :
    Calls Try.prog 6 #[.agg #[.int .i64 r, .int .i64 c], .slice A cs.length d, .int .i64 at_, .slice A2 l.length d2, .bool ins] w (Ret (.bool true) w) := by
  have HR2 := Lib.hid hr2
  have HBS := Lib.hid hbs
  have HLM := Lib.hid hl
  have HA2 : Hid (0 < l.length → ∀ ad, A2 = some ad → ad.block < w.heap.size) := Lib.hid (fun hn ad e => by
    obtain ⟨b, o, e', hc⟩ := hr2.2 hn
    rw [e] at e'
    cases e'
    have h0 : 0 < (u8s l).length := by simpa [u8s] using hn
    exact block_lt_of_cell (hc 0 (u8s l)[0] (List.getElem?_eq_getElem h0)))
  clear hr2 hbs hl
  have HCS := Lib.hid hcs
  have HCL := Lib.hid hcl
  have HR := Lib.hid (fun w' (h : Ext w w') => Rd_ext h hr)
  have HX := Lib.hid (Ext_refl w)
  clear hcs hcl hr
  go_enter Try.func6, Try.ntmps6
  go_wp2_with fail
  refine (alive20_any _).mono ?_
  rintro e wn ⟨rfl, hb⟩
  have hz0 : w.heap.size < wn.heap.size := (by have := hb.size; (try simp only [World.size_alloc, World.size_setCell, World.size_drew, size_drewN] at this); omega); have hc0_0 : wn.cell? ⟨w.heap.size, 0, none⟩ = some (.int .i64 r) := (cell_ext hb (by unfold In; first | omega | (simp; done) | (simp; omega))).trans (by go_simp); have hf0_0 : wn.frozen? ⟨w.heap.size, 0, none⟩ = false := (frozen_ext hb (by unfold In; first | omega | (simp; done) | (simp; omega))).trans (by go_simp); have hc0_1 : wn.cell? ⟨w.heap.size, 1, none⟩ = some (.int .i64 c) := (cell_ext hb (by unfold In; first | omega | (simp; done) | (simp; omega))).trans (by go_simp); have hf0_1 : wn.frozen? ⟨w.heap.size, 1, none⟩ = false := (frozen_ext hb (by unfold In; first | omega | (simp; done) | (simp; omega))).trans (by go_simp); have HXn := Lib.hid (Ext_trans hb (by repeat' (first | (with_reducible first | exact HX.out | apply Ext_alloc | apply Ext_drewN | apply Ext_drew | (refine Ext_set ?_ ?_) | exact Ext_refl _) | (simp only [World.size_alloc, World.size_setCell, World.size_drew, size_drewN]; omega) | (simp; done) | (simp; omega)))); clear hb HX; have HX := HXn; clear HXn
  go_wp2_with fail
  refine (made20_any r c at_ A d cs HCS.out HCL.out _ (HR.out _ HX.out)).mono ?_
  rintro e w3 (⟨a, b, v, k, rfl, ⟨A1, n1, d1, rfl⟩, hb⟩ | ⟨g, b, x, p, rfl, hP, hx, hb, hg, hbb, hxx, hne1, hne2, hp6⟩)
  · have HXn := Lib.hid (Ext_trans hb (by repeat' (first | (with_reducible first | exact HX.out | apply Ext_alloc | apply Ext_drewN | apply Ext_drew | (refine Ext_set ?_ ?_) | exact Ext_refl _) | (simp only [World.size_alloc, World.size_setCell, World.size_drew, size_drewN]; omega) | (simp; done) | (simp; omega)))); clear hb HX; have HX := HXn; clear HXn
    go_wp2_with fail
    go_ret
    exact ⟨rfl, (by repeat' (first | (with_reducible first | exact HX.out | apply Ext_alloc | apply Ext_drewN | apply Ext_drew | (refine Ext_set ?_ ?_) | exact Ext_refl _) | (simp only [World.size_alloc, World.size_setCell, World.size_drew, size_drewN]; omega) | (simp; done) | (simp; omega)))⟩
  have hws : w.heap.size ≤ wn.heap.size := HX.out.size
  have HP3 := Lib.hid hP
  have HE3 := Lib.hid (Ext_trans hb HX.out)
  have hgw : w.heap.size ≤ g := by omega
  have hbw : w.heap.size ≤ b := by omega
  clear hP hx hb HX hg hbb hxx hws hc0_0 hf0_0 hc0_1 hf0_1 hz0 HCS HCL HR hne1 hne2 hp6
  go_upto_region 4 with (fail)
  have hE4 := Ext_alloc (o := .cells #[.int .i64 p.rows, .int .i64 p.cols, .slice (some ⟨x, 0, none⟩) p.cells.length p.cells.length, .int .i64 p.cur] 29) (Ext_refl w3)
  have HP4 := Lib.hid (HP3.out.ext hE4)
  have HE4 := Lib.hid (Ext_trans hE4 HE3.out)
  clear hE4 HP3 HE3
  generalize w3.alloc (.cells #[.int .i64 p.rows, .int .i64 p.cols, .slice (some ⟨x, 0, none⟩) p.cells.length p.cells.length, .int .i64 p.cur] 29) = W4 at *
  by_cases h40 : (40 : Int) < (l.length : Int)
  · go_wp2_with fail
    go_ret
    exact ⟨rfl, HE4.out⟩
  go_wp2_with fail
  refine (PClone_any g b p _ HP4.out).mono ?_
  rintro e w5 ⟨g2, c2, rfl, hq, hxa, hg2, hc2⟩
  have HP5 := Lib.hid (HP4.out.ext hxa)
  have HQ5 := Lib.hid hq
  have HE5 := Lib.hid (Ext_trans hxa HE4.out)
  have s0 := HE4.out.size
  have l1 := HP4.out.glt
  have l2 := HP4.out.clt
  clear hxa hq HP4
  have hoff1 : ∀ i, i ∈ [g, b] → 0 < l.length → Off i A2 := fun i hi hn ad e h => by
    have := HA2.out hn ad e
    simp at hi
    omega
  have hoff2 : ∀ i, i ∈ [g2, c2] → 0 < l.length → Off i A2 := fun i hi hn ad e h => by
    have := HA2.out hn ad e
    simp at hi
    omega
  have HOF1 := Lib.hid hoff1
  have HOF2 := Lib.hid hoff2
  clear hoff1 hoff2
  obtain ⟨F, hF⟩ : ∃ F, p.strM ins l = F := ⟨_, rfl⟩
  have hS := String_any g b p ins A2 d2 l HLM.out HBS.out w5 HP5.out (Rd_ext HE5.out HR2.out) HOF1.out
  rw [hF] at hS
  have HF := Lib.hid hF
  clear hF
  go_wp2_with fail
  refine hS.mono ?_
  rintro e w6 ⟨rfl, hs, hch⟩
  have HP6 := Lib.hid hs
  have HQ6 := Lib.hid (HQ5.out.chg hch (by simp; omega) (by simp; omega))
  have HE6 := Lib.hid (hch.ext HE5.out (by intro i hi; simp at hi; omega))
  clear hs hch hS HP5 HQ5 HE5
  have hgb : g ≠ b := by
    obtain ⟨k1, t1, h1⟩ := HP6.out
    rintro rfl
    exact absurd (Blk.same h1.obj h1.row).1 (by decide)
  have HF0 : Hid (StrGo F l ins 0 p 0) := Lib.hid (.inl ⟨rfl, by rw [List.drop_zero, HF.out, Nat.zero_add]⟩)
  clear HF
  go_wp2_with fail
  go_loopw [17, 18] (fun v17 v18 wr => ∃ (k : Nat) (Q : Pl) (f : Int), k ≤ l.length ∧ v17 = .int .i64 k ∧ v18 = .int .i64 f ∧ Hid (StrGo F l ins k Q f) ∧ Hid (PlAt wr g b F.1) ∧ Hid (PlAt wr g2 c2 Q) ∧ Hid (Ext w wr)) (fun v17 v18 _ => (l.length - (intOf v17).toNat) + (if intOf v18 = 0 then 1 else 0))
  case atStart => exact ⟨0, p, 0, by omega, rfl, rfl, HF0, HP6, HQ6, HE6⟩
  case round =>
    clear HF0 HP6 HQ6 HE6
    obtain ⟨k, Q, f, hk, rfl, rfl, HF, HP, HQ, HE⟩ := hrel
    by_cases hf0 : f = 0
    · subst hf0
      have hF := HF.out.resolve_right (fun h => h.1 rfl)
      have hFF := hF.2
      clear HF hF
      by_cases hlt : k < l.length
      · obtain ⟨rb, ro, u, eA, hu, d0⟩ := (Rd_ext HE.out HR2.out).at1 hlt
        rw [u8s_get, List.getElem?_eq_getElem hlt, Option.map_some, Option.some.injEq] at hu
        subst hu
        have hxb := HBS.out _ (List.getElem_mem hlt)
        rw [List.drop_eq_getElem_cons hlt] at hFF
        unfold Pl.strM at hFF
        have HFF := Lib.hid hFF
        have hL : k + 1 < 9223372036854775808 := by have := HLM.out; unfold maxLen at this; omega
        clear hFF
        generalize l[k] = x9 at *
        subst eA
        obtain ⟨q2, e2, hq2⟩ : ∃ q2 e2, Q.putM x9 ins = (q2, e2) := ⟨_, _, rfl⟩
        have hput := Put_any g2 c2 Q x9 hxb ins wr HQ.out
        rw [hq2] at hput HFF
        clear hq2
        go_wp2_with fail
        refine hput.mono ?_
        rintro e w7 ⟨rfl, hs, hch⟩
        have HQ7 := Lib.hid hs
        have HP7 := Lib.hid (HP.out.chg hch (by simp; omega) (by simp; omega))
        have HE7 := Lib.hid (hch.ext HE.out (by intro i hi; simp at hi; omega))
        clear hs hch hput HP HQ HE d0
        by_cases he : e2 = 0
        · subst he
          have hr := HFF.out
          rw [if_pos rfl] at hr
          have HF2 : Hid (StrGo F l ins (k + 1) q2 0) := Lib.hid (.inl ⟨rfl, hr.trans (Prod.ext rfl (Prod.ext (by show k + (_ + 1) = k + 1 + _; omega) rfl))⟩)
          clear hr HFF
          go_wp2_with fail
          go_roundw
          case rel => exact ⟨k + 1, q2, 0, by omega, by go_num, rfl, HF2, HP7, HQ7, HE7⟩
          case measure => simp [intOf]; omega
        · have hr := HFF.out
          rw [if_neg he] at hr
          have he2 : (e2 == 0) = false := by rw [beq_eq_false_iff_ne]; exact he
          have HF2 : Hid (StrGo F l ins k q2 e2) := Lib.hid (.inr ⟨he, hlt, hr.trans (by simp)⟩)
          clear hr HFF
          go_wp2_with fail
          go_roundw
          case rel => exact ⟨k, q2, e2, by omega, by go_num, rfl, HF2, HP7, HQ7, HE7⟩
          case measure => simp [intOf, he]
      · rw [List.drop_eq_nil_of_le (by omega)] at hFF
        unfold Pl.strM at hFF
        have hFE : F = (Q, k, 0) := by rw [hFF]; simp
        clear hFF
        subst hFE
        go_wp2_with fail
        refine (PSame_r _ HP.out HQ.out).mono ?_
        rintro e wa ⟨rfl, hb⟩
        have HPa := Lib.hid (HP.out.ext hb)
        have HQa := Lib.hid (HQ.out.ext hb)
        have HEa := Lib.hid (Ext_trans hb HE.out)
        clear hb HP HQ HE
        go_wp2_with fail
        refine (Cursor_any g b Q _ HPa.out).mono ?_
        rintro e wb ⟨rfl, hb⟩
        have HPb := Lib.hid (HPa.out.ext hb)
        have HQb := Lib.hid (HQa.out.ext hb)
        have HEb := Lib.hid (Ext_trans hb HEa.out)
        clear hb HPa HQa HEa
        have hend := End_any g b Q wb HPb.out
        cases ho : Q.open_ Q.cur
        · have he : Q.endM = (Q, 41) := by unfold Pl.endM; rw [if_pos ho]
          rw [he] at hend
          have HO := Lib.hid ho
          clear ho he
          go_wp2_with fail
          refine hend.mono ?_
          rintro e wc ⟨rfl, hs, hch⟩
          have HPc := Lib.hid hs
          have HQc := Lib.hid (HQb.out.chg hch (by simp; omega) (by simp; omega))
          have HEc := Lib.hid (hch.ext HEb.out (by intro i hi; simp at hi; omega))
          clear hs hch hend
          go_wp2_with fail
          refine (PSame_r _ HPc.out HQc.out).mono ?_
          rintro e wd ⟨rfl, hb1⟩
          go_wp2_with fail
          refine (Open_any g b Q _ _ (HPc.out.ext hb1)).mono ?_
          rintro e wf ⟨rfl, hb2⟩
          rw [HO.out]
          go_wp2_with fail
          go_ret
          exact ⟨rfl, Ext_trans hb2 (Ext_trans hb1 HEc.out)⟩
        · obtain ⟨z1, z2, Good, meas, hz⟩ := end_zeros HPb.out.ok ho
          obtain ⟨R, hR⟩ : ∃ R, Q.endM = (R, 0) := ⟨Q.endM.1, Prod.ext rfl z1⟩
          rw [hR] at hend z2 hz
          simp only at z2 hz
          have HZ := Lib.hid hz
          have HRC := Lib.hid z2
          clear ho hR z1 z2 hz
          go_wp2_with fail
          refine hend.mono ?_
          rintro e wc ⟨rfl, hs, hch⟩
          have HPc := Lib.hid hs
          have HEc := Lib.hid (hch.ext HEb.out (by intro i hi; simp at hi; omega))
          have HG0 := Lib.hid HZ.out.g0
          clear hs hch hend HPb HQb HEb
          go_wp2_with fail
          go_loopw [20] (fun v20 wr => ∃ i : Int, v20 = .int .i64 i ∧ Hid (Good i) ∧ Hid (PlAt wr g b R) ∧ Hid (Ext w wr)) (fun v20 _ => meas (intOf v20))
          case atStart => exact ⟨Q.cur, rfl, HG0, HPc, HEc⟩
          case round =>
            clear HG0 HPc HEc
            obtain ⟨i, rfl, HG, HP, HE⟩ := hrel
            obtain ⟨i0, i1, hat⟩ := HZ.out.g1 i HG.out
            have hrn := HP.out.ok.sz.n1
            have hw : IntKind.i64.wrap (i + 1) = i + 1 := IntWalk.i64_in _ (by omega)
            have hr0 : R.n ≠ 0 := by omega
            obtain ⟨y, hy⟩ : ∃ y, (i + 1) % R.n = y := ⟨_, rfl⟩
            have hty : Int.tmod (i + 1) R.n = y := by rw [Int.tmod_eq_emod_of_nonneg (by omega)]; exact hy
            have h2 := HZ.out.g2 i HG.out
            rw [hy] at h2
            have H2 := Lib.hid h2
            have HAT := Lib.hid (show R.at i = ⟨0, false, false, 0, 0⟩ from hat)
            clear hat h2 hy i0 i1 hrn
            go_wp2_with fail
            refine (At_eqY HAT.out _ HP.out).mono ?_
            rintro e wd ⟨rfl, hb⟩
            have HPd := Lib.hid (HP.out.ext hb)
            have HEd := Lib.hid (Ext_trans hb HE.out)
            clear hb HP HE
            go_wp2_with fail
            refine (LenQ_any g b R _ HPd.out).mono ?_
            rintro e wf ⟨rfl, rfl⟩
            by_cases hy1 : y = Q.cur
            · subst hy1
              have HPE := HPd
              have HEE := HEd
              clear HPd HEd
              go_wp2_with fail
              refine (Cursor_any g b R _ HPE.out).mono ?_
              rintro e wz ⟨rfl, hb⟩
              rw [HRC.out]
              go_wp2_with fail
              go_ret
              exact ⟨rfl, Ext_trans hb HEE.out⟩
            · have hy2 : (y == Q.cur) = false := by simpa using hy1
              obtain ⟨z, hz⟩ : ∃ z, R.at y = z := ⟨_, rfl⟩
              have HZY := Lib.hid hz
              obtain ⟨zb, zge, zst, zli, zco⟩ := z
              have hF := field_st zb zge zst zli zco
              have hst : R.st y = zst := by unfold Pl.st; rw [hz]
              have HST := Lib.hid hst
              clear hz hst
              go_wp2_with fail
              refine (At_eqY HZY.out _ HPd.out).mono ?_
              rintro e wg ⟨rfl, hb⟩
              have HPg := Lib.hid (HPd.out.ext hb)
              have HEg := Lib.hid (Ext_trans hb HEd.out)
              clear hb HPd HEd
              cases zst
              · by_cases hy0 : y = 0
                · subst hy0
                  cases hfm : decide (0 ≤ R.lookM 0 1)
                  · have HFM := Lib.hid hfm
                    clear hfm
                    go_wp2_with fail
                    refine (Formatted_any g b R _ HPg.out).mono ?_
                    rintro e wh ⟨rfl, hb⟩
                    rw [HFM.out]
                    have HPE := Lib.hid (HPg.out.ext hb)
                    have HEE := Lib.hid (Ext_trans hb HEg.out)
                    clear hb HPg HEg
                    go_wp2_with fail
                    refine (Cursor_any g b R _ HPE.out).mono ?_
                    rintro e wz ⟨rfl, hb⟩
                    rw [HRC.out]
                    go_wp2_with fail
                    go_ret
                    exact ⟨rfl, Ext_trans hb HEE.out⟩
                  · have HG2 : Good 0 ∧ meas 0 < meas i := by
                      rcases H2.out with h | h
                      · rcases h with h | h | ⟨_, h⟩
                        · exact absurd h hy1
                        · rw [HST.out] at h; cases h
                        · exact absurd (of_decide_eq_true hfm) h
                      · exact h
                    have HG3 := Lib.hid HG2.1
                    have hms := HG2.2
                    have HFM := Lib.hid hfm
                    clear hfm HG2
                    have HMS := Lib.hid hms
                    clear hms
                    go_wp2_with fail
                    refine (Formatted_any g b R _ HPg.out).mono ?_
                    rintro e wh ⟨rfl, hb⟩
                    rw [HFM.out]
                    have HPh := Lib.hid (HPg.out.ext hb)
                    have HEh := Lib.hid (Ext_trans hb HEg.out)
                    clear hb HPg HEg
                    go_wp2_with fail
                    go_roundw
                    case rel => exact ⟨0, rfl, HG3, HPh, HEh⟩
                    case measure => simp [intOf]; exact HMS.out
                · have hy3 : (y == 0) = false := by simpa using hy0
                  have HG2 : Good y ∧ meas y < meas i := by
                    rcases H2.out with h | h
                    · rcases h with h | h | ⟨h, _⟩
                      · exact absurd h hy1
                      · rw [HST.out] at h; cases h
                      · exact absurd h hy0
                    · exact h
                  have HG3 := Lib.hid HG2.1
                  have HMS := Lib.hid HG2.2
                  clear HG2
                  go_wp2_with fail
                  go_roundw
                  case rel => exact ⟨y, rfl, HG3, HPg, HEg⟩
                  case measure => simp [intOf]; exact HMS.out
              · have HPE := HPg
                have HEE := HEg
                clear HPg HEg
                go_wp2_with fail
                refine (Cursor_any g b R _ HPE.out).mono ?_
                rintro e wz ⟨rfl, hb⟩
                rw [HRC.out]
                go_wp2_with fail
                go_ret
                exact ⟨rfl, Ext_trans hb HEE.out⟩
    · have hF := HF.out.resolve_left (fun h => hf0 h.1)
      have hlt := hF.2.1
      have hFE := hF.2.2
      have hf1 : (f == 0) = false := by rw [beq_eq_false_iff_ne]; exact hf0
      clear HF hF
      subst hFE
      go_wp2_with fail
      refine (PSame_r _ HP.out HQ.out).mono ?_
      rintro e wa ⟨rfl, hb⟩
      have HPa := Lib.hid (HP.out.ext hb)
      have HQa := Lib.hid (HQ.out.ext hb)
      have HEa := Lib.hid (Ext_trans hb HE.out)
      clear hb HP HQ HE
      go_wp2_with fail
      refine (Cursor_any g b Q _ HPa.out).mono ?_
      rintro e wb ⟨rfl, hb⟩
      have HPb := Lib.hid (HPa.out.ext hb)
      have HQb := Lib.hid (HQa.out.ext hb)
      have HEb := Lib.hid (Ext_trans hb HEa.out)
      clear hb HPa HQa HEa
      have hend := End_any g b Q wb HPb.out
      cases ho : Q.open_ Q.cur
      · have he : Q.endM = (Q, 41) := by unfold Pl.endM; rw [if_pos ho]
        rw [he] at hend
        have HO := Lib.hid ho
        clear ho he
        go_wp2_with fail
        refine hend.mono ?_
        rintro e wc ⟨rfl, hs, hch⟩
        have HPc := Lib.hid hs
        have HQc := Lib.hid (HQb.out.chg hch (by simp; omega) (by simp; omega))
        have HEc := Lib.hid (hch.ext HEb.out (by intro i hi; simp at hi; omega))
        clear hs hch hend
        go_wp2_with fail
        refine (PSame_r _ HPc.out HQc.out).mono ?_
        rintro e wd ⟨rfl, hb1⟩
        go_wp2_with fail
        refine (Open_any g b Q _ _ (HPc.out.ext hb1)).mono ?_
        rintro e wf ⟨rfl, hb2⟩
        rw [HO.out]
        go_wp2_with fail
        go_ret
        exact ⟨rfl, Ext_trans hb2 (Ext_trans hb1 HEc.out)⟩
      · obtain ⟨z1, z2, Good, meas, hz⟩ := end_zeros HPb.out.ok ho
        obtain ⟨R, hR⟩ : ∃ R, Q.endM = (R, 0) := ⟨Q.endM.1, Prod.ext rfl z1⟩
        rw [hR] at hend z2 hz
        simp only at z2 hz
        have HZ := Lib.hid hz
        have HRC := Lib.hid z2
        clear ho hR z1 z2 hz
        go_wp2_with fail
        refine hend.mono ?_
        rintro e wc ⟨rfl, hs, hch⟩
        have HPc := Lib.hid hs
        have HEc := Lib.hid (hch.ext HEb.out (by intro i hi; simp at hi; omega))
        have HG0 := Lib.hid HZ.out.g0
        clear hs hch hend HPb HQb HEb
        go_wp2_with fail
        go_loopw [20] (fun v20 wr => ∃ i : Int, v20 = .int .i64 i ∧ Hid (Good i) ∧ Hid (PlAt wr g b R) ∧ Hid (Ext w wr)) (fun v20 _ => meas (intOf v20))
        case atStart => exact ⟨Q.cur, rfl, HG0, HPc, HEc⟩
        case round =>
          clear HG0 HPc HEc
          obtain ⟨i, rfl, HG, HP, HE⟩ := hrel
          obtain ⟨i0, i1, hat⟩ := HZ.out.g1 i HG.out
          have hrn := HP.out.ok.sz.n1
          have hw : IntKind.i64.wrap (i + 1) = i + 1 := IntWalk.i64_in _ (by omega)
          have hr0 : R.n ≠ 0 := by omega
          obtain ⟨y, hy⟩ : ∃ y, (i + 1) % R.n = y := ⟨_, rfl⟩
          have hty : Int.tmod (i + 1) R.n = y := by rw [Int.tmod_eq_emod_of_nonneg (by omega)]; exact hy
          have h2 := HZ.out.g2 i HG.out
          rw [hy] at h2
          have H2 := Lib.hid h2
          have HAT := Lib.hid (show R.at i = ⟨0, false, false, 0, 0⟩ from hat)
          clear hat h2 hy i0 i1 hrn
          go_wp2_with fail
          refine (At_eqY HAT.out _ HP.out).mono ?_
          rintro e wd ⟨rfl, hb⟩
          have HPd := Lib.hid (HP.out.ext hb)
          have HEd := Lib.hid (Ext_trans hb HE.out)
          clear hb HP HE
          go_wp2_with fail
          refine (LenQ_any g b R _ HPd.out).mono ?_
          rintro e wf ⟨rfl, rfl⟩
          by_cases hy1 : y = Q.cur
          · subst hy1
            have HPE := HPd
            have HEE := HEd
            clear HPd HEd
            go_wp2_with fail
            refine (Cursor_any g b R _ HPE.out).mono ?_
            rintro e wz ⟨rfl, hb⟩
            rw [HRC.out]
            go_wp2_with fail
            go_ret
            exact ⟨rfl, Ext_trans hb HEE.out⟩
          · have hy2 : (y == Q.cur) = false := by simpa using hy1
            obtain ⟨z, hz⟩ : ∃ z, R.at y = z := ⟨_, rfl⟩
            have HZY := Lib.hid hz
            obtain ⟨zb, zge, zst, zli, zco⟩ := z
            have hF := field_st zb zge zst zli zco
            have hst : R.st y = zst := by unfold Pl.st; rw [hz]
            have HST := Lib.hid hst
            clear hz hst
            go_wp2_with fail
            refine (At_eqY HZY.out _ HPd.out).mono ?_
            rintro e wg ⟨rfl, hb⟩
            have HPg := Lib.hid (HPd.out.ext hb)
            have HEg := Lib.hid (Ext_trans hb HEd.out)
            clear hb HPd HEd
            cases zst
            · by_cases hy0 : y = 0
              · subst hy0
                cases hfm : decide (0 ≤ R.lookM 0 1)
                · have HFM := Lib.hid hfm
                  clear hfm
                  go_wp2_with fail
                  refine (Formatted_any g b R _ HPg.out).mono ?_
                  rintro e wh ⟨rfl, hb⟩
                  rw [HFM.out]
                  have HPE := Lib.hid (HPg.out.ext hb)
                  have HEE := Lib.hid (Ext_trans hb HEg.out)
                  clear hb HPg HEg
                  go_wp2_with fail
                  refine (Cursor_any g b R _ HPE.out).mono ?_
                  rintro e wz ⟨rfl, hb⟩
                  rw [HRC.out]
                  go_wp2_with fail
                  go_ret
                  exact ⟨rfl, Ext_trans hb HEE.out⟩
                · have HG2 : Good 0 ∧ meas 0 < meas i := by
                    rcases H2.out with h | h
                    · rcases h with h | h | ⟨_, h⟩
                      · exact absurd h hy1
                      · rw [HST.out] at h; cases h
                      · exact absurd (of_decide_eq_true hfm) h
                    · exact h
                  have HG3 := Lib.hid HG2.1
                  have hms := HG2.2
                  have HFM := Lib.hid hfm
                  clear hfm HG2
                  have HMS := Lib.hid hms
                  clear hms
                  go_wp2_with fail
                  refine (Formatted_any g b R _ HPg.out).mono ?_
                  rintro e wh ⟨rfl, hb⟩
                  rw [HFM.out]
                  have HPh := Lib.hid (HPg.out.ext hb)
                  have HEh := Lib.hid (Ext_trans hb HEg.out)
                  clear hb HPg HEg
                  go_wp2_with fail
                  go_roundw
                  case rel => exact ⟨0, rfl, HG3, HPh, HEh⟩
                  case measure => simp [intOf]; exact HMS.out
              · have hy3 : (y == 0) = false := by simpa using hy0
                have HG2 : Good y ∧ meas y < meas i := by
                  rcases H2.out with h | h
                  · rcases h with h | h | ⟨h, _⟩
                    · exact absurd h hy1
                    · rw [HST.out] at h; cases h
                    · exact absurd h hy0
                  · exact h
                have HG3 := Lib.hid HG2.1
                have HMS := Lib.hid HG2.2
                clear HG2
                go_wp2_with fail
                go_roundw
                case rel => exact ⟨y, rfl, HG3, HPg, HEg⟩
                case measure => simp [intOf]; exact HMS.out
            · have HPE := HPg
              have HEE := HEg
              clear HPg HEg
              go_wp2_with fail
              refine (Cursor_any g b R _ HPE.out).mono ?_
              rintro e wz ⟨rfl, hb⟩
              rw [HRC.out]
              go_wp2_with fail
              go_ret
              exact ⟨rfl, Ext_trans hb HEE.out⟩
set_option maxRecDepth 100000 in
theorem TypingRows_walk {H : Type} (w : World) {base : Nat} (v : Value) (t0 : Handed Try.prog H w 23 v) (k0 : Value.okWide Try.prog w .any base 23 v) (A : Option Addr) (n d : Nat) (t1 : Handed Try.prog H w 24 (.slice A n d)) (a2 : Int) (w2 : (Lit.int .i64 a2).wf = true)
    (A3 : Option Addr) (n3 d3 : Nat) (t3 : Handed Try.prog H w 32 (.slice A3 n3 d3)) (a4 : Bool) :
    Calls Try.prog 6 #[v, .slice A n d, .int .i64 a2, .slice A3 n3 d3, .bool a4] w (Ret (.bool true) w) := by
  obtain ⟨r, c, rfl, _, _⟩ := size_arg t0 k0
  obtain ⟨cs, rfl, _, hl, hr, hcs⟩ := cel_rows t1
  obtain ⟨enc, dd, ps, h3⟩ := t3
  obtain ⟨l, rfl, _, hlm, hr2, hb2⟩ := arg_bytes (A := A3) (n := n3) (c := d3) (d := dd) (ps := ps) Try.underlying32 Try.underlying5 (by kernel_rfl) h3
  exact TypingRows_any r c a2 a4 A A3 d d3 cs l hlm hb2 hcs hl w hr hr2
end Go.Proofs.Ytmldhgebbgalbaa
