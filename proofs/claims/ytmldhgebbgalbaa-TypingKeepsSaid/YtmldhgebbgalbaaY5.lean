/- Chapter 20: Delete, End, Dup, Mark. -/
import Derived.Test.YtmldhgebbgalbaaY4
import Derived.Test.YtmldhgebbgalbaaYE
namespace Go.Proofs.Ytmldhgebbgalbaa
set_option linter.unusedVariables false
set_option linter.unusedSimpArgs false
open Go.RowKit Go.Sort
theorem rest_ok {p : Pl} {i : Int} (i0 : 0 ≤ i) (i1 : i < p.n) (ho : p.open_ i = true) (hb : ¬ p.before i < 0) : RestOk p i (p.before i) (p.lenAt (p.before i)) := by
  have hs : p.st (p.before i) = true := (before_cases i).resolve_left (by omega)
  have hne : i ≠ p.before i := by
    unfold Pl.open_ at ho
    rw [if_neg hb] at ho
    simp at ho
    exact fun e => ho.1 e.symm
  exact ⟨fld_ok hs, i0, i1, ⟨rfl, hne⟩⟩
theorem rowL_pos {p : Pl} {i : Int} (i0 : 0 ≤ i) (i1 : i < p.n) (ho : p.open_ i = true) : 0 < (p.rowL i).length := by
  unfold Pl.rowL
  split
  · rw [upsL_len]; omega
  · rename_i hb
    have h := rest_ok i0 i1 ho hb
    have h1 := (rest_list h rfl).1
    have h2 := (mine_far h.f h.a0 h.a1).1 h.m
    omega
/-- what stands behind comes one nearer: from place number i on, m of them -/
def Pl.delK (p : Pl) (l : List Int) : Nat → Nat → Pl
  | _, 0 => p
  | i, m + 1 => (p.set (l.getD i 0) (p.at (l.getD (i + 1) 0))).delK l (i + 1) m
def Pl.delP (p : Pl) (l : List Int) : Pl := ((p.delK l 0 (l.length - 1)).set (l.getD (l.length - 1) 0) Cel.zero).mark p.cur
/-- Delete: the plane, the error -/
def Pl.delM (p : Pl) : Pl × Int := if p.open_ p.cur = false then (p, 41) else (p.delP (p.rowL p.cur), 0)
set_option maxRecDepth 100000 in
set_option maxHeartbeats 4000000 in
theorem Delete_no (g c : Nat) (p : Pl) (ho : p.open_ p.cur = false) (w : World) (h : PlAt w g c p) : Calls Try.prog 19 #[.pointer (some ⟨g, 0, none⟩)] w (PlTo (.int .i64 41) g c p w) := by
  have HP := Lib.hid h
  have HO := Lib.hid ho
  clear h ho
  go_enter Try.func19, Try.ntmps19
  go_wp2_with fail
  refine (Cursor_any g c p _ HP.out).mono ?_
  rintro e w1 ⟨rfl, hb1⟩
  go_wp2_with fail
  refine (Open_any g c p _ _ (HP.out.ext hb1)).mono ?_
  rintro e w2 ⟨rfl, hb2⟩
  rw [HO.out]
  go_wp2_with fail
  go_ret
  exact ⟨rfl, HP.out.ext (Ext_trans hb2 hb1), Chg.of_ext (Ext_trans hb2 hb1) _⟩
set_option maxRecDepth 100000 in
set_option maxHeartbeats 4000000 in
theorem Delete_yes (g c : Nat) (p : Pl) (ho : p.open_ p.cur = true) (L : List Int) (hL : p.rowL p.cur = L) (w : World) (h : PlAt w g c p) : Calls Try.prog 19 #[.pointer (some ⟨g, 0, none⟩)] w (PlTo (.int .i64 0) g c (p.delP L) w) := by
  have HP := Lib.hid h
  have HO := Lib.hid ho
  have HL := Lib.hid hL
  have k0 := h.ok.k0
  have k1 := h.ok.k1
  have hlr : L.length ≤ 5000 := by rw [← hL]; exact rowL_len h.ok k0
  have hl0 : 0 < L.length := by rw [← hL]; exact rowL_pos k0 k1 ho
  obtain ⟨F, hF⟩ : ∃ F, p.delK L 0 (L.length - 1) = F := ⟨_, rfl⟩
  obtain ⟨z, hz⟩ : ∃ z, L.getD (L.length - 1) 0 = z := ⟨_, rfl⟩
  unfold Pl.delP
  rw [hF, hz]
  have HF := Lib.hid hF
  have HZ := Lib.hid hz
  clear h ho hL hF hz
  go_enter Try.func19, Try.ntmps19
  go_wp2_with fail
  refine (Cursor_any g c p _ HP.out).mono ?_
  rintro e w1 ⟨rfl, hb1⟩
  go_wp2_with fail
  refine (Open_any g c p _ _ (HP.out.ext hb1)).mono ?_
  rintro e w2 ⟨rfl, hb2⟩
  rw [HO.out]
  have HX2 := Lib.hid (Ext_trans hb2 hb1)
  have HP2 := Lib.hid (HP.out.ext HX2.out)
  clear hb1 hb2
  go_wp2_with fail
  refine (row_any g c p p.cur k0 k1 _ HP2.out).mono ?_
  rintro e w3 ⟨A, cc, rfl, hown, hb⟩
  rw [HL.out] at hown ⊢
  have hA : ∀ ad, A = some ad → w2.heap.size ≤ ad.block := fun ad e => (own_base hown ad.block (by rw [e]; rfl)).1
  have hoff : ∀ b, b ∈ [g, c] → Off b A := fun b hb ad e => by
    have h1 := hA ad e
    have h2 := HP2.out.glt
    have h3 := HP2.out.clt
    simp at hb
    omega
  have HP3 := Lib.hid (HP2.out.ext hb)
  have HX3 := Lib.hid (Ext_trans hb HX2.out)
  have HR3 := Lib.hid (Rd.own hown)
  have HOFF := Lib.hid hoff
  clear hb hown hA hoff HP2 HX2
  obtain ⟨n, hn⟩ : ∃ n, L.length = n + 1 := ⟨L.length - 1, by omega⟩
  have hw1 : IntKind.i64.wrap ((L.length : Int) - 1) = (n : Int) := by rw [IntWalk.i64_in _ (by omega)]; omega
  have hF2 := HF.out
  rw [show L.length - 1 = n by omega] at hF2
  have HF0 := Lib.hid hF2
  have hz2 := HZ.out
  rw [show L.length - 1 = n by omega] at hz2
  have HZ2 := Lib.hid hz2
  have hn1 : L.length ≤ n + 1 := by omega
  have hn2 : n + 1 ≤ L.length := by omega
  clear hF2 hz2 HF HZ hn
  go_wp2_with fail
  go_loopw [5, 18] (fun _ v18 wr => ∃ (k : Nat) (Q : Pl), k ≤ n ∧ v18 = .int .i64 k ∧ Hid (Q.delK L k (n - k) = F) ∧ Hid (PlAt wr g c Q) ∧ Hid (Rd wr 1 A L.length (i64s L)) ∧ Hid (Chg [g, c] w3 wr)) (fun _ v18 _ => n - (intOf v18).toNat)
  case atStart => exact ⟨0, p, Nat.zero_le _, rfl, HF0, HP3, HR3, Lib.hid (Chg.refl _ _)⟩
  case round =>
    clear HF0 HP3 HR3
    obtain ⟨k, Q, hk, rfl, HF, HP5, HR5, HC5⟩ := hrel
    by_cases hkn : k < n
    · have hml : k < L.length := by omega
      have hkl : k + 1 < L.length := by omega
      obtain ⟨rb, ro, u, eA, hu, d1⟩ := HR5.out.at1 hml
      obtain ⟨rb2, ro2, u2, eA2, hu2, d2⟩ := HR5.out.at1 hkl
      rw [eA] at eA2
      injection eA2 with eA2
      injection eA2 with e1 e2 _
      subst e1
      subst e2
      unfold i64s at hu hu2
      rw [List.getElem?_map, List.getElem?_eq_getElem hml, Option.map_some, Option.some.injEq] at hu
      rw [List.getElem?_map, List.getElem?_eq_getElem hkl, Option.map_some, Option.some.injEq] at hu2
      subst hu
      subst hu2
      have hf := HF.out
      rw [show n - k = (n - (k + 1)) + 1 by omega] at hf
      unfold Pl.delK at hf
      rw [List.getD_eq_getElem?_getD, List.getD_eq_getElem?_getD, List.getElem?_eq_getElem hml, List.getElem?_eq_getElem hkl, Option.getD_some, Option.getD_some] at hf
      have HFK := Lib.hid hf
      clear hf HF
      generalize L[k] = x1 at *
      generalize L[k + 1] = x2 at *
      obtain ⟨y, hy⟩ : ∃ y, Q.at x2 = y := ⟨_, rfl⟩
      have hyb := at_bdd HP5.out.ok.by_ x2
      rw [hy] at HFK hyb
      have HY := Lib.hid hy
      have hw : IntKind.i64.wrap ((k : Int) + 1) = ((k + 1 : Nat) : Int) := by rw [IntWalk.i64_in _ (by omega)]; push_cast; rfl
      clear hy
      subst eA
      go_upto_region 8 with (fail)
      have q1 := fun d os => cell_regrown d1 d os
      have q2 := fun d os => cell_regrown d2 d os
      refine wp_region_chain_below 12 (by kernel_rfl) (by kernel_rfl) ?_
      simp only [List.take_succ_cons, List.take_zero, List.drop_succ_cons, List.drop_zero]
      repeat (go_big_quiet_step ((go_at_call 15; exact Calls.regrown_of (At_eqY HY.out _ (HP5.out.ext (below_regrown _ _ _))))))
      refine wpQuiet_nil ?_
      intro _ hw'
      obtain ⟨⟨dq, osq⟩, hw''⟩ := hw'
      subst hw''
      have hb : Ext wr (grow (redrawn wr dq) osq) := below_regrown wr dq osq
      generalize grow (redrawn wr dq) osq = W6 at *
      have HP6 := Lib.hid (HP5.out.ext hb)
      have HR6 := Lib.hid (Rd_ext hb HR5.out)
      have HC6 := Lib.hid (HC5.out.trans (Chg.of_ext hb _))
      clear hb q1 q2 d1 d2 HP5 HR5 HC5
      go_wp2_with fail
      refine (Set_any g c Q x1 y hyb _ HP6.out).mono ?_
      rintro e w7 ⟨rfl, hs, hch⟩
      have HP7 := Lib.hid hs
      have HR7 := Lib.hid (HR6.out.chg hch HOFF.out)
      have HC7 := Lib.hid (HC6.out.trans hch)
      clear hs hch HP6 HR6 HC6
      go_wp2_with fail
      go_roundw
      case rel => exact ⟨k + 1, Q.set x1 y, by omega, by go_num, HFK, HP7, HR7, HC7⟩
      case measure => simp [intOf]; omega
    · have hkk : k = n := by omega
      have hf := HF.out
      rw [show n - k = 0 by omega] at hf
      unfold Pl.delK at hf
      have hnl : n < L.length := by omega
      obtain ⟨rb, ro, u, eA, hu, d1⟩ := HR5.out.at1 hnl
      unfold i64s at hu
      rw [List.getElem?_map, List.getElem?_eq_getElem hnl, Option.map_some, Option.some.injEq] at hu
      subst hu
      have hz3 := HZ2.out
      rw [List.getD_eq_getElem?_getD, List.getElem?_eq_getElem hnl, Option.getD_some] at hz3
      rw [hz3] at d1
      subst hf
      subst eA
      clear HF hz3 hkk
      go_wp2_with fail
      refine (Set_any g c Q z Cel.zero (by decide) _ HP5.out).mono ?_
      rintro e w6 ⟨rfl, hs, hch⟩
      have HP6 := Lib.hid hs
      have HC6 := Lib.hid (HC5.out.trans hch)
      clear hs hch HP5 HC5 d1
      go_wp2_with fail
      refine (Mark_any g c _ p.cur _ HP6.out).mono ?_
      rintro e w7 ⟨rfl, hs, hch⟩
      go_wp2_with fail
      go_ret
      exact ⟨rfl, hs, (Chg.of_ext HX3.out [g, c]).trans (HC6.out.trans hch)⟩
theorem Delete_any (g c : Nat) (p : Pl) (w : World) (h : PlAt w g c p) : Calls Try.prog 19 #[.pointer (some ⟨g, 0, none⟩)] w (PlTo (.int .i64 p.delM.2) g c p.delM.1 w) := by
  unfold Pl.delM
  cases ho : p.open_ p.cur
  · rw [if_pos rfl]; exact Delete_no g c p ho w h
  · rw [if_neg (by simp)]; exact Delete_yes g c p ho _ rfl w h
/-- End: the plane, the error -/
def Pl.endM (p : Pl) : Pl × Int := if p.open_ p.cur = false then (p, 41) else if p.before p.cur < 0 then (p.puts (btwN p.n p.cur (btwM p.n p.cur 0)) Cel.zero, 0) else ((p.restP p.cur).mark p.cur, 0)
set_option maxRecDepth 100000 in
set_option maxHeartbeats 4000000 in
theorem End_any (g c : Nat) (p : Pl) (w : World) (h : PlAt w g c p) : Calls Try.prog 27 #[.pointer (some ⟨g, 0, none⟩)] w (PlTo (.int .i64 p.endM.2) g c p.endM.1 w) := by
  have HP := Lib.hid h
  have k0 := h.ok.k0
  have k1 := h.ok.k1
  clear h
  unfold Pl.endM
  cases ho : p.open_ p.cur
  · rw [if_pos rfl]
    have HO := Lib.hid ho
    clear ho
    go_enter Try.func27, Try.ntmps27
    go_wp2_with fail
    refine (Cursor_any g c p _ HP.out).mono ?_
    rintro e w1 ⟨rfl, hb1⟩
    go_wp2_with fail
    refine (Rest_shut g c p _ HO.out _ (HP.out.ext hb1)).mono ?_
    rintro e w2 ⟨rfl, hs, hch⟩
    go_wp2_with fail
    go_ret
    exact ⟨rfl, hs, (Chg.of_ext hb1 [g, c]).trans hch⟩
  · rw [if_neg (by simp)]
    by_cases hb : p.before p.cur < 0
    · rw [if_pos hb]
      have HO := Lib.hid ho
      have HBF := Lib.hid hb
      clear ho hb
      go_enter Try.func27, Try.ntmps27
      go_wp2_with fail
      refine (Cursor_any g c p _ HP.out).mono ?_
      rintro e w1 ⟨rfl, hb1⟩
      go_wp2_with fail
      refine (Rest_plain g c p _ HO.out HBF.out k0 k1 _ (HP.out.ext hb1)).mono ?_
      rintro e w2 ⟨rfl, hs, hch⟩
      go_wp2_with fail
      go_ret
      exact ⟨rfl, hs, (Chg.of_ext hb1 [g, c]).trans hch⟩
    · rw [if_neg hb]
      have hbb : decide (0 ≤ (p.restP p.cur).before p.cur) = true := by
        have h := rest_ok k0 k1 ho hb
        rw [rest_before h rfl]
        exact decide_eq_true (by omega)
      have HO := Lib.hid ho
      have HBF := Lib.hid hb
      have HBB := Lib.hid hbb
      clear ho hb hbb
      go_enter Try.func27, Try.ntmps27
      go_wp2_with fail
      refine (Cursor_any g c p _ HP.out).mono ?_
      rintro e w1 ⟨rfl, hb1⟩
      go_wp2_with fail
      refine (Rest_field g c p _ HO.out (by have := HBF.out; omega) _ (HP.out.ext hb1)).mono ?_
      rintro e w2 ⟨rfl, hs, hch⟩
      rw [HBB.out]
      go_wp2_with fail
      go_ret
      exact ⟨rfl, hs, (Chg.of_ext hb1 [g, c]).trans hch⟩
/-- Dup: the plane, the error -/
def Pl.dupM (p : Pl) (ins : Bool) : Pl × Int := if (p.putM 28 ins).2 ≠ 0 then p.putM 28 ins else ((((p.putM 28 ins).1.point p.cur)).point (((p.putM 28 ins).1.point p.cur).seekM ((p.putM 28 ins).1.point p.cur).cur 1), 0)
set_option maxRecDepth 100000 in
set_option maxHeartbeats 4000000 in
theorem Dup_any (g c : Nat) (p : Pl) (ins : Bool) (w : World) (h : PlAt w g c p) : Calls Try.prog 31 #[.pointer (some ⟨g, 0, none⟩), .bool ins] w (PlTo (.int .i64 (p.dupM ins).2) g c (p.dupM ins).1 w) := by
  have HP := Lib.hid h
  have hput := fun W hW => Put_any g c p 28 (by decide) ins W hW
  unfold Pl.dupM
  obtain ⟨q, e0, hq⟩ : ∃ q e0, p.putM 28 ins = (q, e0) := ⟨_, _, rfl⟩
  rw [hq] at hput ⊢
  have HPUT := Lib.hid hput
  clear h hq hput
  by_cases he : e0 = 0
  · subst he
    rw [if_neg (by simp)]
    go_enter Try.func31, Try.ntmps31
    go_wp2_with fail
    refine (Cursor_any g c p _ HP.out).mono ?_
    rintro e w1 ⟨rfl, hb1⟩
    go_wp2_with fail
    refine (HPUT.out _ (HP.out.ext hb1)).mono ?_
    rintro e w2 ⟨rfl, hs, hch⟩
    have HP2 := Lib.hid hs
    have HC2 := Lib.hid ((Chg.of_ext hb1 [g, c]).trans hch)
    clear hs hch hb1
    go_wp2_with fail
    refine (Point_any g c q p.cur _ HP2.out).mono ?_
    rintro e w3 ⟨rfl, hs, hch⟩
    have HP3 := Lib.hid hs
    have HC3 := Lib.hid (HC2.out.trans hch)
    clear hs hch
    go_wp2_with fail
    refine (Tab_any g c _ _ HP3.out).mono ?_
    rintro e w4 ⟨rfl, hs, hch⟩
    go_wp2_with fail
    go_ret
    exact ⟨rfl, hs, HC3.out.trans hch⟩
  · rw [if_pos he]
    have he2 : (e0 != 0) = true := by rw [bne_iff_ne]; exact he
    go_enter Try.func31, Try.ntmps31
    go_wp2_with fail
    refine (Cursor_any g c p _ HP.out).mono ?_
    rintro e w1 ⟨rfl, hb1⟩
    go_wp2_with fail
    refine (HPUT.out _ (HP.out.ext hb1)).mono ?_
    rintro e w2 ⟨rfl, hs, hch⟩
    go_wp2_with fail
    go_ret
    exact ⟨rfl, hs, (Chg.of_ext hb1 [g, c]).trans hch⟩
set_option maxRecDepth 100000 in
theorem TMark_any (g c : Nat) (p : Pl) (ins : Bool) (w : World) (h : PlAt w g c p) : Calls Try.prog 32 #[.pointer (some ⟨g, 0, none⟩), .bool ins] w (PlTo (.int .i64 (p.putM 30 ins).2) g c (p.putM 30 ins).1 w) := by
  have HPUT := Lib.hid (Put_any g c p 30 (by decide) ins w h)
  obtain ⟨q, e0, hq⟩ : ∃ q e0, p.putM 30 ins = (q, e0) := ⟨_, _, rfl⟩
  rw [hq] at HPUT ⊢
  clear h hq
  go_enter Try.func32, Try.ntmps32
  go_wp2_with fail
  refine HPUT.out.mono ?_
  rintro e w2 ⟨rfl, hs, hch⟩
  go_wp2_with fail
  go_ret
  exact ⟨rfl, hs, hch⟩
end Go.Proofs.Ytmldhgebbgalbaa
