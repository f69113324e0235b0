/- Chapter 20: Put, String. -/
import Derived.Test.YtmldhgebbgalbaaY3
import Derived.Test.YtmldhgebbgalbaaP8
namespace Go.Proofs.Ytmldhgebbgalbaa
set_option linter.unusedVariables false
set_option linter.unusedSimpArgs false
open Go.RowKit
theorem plcM_le {n l : Int} (h : 0 ≤ n) : (plcM n l : Int) ≤ n := by
  unfold plcM
  split
  · omega
  · split <;> omega
theorem rowL_len {p : Pl} (hok : p.Ok) {i : Int} (i0 : 0 ≤ i) : (p.rowL i).length ≤ 5000 := by
  have h1 := hok.sz.n1
  have h0 := hok.sz.n0
  unfold Pl.rowL
  split
  · rw [upsL_len]; omega
  · unfold Pl.restL
    have := from_len i (plcN p.n (p.before i) (plcM p.n (p.lenAt (p.before i))))
    rw [plcN_len] at this
    have h2 := plcM_le (l := p.lenAt (p.before i)) (show 0 ≤ p.n by omega)
    omega
/-- what is typed where nothing stands against it -/
def Pl.putP (p q : Pl) (b : Int) : Pl := ((q.set p.cur ⟨b, false, false, (p.at p.cur).li, (p.at p.cur).co⟩).mark p.cur).point ((q.set p.cur ⟨b, false, false, (p.at p.cur).li, (p.at p.cur).co⟩).mark p.cur).onM
/-- Put: the plane, the error -/
def Pl.putM (p : Pl) (b : Int) (ins : Bool) : Pl × Int :=
  if p.mayM b ≠ 0 then (p, p.mayM b)
  else if ins = true ∧ p.idxM (p.rowL p.cur) < 0 then (p, 43)
  else (p.putP (if ins = true then p.shiftN (p.rowL p.cur) (p.idxM (p.rowL p.cur)).toNat else p) b, 0)
set_option maxRecDepth 100000 in
set_option maxHeartbeats 4000000 in
theorem Put_err (g c : Nat) (p : Pl) (b : Int) (ins : Bool) (E : Int) (he : p.mayM b = E) (hE : E ≠ 0) (w : World) (h : PlAt w g c p) : Calls Try.prog 14 #[.pointer (some ⟨g, 0, none⟩), .int .u8 b, .bool ins] w (PlTo (.int .i64 E) g c p w) := by
  have HP := Lib.hid h
  have HM := Lib.hid he
  have he2 : (E != 0) = true := by rw [bne_iff_ne]; exact hE
  clear h he
  go_enter Try.func14, Try.ntmps14
  go_wp2_with fail
  refine (Cursor_any g c p _ HP.out).mono ?_
  rintro e w1 ⟨rfl, hb1⟩
  go_wp2_with fail
  refine (may_any g c p b _ (HP.out.ext hb1)).mono ?_
  rintro e w2 ⟨rfl, hb2⟩
  rw [HM.out]
  go_wp2_with fail
  go_ret
  exact ⟨rfl, HP.out.ext (Ext_trans hb2 hb1), Chg.of_ext (Ext_trans hb2 hb1) _⟩
set_option maxRecDepth 100000 in
set_option maxHeartbeats 4000000 in
theorem Put_full (g c : Nat) (p : Pl) (b : Int) (hm : p.mayM b = 0) (hi : p.idxM (p.rowL p.cur) < 0) (w : World) (h : PlAt w g c p) : Calls Try.prog 14 #[.pointer (some ⟨g, 0, none⟩), .int .u8 b, .bool true] w (PlTo (.int .i64 43) g c p w) := by
  have HP := Lib.hid h
  have HM := Lib.hid hm
  have HI := Lib.hid hi
  have HC0 := h.ok.k0
  have HC1 := h.ok.k1
  obtain ⟨y, hy⟩ : ∃ y, p.at p.cur = y := ⟨_, rfl⟩
  have HY := Lib.hid hy
  clear h hm hi hy
  go_enter Try.func14, Try.ntmps14
  go_wp2_with fail
  refine (Cursor_any g c p _ HP.out).mono ?_
  rintro e w1 ⟨rfl, hb1⟩
  go_wp2_with fail
  refine (may_any g c p b _ (HP.out.ext hb1)).mono ?_
  rintro e w2 ⟨rfl, hb2⟩
  rw [HM.out]
  have HX2 := Lib.hid (Ext_trans hb2 hb1)
  clear hb1 hb2
  go_wp2_with fail
  refine (At_eqY HY.out _ (HP.out.ext HX2.out)).mono ?_
  rintro e w3 ⟨rfl, hb3⟩
  go_upto_region 6 with (fail)
  have hE := Ext_alloc (o := .cells #[.int .u8 y.b, .bool y.ge, .bool y.st, .int .u8 y.li, .int .u8 y.co] 46) (Ext_refl w3)
  generalize w3.alloc (.cells #[.int .u8 y.b, .bool y.ge, .bool y.st, .int .u8 y.li, .int .u8 y.co] 46) = W4 at *
  generalize w3.heap.size = zb at *
  have HX3 := Lib.hid (Chg.of_ext (Ext_trans hE (Ext_trans hb3 HX2.out)) [g, c])
  have HP3 := Lib.hid (HP.out.ext (Ext_trans hE (Ext_trans hb3 HX2.out)))
  clear hE hb3 HX2
  go_wp2_with fail
  refine (shift_no g c p HC0 HC1 _ rfl (rowL_len HP3.out.ok HC0) HI.out _ HP3.out).mono ?_
  rintro e w5 ⟨rfl, hs, hch⟩
  go_wp2_with fail
  go_ret
  exact ⟨rfl, hs, HX3.out.trans hch⟩
set_option maxRecDepth 100000 in
set_option maxHeartbeats 4000000 in
theorem Put_plain (g c : Nat) (p : Pl) (b : Int) (hb : 0 ≤ b ∧ b < 256) (hm : p.mayM b = 0) (w : World) (h : PlAt w g c p) : Calls Try.prog 14 #[.pointer (some ⟨g, 0, none⟩), .int .u8 b, .bool false] w (PlTo (.int .i64 0) g c (p.putP p b) w) := by
  have HP := Lib.hid h
  have HM := Lib.hid hm
  have HC0 := h.ok.k0
  have HC1 := h.ok.k1
  unfold Pl.putP
  obtain ⟨y, hy⟩ : ∃ y, p.at p.cur = y := ⟨_, rfl⟩
  rw [hy]
  have HY := Lib.hid hy
  clear h hm hy
  go_enter Try.func14, Try.ntmps14
  go_wp2_with fail
  refine (Cursor_any g c p _ HP.out).mono ?_
  rintro e w1 ⟨rfl, hb1⟩
  go_wp2_with fail
  refine (may_any g c p b _ (HP.out.ext hb1)).mono ?_
  rintro e w2 ⟨rfl, hb2⟩
  rw [HM.out]
  have HX2 := Lib.hid (Ext_trans hb2 hb1)
  clear hb1 hb2
  go_wp2_with fail
  refine (At_eqY HY.out _ (HP.out.ext HX2.out)).mono ?_
  rintro e w3 ⟨rfl, hb3⟩
  go_upto_region 6 with (fail)
  have hZ := Blk.new w3 46 #[.int .u8 y.b, .bool y.ge, .bool y.st, .int .u8 y.li, .int .u8 y.co]
  have hE := Ext_alloc (o := .cells #[.int .u8 y.b, .bool y.ge, .bool y.st, .int .u8 y.li, .int .u8 y.co] 46) (Ext_refl w3)
  have hzn : w3.heap.size ∉ [g, c] := by have h1 := hb3.size; have h2 := HX2.out.size; have h3 := HP.out.glt; have h4 := HP.out.clt; simp; omega
  generalize w3.alloc (.cells #[.int .u8 y.b, .bool y.ge, .bool y.st, .int .u8 y.li, .int .u8 y.co] 46) = W4 at *
  generalize w3.heap.size = zb at *
  have HX3 := Lib.hid (Chg.of_ext (Ext_trans hE (Ext_trans hb3 HX2.out)) [g, c])
  have HP3 := Lib.hid (HP.out.ext (Ext_trans hE (Ext_trans hb3 HX2.out)))
  have HZ3 := Lib.hid hZ
  clear hZ hE hb3 HX2
  have HP5 := HP3
  have HC5 := HX3
  have HZ5 := HZ3
  clear HP3 HX3 HZ3
  have z3 := HZ5.out.cell 3
  have z4 := HZ5.out.cell 4
  simp at z3 z4
  clear HZ5
  go_wp2_with fail
  refine (Set_any g c _ p.cur ⟨b, false, false, y.li, y.co⟩ hb _ HP5.out).mono ?_
  rintro e w6 ⟨rfl, hs, hch⟩
  have HP6 := Lib.hid hs
  have HC6 := Lib.hid (HC5.out.trans hch)
  clear hs hch HP5 HC5 z3 z4
  go_wp2_with fail
  refine (Mark_any g c _ p.cur _ HP6.out).mono ?_
  rintro e w7 ⟨rfl, hs, hch⟩
  have HP7 := Lib.hid hs
  have HC7 := Lib.hid (HC6.out.trans hch)
  clear hs hch HP6 HC6
  go_wp2_with fail
  refine (On_any g c _ _ HP7.out).mono ?_
  rintro e w8 ⟨rfl, hs, hch⟩
  go_wp2_with fail
  go_ret
  exact ⟨rfl, hs, HC7.out.trans hch⟩
set_option maxRecDepth 100000 in
set_option maxHeartbeats 4000000 in
theorem Put_ins (g c : Nat) (p : Pl) (b : Int) (hb : 0 ≤ b ∧ b < 256) (hm : p.mayM b = 0) (N : Nat) (hi : p.idxM (p.rowL p.cur) = (N : Int)) (w : World) (h : PlAt w g c p) : Calls Try.prog 14 #[.pointer (some ⟨g, 0, none⟩), .int .u8 b, .bool true] w (PlTo (.int .i64 0) g c (p.putP (p.shiftN (p.rowL p.cur) N) b) w) := by
  have HP := Lib.hid h
  have HM := Lib.hid hm
  have HI := Lib.hid hi
  have HC0 := h.ok.k0
  have HC1 := h.ok.k1
  unfold Pl.putP
  obtain ⟨y, hy⟩ : ∃ y, p.at p.cur = y := ⟨_, rfl⟩
  rw [hy]
  have HY := Lib.hid hy
  clear h hm hy hi
  go_enter Try.func14, Try.ntmps14
  go_wp2_with fail
  refine (Cursor_any g c p _ HP.out).mono ?_
  rintro e w1 ⟨rfl, hb1⟩
  go_wp2_with fail
  refine (may_any g c p b _ (HP.out.ext hb1)).mono ?_
  rintro e w2 ⟨rfl, hb2⟩
  rw [HM.out]
  have HX2 := Lib.hid (Ext_trans hb2 hb1)
  clear hb1 hb2
  go_wp2_with fail
  refine (At_eqY HY.out _ (HP.out.ext HX2.out)).mono ?_
  rintro e w3 ⟨rfl, hb3⟩
  go_upto_region 6 with (fail)
  have hZ := Blk.new w3 46 #[.int .u8 y.b, .bool y.ge, .bool y.st, .int .u8 y.li, .int .u8 y.co]
  have hE := Ext_alloc (o := .cells #[.int .u8 y.b, .bool y.ge, .bool y.st, .int .u8 y.li, .int .u8 y.co] 46) (Ext_refl w3)
  have hzn : w3.heap.size ∉ [g, c] := by have h1 := hb3.size; have h2 := HX2.out.size; have h3 := HP.out.glt; have h4 := HP.out.clt; simp; omega
  generalize w3.alloc (.cells #[.int .u8 y.b, .bool y.ge, .bool y.st, .int .u8 y.li, .int .u8 y.co] 46) = W4 at *
  generalize w3.heap.size = zb at *
  have HX3 := Lib.hid (Chg.of_ext (Ext_trans hE (Ext_trans hb3 HX2.out)) [g, c])
  have HP3 := Lib.hid (HP.out.ext (Ext_trans hE (Ext_trans hb3 HX2.out)))
  have HZ3 := Lib.hid hZ
  clear hZ hE hb3 HX2
  go_wp2_with fail
  refine (shift_yes g c p HC0 HC1 _ rfl (rowL_len HP3.out.ok HC0) N HI.out _ rfl _ HP3.out).mono ?_
  rintro e w5 ⟨rfl, hs, hch⟩
  have HP5 := Lib.hid hs
  have HC5 := Lib.hid (HX3.out.trans hch)
  have HZ5 := Lib.hid (HZ3.out.chg hch hzn)
  clear hs hch HP3 HX3 HZ3 HI
  have z3 := HZ5.out.cell 3
  have z4 := HZ5.out.cell 4
  simp at z3 z4
  clear HZ5
  go_wp2_with fail
  refine (Set_any g c _ p.cur ⟨b, false, false, y.li, y.co⟩ hb _ HP5.out).mono ?_
  rintro e w6 ⟨rfl, hs, hch⟩
  have HP6 := Lib.hid hs
  have HC6 := Lib.hid (HC5.out.trans hch)
  clear hs hch HP5 HC5 z3 z4
  go_wp2_with fail
  refine (Mark_any g c _ p.cur _ HP6.out).mono ?_
  rintro e w7 ⟨rfl, hs, hch⟩
  have HP7 := Lib.hid hs
  have HC7 := Lib.hid (HC6.out.trans hch)
  clear hs hch HP6 HC6
  go_wp2_with fail
  refine (On_any g c _ _ HP7.out).mono ?_
  rintro e w8 ⟨rfl, hs, hch⟩
  go_wp2_with fail
  go_ret
  exact ⟨rfl, hs, HC7.out.trans hch⟩
theorem Put_any (g c : Nat) (p : Pl) (b : Int) (hb : 0 ≤ b ∧ b < 256) (ins : Bool) (w : World) (h : PlAt w g c p) : Calls Try.prog 14 #[.pointer (some ⟨g, 0, none⟩), .int .u8 b, .bool ins] w (PlTo (.int .i64 (p.putM b ins).2) g c (p.putM b ins).1 w) := by
  unfold Pl.putM
  by_cases hm : p.mayM b = 0
  · rw [if_neg (by rw [hm]; simp)]
    cases ins
    · rw [if_neg (by simp), if_neg (by simp)]
      exact Put_plain g c p b hb hm w h
    · by_cases hi : p.idxM (p.rowL p.cur) < 0
      · rw [if_pos ⟨rfl, hi⟩]
        exact Put_full g c p b hm hi w h
      · obtain ⟨N, hN⟩ := Int.eq_ofNat_of_zero_le (show 0 ≤ p.idxM (p.rowL p.cur) by omega)
        rw [if_neg (fun h => hi h.2), if_pos rfl, hN, Int.toNat_natCast]
        exact Put_ins g c p b hb hm N hN w h
  · rw [if_pos hm]
    exact Put_err g c p b ins _ rfl hm w h
/-- String: the plane, how many were typed, the error -/
def Pl.strM (p : Pl) (ins : Bool) : List Int → Pl × Nat × Int
  | [] => (p, 0, 0)
  | b :: bs => if (p.putM b ins).2 = 0 then (((p.putM b ins).1.strM ins bs).1, ((p.putM b ins).1.strM ins bs).2.1 + 1, ((p.putM b ins).1.strM ins bs).2.2) else ((p.putM b ins).1, 0, (p.putM b ins).2)
set_option maxRecDepth 100000 in
set_option maxHeartbeats 4000000 in
theorem String_any (g c : Nat) (p : Pl) (ins : Bool) (A : Option Addr) (d : Nat) (l : List Int) (hl : l.length ≤ maxLen) (hbs : ∀ x ∈ l, 0 ≤ x ∧ x < 256) (w : World) (h : PlAt w g c p) (hr : Rd w 1 A l.length (u8s l)) (hoff : ∀ b, b ∈ [g, c] → 0 < l.length → Off b A) :
    Calls Try.prog 25 #[.pointer (some ⟨g, 0, none⟩), .slice A l.length d, .bool ins] w (PlTo (.tuple #[.int .i64 (p.strM ins l).2.1, .int .i64 (p.strM ins l).2.2]) g c (p.strM ins l).1 w) := by
  have HP := Lib.hid h
  have HR := Lib.hid hr
  have HBS := Lib.hid hbs
  have HOFF := Lib.hid hoff
  obtain ⟨F, hF⟩ : ∃ F, p.strM ins l = F := ⟨_, rfl⟩
  rw [hF]
  have HF0 : Hid (F = ((p.strM ins (l.drop 0)).1, 0 + (p.strM ins (l.drop 0)).2.1, (p.strM ins (l.drop 0)).2.2)) := Lib.hid (by rw [List.drop_zero, hF, Nat.zero_add])
  have HLM := Lib.hid hl
  clear h hr hbs hoff hF hl
  go_enter Try.func25, Try.ntmps25
  go_wp2_with fail
  go_loopw [8, 9, 10, 13] (fun _ _ _ v13 wr => ∃ (k : Nat) (q : Pl), k ≤ l.length ∧ v13 = .int .i64 k ∧ Hid (PlAt wr g c q) ∧ Hid (Rd wr 1 A l.length (u8s l)) ∧ Hid (Chg [g, c] w wr) ∧ Hid (F = ((q.strM ins (l.drop k)).1, k + (q.strM ins (l.drop k)).2.1, (q.strM ins (l.drop k)).2.2))) (fun _ _ _ v13 _ => l.length - (intOf v13).toNat)
  case atStart => exact ⟨0, p, by omega, rfl, HP, HR, Lib.hid (Chg.refl _ _), HF0⟩
  case round =>
    clear HP HR HF0
    obtain ⟨k, q, hk, rfl, HP, HR, HC, HF⟩ := hrel
    by_cases hlt : k < l.length
    · obtain ⟨rb, ro, u, eA, hu, d0⟩ := HR.out.at1 hlt
      rw [u8s_get, List.getElem?_eq_getElem hlt, Option.map_some, Option.some.injEq] at hu
      subst hu
      have hxb := HBS.out _ (List.getElem_mem hlt)
      have hL : k + 1 < 9223372036854775808 := by have := HLM.out; unfold maxLen at this; omega
      have hr := HF.out
      rw [List.drop_eq_getElem_cons hlt] at hr
      unfold Pl.strM at hr
      have HR9 := Lib.hid hr
      have HO9 := Lib.hid (show ∀ b, b ∈ [g, c] → Off b A from fun b hb => HOFF.out b hb (Nat.lt_of_le_of_lt (Nat.zero_le k) hlt))
      clear hr HF
      generalize l[k] = x at *
      subst eA
      obtain ⟨q2, e2, hq2⟩ : ∃ q2 e2, q.putM x ins = (q2, e2) := ⟨_, _, rfl⟩
      have HQ2 := Lib.hid hq2
      rw [hq2] at HR9
      clear hq2
      have hput := Put_any g c q x hxb ins wr HP.out
      rw [HQ2.out] at hput
      go_wp2_with fail
      refine hput.mono ?_
      rintro e w2 ⟨rfl, hs, hch⟩
      have HP2 := Lib.hid hs
      have HR2 := Lib.hid (HR.out.chg hch HO9.out)
      have HC2 := Lib.hid (HC.out.trans hch)
      clear hs hch HP HR HC d0 hput
      by_cases he : e2 = 0
      · subst he
        have hr := HR9.out
        rw [if_pos rfl] at hr
        have HF2 : Hid (F = ((q2.strM ins (l.drop (k + 1))).1, k + 1 + (q2.strM ins (l.drop (k + 1))).2.1, (q2.strM ins (l.drop (k + 1))).2.2)) := Lib.hid (hr.trans (Prod.ext rfl (Prod.ext (by show k + (_ + 1) = k + 1 + _; omega) rfl)))
        clear hr HR9
        go_wp2_with fail
        go_roundw
        case rel => exact ⟨k + 1, q2, by omega, by go_num, HP2, HR2, HC2, HF2⟩
        case measure => simp [intOf]; omega
      · have hr := HR9.out
        rw [if_neg he] at hr
        have he2 : (e2 != 0) = true := by rw [bne_iff_ne]; exact he
        clear HR9
        subst hr
        go_wp2_with fail
        go_ret2
        exact ⟨rfl, HP2.out, HC2.out⟩
    · have hkk : k = l.length := by omega
      have hr := HF.out
      rw [List.drop_eq_nil_of_le (by omega)] at hr
      unfold Pl.strM at hr
      clear HF
      subst hr
      go_wp2_with fail
      go_ret2
      exact ⟨by rw [← hkk]; rfl, HP.out, HC.out⟩
end Go.Proofs.Ytmldhgebbgalbaa
