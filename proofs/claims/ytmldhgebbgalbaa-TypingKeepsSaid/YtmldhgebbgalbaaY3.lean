/- Chapter 20: shift. -/
import Derived.Test.YtmldhgebbgalbaaY2
namespace Go.Proofs.Ytmldhgebbgalbaa
set_option linter.unusedVariables false
set_option linter.unusedSimpArgs false
open Go.RowKit Go.Sort
theorem field_bY (b : Int) (ge st : Bool) (li co : Int) (W : World) : (Instr.field 46 (.agg #[.int .u8 b, .bool ge, .bool st, .int .u8 li, .int .u8 co]) 0).run Try.prog W = .ok (.int .u8 b) W := by kernel_rfl
theorem field_geY (b : Int) (ge st : Bool) (li co : Int) (W : World) : (Instr.field 46 (.agg #[.int .u8 b, .bool ge, .bool st, .int .u8 li, .int .u8 co]) 1).run Try.prog W = .ok (.bool ge) W := by kernel_rfl
/-- does nothing stand there? -/
def emptyC (y : Cel) : Bool := y.b == 0 && !y.ge
theorem At_eqY {g c : Nat} {p : Pl} {i : Int} {y : Cel} (hy : p.at i = y) (w : World) (h : PlAt w g c p) : Calls Try.prog 15 #[.pointer (some ⟨g, 0, none⟩), .int .i64 i] w (Ret (.agg #[.int .u8 y.b, .bool y.ge, .bool y.st, .int .u8 y.li, .int .u8 y.co]) w) := by
  rw [← hy]; exact At_any g c p i w h
set_option maxRecDepth 100000 in
set_option maxHeartbeats 2000000 in
theorem shift1_any (g c bx : Nat) (p : Pl) (x : Int) (w : World) (h : PlAt w g c p) (hB : Blk w bx 27 #[.pointer (some ⟨g, 0, none⟩)]) : Calls Try.prog 70 #[.int .i64 x, .pointer (some ⟨bx, 0, none⟩)] w (Ret (.bool (emptyC (p.at x))) w) := by
  have HP := Lib.hid h
  have HBX := Lib.hid hB
  have k0 := hB.cell 0
  simp at k0
  obtain ⟨y, hy⟩ : ∃ y, p.at x = y := ⟨_, rfl⟩
  have HY := Lib.hid hy
  rw [hy]
  clear h hB hy
  obtain ⟨yb, yge, yst, yli, yco⟩ := y
  have hF := field_bY yb yge yst yli yco
  have hG := field_geY yb yge yst yli yco
  by_cases h0 : yb = 0
  · subst h0
    have e : emptyC ⟨0, yge, yst, yli, yco⟩ = !yge := by simp [emptyC]
    rw [e]
    clear e
    go_enter Try.func70, Try.ntmps70
    go_wp2_with fail
    refine (At_eqY HY.out _ HP.out).mono ?_
    rintro e w2 ⟨rfl, hb⟩
    have k2 := (HBX.out.below' hb).cell 0
    have HE := Lib.hid hb
    simp at k2
    clear hb k0
    go_wp2_with fail
    refine (At_eqY HY.out _ (HP.out.ext HE.out)).mono ?_
    rintro e w3 ⟨rfl, hb⟩
    go_wp2_with fail
    go_ret
    exact ⟨rfl, Ext_trans hb HE.out⟩
  · have e0 : (yb == 0) = false := by simpa using h0
    have e : emptyC ⟨yb, yge, yst, yli, yco⟩ = false := by simp [emptyC, h0]
    rw [e]
    clear e
    go_enter Try.func70, Try.ntmps70
    go_wp2_with fail
    refine (At_eqY HY.out _ HP.out).mono ?_
    rintro e w2 ⟨rfl, hb⟩
    go_wp2_with fail
    go_ret
    exact ⟨rfl, hb⟩
/-- the first of the places at which nothing stands; -1: none -/
def Pl.idxM (p : Pl) (l : List Int) : Int := match l.findIdx? (fun i => emptyC (p.at i)) with
  | some k => (k : Int)
  | none => -1
theorem findIdx_first {l : List Int} {f : Int → Bool} {k : Nat} (hk : k < l.length) (h0 : ∀ j (hj : j < k), f (l[j]'(by omega)) = false) (h1 : f l[k] = true) : l.findIdx? f = some k := by
  rw [List.findIdx?_eq_some_iff_getElem]
  exact ⟨hk, h1, fun j hj => by simp [h0 j hj]⟩
theorem findIdx_none {l : List Int} {f : Int → Bool} (h0 : ∀ j (hj : j < l.length), f l[j] = false) : l.findIdx? f = none := by
  rw [List.findIdx?_eq_none_iff]
  intro x hx
  obtain ⟨j, hj, rfl⟩ := List.getElem_of_mem hx
  exact h0 j hj
set_option maxRecDepth 100000 in
set_option maxHeartbeats 2000000 in
theorem IndexFunc_any (g c bx : Nat) (p : Pl) (A : Option Addr) (d : Nat) (l : List Int) (hl : l.length ≤ 5000) (w : World) (h : PlAt w g c p) (hB : Blk w bx 27 #[.pointer (some ⟨g, 0, none⟩)]) (hr : Rd w 1 A l.length (i64s l)) :
    Calls Try.prog 69 #[.slice A l.length d, .func (.func 70) #[] #[.pointer (some ⟨bx, 0, none⟩)]] w (Ret (.int .i64 (p.idxM l)) w) := by
  have HP := Lib.hid h
  have HB := Lib.hid hB
  have HR := Lib.hid hr
  have HE := Lib.hid (Ext_refl w)
  have H0 : Hid (∀ j (hj : j < 0), ∀ (hl : j < l.length), emptyC (p.at l[j]) = false) := Lib.hid (fun j hj => by omega)
  clear h hB hr
  go_enter Try.func69, Try.ntmps69
  go_wp2_with fail
  go_loopw [5, 8] (fun _ v8 wr => ∃ k : Nat, k ≤ l.length ∧ v8 = .int .i64 k ∧ Hid (Ext w wr) ∧ Hid (∀ j (hj : j < k), ∀ (hl : j < l.length), emptyC (p.at l[j]) = false)) (fun _ v8 _ => l.length - (intOf v8).toNat)
  case atStart => exact ⟨0, by omega, rfl, HE, H0⟩
  case round =>
    clear HE H0
    obtain ⟨k, hk, rfl, HE, H0⟩ := hrel
    by_cases hlt : k < l.length
    · obtain ⟨rb, ro, u, eA, hu, d0⟩ := (Rd_ext HE.out HR.out).at1 hlt
      unfold i64s at hu
      rw [List.getElem?_map, List.getElem?_eq_getElem hlt, Option.map_some, Option.some.injEq] at hu
      subst hu
      have HEA := Lib.hid eA
      subst eA
      go_wp2_with fail
      refine (shift1_any g c bx p l[k] _ (HP.out.ext HE.out) (HB.out.below' HE.out)).mono ?_
      rintro e w2 ⟨rfl, hb⟩
      have HE2 := Lib.hid (Ext_trans hb HE.out)
      clear hb d0
      cases hm : emptyC (p.at l[k])
      · have H2 : Hid (∀ j (hj : j < k + 1), ∀ (hl : j < l.length), emptyC (p.at l[j]) = false) := Lib.hid (fun j hj hl => by
          by_cases e : j = k
          · subst e; exact hm
          · exact H0.out j (by omega) hl)
        clear hm
        go_wp2_with fail
        go_roundw
        case rel => exact ⟨k + 1, by omega, by go_num, HE2, H2⟩
        case measure => simp [intOf]; omega
      · have hi : p.idxM l = (k : Int) := by unfold Pl.idxM; rw [findIdx_first hlt (fun j hj => H0.out j hj (by omega)) hm]
        go_wp2_with fail
        go_ret
        exact ⟨by rw [hi]; rfl, HE2.out⟩
    · have hi : p.idxM l = -1 := by unfold Pl.idxM; rw [findIdx_none (fun j hj => H0.out j (by omega) hj)]
      go_wp2_with fail
      go_ret
      exact ⟨by rw [hi]; rfl, HE.out⟩
theorem row_any (g c : Nat) (p : Pl) (i : Int) (i0 : 0 ≤ i) (i1 : i < p.n) (w : World) (h : PlAt w g c p) : Calls Try.prog 48 #[.pointer (some ⟨g, 0, none⟩), .int .i64 i] w (RetI (p.rowL i) w) := by
  by_cases hb : p.before i < 0
  · exact row_plain g c p i hb i0 i1 w h
  · exact row_field_ g c p i hb w h
/-- room is made: the places from n on take what stands before them -/
def Pl.shiftN (p : Pl) (l : List Int) : Nat → Pl
  | 0 => p
  | n + 1 => (p.set (l.getD (n + 1) 0) (p.at (l.getD n 0))).shiftN l n
set_option maxRecDepth 100000 in
set_option maxHeartbeats 4000000 in
theorem shift_no (g c : Nat) (p : Pl) (h0 : 0 ≤ p.cur) (h1 : p.cur < p.n) (L : List Int) (hL : p.rowL p.cur = L) (hlr : L.length ≤ 5000) (hneg : p.idxM L < 0) (w : World) (h : PlAt w g c p) :
    Calls Try.prog 42 #[.pointer (some ⟨g, 0, none⟩)] w (PlTo (.int .i64 43) g c p w) := by
  have HP := Lib.hid h
  have HL := Lib.hid hL
  clear hL
  clear h
  go_enter Try.func42, Try.ntmps42
  go_upto_region 1 with (fail)
  have hB := Blk.new w 27 #[.pointer (some ⟨g, 0, none⟩)]
  have hE := Ext_alloc (o := .cells #[.pointer (some ⟨g, 0, none⟩)] 27) (Ext_refl w)
  generalize w.alloc (.cells #[.pointer (some ⟨g, 0, none⟩)] 27) = W1 at *
  obtain ⟨bx, hbx⟩ : ∃ bx, w.heap.size = bx := ⟨_, rfl⟩
  have hgb : g ≠ bx ∧ c ≠ bx ∧ w.heap.size ≤ bx := by have := HP.out.glt; have := HP.out.clt; omega
  rw [hbx] at hB ⊢
  clear hbx
  have HB := Lib.hid hB
  have HE := Lib.hid hE
  have HP1 := Lib.hid (HP.out.ext hE)
  have p0 := hB.cell 0
  simp at p0
  have q0 := fun d os => cell_regrown p0 d os
  clear hB hE p0
  refine wp_region_chain_below 3 (by kernel_rfl) (by kernel_rfl) ?_
  simp only [List.take_succ_cons, List.take_zero, List.drop_succ_cons, List.drop_zero]
  repeat (go_big_quiet_step ((go_at_call 26; exact Calls.regrown_of (Cursor_any g c p _ (HP1.out.ext (below_regrown _ _ _))))))
  refine wpQuiet_nil ?_
  intro _ hw'
  obtain ⟨⟨dq, osq⟩, hw''⟩ := hw'
  subst hw''
  have hb : Ext W1 (grow (redrawn W1 dq) osq) := below_regrown W1 dq osq
  generalize grow (redrawn W1 dq) osq = W2 at *
  have HP2 := Lib.hid (HP1.out.ext hb)
  have HB2 := Lib.hid (HB.out.below' hb)
  have HE2 := Lib.hid (Ext_trans hb HE.out)
  clear hb q0 HP1 HB HE
  go_wp2_with fail
  refine (row_any g c p p.cur h0 h1 _ HP2.out).mono ?_
  rintro e w3 ⟨A, cc, rfl, hown, hb⟩
  rw [HL.out] at hown ⊢
  have HP3 := Lib.hid (HP2.out.ext hb)
  have HB3 := Lib.hid (HB2.out.below' hb)
  have HE3 := Lib.hid (Ext_trans hb HE2.out)
  have hA : ∀ ad, A = some ad → W2.heap.size ≤ ad.block := fun ad e => (own_base hown ad.block (by rw [e]; rfl)).1
  have hoff : ∀ b, b ∈ [g, c] → Off b A := fun b hb ad e => by
    have h1 := hA ad e
    have h2 := HP2.out.glt
    have h3 := HP2.out.clt
    simp at hb
    omega
  have HR3 := Lib.hid (Rd.own hown)
  have HOFF := Lib.hid hoff
  have hgw : g < w.heap.size ∧ c < w.heap.size := ⟨HP.out.glt, HP.out.clt⟩
  clear hb hown hA hoff HP2 HB2 HE2
  go_wp2_with fail
  refine (IndexFunc_any g c bx p A cc L hlr _ HP3.out HB3.out HR3.out).mono ?_
  rintro e w4 ⟨rfl, hb⟩
  have HP4 := Lib.hid (HP3.out.ext hb)
  have HB4 := Lib.hid (HB3.out.below' hb)
  have HE4 := Lib.hid (Ext_trans hb HE3.out)
  have HR4 := Lib.hid (Rd_ext hb HR3.out)
  clear hb HP3 HB3 HE3 HR3
  go_wp2_with fail
  go_ret
  exact ⟨rfl, HP4.out, Chg.of_ext HE4.out _⟩
set_option maxRecDepth 100000 in
set_option maxHeartbeats 4000000 in
theorem shift_yes (g c : Nat) (p : Pl) (h0 : 0 ≤ p.cur) (h1 : p.cur < p.n) (L : List Int) (hL : p.rowL p.cur = L) (hlr : L.length ≤ 5000) (N : Nat) (hN : p.idxM L = (N : Int)) (F : Pl) (hF : p.shiftN L N = F) (w : World) (h : PlAt w g c p) :
    Calls Try.prog 42 #[.pointer (some ⟨g, 0, none⟩)] w (PlTo (.int .i64 0) g c F w) := by
  have HF := Lib.hid hF
  have hNl : N < L.length := by
    unfold Pl.idxM at hN
    cases hf : L.findIdx? (fun i => emptyC (p.at i)) with
    | none => rw [hf] at hN; simp at hN
    | some k =>
      rw [hf] at hN
      have := (List.findIdx?_eq_some_iff_getElem.1 hf).1
      simp at hN
      omega
  have HN := Lib.hid hN
  clear hF hN
  have HP := Lib.hid h
  have HL := Lib.hid hL
  clear hL
  clear h
  go_enter Try.func42, Try.ntmps42
  go_upto_region 1 with (fail)
  have hB := Blk.new w 27 #[.pointer (some ⟨g, 0, none⟩)]
  have hE := Ext_alloc (o := .cells #[.pointer (some ⟨g, 0, none⟩)] 27) (Ext_refl w)
  generalize w.alloc (.cells #[.pointer (some ⟨g, 0, none⟩)] 27) = W1 at *
  obtain ⟨bx, hbx⟩ : ∃ bx, w.heap.size = bx := ⟨_, rfl⟩
  have hgb : g ≠ bx ∧ c ≠ bx ∧ w.heap.size ≤ bx := by have := HP.out.glt; have := HP.out.clt; omega
  rw [hbx] at hB ⊢
  clear hbx
  have HB := Lib.hid hB
  have HE := Lib.hid hE
  have HP1 := Lib.hid (HP.out.ext hE)
  have p0 := hB.cell 0
  simp at p0
  have q0 := fun d os => cell_regrown p0 d os
  clear hB hE p0
  refine wp_region_chain_below 3 (by kernel_rfl) (by kernel_rfl) ?_
  simp only [List.take_succ_cons, List.take_zero, List.drop_succ_cons, List.drop_zero]
  repeat (go_big_quiet_step ((go_at_call 26; exact Calls.regrown_of (Cursor_any g c p _ (HP1.out.ext (below_regrown _ _ _))))))
  refine wpQuiet_nil ?_
  intro _ hw'
  obtain ⟨⟨dq, osq⟩, hw''⟩ := hw'
  subst hw''
  have hb : Ext W1 (grow (redrawn W1 dq) osq) := below_regrown W1 dq osq
  generalize grow (redrawn W1 dq) osq = W2 at *
  have HP2 := Lib.hid (HP1.out.ext hb)
  have HB2 := Lib.hid (HB.out.below' hb)
  have HE2 := Lib.hid (Ext_trans hb HE.out)
  clear hb q0 HP1 HB HE
  go_wp2_with fail
  refine (row_any g c p p.cur h0 h1 _ HP2.out).mono ?_
  rintro e w3 ⟨A, cc, rfl, hown, hb⟩
  rw [HL.out] at hown ⊢
  have HP3 := Lib.hid (HP2.out.ext hb)
  have HB3 := Lib.hid (HB2.out.below' hb)
  have HE3 := Lib.hid (Ext_trans hb HE2.out)
  have hA : ∀ ad, A = some ad → W2.heap.size ≤ ad.block := fun ad e => (own_base hown ad.block (by rw [e]; rfl)).1
  have hoff : ∀ b, b ∈ [g, c] → Off b A := fun b hb ad e => by
    have h1 := hA ad e
    have h2 := HP2.out.glt
    have h3 := HP2.out.clt
    simp at hb
    omega
  have HR3 := Lib.hid (Rd.own hown)
  have HOFF := Lib.hid hoff
  have hgw : g < w.heap.size ∧ c < w.heap.size := ⟨HP.out.glt, HP.out.clt⟩
  clear hb hown hA hoff HP2 HB2 HE2
  go_wp2_with fail
  refine (IndexFunc_any g c bx p A cc L hlr _ HP3.out HB3.out HR3.out).mono ?_
  rintro e w4 ⟨rfl, hb⟩
  have HP4 := Lib.hid (HP3.out.ext hb)
  have HB4 := Lib.hid (HB3.out.below' hb)
  have HE4 := Lib.hid (Ext_trans hb HE3.out)
  have HR4 := Lib.hid (Rd_ext hb HR3.out)
  clear hb HP3 HB3 HE3 HR3
  rw [HN.out]
  have HPN := Lib.hid (rfl : p.n = p.n)
  go_wp2_with fail
  go_loopw [4] (fun v4 wr => ∃ (m : Nat) (Q : Pl), m ≤ N ∧ v4 = .int .i64 m ∧ Hid (Q.shiftN L m = F) ∧ Hid (PlAt wr g c Q) ∧ Hid (Blk wr bx 27 #[.pointer (some ⟨g, 0, none⟩)]) ∧ Hid (Rd wr 1 A L.length (i64s L)) ∧ Hid (Chg [g, c] w4 wr)) (fun v4 _ => (intOf v4).toNat)
  case atStart => exact ⟨N, p, Nat.le_refl _, rfl, HF, HP4, HB4, HR4, Lib.hid (Chg.refl _ _)⟩
  case round =>
    clear HF HP4 HB4 HR4
    obtain ⟨m, Q, hm, rfl, HF, HP5, HB5, HR5, HC5⟩ := hrel
    by_cases hm0 : 0 < m
    · obtain ⟨k, hk⟩ : ∃ k, m = k + 1 := ⟨m - 1, by omega⟩
      have hml : m < L.length := by omega
      have hkl : k < L.length := by omega
      obtain ⟨rb, ro, u, eA, hu, d1⟩ := HR5.out.at1 hml
      obtain ⟨rb2, ro2, u2, eA2, hu2, d2⟩ := HR5.out.at1 hkl
      rw [eA] at eA2
      injection eA2 with eA2
      injection eA2 with e1 e2 _
      subst e1
      subst e2
      unfold i64s at hu hu2
      rw [List.getElem?_map, List.getElem?_eq_getElem hml, Option.map_some, Option.some.injEq] at hu
      rw [List.getElem?_map, List.getElem?_eq_getElem hkl, Option.map_some, Option.some.injEq] at hu2
      subst hu
      subst hu2
      have hf := HF.out
      rw [hk] at hf
      unfold Pl.shiftN at hf
      rw [List.getD_eq_getElem?_getD, List.getD_eq_getElem?_getD, List.getElem?_eq_getElem (by omega), List.getElem?_eq_getElem hkl, Option.getD_some, Option.getD_some] at hf
      have hlm : L[k + 1]'(by omega) = L[m] := by congr 1; omega
      rw [hlm] at hf
      have HFK := Lib.hid hf
      clear hf HF hlm
      generalize L[m] = x1 at *
      generalize L[k] = x2 at *
      obtain ⟨y, hy⟩ : ∃ y, Q.at x2 = y := ⟨_, rfl⟩
      have hyb := at_bdd HP5.out.ok.by_ x2
      rw [hy] at HFK hyb
      have HY := Lib.hid hy
      have hw : IntKind.i64.wrap ((m : Int) - 1) = (k : Int) := by rw [IntWalk.i64_in _ (by omega)]; omega
      clear hy
      subst eA
      have hk1 : m ≤ k + 1 := by omega
      have hk2 : k + 1 ≤ m := by omega
      clear hk
      have b0 := HB5.out.cell 0
      simp at b0
      go_upto_region 7 with (fail)
      have q0 := fun d os => cell_regrown b0 d os
      have q1 := fun d os => cell_regrown d1 d os
      have q2 := fun d os => cell_regrown d2 d os
      refine wp_region_chain_below 12 (by kernel_rfl) (by kernel_rfl) ?_
      simp only [List.take_succ_cons, List.take_zero, List.drop_succ_cons, List.drop_zero]
      repeat (go_big_quiet_step ((go_at_call 15; exact Calls.regrown_of (At_eqY HY.out _ (HP5.out.ext (below_regrown _ _ _))))))
      refine wpQuiet_nil ?_
      intro _ hw'
      obtain ⟨⟨dq, osq⟩, hw''⟩ := hw'
      subst hw''
      have hb : Ext wr (grow (redrawn wr dq) osq) := below_regrown wr dq osq
      generalize grow (redrawn wr dq) osq = W6 at *
      have HP6 := Lib.hid (HP5.out.ext hb)
      have HB6 := Lib.hid (HB5.out.below' hb)
      have HR6 := Lib.hid (Rd_ext hb HR5.out)
      have HC6 := Lib.hid (HC5.out.trans (Chg.of_ext hb _))
      clear hb q0 q1 q2 b0 d1 d2 HP5 HB5 HR5 HC5
      go_wp2_with fail
      refine (Set_any g c Q x1 y hyb _ HP6.out).mono ?_
      rintro e w7 ⟨rfl, hs, hch⟩
      have HP7 := Lib.hid hs
      have HB7 := Lib.hid (HB6.out.chg hch (by simp; omega))
      have HR7 := Lib.hid (HR6.out.chg hch HOFF.out)
      have HC7 := Lib.hid (HC6.out.trans hch)
      clear hs hch HP6 HB6 HR6 HC6
      go_wp2_with fail
      go_roundw
      case rel => exact ⟨k, Q.set x1 y, by omega, by go_num, HFK, HP7, HB7, HR7, HC7⟩
      case measure => simp [intOf]; omega
    · have hm1 : m = 0 := by omega
      subst hm1
      have hf := HF.out
      unfold Pl.shiftN at hf
      subst hf
      go_wp2_with fail
      go_ret
      exact ⟨rfl, HP5.out, ((Chg.of_ext HE4.out [g, c]).trans HC5.out)⟩
end Go.Proofs.Ytmldhgebbgalbaa
