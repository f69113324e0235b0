/- IacBack: events that may be, written, are told as they are. -/
import Derived.Test.YthkioahpnbahhaaD5y
import Derived.Test.YthkioahpnbahhaaD5s
namespace Go.Proofs.Ythkioahpnbahhaa
set_option linter.unusedVariables false
set_option linter.unusedSimpArgs false
open Go.RowKit Go.Proofs.YthkioahpnbahhaaW.PrintWords
theorem field_bytes {H : Type} {enc : TypeId × Value → H} {W : World} {base : Nat} {sp : Nat → Bool} {held : Bool} {v : Value} {q : Nat} {z : DataW H × List MemPlace} (h : DataW.trod enc Try.prog W base sp held q 24 [v] = some z) :
    ∃ A n c, ∃ l : List Int, v = .slice A n c ∧ l.length = n ∧ n ≤ c ∧ n ≤ maxLen ∧ Rd W 1 A n (u8s l) ∧ ∀ x ∈ l, 0 ≤ x ∧ x < 256 := by
  have hv : ∃ A n c, v = .slice A n c := by
    rcases Go.Deep.open_slice Try.underlying24 h with ⟨hcs, _⟩ | ⟨a, len, cap, m, n, D, Pl, hcs, _⟩
    · exact ⟨none, 0, 0, by simpa using hcs⟩
    · exact ⟨some a, len, cap, by simpa using hcs⟩
  obtain ⟨A, n, c, rfl⟩ := hv
  obtain ⟨d, ps⟩ := z
  obtain ⟨l, h1, h2, h3, h4, h5⟩ := arg_bytes (A := A) (n := n) (c := c) (d := d) (ps := ps) Try.underlying24 Try.underlying5 (by kernel_rfl) ⟨q, h⟩
  exact ⟨A, n, c, l, rfl, h1, h2, h3, h4, h5⟩
theorem ev_rows {H : Type} {w : World} {A : Option Addr} {n c : Nat} (h : Handed Try.prog H w 22 (.slice A n c)) :
    ∃ ms : List Em, ms.length = n ∧ n ≤ c ∧ n ≤ maxLen ∧ Rd w 4 A n (ms.flatMap Em.enc) ∧ ∀ m ∈ ms, m.rd w ∧ m.e.bytes.length ≤ maxLen := by
  obtain ⟨enc, d, ps, h⟩ := h
  refine arg_structs Em.enc (fun m => m.rd w ∧ m.e.bytes.length ≤ maxLen) Try.underlying22 (e := 28) (k := 4) (by kernel_rfl) (by omega) h (fun r m y hl hy => ?_)
  obtain ⟨v0, v1, v2, v3, rfl⟩ : ∃ v0 v1 v2 v3, r = [v0, v1, v2, v3] := by
    match r, hl with
    | [a, b, c, d], _ => exact ⟨a, b, c, d, rfl⟩
  have he := Try.underlying28
  obtain ⟨q0, z0, h0⟩ := row_field he (by kernel_rfl) hy 0 _ rfl v0 rfl
  obtain ⟨q1, z1, h1⟩ := row_field he (by kernel_rfl) hy 1 _ rfl v1 rfl
  obtain ⟨q2, z2, h2⟩ := row_field he (by kernel_rfl) hy 2 _ rfl v2 rfl
  obtain ⟨q3, z3, h3⟩ := row_field he (by kernel_rfl) hy 3 _ rfl v3 rfl
  obtain ⟨k, rfl, _⟩ := field_int Try.underlying3 h0
  obtain ⟨co, rfl, hc⟩ := field_int Try.underlying5 h1
  obtain ⟨x, rfl, hx⟩ := field_int Try.underlying5 h2
  obtain ⟨A3, n3, c3, l, rfl, rfl, hb1, hb2, hb3, hb4⟩ := field_bytes h3
  exact ⟨⟨⟨k, co, x, l⟩, A3, c3⟩, rfl, ⟨hb3, hb1⟩, hb2⟩
def EvsX (W : World) (vo : Value) (ms : List Em) : Prop := ∃ own v, EvsAt own W vo ms v
theorem EvsX.rd {W : World} {vo : Value} {ms : List Em} (h : EvsX W vo ms) : EvR W vo ms := by
  obtain ⟨own, v, h⟩ := h
  exact h.rd
theorem EvsX.ext {W W1 : World} {vo : Value} {ms : List Em} (h : EvsX W vo ms) (hx : Ext W W1) : EvsX W1 vo ms := by
  obtain ⟨own, v, h⟩ := h
  exact ⟨own, v, h.ext hx⟩
theorem EvsX.mut {W W1 : World} {vo : Value} {ms : List Em} {db : Nat} {cs : Array Value} (h : EvsX W vo ms) (hb : Blk W db 57 cs) (hm : Mut db W W1) : EvsX W1 vo ms := by
  obtain ⟨own, v, h⟩ := h
  exact ⟨own, v, h.mut hb hm⟩
set_option maxRecDepth 100000 in
set_option maxHeartbeats 8000000 in
theorem IacBack_any (A A2 : Option Addr) (c c2 : Nat) (ms : List Em) (b : List Int) (hn : ms.length ≤ maxLen) (hc : ms.length ≤ c) (hm : ∀ m ∈ ms, m.e.bytes.length ≤ maxLen) (hn2 : b.length ≤ maxLen) (hc2 : b.length ≤ c2) (w : World) (hr : Rd w 4 A ms.length (ms.flatMap Em.enc)) (hrm : ∀ m ∈ ms, m.rd w) (hr2 : Rd w 1 A2 b.length (u8s b)) :
    Calls Try.prog 8 #[.slice A ms.length c, .slice A2 b.length c2] w (Ret (.bool true) w) := by
  unfold maxLen at hn hn2 hm
  have HR := Lib.hid (fun w' (h : Ext w w') => Rd_ext h hr)
  have HRM := Lib.hid hrm
  have HML := Lib.hid hm
  have HR2 := Lib.hid (fun w' (h : Ext w w') => Rd_ext h hr2)
  have HX := Lib.hid (Ext_refl w)
  have HL0 := Lib.hid (fun (h : 0 < b.length) => Rd.lt hr2 h)
  clear hr hr2 hrm hm
  by_cases hl : 60 < ms.length
  · have hd : decide ((60 : Int) < (ms.length : Int)) = true := decide_eq_true (by omega)
    go_enter Try.func8, Try.ntmps8
    go_wp2_with (go_at_call 24; refine (alive5_any _).mono ?_; rintro e wn ⟨rfl, hb⟩; have HXn := Lib.hid (Ext_trans hb (by repeat' (first | (with_reducible first | exact HX.out | apply Ext_alloc | apply Ext_drewN | apply Ext_drew | (refine Ext_set ?_ ?_) | exact Ext_refl _) | (simp only [World.size_alloc, World.size_setCell, World.size_drew, size_drewN]; omega) | (simp; done) | (simp; omega)))); clear hb HX; have HX := HXn; clear HXn)
    go_ret
    exact ⟨rfl, HX.out⟩
  have hd : decide ((60 : Int) < (ms.length : Int)) = false := decide_eq_false (by omega)
  by_cases hl2 : 2000 < b.length
  · have hd2 : decide ((2000 : Int) < (b.length : Int)) = true := decide_eq_true (by omega)
    go_enter Try.func8, Try.ntmps8
    go_wp2_with (go_at_call 24; refine (alive5_any _).mono ?_; rintro e wn ⟨rfl, hb⟩; have HXn := Lib.hid (Ext_trans hb (by repeat' (first | (with_reducible first | exact HX.out | apply Ext_alloc | apply Ext_drewN | apply Ext_drew | (refine Ext_set ?_ ?_) | exact Ext_refl _) | (simp only [World.size_alloc, World.size_setCell, World.size_drew, size_drewN]; omega) | (simp; done) | (simp; omega)))); clear hb HX; have HX := HXn; clear HXn)
    go_ret
    exact ⟨rfl, HX.out⟩
  have hd2 : decide ((2000 : Int) < (b.length : Int)) = false := decide_eq_false (by omega)
  have hb2 : b.length ≤ 2000 := by omega
  have hm2 : ms.length ≤ 60 := by omega
  clear hl hl2
  obtain ⟨i0, hi, hz0, hz1, hz2⟩ := info_parts infoE
  go_enter Try.func8, Try.ntmps8
  go_wp2_with (go_at_call 24; refine (alive5_any _).mono ?_; rintro e wn ⟨rfl, hb⟩; have HXn := Lib.hid (Ext_trans hb (by repeat' (first | (with_reducible first | exact HX.out | apply Ext_alloc | apply Ext_drewN | apply Ext_drew | (refine Ext_set ?_ ?_) | exact Ext_refl _) | (simp only [World.size_alloc, World.size_setCell, World.size_drew, size_drewN]; omega) | (simp; done) | (simp; omega)))); clear hb HX; have HX := HXn; clear HXn)
  have HS0 := Lib.hid (show (wn.alloc (.cells #[] 28)).ownsRow w.heap.size 28 4 (.slice (some ⟨wn.heap.size, 0, none⟩) 0 0) 0 [] from Go.Proofs.YthkioahpnbahhaaW.PrintWords.own_weaken (World.ownsRow_lit wn #[] 0 (Nat.le_refl _) (by decide) rfl) HX.out.size)
  go_loopw [5, 7, 8, 9, 29] (fun v5 _ _ _ v wr => ∃ (k : Nat) (ys : List Em), k ≤ ms.length ∧ v = .int .i64 k ∧ Hid (wr.ownsRow w.heap.size 28 4 v5 ys.length (ys.flatMap Em.enc)) ∧ Hid (Ext w wr) ∧ Hid (ys.length ≤ k ∧ ∀ y ∈ ys, Plain y.e ∧ y.rd w ∧ y.e.bytes.length ≤ 256)) (fun _ _ _ _ v _ => ms.length - (intOf v).toNat)
  case atStart => exact ⟨0, [], Nat.zero_le _, rfl, HS0.out, Ext_alloc HX.out, ⟨Nat.le_refl _, fun y hy => (by cases hy)⟩⟩
  case round =>
    clear HS0 HX
    obtain ⟨k, ys, hk, rfl, HY, HX, HP⟩ := hrel
    obtain ⟨A5, c5, rfl⟩ := Go.Proofs.YthkioahpnbahhaaW.PrintWords.own_slice HY.out
    have hsz := HX.out.size
    have hyl := HP.out.1
    by_cases hlt : k < ms.length
    · obtain ⟨m, hx⟩ : ∃ m, ms[k]? = some m := ⟨_, List.getElem?_eq_getElem hlt⟩
      obtain ⟨bb, o, hA, hcell⟩ := (HR.out _ HX.out).elem Em.enc (fun _ => rfl) hlt hx
      have hmem : m ∈ ms := List.mem_of_getElem? hx
      have hmr := HRM.out m hmem
      have hml := HML.out m hmem
      have k0 := hcell 0 _ rfl
      have k1 := hcell 1 _ rfl
      have k2 := hcell 2 _ rfl
      have k3 := hcell 3 _ rfl
      simp only [Nat.add_zero, Em.v] at k0 k1 k2 k3
      subst hA
      have HMR := Lib.hid hmr
      clear hcell hx hmem hmr
      have hwk : IntKind.i64.wrap ((k : Int) + 1) = ((k + 1 : Nat) : Int) := IntWalk.i64_in _ (by omega)
      by_cases hb6 : 256 < m.e.bytes.length
      · have hd6 : decide ((256 : Int) < (m.e.bytes.length : Int)) = true := decide_eq_true (by omega)
        go_wp2_with fail
        go_ret
        exact ⟨rfl, Ext_alloc HX.out⟩
      · have hd6 : decide ((256 : Int) < (m.e.bytes.length : Int)) = false := decide_eq_false (by omega)
        have hb7 : m.e.bytes.length ≤ 256 := by omega
        clear hb6
        go_wp2_with fail
        have hpp := plainE_plain m hb7
        have hpr := plainE_rd m HMR.out
        have hpa := plain_any m (wr.alloc (.cells #[.int .i64 m.e.kind, .int .u8 m.e.code, .int .u8 m.e.opt, .slice m.A m.e.bytes.length m.c] 28))
        obtain ⟨r, hpl⟩ : ∃ r, plainE m = r := ⟨_, rfl⟩
        rw [hpl] at hpp hpr hpa
        obtain ⟨⟨⟨xk, xc, xo, xb⟩, xA, xn⟩, ok⟩ := r
        have HPP := Lib.hid hpp
        have HPR := Lib.hid hpr
        clear hpp hpr hpl
        refine hpa.mono ?_
        clear hpa
        rintro e w3 ⟨he, hx3⟩
        simp only [Em.enc, Em.v] at he
        subst he
        have HX3 := Lib.hid (Ext_trans hx3 (Ext_alloc HX.out))
        have HY3 := Lib.hid (own_ext5 HY.out (Ext_trans hx3 (Ext_alloc (Ext_refl wr))))
        have hsz3 : w.heap.size ≤ w3.heap.size := HX3.out.size
        clear hx3 k0 k1 k2 k3 HX HY
        cases ok
        case true =>
          have hPx : Plain ⟨xk, xc, xo, xb⟩ ∧ xb.length ≤ 256 := HPP.out rfl
          have HPx := Lib.hid hPx
          clear hPx
          go_wp2_with (at_builtin; go_must (refine list_append_at w.heap.size rfl (.tmp 43) (.tmp 45) 22 rfl 28 i0 _ 4 40 Try.underlying22 hi hz0 hz1 hz2 rfl (by decide) (.slice A5 ys.length c5) ys.length (ys.flatMap Em.enc) (by rfl) (own_alloc (own_alloc HY3.out _) _) ⟨w3.heap.size + 1, 0, none⟩ 1 1 (Em.mk ⟨xk, xc, xo, xb⟩ xA xn).enc (by rfl) rfl (by have hb := World.news_of_block (heap_alloc_new (w3.alloc (.cells (Em.mk ⟨xk, xc, xo, xb⟩ xA xn).enc.toArray 28)) (.cells (Em.mk ⟨xk, xc, xo, xb⟩ xA xn).enc.toArray 28)); rw [World.size_alloc] at hb; exact hb) (by intro u hu; simp [Em.enc, Em.v] at hu; rcases hu with rfl | rfl | rfl | rfl <;> rfl) (by unfold maxLen; omega) (by omega) (by simp; omega) ?_); intro A6 c6 w6 hq hg; have HX6 : Hid (Ext w w6) := Lib.hid ((Ext_alloc (Ext_alloc HX3.out)).grown hg (Ext_alloc (Ext_alloc HX3.out)).size (fun g hg => (own_base HY3.out g hg).1)); have HQ := Lib.hid hq; clear hq hg)
          refine ⟨⟨k + 1, ys ++ [⟨⟨xk, xc, xo, xb⟩, xA, xn⟩], by omega, by go_num, Lib.hid ?_, HX6, Lib.hid ⟨by rw [List.length_append, List.length_singleton]; omega, fun y hy => ?_⟩⟩, by simp [intOf]; omega⟩
          · have e1 : [(Em.mk ⟨xk, xc, xo, xb⟩ xA xn)].flatMap Em.enc = (Em.mk ⟨xk, xc, xo, xb⟩ xA xn).enc := by simp
            rw [List.length_append, List.flatMap_append, e1]
            exact HQ.out
          · rcases List.mem_append.1 hy with hy | hy
            · exact HP.out.2 y hy
            · rw [List.mem_singleton.1 hy]
              exact ⟨HPx.out.1, HPR.out, HPx.out.2⟩
        case false =>
          go_wp2_with fail
          refine ⟨⟨k + 1, ys, by omega, by go_num, Lib.hid (own_alloc HY3.out _), Lib.hid (Ext_alloc HX3.out), Lib.hid ⟨by omega, HP.out.2⟩⟩, by simp [intOf]; omega⟩
    · have hke : k = ms.length := by omega
      subst hke
      clear hlt hk
      go_wp2_with fail
      have HY2 := Lib.hid (own_ext5 HY.out (Ext_alloc (o := (.cells #[.int .i64 0, .int .u8 0, .int .u8 0, .slice none 0 0, .bool false, .slice none 0 0] 57)) (Ext_alloc (o := (.cells #[.int .i64 0, .int .u8 0, .int .u8 0, .slice none 0 0, .bool false, .slice none 0 0] 57)) (Ext_alloc (o := (.cells #[.int .i64 0, .int .u8 0, .int .u8 0, .slice none 0 0, .bool false, .slice none 0 0] 57)) (Ext_refl wr)))))
      have hX2 : Ext w (((wr.alloc (.cells #[.int .i64 0, .int .u8 0, .int .u8 0, .slice none 0 0, .bool false, .slice none 0 0] 57)).alloc (.cells #[.int .i64 0, .int .u8 0, .int .u8 0, .slice none 0 0, .bool false, .slice none 0 0] 57)).alloc (.cells #[.int .i64 0, .int .u8 0, .int .u8 0, .slice none 0 0, .bool false, .slice none 0 0] 57)) := Ext_alloc (Ext_alloc (Ext_alloc (HX.out)))
      have hD2_0 := (DecR.ext (DecR.ext (DecR.fresh wr) (Ext_alloc (o := (.cells #[.int .i64 0, .int .u8 0, .int .u8 0, .slice none 0 0, .bool false, .slice none 0 0] 57)) (Ext_refl _))) (Ext_alloc (o := (.cells #[.int .i64 0, .int .u8 0, .int .u8 0, .slice none 0 0, .bool false, .slice none 0 0] 57)) (Ext_refl _)))
      have hD2_1 := (DecR.ext (DecR.fresh (wr.alloc (.cells #[.int .i64 0, .int .u8 0, .int .u8 0, .slice none 0 0, .bool false, .slice none 0 0] 57))) (Ext_alloc (o := (.cells #[.int .i64 0, .int .u8 0, .int .u8 0, .slice none 0 0, .bool false, .slice none 0 0] 57)) (Ext_refl _)))
      simp only [World.size_alloc] at hD2_1
      have hD2_2 := (DecR.fresh ((wr.alloc (.cells #[.int .i64 0, .int .u8 0, .int .u8 0, .slice none 0 0, .bool false, .slice none 0 0] 57)).alloc (.cells #[.int .i64 0, .int .u8 0, .int .u8 0, .slice none 0 0, .bool false, .slice none 0 0] 57)))
      simp only [World.size_alloc] at hD2_2
      have hs2 : wr.heap.size + 3 ≤ (((wr.alloc (.cells #[.int .i64 0, .int .u8 0, .int .u8 0, .slice none 0 0, .bool false, .slice none 0 0] 57)).alloc (.cells #[.int .i64 0, .int .u8 0, .int .u8 0, .slice none 0 0, .bool false, .slice none 0 0] 57)).alloc (.cells #[.int .i64 0, .int .u8 0, .int .u8 0, .slice none 0 0, .bool false, .slice none 0 0] 57)).heap.size := by simp
      have hp : w.heap.size ≤ wr.heap.size := HX.out.size
      have HX2 := Lib.hid hX2
      have HD2_0 := Lib.hid hD2_0
      have HD2_1 := Lib.hid hD2_1
      have HD2_2 := Lib.hid hD2_2
      clear hX2 HX hD2_0 hD2_1 hD2_2
      generalize (((wr.alloc (.cells #[.int .i64 0, .int .u8 0, .int .u8 0, .slice none 0 0, .bool false, .slice none 0 0] 57)).alloc (.cells #[.int .i64 0, .int .u8 0, .int .u8 0, .slice none 0 0, .bool false, .slice none 0 0] 57)).alloc (.cells #[.int .i64 0, .int .u8 0, .int .u8 0, .slice none 0 0, .bool false, .slice none 0 0] 57)) = w2 at *
      generalize wr.heap.size = p at *
      have hPl : ∀ e ∈ ys.map Em.e, Plain e := fun e he => by
        obtain ⟨y, hy, rfl⟩ := List.mem_map.1 he
        exact (HP.out.2 y hy).1
      have hwt := write_takes (ys.map Em.e) hPl Dec.zero rfl
      have hlen := writeL_length 256 (ys.map Em.e) (fun e he => by
        obtain ⟨y, hy, rfl⟩ := List.mem_map.1 he
        exact (HP.out.2 y hy).2.2)
      rw [List.length_map] at hlen
      have HYb : Hid (∀ y ∈ ys, y.e.bytes.length ≤ 1000000) := Lib.hid (fun y hy => by have := (HP.out.2 y hy).2.2; omega)
      have HYr := Lib.hid (fun (W : World) (hx : Ext w W) (h : W.ownsRow w.heap.size 28 4 (.slice A5 ys.length c5) ys.length (ys.flatMap Em.enc)) => (EvR.of_own h (fun y hy => (HP.out.2 y hy).2.1.ext hx) : EvR W _ ys))
      clear hPl HY
      have hwl : Calls Try.prog 33 #[.slice A5 ys.length c5] w2 (RetB (writeL (ys.map Em.e)) w2) := Write_any (HYr.out _ HX2.out HY2.out) (by omega) HYb.out (by omega)
      obtain ⟨wl, hwle⟩ : ∃ wl, writeL (ys.map Em.e) = wl := ⟨_, rfl⟩
      rw [hwle] at hwl hwt hlen
      have HWT := Lib.hid hwt
      have hlen2 : wl.length ≤ 40000 := by omega
      clear hwt hwle
      refine hwl.mono ?_
      clear hwl
      rintro e w3 ⟨v3, rfl, ⟨A3, c3, rfl, hc3, hr3, hf3⟩, hx3⟩
      have HX3 := Lib.hid (Ext_trans hx3 HX2.out)
      have HY3 := Lib.hid (own_ext5 HY2.out hx3)
      have HA3 := Lib.hid (HD2_0.out.ext hx3)
      have HB3 := Lib.hid (HD2_1.out.ext hx3)
      have HC3 := Lib.hid (HD2_2.out.ext hx3)
      have HR3 := Lib.hid hr3
      have HF3 := Lib.hid hf3
      have hs3 : p + 3 ≤ w3.heap.size := Nat.le_trans hs2 hx3.size
      clear hr3 hf3 hx3 HX2 HY2 HD2_0 HD2_1 HD2_2
      go_wp2_with fail
      refine (Feed_new HA3.out A3 c3 wl hlen2 hc3 HR3.out (fun _ => HF3.out.off (by omega))).mono ?_
      rintro e w4 ⟨vo4, ms4, vs4, rfl, hd4, he4, hm4, hv4, hx4⟩
      have HX4 := Lib.hid (Mut_trans hx4 HX3.out hp)
      have HY4 := Lib.hid (own_move HY3.out (w1 := w4) (fun g hg => hx4.block g (World.ownsRow.lt HY3.out g hg).2 (fun e => own_blk_ne HY3.out HA3.out.blk (by decide) (by rw [hg]; exact e))))
      have HA4 := Lib.hid hd4
      have HB4 := Lib.hid (HB3.out.mut hx4 (by omega) (fun h => by cases h))
      have HC4 := Lib.hid (HC3.out.mut hx4 (by omega) (fun h => by cases h))
      have HG4 := Lib.hid he4.rd
      have HM4 := Lib.hid hm4
      have hs4 : p + 3 ≤ w4.heap.size := Nat.le_trans hs3 hx4.size
      have hsm := out_small hm4
      have hn4 : ms4.length ≤ 100000 := by have := hsm.1; omega
      have HB4' : Hid (∀ m ∈ ms4, m.e.bytes.length ≤ 1000000) := Lib.hid (fun m hm => by have := hsm.2 m hm; omega)
      have HJ4 : Hid (ms4.map Em.e = joinL (ys.map Em.e)) := Lib.hid (hm4.trans HWT.out.2)
      clear hd4 he4 hm4 hv4 hx4 HA3 HB3 HC3 HX3 HY3 HR3 HF3 hsm
      go_wp2_with fail
      refine (IJoin_any HG4.out hn4 HB4'.out).mono ?_
      rintro e w5 ⟨v5, ms5, rfl, hj5, hm5, hb5, hn5, hx5⟩
      have HX5 := Lib.hid (Ext_trans hx5 HX4.out)
      have HY5 := Lib.hid (own_ext5 HY4.out hx5)
      have HA5 := Lib.hid (HA4.out.ext hx5)
      have HB5 := Lib.hid (HB4.out.ext hx5)
      have HC5 := Lib.hid (HC4.out.ext hx5)
      have HJ5 := Lib.hid hj5.rd
      have HM5 : Hid (ms5.map Em.e = joinL (ys.map Em.e)) := Lib.hid (by rw [hm5, HM4.out, (all_joined wl).1]; exact HWT.out.2)
      have hn5' : ms5.length ≤ 100000 := by omega
      have HB5' : Hid (∀ m ∈ ms5, m.e.bytes.length ≤ 1000000) := Lib.hid (fun m hm => by
        have h1 : m.e ∈ ms4.map Em.e := by rw [HJ4.out, ← HM5.out]; exact List.mem_map_of_mem hm
        obtain ⟨m', h2, h3⟩ := List.mem_map.1 h1
        rw [← h3]
        exact HB4'.out m' h2)
      have hs5 : p + 3 ≤ w5.heap.size := Nat.le_trans hs4 hx5.size
      clear hj5 hm5 hb5 hn5 hx5 HX4 HY4 HA4 HB4 HC4 HG4 HM4 HB4' HJ4 hn4
      go_wp2_with fail
      refine (as_any HJ5.out hn5').mono ?_
      rintro e w6 ⟨v6, rfl, hd6, hx6⟩
      have HS6 := Lib.hid (AsP.rd hd6 HJ5.out hx6)
      have HX6 := Lib.hid (Ext_trans hx6 HX5.out)
      have HY6 := Lib.hid (own_ext5 HY5.out hx6)
      have HA6 := Lib.hid (HA5.out.ext hx6)
      have HB6 := Lib.hid (HB5.out.ext hx6)
      have HC6 := Lib.hid (HC5.out.ext hx6)
      clear hd6 hx6 HX5 HY5 HA5 HB5 HC5 HJ5
      go_wp2_with fail
      refine (IJoin_any (HYr.out _ HX6.out HY6.out) (by omega) HYb.out).mono ?_
      rintro e w7 ⟨v7, ms7, rfl, hj7, hm7, hb7, hn7, hx7⟩
      have HX7 := Lib.hid (Ext_trans hx7 HX6.out)
      have HS7 := Lib.hid (HS6.out.ext hx7)
      have HA7 := Lib.hid (HA6.out.ext hx7)
      have HB7 := Lib.hid (HB6.out.ext hx7)
      have HC7 := Lib.hid (HC6.out.ext hx7)
      have HJ7 := Lib.hid hj7.rd
      have HM7 := Lib.hid (HM5.out.trans hm7.symm)
      have hn7' : ms7.length ≤ 100000 := by omega
      clear hj7 hm7 hb7 hn7 hx7 HX6 HS6 HA6 HB6 HC6 HY6
      go_wp2_with fail
      refine (as_any HJ7.out hn7').mono ?_
      rintro e w8 ⟨v8, rfl, hd8, hx8⟩
      have HT8 := Lib.hid (AsP.rd hd8 HJ7.out hx8)
      have HX8 := Lib.hid (Ext_trans hx8 HX7.out)
      have HS8 := Lib.hid (HS7.out.ext hx8)
      have HA8 := Lib.hid (HA7.out.ext hx8)
      have HB8 := Lib.hid (HB7.out.ext hx8)
      have HC8 := Lib.hid (HC7.out.ext hx8)
      clear hd8 hx8 HX7 HS7 HA7 HB7 HC7 HJ7
      go_wp2_with fail
      refine (SameE_any HS8.out HT8.out HM7.out (by omega) HB5'.out).mono ?_
      rintro e w9 ⟨rfl, hx9⟩
      have HX9 := Lib.hid (Ext_trans hx9 HX8.out)
      have HA9 := Lib.hid (HA8.out.ext hx9)
      have HB9 := Lib.hid (HB8.out.ext hx9)
      have HC9 := Lib.hid (HC8.out.ext hx9)
      clear hx9 HX8 HS8 HT8 HA8 HB8 HC8 HM7 HM5 HB5'
      have hat : ((({ Dec.zero.takes wl with out := [] } : Dec)).at_ != 0) = false := by
        have := HWT.out.1
        simp [this]
      have HAT := Lib.hid hat
      clear hat
      go_wp2_with (go_at_call 30; refine (DOpen_any HA9.out).mono ?_; rintro e wq ⟨rfl, rfl⟩; rw [HAT.out])
      refine (Feed_new HB9.out A2 c2 b (by omega) hc2 (HR2.out _ HX9.out) (fun h0 ad e => by have := HL0.out h0 ad e; omega)).mono ?_
      rintro e w10 ⟨vo10, ms10, vs10, rfl, hd10, he10, hm10, hv10, hx10⟩
      have HX10 := Lib.hid (Mut_trans hx10 HX9.out (by omega))
      have HC10 := Lib.hid (HC9.out.mut hx10 (by omega) (fun h => by cases h))
      have HG10 : Hid (EvsX w10 vo10 ms10) := Lib.hid ⟨_, _, he10⟩
      have HM10 := Lib.hid hm10
      have hsm := out_small hm10
      have hn10 : ms10.length ≤ 100000 := by have := hsm.1; omega
      have HB10 : Hid (∀ m ∈ ms10, m.e.bytes.length ≤ 1000000) := Lib.hid (fun m hm => by have := hsm.2 m hm; omega)
      have hwt2 := all_weight b
      rw [← hm10] at hwt2
      have HWT2 := Lib.hid hwt2
      have hsp : p + 3 ≤ w10.heap.size := by
        have h1 := HA9.out.blk.lt
        have h2 := HC9.out.blk.lt
        have h3 := hx10.size
        omega
      obtain ⟨A10, c10, hvo⟩ := Go.Proofs.YthkioahpnbahhaaW.PrintWords.own_slice he10.out
      subst hvo
      clear hd10 he10 hm10 hv10 hx10 hsm hwt2 HA9 HB9 HC9 HX9 HWT HAT
      go_wp2_with fail
      go_loopw [15, 65] (fun _ v wr => ∃ k : Nat, k ≤ ms10.length ∧ v = .int .i64 k ∧ Hid (EvsX wr (.slice A10 ms10.length c10) ms10) ∧ Hid (DecR wr (p + 1 + 1) Dec.zero (.slice none 0 0)) ∧ Hid (Ext w wr) ∧ Hid (∀ m ∈ ms10.take k, m.e.kind ≠ 6 ∧ m.e.kind ≠ 7)) (fun _ v _ => ms10.length - (intOf v).toNat)
      case atStart => exact ⟨0, Nat.zero_le _, rfl, HG10, HC10, HX10, Lib.hid (fun m hm => by simp at hm)⟩
      case round =>
        clear HG10 HC10 HX10
        obtain ⟨k, hk, rfl, HG, HC, HX, HK⟩ := hrel
        by_cases hlt : k < ms10.length
        · obtain ⟨m, hx⟩ : ∃ m, ms10[k]? = some m := ⟨_, List.getElem?_eq_getElem hlt⟩
          obtain ⟨Ax, cx, hvx, _, hgr, _⟩ := HG.out.rd
          injection hvx with hv1 _ hv2
          subst hv1
          subst hv2
          obtain ⟨bb, o, hA, hcell⟩ := hgr.elem Em.enc (fun _ => rfl) hlt hx
          have k0 := hcell 0 _ rfl
          have k1 := hcell 1 _ rfl
          have k2 := hcell 2 _ rfl
          have k3 := hcell 3 _ rfl
          simp only [Nat.add_zero, Em.v] at k0 k1 k2 k3
          subst hA
          have HTK := Lib.hid (show ms10.take (k + 1) = ms10.take k ++ [m] by rw [List.take_add_one, hx]; rfl)
          have hwk : IntKind.i64.wrap ((k : Int) + 1) = ((k + 1 : Nat) : Int) := IntWalk.i64_in _ (by omega)
          clear hcell hx hgr
          by_cases h6 : m.e.kind = 6
          · have q6 : (m.e.kind == 6) = true := by rw [h6]; rfl
            clear h6
            go_wp2_with fail
            go_ret
            exact ⟨rfl, Ext_alloc HX.out⟩
          · have q6 : (m.e.kind == 6) = false := by simpa using h6
            by_cases h7 : m.e.kind = 7
            · have q7 : (m.e.kind == 7) = true := by rw [h7]; rfl
              clear h6 h7
              go_wp2_with fail
              go_ret
              exact ⟨rfl, Ext_alloc HX.out⟩
            · have q7 : (m.e.kind == 7) = false := by simpa using h7
              have H67 := Lib.hid (And.intro h6 h7)
              clear h6 h7
              go_wp2_with fail
              refine ⟨⟨k + 1, by omega, by go_num, Lib.hid (HG.out.ext (Ext_alloc (Ext_refl _))), Lib.hid (HC.out.ext (Ext_alloc (Ext_refl _))), Lib.hid (Ext_alloc HX.out), Lib.hid (fun x hx => ?_)⟩, by simp [intOf]; omega⟩
              rw [HTK.out] at hx
              rcases List.mem_append.1 hx with hx | hx
              · exact HK.out x hx
              · rw [List.mem_singleton.1 hx]; exact H67.out
        · have hke : k = ms10.length := by omega
          subst hke
          clear hlt hk
          rw [List.take_length] at HK
          have hno : ∀ e ∈ (Dec.zero.takes b).out, e.kind ≠ 6 ∧ e.kind ≠ 7 := fun e he => by
            rw [← HM10.out] at he
            obtain ⟨m, hm, rfl⟩ := List.mem_map.1 he
            exact HK.out m hm
          have HBK := Lib.hid (back b hno)
          clear hno
          go_wp2_with fail
          have hw2 := HWT2.out
          have hwl : Calls Try.prog 33 #[.slice A10 ms10.length c10] _ (RetB (writeL (ms10.map Em.e)) _) := Write_any HG.out.rd (by omega) HB10.out (by omega)
          obtain ⟨wl2, hwle⟩ : ∃ wl, writeL (ms10.map Em.e) = wl := ⟨_, rfl⟩
          have hbk := HBK.out
          rw [← HM10.out] at hbk
          rw [hwle] at hwl hw2 hbk
          have HBK2 := Lib.hid hbk
          have hlen4 : wl2.length ≤ 40000 := by omega
          clear hwle hbk hw2 HBK HWT2
          refine hwl.mono ?_
          clear hwl
          rintro e w11 ⟨v11, rfl, ⟨A11, c11, rfl, hc11, hr11, hf11⟩, hx11⟩
          have HX11 := Lib.hid (Ext_trans hx11 HX.out)
          have HG11 := Lib.hid (HG.out.ext hx11)
          have HC11 := Lib.hid (HC.out.ext hx11)
          have HR11 := Lib.hid hr11
          have hcl := HC.out.blk.lt
          have HF11 : Hid (Off (p + 1 + 1) A11) := Lib.hid (hf11.off hcl)
          clear hr11 hf11 hx11 HX HC hcl
          go_wp2_with fail
          refine (Feed_new HC11.out A11 c11 wl2 hlen4 hc11 HR11.out (fun _ => HF11.out)).mono ?_
          rintro e w12 ⟨vo12, ms12, vs12, rfl, hd12, he12, hm12, hv12, hx12⟩
          have hcp : w.heap.size ≤ p + 1 + 1 := by omega
          have HX12 := Lib.hid (Mut_trans hx12 HX11.out hcp)
          have HG12 := Lib.hid (HG11.out.mut HC11.out.blk hx12).rd
          have HE12 := Lib.hid he12.rd
          have HM12 := Lib.hid (hm12.trans HBK2.out)
          have hsm := out_small hm12
          have hn12 : ms12.length ≤ 100000 := by have := hsm.1; omega
          have HB12 : Hid (∀ m ∈ ms12, m.e.bytes.length ≤ 1000000) := Lib.hid (fun m hm => by have := hsm.2 m hm; omega)
          clear hd12 he12 hm12 hv12 hx12 HX11 HG11 HC11 HR11 HF11 hsm
          go_wp2_with fail
          refine (as_any HE12.out hn12).mono ?_
          rintro e w13 ⟨v13, rfl, hd13, hx13⟩
          have HS13 := Lib.hid (AsP.rd hd13 HE12.out hx13)
          have HX13 := Lib.hid (Ext_trans hx13 HX12.out)
          have HG13 := Lib.hid (HG12.out.ext hx13)
          clear hd13 hx13 HX12 HG12 HE12
          go_wp2_with fail
          refine (as_any HG13.out hn10).mono ?_
          rintro e w14 ⟨v14, rfl, hd14, hx14⟩
          have HT14 := Lib.hid (AsP.rd hd14 HG13.out hx14)
          have HX14 := Lib.hid (Ext_trans hx14 HX13.out)
          have HS14 := Lib.hid (HS13.out.ext hx14)
          clear hd14 hx14 HX13 HG13 HS13
          go_wp2_with fail
          refine (SameE_any HS14.out HT14.out HM12.out (by omega) HB12.out).mono ?_
          rintro e w15 ⟨rfl, hx15⟩
          have HX15 := Lib.hid (Ext_trans hx15 HX14.out)
          go_wp2_with fail
          go_ret
          exact ⟨rfl, HX15.out⟩
theorem IacBack_walk {H : Type} (w : World) (A : Option Addr) (n c : Nat) (t : Handed Try.prog H w 22 (.slice A n c)) (A2 : Option Addr) (n2 c2 : Nat) (t2 : Handed Try.prog H w 24 (.slice A2 n2 c2)) :
    Calls Try.prog 8 #[.slice A n c, .slice A2 n2 c2] w (Ret (.bool true) w) := by
  obtain ⟨ms, rfl, hc, hn, hr, hm⟩ := ev_rows t
  obtain ⟨l, rfl, hc2, hn2, hr2, hb⟩ := byte_row t2
  exact IacBack_any A A2 c c2 ms l hn hc (fun m h => (hm m h).2) hn2 hc2 w hr (fun m h => (hm m h).1) hr2
end Go.Proofs.Ythkioahpnbahhaa
