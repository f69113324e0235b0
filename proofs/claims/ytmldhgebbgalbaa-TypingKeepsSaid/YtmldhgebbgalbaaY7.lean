/- Chapter 20's example. -/
import Derived.Test.YtmldhgebbgalbaaY5
import Derived.Test.YtmldhgebbgalbaaY6
import Derived.Laws.BytesArg
import Derived.Laws.BytesString
namespace Go.Proofs.Ytmldhgebbgalbaa
set_option linter.unusedVariables false
set_option linter.unusedSimpArgs false
open Go.RowKit
deriving instance DecidableEq for Pl
theorem conv_str {P : Program} {w : World} {A : Option Addr} {l : List Int} {src dst e : TypeId} (hs : P.underlying src = some (.slice e)) (he : P.underlying e = some (.int .u8)) (hd : P.underlying dst = some .string)
    (h : Rd w 1 A l.length (u8s l)) (c : Nat) : (convert src dst (.slice A l.length c)).run P w = .ok (.string (strOfNums l)) w := by
  rcases Nat.eq_zero_or_pos l.length with h0 | h0
  · obtain rfl : l = [] := List.eq_nil_of_length_eq_zero h0
    cases A with
    | none => exact run_convert_bytes_nil w src e hs he _ c dst hd
    | some a =>
      rw [run_convert_bytes_string w src dst e _ _ c hs he hd]
      exact run_bytesToString w a 0 c [] (by simp [loadCells, loadCellsFrom])
  · obtain ⟨b, o, rfl, hc⟩ := h.2 h0
    refine run_convert_bytes_arg w src e hs he b o l.length c l rfl (fun i hi => ?_) dst hd
    refine hc i _ ?_
    rw [u8s_get, List.getElem?_eq_getElem hi]
    simp [hi]
theorem Set_eq (g c : Nat) {p q : Pl} {i : Int} {x : Cel} (hx : 0 ≤ x.b ∧ x.b < 256) (hq : p.set i x = q) (w : World) (h : PlAt w g c p) : Calls Try.prog 30 #[.pointer (some ⟨g, 0, none⟩), .int .i64 i, .agg #[.int .u8 x.b, .bool x.ge, .bool x.st, .int .u8 x.li, .int .u8 x.co]] w (PlTo (.bool (p.has i)) g c q w) := hq ▸ Set_any g c p i x hx w h
theorem Point_eq (g c : Nat) {p q : Pl} {i : Int} (hq : p.point i = q) (w : World) (h : PlAt w g c p) : Calls Try.prog 18 #[.pointer (some ⟨g, 0, none⟩), .int .i64 i] w (PlTo (.bool (p.has i)) g c q w) := hq ▸ Point_any g c p i w h
theorem Put_eq (g c : Nat) {p q : Pl} {b E : Int} {ins : Bool} (hb : 0 ≤ b ∧ b < 256) (hq : p.putM b ins = (q, E)) (w : World) (h : PlAt w g c p) : Calls Try.prog 14 #[.pointer (some ⟨g, 0, none⟩), .int .u8 b, .bool ins] w (PlTo (.int .i64 E) g c q w) := by
  have := Put_any g c p b hb ins w h
  rw [hq] at this
  exact this
theorem String_eq (g c : Nat) {p q : Pl} {ins : Bool} {l : List Int} {n : Nat} {E : Int} (hq : p.strM ins l = (q, n, E)) (A : Option Addr) (d : Nat) (hl : l.length ≤ maxLen) (hbs : ∀ x ∈ l, 0 ≤ x ∧ x < 256) (w : World) (h : PlAt w g c p) (hr : Rd w 1 A l.length (u8s l)) (hoff : ∀ b, b ∈ [g, c] → 0 < l.length → Off b A) :
    Calls Try.prog 25 #[.pointer (some ⟨g, 0, none⟩), .slice A l.length d, .bool ins] w (PlTo (.tuple #[.int .i64 n, .int .i64 E]) g c q w) := by
  have := String_any g c p ins A d l hl hbs w h hr hoff
  rw [hq] at this
  exact this
theorem Delete_eq (g c : Nat) {p q : Pl} {E : Int} (hq : p.delM = (q, E)) (w : World) (h : PlAt w g c p) : Calls Try.prog 19 #[.pointer (some ⟨g, 0, none⟩)] w (PlTo (.int .i64 E) g c q w) := by
  have := Delete_any g c p w h
  rw [hq] at this
  exact this
theorem End_eq (g c : Nat) {p q : Pl} {E : Int} (hq : p.endM = (q, E)) (w : World) (h : PlAt w g c p) : Calls Try.prog 27 #[.pointer (some ⟨g, 0, none⟩)] w (PlTo (.int .i64 E) g c q w) := by
  have := End_any g c p w h
  rw [hq] at this
  exact this
theorem Dup_eq (g c : Nat) {p q : Pl} {E : Int} {ins : Bool} (hq : p.dupM ins = (q, E)) (w : World) (h : PlAt w g c p) : Calls Try.prog 31 #[.pointer (some ⟨g, 0, none⟩), .bool ins] w (PlTo (.int .i64 E) g c q w) := by
  have := Dup_any g c p ins w h
  rw [hq] at this
  exact this
theorem TMark_eq (g c : Nat) {p q : Pl} {E : Int} {ins : Bool} (hq : p.putM 30 ins = (q, E)) (w : World) (h : PlAt w g c p) : Calls Try.prog 32 #[.pointer (some ⟨g, 0, none⟩), .bool ins] w (PlTo (.int .i64 E) g c q w) := by
  have := TMark_any g c p ins w h
  rw [hq] at this
  exact this
set_option maxRecDepth 100000 in
theorem Modified1 (w : World) : Calls Try.prog 17 #[.int .u8 1] w (Ret (.bool true) w) := by
  go_enter Try.func17, Try.ntmps17
  go_wp2
  go_ret
  exact ⟨rfl, Ext_refl _⟩
def Cb (b : Int) : Cel := ⟨b, false, false, 0, 0⟩
def A8 (b : Int) : Cel := ⟨b, false, true, 0, 0⟩
def t0 : Pl := ⟨1, 6, List.replicate 6 Cel.zero, 0⟩
def t1 : Pl := ⟨1, 6, [A8 0, Cb 0, Cb 0, Cb 0, Cb 0, Cb 0], 0⟩
def t2 : Pl := ⟨1, 6, [A8 0, Cb 193, Cb 0, Cb 0, Cb 0, Cb 0], 0⟩
def t3 : Pl := ⟨1, 6, [A8 0, Cb 193, Cb 0, Cb 0, A8 16, Cb 0], 0⟩
def t4 : Pl := ⟨1, 6, [A8 0, Cb 193, Cb 0, Cb 0, A8 16, Cb 0], 1⟩
def t5 : Pl := ⟨1, 6, [A8 1, Cb 194, Cb 193, Cb 0, A8 16, Cb 0], 2⟩
def t6 : Pl := ⟨1, 6, [A8 1, Cb 194, Cb 193, Cb 0, A8 16, Cb 0], 1⟩
def t7 : Pl := ⟨1, 6, [A8 1, Cb 193, Cb 0, Cb 0, A8 16, Cb 0], 1⟩
def t8 : Pl := ⟨1, 6, [A8 1, Cb 241, Cb 242, Cb 243, A8 16, Cb 0], 5⟩
def t9 : Pl := ⟨1, 6, [A8 1, Cb 241, Cb 242, Cb 243, A8 16, Cb 0], 0⟩
def t10 : Pl := ⟨1, 6, [A8 1, Cb 241, Cb 242, Cb 243, A8 16, Cb 0], 1⟩
def t11 : Pl := ⟨1, 6, [A8 1, Cb 28, Cb 242, Cb 243, A8 16, Cb 0], 5⟩
theorem e5 : t4.putM 194 true = (t5, 0) := by decide +kernel
theorem e7 : t6.delM = (t7, 0) := by decide +kernel
theorem e8 : t7.strM false [241, 242, 243, 193] = (t8, 3, 42) := by decide +kernel
theorem e8b : t8.putM 193 false = (t8, 42) := by decide +kernel
theorem e9 : t9.endM = (t9, 41) := by decide +kernel
theorem e11 : t10.dupM false = (t11, 0) := by decide +kernel
theorem e12 : t11.putM 30 false = (t11, 42) := by decide +kernel
set_option maxRecDepth 100000 in
set_option maxHeartbeats 4000000 in
theorem alive20_any (w : World) : Calls Try.prog 7 #[] w (Ret (.bool true) w) := by
  have HZ := Lib.hid (show SzOk 1 6 6 from ⟨by decide, by decide, by decide, by decide, by decide, by decide, by decide⟩)
  go_enter Try.func7, Try.ntmps7
  go_wp2_with fail
  refine (New_yes 1 6 6 HZ.out _).mono ?_
  rintro e w0 ⟨g, b, rfl, hP, hb2, hg, hbb⟩
  have P0 : Hid (PlAt w0 g b t0) := Lib.hid hP
  have EW := Lib.hid hb2
  have C0 := Lib.hid (Chg.refl [g, b] w0)
  clear hP hb2
  go_wp2_with fail
  refine (Set_eq g b (p := t0) (x := A8 0) (i := 0) (q := t1) (by decide) (by decide +kernel) _ P0.out).mono ?_
  rintro e w1 ⟨rfl, hs, hch⟩
  have P1 := Lib.hid hs
  have C1 := Lib.hid (C0.out.trans hch)
  clear hs hch P0 C0
  go_wp2_with fail
  refine (Set_eq g b (p := t1) (x := Cb 193) (i := 1) (q := t2) (by decide) (by decide +kernel) _ P1.out).mono ?_
  rintro e w2 ⟨rfl, hs, hch⟩
  have P2 := Lib.hid hs
  have C2 := Lib.hid (C1.out.trans hch)
  clear hs hch P1 C1
  go_wp2_with fail
  refine (Set_eq g b (p := t2) (x := A8 16) (i := 4) (q := t3) (by decide) (by decide +kernel) _ P2.out).mono ?_
  rintro e w3 ⟨rfl, hs, hch⟩
  have P3 := Lib.hid hs
  have C3 := Lib.hid (C2.out.trans hch)
  clear hs hch P2 C2
  go_wp2_with fail
  refine (Point_eq g b (p := t3) (i := 1) (q := t4) (by decide +kernel) _ P3.out).mono ?_
  rintro e w4 ⟨rfl, hs, hch⟩
  have P4 := Lib.hid hs
  have C4 := Lib.hid (C3.out.trans hch)
  clear hs hch P3 C3
  go_wp2_with fail
  refine (Put_eq g b (by decide) e5 _ P4.out).mono ?_
  rintro e w5 ⟨rfl, hs, hch⟩
  have P5 := Lib.hid hs
  have C5 := Lib.hid (C4.out.trans hch)
  clear hs hch P4 C4
  have hF1 := field_bY 194 false false 0 0
  have hF2 := field_bY 193 false false 0 0
  have hF3 := field_bY 0 false false 0 0
  go_wp2_with fail
  refine (At_eqY (p := t5) (i := 1) (y := ⟨194, false, false, 0, 0⟩) (by decide +kernel) _ P5.out).mono ?_
  rintro e v1 ⟨rfl, h1⟩
  go_wp2_with fail
  refine (At_eqY (p := t5) (i := 2) (y := ⟨193, false, false, 0, 0⟩) (by decide +kernel) _ (P5.out.ext h1)).mono ?_
  rintro e v2 ⟨rfl, h2⟩
  go_wp2_with fail
  refine (At_eqY (p := t5) (i := 3) (y := ⟨0, false, false, 0, 0⟩) (by decide +kernel) _ (P5.out.ext (Ext_trans h2 h1))).mono ?_
  rintro e v3 ⟨rfl, h3⟩
  have hE3 : Ext w5 v3 := Ext_trans h3 (Ext_trans h2 h1)
  have hcv : (convert 32 9 (.slice (some ⟨v3.heap.size, 0, none⟩) 3 3)).run Try.prog (v3.alloc (.cells #[.int .u8 194, .int .u8 193, .int .u8 0] 5)) = .ok (.string ⟨#[194, 193, 0]⟩) (v3.alloc (.cells #[.int .u8 194, .int .u8 193, .int .u8 0] 5)) :=
    conv_str (l := [194, 193, 0]) Try.underlying32 Try.underlying5 Try.underlying9 (Rd.blk (l := u8s [194, 193, 0]) (Blk.new v3 5 _) rfl) 3
  have hE4 : Ext w5 (v3.alloc (.cells #[.int .u8 194, .int .u8 193, .int .u8 0] 5)) := Ext_alloc hE3
  go_upto_region 10 with (fail)
  clear hcv
  generalize v3.alloc (.cells #[.int .u8 194, .int .u8 193, .int .u8 0] 5) = w6 at *
  have P6 := Lib.hid (P5.out.ext hE4)
  have C6 := Lib.hid (C5.out.trans (Chg.of_ext hE4 _))
  clear P5 C5 hE4 hE3 h1 h2 h3
  go_wp2_with fail
  refine (Point_eq g b (p := t5) (i := 1) (q := t6) (by decide +kernel) _ P6.out).mono ?_
  rintro e w7 ⟨rfl, hs, hch⟩
  have P7 := Lib.hid hs
  have C7 := Lib.hid (C6.out.trans hch)
  clear hs hch P6 C6
  go_wp2_with fail
  refine (Delete_eq g b e7 _ P7.out).mono ?_
  rintro e w8 ⟨rfl, hs, hch⟩
  have P8 := Lib.hid hs
  have C8 := Lib.hid (C7.out.trans hch)
  clear hs hch P7 C7
  go_wp2_with fail
  have hR := Blk.new w8 5 #[.int .u8 241, .int .u8 242, .int .u8 243, .int .u8 193]
  have hE := Ext_alloc (o := .cells #[.int .u8 241, .int .u8 242, .int .u8 243, .int .u8 193] 5) (Ext_refl w8)
  have hgl := P8.out.glt
  have hcl := P8.out.clt
  refine (String_eq g b e8 (some ⟨w8.heap.size, 0, none⟩) 4 (by show 4 ≤ maxLen; unfold maxLen; omega) (by decide) _ (P8.out.ext hE) (Rd.blk (l := u8s [241, 242, 243, 193]) hR rfl) (fun i hi _ ad ea => by cases ea; simp at hi; show w8.heap.size ≠ i; omega)).mono ?_
  rintro e w9 ⟨rfl, hs, hch⟩
  have P9 := Lib.hid hs
  have C9 := Lib.hid (C8.out.trans ((Chg.of_ext hE [g, b]).trans hch))
  clear hs hch hE hR P8 C8 hgl hcl
  go_wp2_with fail
  refine (Put_eq g b (by decide) e8b _ P9.out).mono ?_
  rintro e w10 ⟨rfl, hs, hch⟩
  have P10 := Lib.hid hs
  have C10 := Lib.hid (C9.out.trans hch)
  clear hs hch P9 C9
  go_wp2_with fail
  refine (Point_eq g b (p := t8) (i := 0) (q := t9) (by decide +kernel) _ P10.out).mono ?_
  rintro e w11 ⟨rfl, hs, hch⟩
  have P11 := Lib.hid hs
  have C11 := Lib.hid (C10.out.trans hch)
  clear hs hch P10 C10
  go_wp2_with fail
  refine (End_eq g b e9 _ P11.out).mono ?_
  rintro e w12 ⟨rfl, hs, hch⟩
  have P12 := Lib.hid hs
  have C12 := Lib.hid (C11.out.trans hch)
  clear hs hch P11 C11
  go_wp2_with fail
  refine (Point_eq g b (p := t9) (i := 1) (q := t10) (by decide +kernel) _ P12.out).mono ?_
  rintro e w13 ⟨rfl, hs, hch⟩
  have P13 := Lib.hid hs
  have C13 := Lib.hid (C12.out.trans hch)
  clear hs hch P12 C12
  go_wp2_with fail
  refine (Dup_eq g b e11 _ P13.out).mono ?_
  rintro e w14 ⟨rfl, hs, hch⟩
  have P14 := Lib.hid hs
  have C14 := Lib.hid (C13.out.trans hch)
  clear hs hch P13 C13
  go_wp2_with fail
  refine (Cursor_any g b t11 _ P14.out).mono ?_
  rintro e w15 ⟨rfl, hb⟩
  have P15 := Lib.hid (P14.out.ext hb)
  have C15 := Lib.hid (C14.out.trans (Chg.of_ext hb _))
  clear hb P14 C14
  go_wp2_with fail
  refine (TMark_eq g b e12 _ P15.out).mono ?_
  rintro e w16 ⟨rfl, hs, hch⟩
  have P16 := Lib.hid hs
  have C16 := Lib.hid (C15.out.trans hch)
  clear hs hch P15 C15
  have hF4 := field_bY 28 false false 0 0
  have hF5 := field_bY 1 false true 0 0
  rw [show t11.cur = 5 from rfl]
  go_wp2_with fail
  refine (At_eqY (p := t11) (i := 1) (y := ⟨28, false, false, 0, 0⟩) (by decide +kernel) _ P16.out).mono ?_
  rintro e w17 ⟨rfl, h17⟩
  go_wp2_with fail
  refine (At_eqY (p := t11) (i := 0) (y := ⟨1, false, true, 0, 0⟩) (by decide +kernel) _ (P16.out.ext h17)).mono ?_
  rintro e w18 ⟨rfl, h18⟩
  go_wp2_with fail
  refine (Modified1 _).mono ?_
  rintro e w19 ⟨rfl, h19⟩
  go_wp2_with fail
  go_ret
  exact ⟨rfl, Ext_trans h19 (Ext_trans h18 (Ext_trans h17 (Chg.ext C16.out EW.out (by intro i hi; simp at hi; omega))))⟩
end Go.Proofs.Ytmldhgebbgalbaa
