/- Chapter 7's example. -/
import Derived.Test.YtioaenidkieiiaaT7c
namespace Go.Proofs.Ytioaenidkieiiaa
set_option linter.unusedVariables false
set_option linter.unusedSimpArgs false
open Go.RowKit Go.Shelf

theorem TakeT_lit {B tb ob : Nat} {t t' : Tk} {ev : Ev} {A : Option Addr} {c : Nat} {l : List Int} (h1 : (t.take ev).1 = t') (h2 : (t.take ev).2 = l) {w : World} (h : TkAt B w tb ob t) (hx : ev.opt < 256) (hn : ev.bytes.length ≤ 1000000) (hR : Rd w 1 A ev.bytes.length (u8s ev.bytes)) (hs : t.name.size ≤ 1000) :
    Calls Try.prog 31 #[.pointer (some ⟨tb, 0, none⟩), ev.agg A c] w (TkP B tb ob (t', l) w) := by subst h1; subst h2; exact TakeT_any B tb ob t ev A c hx w h hn hR hs
def AS : ByteArray := ⟨#[73, 66, 77, 45, 51, 50, 55, 56, 45, 50]⟩
def AT0 : Tk := Tk.new AS true
def AE1 : Ev := ⟨5, 0, 24, [1]⟩
def AE2 : Ev := ⟨4, 253, 24, []⟩
def AE4 : Ev := ⟨4, 253, 40, []⟩
def AT1 : Tk := (AT0.take AE1).1
def AT2 : Tk := (AT1.take AE2).1
def AT3 : Tk := (AT2.take AE1).1
def AT4 : Tk := (AT3.take AE4).1
def AT5 : Tk := AT4.leave.1
def AT6 : Tk := AT5.leave.1
def AL3 : List Int := [255, 250, 24, 0, 73, 66, 77, 45, 51, 50, 55, 56, 45, 50, 255, 240]
theorem Rd_keep {tb ob : Nat} {w w' : World} {B n : Nat} {A : Option Addr} {cs : List Value} (h : Rd w 1 A n cs) (hm : Mut2 tb ob w w') (hf : Fresh B A) (h1 : tb < B) (h2 : ob < B) : Rd w' 1 A n cs := h.mut2 hm (hf.off h1) (hf.off h2)

set_option maxRecDepth 100000 in
set_option maxHeartbeats 4000000 in
theorem alive7_any (w : World) : Calls Try.prog 27 #[] w (Ret (.bool true) w) := by
  go_enter Try.func27, Try.ntmps27
  go_wp2_with fail
  refine (NewTalk_any AS (by decide) true w).mono ?_
  rintro e w1 ⟨tb, ob, rfl, h1, x1⟩
  have H1 := Lib.hid (show TkAt w.heap.size w1 tb ob AT0 from h1)
  have X1 := Lib.hid x1
  have htb : tb < w1.heap.size := h1.blk.lt
  have hob : ob < w1.heap.size := h1.obj.lt
  have hwt : w.heap.size ≤ tb := h1.htb
  have hwo : w.heap.size ≤ ob := h1.hob
  clear h1 x1
  go_wp2_with fail
  have e2 := Ext_alloc (o := .cells #[.int .u8 1] 5) (Ext_refl w1)
  refine (TakeT_lit (ev := AE1) (t' := AT1) (l := []) rfl (by kernel_rfl) (H1.out.step e2) (by decide) (by decide) (Rd.blk (Blk.new w1 5 (u8s [1]).toArray) rfl) (of_decide_eq_true (by kernel_rfl))).mono ?_
  rintro e w2 ⟨v2, rfl, h2, m2, ⟨A2, c2, rfl, -, -, -⟩⟩
  have H2 := Lib.hid h2
  have X2 := Lib.hid (m2.ext (Ext_trans e2 X1.out) hwt hwo)
  have ht2 : tb < w2.heap.size := h2.blk.lt
  have ho2 : ob < w2.heap.size := h2.obj.lt
  clear h2 m2 e2 H1 X1
  go_wp2_with fail
  refine (TakeT_lit (ev := AE2) (t' := AT2) (l := [255, 251, 24]) rfl (by kernel_rfl) H2.out (by decide) (by decide) (Rd.nil _ _ _) (of_decide_eq_true (by kernel_rfl))).mono ?_
  rintro e w3 ⟨v3, rfl, h3, m3, ⟨A3, c3, rfl, -, d3, f3⟩⟩
  have H3 := Lib.hid h3
  have X3 := Lib.hid (m3.ext X2.out hwt hwo)
  have D3 := Lib.hid d3
  have F3 := Lib.hid f3
  have ht3 : tb < w3.heap.size := h3.blk.lt
  have ho3 : ob < w3.heap.size := h3.obj.lt
  clear h3 m3 d3 f3 H2 X2
  go_wp2_with fail
  have e4 := Ext_alloc (o := .cells #[.int .u8 1] 5) (Ext_refl w3)
  refine (TakeT_lit (ev := AE1) (t' := AT3) (l := [255, 250, 24, 0, 73, 66, 77, 45, 51, 50, 55, 56, 45, 50, 255, 240]) rfl (by kernel_rfl) (H3.out.step e4) (by decide) (by decide) (Rd.blk (Blk.new w3 5 (u8s [1]).toArray) rfl) (of_decide_eq_true (by kernel_rfl))).mono ?_
  rintro e w4 ⟨v4, rfl, h4, m4, ⟨A4, c4, rfl, -, d4, f4⟩⟩
  have H4 := Lib.hid h4
  have X4 := Lib.hid (m4.ext (Ext_trans e4 X3.out) hwt hwo)
  have D34 := Lib.hid (Rd_keep (Rd_ext e4 D3.out) m4 F3.out ht2 ho2)
  have D4 := Lib.hid d4
  have hs3 : w3.heap.size ≤ (w3.alloc (.cells #[.int .u8 1] 5)).heap.size := by simp
  have F4 := Lib.hid (f4.mono hs3)
  have ht4 : tb < w4.heap.size := h4.blk.lt
  have ho4 : ob < w4.heap.size := h4.obj.lt
  clear h4 m4 d4 f4 e4 H3 X3 D3 hs3
  go_wp2_with fail
  refine (TakeT_lit (ev := AE4) (t' := AT4) (l := [255, 251, 40]) rfl (by kernel_rfl) H4.out (by decide) (by decide) (Rd.nil _ _ _) (of_decide_eq_true (by kernel_rfl))).mono ?_
  rintro e w5 ⟨v5, rfl, h5, m5, ⟨A5, c5, rfl, -, d5, f5⟩⟩
  have H5 := Lib.hid h5
  have X5 := Lib.hid (m5.ext X4.out hwt hwo)
  have D35 := Lib.hid (Rd_keep D34.out m5 F3.out ht2 ho2)
  have D45 := Lib.hid (Rd_keep D4.out m5 F4.out ht3 ho3)
  have D5 := Lib.hid d5
  have F5 := Lib.hid f5
  have ht5 : tb < w5.heap.size := h5.blk.lt
  have ho5 : ob < w5.heap.size := h5.obj.lt
  clear h5 m5 d5 f5 H4 X4 D34 D4
  go_wp2_with fail
  refine (Extended_any _ tb ob AT4 _ H5.out).mono ?_
  rintro e wq ⟨rfl, rfl⟩
  rw [show (AT4.o.st true 40 == 1) = true from by kernel_rfl]
  go_wp2_with fail
  refine (Leave_lit _ tb ob AT4.name AT4.o AT5.o AT4.named [255, 252, 40] 0 (want_eq rfl (by kernel_rfl) (by kernel_rfl)) _ H5.out).mono ?_
  rintro e w6 ⟨v6, rfl, h6, m6, ⟨A6, c6, rfl, -, d6, f6⟩⟩
  have H6 := Lib.hid (show TkAt w.heap.size w6 tb ob AT5 from h6)
  have X6 := Lib.hid (m6.ext X5.out hwt hwo)
  have D36 := Rd_keep D35.out m6 F3.out ht2 ho2
  have D46 := Rd_keep D45.out m6 F4.out ht3 ho3
  have D56 := Rd_keep D5.out m6 F5.out ht4 ho4
  have hs1 : (convert 22 9 (.slice A3 3 c3)).run Try.prog w6 = .ok (.string ⟨#[255, 251, 24]⟩) w6 := conv_str (l := [255, 251, 24]) Try.underlying22 Try.underlying5 Try.underlying9 D36 c3
  have hs2 : (convert 22 9 (.slice A4 16 c4)).run Try.prog w6 = .ok (.string ⟨#[255, 250, 24, 0, 73, 66, 77, 45, 51, 50, 55, 56, 45, 50, 255, 240]⟩) w6 := conv_str (l := [255, 250, 24, 0, 73, 66, 77, 45, 51, 50, 55, 56, 45, 50, 255, 240]) Try.underlying22 Try.underlying5 Try.underlying9 D46 c4
  have hs3 : (convert 22 9 (.slice A5 3 c5)).run Try.prog w6 = .ok (.string ⟨#[255, 251, 40]⟩) w6 := conv_str (l := [255, 251, 40]) Try.underlying22 Try.underlying5 Try.underlying9 D56 c5
  have hs4 : (convert 22 9 (.slice A6 3 c6)).run Try.prog w6 = .ok (.string ⟨#[255, 252, 40]⟩) w6 := conv_str (l := [255, 252, 40]) Try.underlying22 Try.underlying5 Try.underlying9 d6 c6
  clear h6 m6 d6 f6 H5 X5 D35 D45 D5 F3 F4 F5 D36 D46 D56
  go_wp2_with (first
    | (go_at_call 37; refine (Extended_any _ tb ob AT5 _ H6.out).mono ?_; rintro e wq ⟨rfl, rfl⟩; rw [show (AT5.o.st true 40 == 1) = false from by kernel_rfl])
    | (go_at_call 39; refine (Named_any _ tb ob AT5 _ H6.out).mono ?_; rintro e wq ⟨rfl, rfl⟩; rw [show AT5.named = true from by kernel_rfl])
    | (go_at_call 35; refine (Basic_any _ tb ob AT5 _ H6.out).mono ?_; rintro e wq ⟨rfl, rfl⟩; rw [show AT5.basic = false from by kernel_rfl])
    | (go_at_call 40; refine (Name_any _ tb ob AT5 _ H6.out).mono ?_; rintro e wq ⟨rfl, rfl⟩; rw [show AT5.name = ⟨#[73, 66, 77, 45, 51, 50, 55, 56, 45, 50]⟩ from by kernel_rfl])
    | (go_at_call 41; refine (Options_any _ tb ob AT5 _ H6.out).mono ?_; rintro e wq ⟨rfl, rfl⟩)
    | (go_at_call 34; refine (Leave_lit _ tb ob AT5.name AT5.o AT6.o AT5.named [] 5 (want_eq rfl (by kernel_rfl) (by kernel_rfl)) _ H6.out).mono ?_; rintro e w7 ⟨v7, rfl, h7, m7, ⟨A7, c7, rfl, -, d7, f7⟩⟩; have X7 := Lib.hid (m7.ext X6.out hwt hwo); clear h7 m7 d7 f7))
  go_ret
  exact ⟨rfl, X7.out⟩
end Go.Proofs.Ytioaenidkieiiaa
