/- TalkPlays, its walk. -/
import Derived.Test.YtioaenidkieiiaaT7k
import Derived.Deep.RegionHeld3
import Derived.Deep.DeepCutAuto
namespace Go.Proofs.Ytioaenidkieiiaa
set_option linter.unusedVariables false
set_option linter.unusedSimpArgs false
open Go.RowKit Go.Shelf

theorem Calls.of_ext {w0 W : World} {f : FuncId} {args : Array Value} {R : Ending → World → Prop} (h : Ext w0 W) (k : Ext w0 W → Calls Try.prog f args W R) : Calls Try.prog f args W R := k h
/-- all that the last test of a round reads -/
structure RX (w : World) (tb ob xb : Nat) (nm : ByteArray) (A1 A2 : Option Addr) (c1 c2 : Nat) (lo lt : List Int) (t : Tk) (l : List One) (A : Option Addr) (c : Nat) (nd : Bool) (eb : Nat) (ev : Array Value) (A6 A8 : Option Addr) (L : List Int) (W : World) : Prop where
  st : StT w tb ob xb nm A1 A2 c1 c2 lo lt W t l A c nd
  b : Blk W eb 72 ev
  d6 : Rd W 1 A6 L.length (u8s L)
  d8 : Rd W 1 A8 L.length (u8s L)
section
variable {w : World} {tb ob xb : Nat} {nm : ByteArray} {A1 A2 : Option Addr} {c1 c2 : Nat} {lo lt : List Int} {t : Tk} {l : List One} {A : Option Addr} {c : Nat} {nd : Bool} {eb : Nat} {ev : Array Value} {A6 A8 : Option Addr} {L : List Int} {W W' : World} {X : Prop}
theorem rx_st (h : Hid (RX w tb ob xb nm A1 A2 c1 c2 lo lt t l A c nd eb ev A6 A8 L W) ∧ X) : StT w tb ob xb nm A1 A2 c1 c2 lo lt W t l A c nd := h.1.out.st
theorem rx_6 (h : Hid (RX w tb ob xb nm A1 A2 c1 c2 lo lt t l A c nd eb ev A6 A8 L W) ∧ X) : Rd W 1 A6 L.length (u8s L) := h.1.out.d6
theorem rx_8 (h : Hid (RX w tb ob xb nm A1 A2 c1 c2 lo lt t l A c nd eb ev A6 A8 L W) ∧ X) : Rd W 1 A8 L.length (u8s L) := h.1.out.d8
theorem rx_ext (h : Hid (RX w tb ob xb nm A1 A2 c1 c2 lo lt t l A c nd eb ev A6 A8 L W) ∧ X) (hx : Ext W W') : Hid (RX w tb ob xb nm A1 A2 c1 c2 lo lt t l A c nd eb ev A6 A8 L W') :=
  ⟨h.1.out.st.step hx, Blk.below' h.1.out.b hx, Rd_ext hx h.1.out.d6, Rd_ext hx h.1.out.d8⟩
end
def Z69 : Array Value := #[.string { data := #[] }, .slice none 0 0, .slice none 0 0, .slice none 0 0, .bool false]
theorem Z69_all {W : World} {b : Nat} (h : Blk W b 69 Z69) : W.cell? ⟨b, 0, none⟩ = some (.string { data := #[] }) ∧ W.cell? ⟨b, 1, none⟩ = some (.slice none 0 0) ∧ W.cell? ⟨b, 2, none⟩ = some (.slice none 0 0) ∧ W.cell? ⟨b, 3, none⟩ = some (.slice none 0 0) ∧ W.cell? ⟨b, 4, none⟩ = some (.bool false) ∧
    W.frozen? ⟨b, 0, none⟩ = false ∧ W.frozen? ⟨b, 1, none⟩ = false ∧ W.frozen? ⟨b, 2, none⟩ = false ∧ W.frozen? ⟨b, 3, none⟩ = false ∧ W.frozen? ⟨b, 4, none⟩ = false ∧ b < W.heap.size :=
  ⟨h.cell 0, h.cell 1, h.cell 2, h.cell 3, h.cell 4, h.free 0, h.free 1, h.free 2, h.free 3, h.free 4, h.lt⟩
theorem keepT9 {W W' : World} {xb eb : Nat} {x0 x1 x2 x3 x4 y0 y1 y2 y3 : Value} (a0 : W.cell? ⟨xb, 0, none⟩ = some x0) (a1 : W.cell? ⟨xb, 1, none⟩ = some x1) (a2 : W.cell? ⟨xb, 2, none⟩ = some x2) (a3 : W.cell? ⟨xb, 3, none⟩ = some x3) (a4 : W.cell? ⟨xb, 4, none⟩ = some x4)
    (b0 : W.cell? ⟨eb, 0, none⟩ = some y0) (b1 : W.cell? ⟨eb, 1, none⟩ = some y1) (b2 : W.cell? ⟨eb, 2, none⟩ = some y2) (b3 : W.cell? ⟨eb, 3, none⟩ = some y3) (hx : xb < W.heap.size) (he : eb < W.heap.size) (hE : Ext W W') :
    W'.cell? ⟨xb, 0, none⟩ = some x0 ∧ W'.cell? ⟨xb, 1, none⟩ = some x1 ∧ W'.cell? ⟨xb, 2, none⟩ = some x2 ∧ W'.cell? ⟨xb, 3, none⟩ = some x3 ∧ W'.cell? ⟨xb, 4, none⟩ = some x4 ∧ W'.cell? ⟨eb, 0, none⟩ = some y0 ∧ W'.cell? ⟨eb, 1, none⟩ = some y1 ∧ W'.cell? ⟨eb, 2, none⟩ = some y2 ∧ W'.cell? ⟨eb, 3, none⟩ = some y3 :=
  ⟨(cell_ext hE hx).trans a0, (cell_ext hE hx).trans a1, (cell_ext hE hx).trans a2, (cell_ext hE hx).trans a3, (cell_ext hE hx).trans a4, (cell_ext hE he).trans b0, (cell_ext hE he).trans b1, (cell_ext hE he).trans b2, (cell_ext hE he).trans b3⟩
set_option maxRecDepth 100000 in
set_option maxHeartbeats 8000000 in
theorem TalkPlays_any (s : ByteArray) (hs : s.size ≤ 140737488351232) (ext : Bool) (A : Option Addr) (c : Nat) (ms : List Em) (leave : Int) (hl0 : -9223372036854775808 ≤ leave) (hl1 : leave ≤ 9223372036854775807) (w : World) (n1 : ms.length ≤ maxLen)
    (hr : Rd w 4 A ms.length (ms.flatMap Em.enc)) (hm : ∀ m ∈ ms, m.ok w) :
    Calls Try.prog 7 #[.string s, .bool ext, .slice A ms.length c, .int .i64 leave] w (Ret (.bool true) w) := by
  have HF := Lib.hid (few_any A c ms n1)
  unfold maxLen at n1
  have R1 := Lib.hid (fun w' (h : Ext w w') => Rd_ext h hr)
  have HM := Lib.hid (fun w' (h : Ext w w') m (hm' : m ∈ ms) => (hm m hm').ext h)
  clear hr hm
  have AL := Lib.hid (alive7_any w)
  cases hf : fewB ms
  · have HFW := Lib.hid hf
    clear hf
    go_enter Try.func7, Try.ntmps7
    go_wp2_with (first
      | (go_at_call 27; refine AL.out.mono ?_; rintro e wa ⟨rfl, hx⟩; have HX := Lib.hid hx; clear hx)
      | (go_at_call 28; refine (HF.out _ (R1.out _ HX.out) (HM.out _ HX.out)).mono ?_; rintro e wb ⟨rfl, hx⟩; rw [HFW.out]; have HX2 := Lib.hid (Ext_trans hx HX.out); clear hx))
    go_ret
    exact ⟨rfl, HX2.out⟩
  have h60 : ms.length ≤ 60 := by
    unfold fewB at hf
    rw [Bool.and_eq_true] at hf
    exact of_decide_eq_true hf.2
  have H300 : Hid (∀ m ∈ ms, m.e.bytes.length ≤ 300) := Lib.hid (by
    intro m hm
    unfold fewB at hf
    rw [Bool.and_eq_true] at hf
    exact of_decide_eq_true (List.all_eq_true.1 hf.1 m hm))
  have HFW := Lib.hid hf
  clear hf
  by_cases l1 : 100 < s.size
  · go_enter Try.func7, Try.ntmps7
    go_wp2_with (first
      | (go_at_call 27; refine AL.out.mono ?_; rintro e wa ⟨rfl, hx⟩; have HX := Lib.hid hx; clear hx)
      | (go_at_call 28; refine (HF.out _ (R1.out _ HX.out) (HM.out _ HX.out)).mono ?_; rintro e wb ⟨rfl, hx⟩; rw [HFW.out]; have HX2 := Lib.hid (Ext_trans hx HX.out); clear hx))
    go_ret
    exact ⟨rfl, HX2.out⟩
  have l1' : s.size ≤ 100 := by omega
  clear l1
  go_enter Try.func7, Try.ntmps7
  go_wp2_with (first
    | (go_at_call 27; refine AL.out.mono ?_; rintro e wa ⟨rfl, hx⟩; have HX := Lib.hid hx; clear hx)
    | (go_at_call 28; refine (HF.out _ (R1.out _ HX.out) (HM.out _ HX.out)).mono ?_; rintro e wb ⟨rfl, hx⟩; rw [HFW.out]; have HX2 := Lib.hid (Ext_trans hx HX.out); clear hx))
  refine (NewTalk_any s (by omega) ext _).mono ?_
  rintro e w1 ⟨tb, ob, rfl, h1, x1⟩
  have H1 := Lib.hid h1
  have X1 := Lib.hid (Ext_trans x1 HX2.out)
  have hwt : w.heap.size ≤ tb := by have := h1.htb; have := HX2.out.size; omega
  have hwo : w.heap.size ≤ ob := by have := h1.hob; have := HX2.out.size; omega
  clear h1 x1 HX HX2 AL HF HFW
  go_wp2_with fail
  refine (refNew_any s (by omega) ext _).mono ?_
  rintro e w2 ⟨A0, c0, A1, c1, A2, c2, rfl, q1, q2, f0, f1, f2, x2⟩
  have S3 : Hid (StT w tb ob w2.heap.size (cleanS s) A1 A2 c1 c2 (oursL ext) [0, 25] (w2.alloc (.cells #[.string (cleanS s), .slice A0 0 c0, .slice A1 (oursL ext).length c1, .slice A2 2 c2, .bool false] 69)) (Tk.new s ext) [] A0 c0 false) := by
    have hA := Ext_alloc (o := .cells #[.string (cleanS s), .slice A0 0 c0, .slice A1 (oursL ext).length c1, .slice A2 2 c2, .bool false] 69) (Ext_refl w2)
    have ht := (H1.out.step x2).step hA
    have hlt1 := (H1.out.step x2).blk.lt
    have hlt2 := (H1.out.step x2).obj.lt
    have o1 : Off w2.heap.size A1 := by
      intro ad e
      obtain ⟨b, o, e2, hc⟩ := q1.2 (by cases ext <;> decide)
      rw [e2] at e
      cases e
      have := World.block_lt_of_cell? w2 _ (hc 0 _ (List.getElem?_eq_getElem (by cases ext <;> decide)))
      exact Nat.ne_of_lt this
    have o2 : Off w2.heap.size A2 := by
      intro ad e
      obtain ⟨b, o, e2, hc⟩ := q2.2 (by decide)
      rw [e2] at e
      cases e
      have := World.block_lt_of_cell? w2 _ (hc 0 _ (List.getElem?_eq_getElem (by decide)))
      exact Nat.ne_of_lt this
    exact Lib.hid ⟨⟨ht.blk, ht.obj, ht.ne, hwt, hwo⟩, Ext_trans hA (Ext_trans x2 X1.out), Blk.new w2 _ _, Rd.nil _ _ _, Rd_ext hA q1, Rd_ext hA q2, .inl rfl, ⟨f1.off H1.out.blk.lt, f1.off H1.out.obj.lt, o1⟩, ⟨f2.off H1.out.blk.lt, f2.off H1.out.obj.lt, o2⟩, (Ext_trans x2 X1.out).size, Nat.ne_of_gt hlt1, Nat.ne_of_gt hlt2⟩
  have HI := Lib.hid (show RelT (Tk.new s ext) [] false (oursL ext) [0, 25] from ⟨Rel.new _ _, rfl⟩)
  have HN := Lib.hid (show (Tk.new s ext).name = cleanS s from rfl)
  clear q1 q2 f0 f1 f2 x2 H1 X1
  go_wp2_with fail
  generalize Tk.new s ext = t0 at *
  generalize w2.heap.size = xb at *
  go_loopw [38] (fun v wr => ∃ (k : Nat) (t : Tk) (l : List One) (A' : Option Addr) (c' : Nat) (nd : Bool), k ≤ ms.length ∧ v = .int .i64 k ∧ Hid (RelT t l nd (oursL ext) [0, 25]) ∧ Hid (t.name = cleanS s) ∧ l.length ≤ 2 * k ∧ Hid (StT w tb ob xb (cleanS s) A1 A2 c1 c2 (oursL ext) [0, 25] wr t l A' c' nd)) (fun v _ => ms.length - (intOf v).toNat)
  case atStart => exact ⟨0, t0, [], A0, c0, false, Nat.zero_le _, rfl, HI.out, HN.out, Nat.le_refl _, S3.out⟩
  case round =>
    clear S3 HI HN
    obtain ⟨k, t, l, A', c', nd, hk, rfl, HI, HN, hlk, S1⟩ := hrel
    by_cases hlt : k < ms.length
    · obtain ⟨g, q, rfl, hc⟩ := (R1.out _ S1.out.ext).elem Em.enc (fun _ => rfl) hlt (List.getElem?_eq_getElem hlt)
      have hmk := HM.out _ S1.out.ext ms[k] (List.getElem_mem hlt)
      have h300 := H300.out ms[k] (List.getElem_mem hlt)
      have HMk0 := fun w' (h : Ext w w') => (HM.out w' h ms[k] (List.getElem_mem hlt)).2.2.2.2.1
      generalize ms[k] = m at hc hmk h300 HMk0
      obtain ⟨⟨kd, co, x, bs⟩, A3, c3⟩ := m
      have c0' := hc 0 _ rfl
      have c1' := hc 1 _ rfl
      have c2' := hc 2 _ rfl
      have c3' := hc 3 _ rfl
      simp only [Nat.add_zero] at c0' c1' c2' c3'
      obtain ⟨hx256, hco, hbc, _, hb3, hbb⟩ := hmk
      dsimp only at hx256 hco hbc hb3 hbb h300 c0' c1' c2' c3'
      have HMk := Lib.hid HMk0
      clear HMk0
      have HCO := Lib.hid hco
      have HB3 := Lib.hid hb3
      clear hc hco hb3 hbb
      go_wp2_with fail
      have eA := Ext_alloc (o := .cells #[.int .i64 kd, .int .u8 co, .int .u8 (x : Int), .slice A3 bs.length c3] 72) (Ext_refl wr)
      have S2 := Lib.hid (S1.out.step eA)
      have HB4 := Lib.hid (Rd_ext eA HB3.out)
      have B2 := Lib.hid (Blk.new wr 72 #[.int .i64 kd, .int .u8 co, .int .u8 (x : Int), .slice A3 bs.length c3])
      have hob1 : wr.heap.size ≠ tb := Nat.ne_of_gt S1.out.tk.blk.lt
      have hob2 : wr.heap.size ≠ ob := Nat.ne_of_gt S1.out.tk.obj.lt
      have hob3 : wr.heap.size ≠ xb := Nat.ne_of_gt S1.out.box.lt
      have hnm : t.name.size ≤ 1000 := by rw [HN.out, cleanS_size]; omega
      clear eA S1 HB3 c0' c1' c2' c3'
      generalize wr.heap.size = eb at *
      generalize wr.alloc (.cells #[.int .i64 kd, .int .u8 co, .int .u8 (x : Int), .slice A3 bs.length c3] 72) = W2 at *
      obtain ⟨HI2, heq, HN2⟩ := HI.out.take s HN.out ⟨kd, co, x, bs⟩ hx256
      have HI3 := Lib.hid HI2
      have HN3 := Lib.hid HN2
      have HEQ := Lib.hid heq
      have hlen := takeR_length (cleanS s) l (oursL ext) [0, 25] nd ⟨kd, co, x, bs⟩
      clear HI2 HN2 heq
      obtain ⟨r, hr⟩ : ∃ r, takeR (cleanS s) l (oursL ext) [0, 25] nd ⟨kd, co, x, bs⟩ = r := ⟨_, rfl⟩
      have HR := Lib.hid hr
      rw [hr] at hlen
      refine (TakeT_lit (ev := ⟨kd, co, x, bs⟩) rfl HEQ.out S2.out.tk hx256 (by show bs.length ≤ 1000000; omega) HB4.out hnm).mono ?_
      rintro e w3 ⟨v3, rfl, h3, m3, ⟨A6, c6, rfl, -, d6, f6⟩⟩
      rw [hr] at d6 ⊢
      have hI4 := HI3.out
      rw [hr] at hI4
      have HI4 := Lib.hid hI4
      clear hr hI4 HEQ HI3
      obtain ⟨l2, nd2, L⟩ := r
      dsimp only at *
      generalize (t.take ⟨kd, co, x, bs⟩).1 = t2 at *
      have hz3 := m3.2.2.2.1
      have S3 := Lib.hid (S2.out.mut m3 h3)
      have B3 := Lib.hid (B2.out.mut2 m3 hob1 hob2)
      have D6 := Lib.hid d6
      have F6 := Lib.hid f6
      have S2x := Lib.hid S2.out.box.lt
      have S2y := Lib.hid S2.out.tk.blk.lt
      have S2z := Lib.hid S2.out.tk.obj.lt
      have B2x := Lib.hid B2.out.lt
      have HLn : Hid (L.length ≤ 1000000) := Lib.hid (by have h := takeR_said (cleanS s) l (oursL ext) [0, 25] nd ⟨kd, co, x, bs⟩; rw [HR.out] at h; have := cleanS_size s; simp only at h; omega)
      clear h3 m3 d6 f6 S2 B2 HB4
      go_upto_region 10 with (fail)
      have hwq : w3.heap.size ≤ w3.heap.size := Nat.le_refl _
      go_cut [14, 15] (fun p v wc => ∃ (yb : Nat) (A7 : Option Addr) (c7 : Nat) (A8 : Option Addr) (c8 : Nat), p = .pointer (some ⟨yb, 0, none⟩) ∧ v = .slice A8 L.length c8 ∧ Hid (Ext w3 wc) ∧ Hid (Blk wc yb 69 (TdC (cleanS s) l2 A7 c7 (.slice A1 (oursL ext).length c1) (.slice A2 2 c2) nd2)) ∧ Hid (yb ≠ xb) ∧ Hid (Rd wc 3 A7 l2.length (l2.flatMap One.enc)) ∧ Hid ((A7 = A' ∧ l2 = l) ∨ Fresh w3.heap.size A7) ∧ Hid (Rd wc 1 A8 L.length (u8s L)) ∧ Hid (Fresh w3.heap.size A8))
      case first =>
        have a0 := S3.out.box.cell 0
        have a1 := S3.out.box.cell 1
        have a2 := S3.out.box.cell 2
        have a3 := S3.out.box.cell 3
        have a4 := S3.out.box.cell 4
        have b0 := B3.out.cell 0
        have b1 := B3.out.cell 1
        have b2 := B3.out.cell 2
        have b3 := B3.out.cell 3
        simp [TdC] at a0 a1 a2 a3 a4 b0 b1 b2 b3
        have hxl : xb < w3.heap.size := S3.out.box.lt
        have hel : eb < w3.heap.size := B3.out.lt
        have hn1 : xb ≠ w3.heap.size := Nat.ne_of_lt hxl
        have hn2 : eb ≠ w3.heap.size := Nat.ne_of_lt hel
        have hn3 : w3.heap.size ≠ xb := Nat.ne_of_gt hxl
        have hn4 : w3.heap.size ≠ eb := Nat.ne_of_gt hel
        go_region_held3 (fun W' => W'.cell? ⟨xb, 0, none⟩ = some (.string (cleanS s)) ∧ W'.cell? ⟨xb, 1, none⟩ = some (.slice A' l.length c') ∧ W'.cell? ⟨xb, 2, none⟩ = some (.slice A1 (oursL ext).length c1) ∧ W'.cell? ⟨xb, 3, none⟩ = some (.slice A2 2 c2) ∧ W'.cell? ⟨xb, 4, none⟩ = some (.bool nd) ∧
            W'.cell? ⟨eb, 0, none⟩ = some (.int .i64 kd) ∧ W'.cell? ⟨eb, 1, none⟩ = some (.int .u8 co) ∧ W'.cell? ⟨eb, 2, none⟩ = some (.int .u8 (x : Int)) ∧ W'.cell? ⟨eb, 3, none⟩ = some (.slice A3 bs.length c3))
          (first | go_keep | (exact ⟨a0, a1, a2, a3, a4, b0, b1, b2, b3⟩) | (refine keepT9 a0 a1 a2 a3 a4 b0 b1 b2 b3 hxl hel ?_; repeat' (first | exact Ext_refl _ | exact hE2 | exact hE1 | apply Ext_alloc | apply Ext_drew)))
          ((first
            | (go_at_call 33
               refine (as_any kd co (x : Int) A3 bs.length c3 _).mono ?_
               rintro e wq ⟨rfl, hb⟩
               have hE1 : Ext w3 wq := by
                 refine Ext_trans hb ?_
                 repeat' (first | exact Ext_refl _ | apply Ext_alloc | apply Ext_drew)
               have hnq1 : xb ≠ wq.heap.size := by have := hE1.size; omega
               have hnq2 : eb ≠ wq.heap.size := by have := hE1.size; omega
               have hnq3 : wq.heap.size ≠ xb := hnq1.symm
               have hnq4 : wq.heap.size ≠ eb := hnq2.symm
               try (have hY1 : Hid (Blk wq w3.heap.size 69 Z69) := Lib.hid (Blk.below' (Blk.new w3.drew 69 Z69) hb))
               clear hb)
            | (go_at_call 32
               apply Calls.of_ext (w0 := w3)
               · repeat' (first | exact Ext_refl _ | exact hE1 | apply Ext_alloc | apply Ext_drew)
               intro hE3
               refine (refTake_any (cleanS s) (by rw [cleanS_size]; omega) l A' A1 A2 A3 c' c1 c2 c3 (oursL ext) [0, 25] nd ⟨kd, co, x, bs⟩ (by omega) (by cases ext <;> decide) (by decide) (by show bs.length ≤ 1000000; omega) HCO.out (HI.out.rel.low' hx256) _ (Rd_ext hE3 S3.out.row) (Rd_ext hE3 S3.out.r1) (Rd_ext hE3 S3.out.r2) (HMk.out _ (Ext_trans hE3 S3.out.ext))).mono ?_
               rw [HR.out]
               rintro e wn ⟨A7, c7, v7, rfl, r7, f7, ⟨A8, c8, rfl, -, d7, f8⟩, hb⟩
               have hE2 : Ext w3 wn := Ext_trans hb hE3
               have hnn1 : xb ≠ wn.heap.size := by have := hE2.size; omega
               have hnn2 : eb ≠ wn.heap.size := by have := hE2.size; omega
               have hnn3 : wn.heap.size ≠ xb := hnn1.symm
               have hnn4 : wn.heap.size ≠ eb := hnn2.symm
               first
                 | (have HYB := Lib.hid (Blk.below' hY1.out hb); have HYL := Lib.hid (f8.off hY1.out.lt); have HYF := Lib.hid (f7.imp (fun h => h) (fun h => h.off hY1.out.lt)); have hZ := Z69_all HYB.out; obtain ⟨y0, y1, y2, y3, y4, z0, z1, z2, z3, z4, ylt⟩ := hZ)
                 | (have HYB := Lib.hid (Blk.below' (Blk.new wq 69 Z69) hb); have HYL := Lib.hid (f8.off (Blk.new wq 69 Z69).lt); have HYF := Lib.hid (f7.imp (fun h => h) (fun h => h.off (Blk.new wq 69 Z69).lt)); have hZ := Z69_all HYB.out; obtain ⟨y0, y1, y2, y3, y4, z0, z1, z2, z3, z4, ylt⟩ := hZ)
                 | skip
               have HB := Lib.hid hb
               have HD7 := Lib.hid d7
               have HR7 := Lib.hid r7
               have HF7 := Lib.hid (f7.imp (fun h => h) (fun h => h.mono hE3.size))
               have HF8 := Lib.hid (f8.mono hE3.size)
               clear hb d7 r7 f7 f8 hE3)))
        · have HH := Lib.hid (And.intro (Ext_alloc (o := .cells #[.string (cleanS s), .slice A7 l2.length c7, .slice A1 (oursL ext).length c1, .slice A2 2 c2, .bool nd2] 69) hE2) (And.intro (Blk.new wn 69 (TdC (cleanS s) l2 A7 c7 (.slice A1 (oursL ext).length c1) (.slice A2 2 c2) nd2)) (And.intro (Rd_alloc (o := .cells #[.string (cleanS s), .slice A7 l2.length c7, .slice A1 (oursL ext).length c1, .slice A2 2 c2, .bool nd2] 69) HR7.out) (Rd_alloc (o := .cells #[.string (cleanS s), .slice A7 l2.length c7, .slice A1 (oursL ext).length c1, .slice A2 2 c2, .bool nd2] 69) HD7.out))))
          go_wp2_with fail
          go_meet
          case rel => exact ⟨_, A7, c7, A8, c8, rfl, rfl, HH.out.1, HH.out.2.1, hnn3, HH.out.2.2.1, HF7.out, HH.out.2.2.2, HF8.out⟩
        · have hle : w3.heap.size ≤ wq.heap.size := hE1.size
          have hE5 : Ext w3 (((((wn.setCell ⟨wq.heap.size, 0, none⟩ (.string (cleanS s))).setCell ⟨wq.heap.size, 1, none⟩ (.slice A7 l2.length c7)).setCell ⟨wq.heap.size, 2, none⟩ (.slice A1 (oursL ext).length c1)).setCell ⟨wq.heap.size, 3, none⟩ (.slice A2 2 c2)).setCell ⟨wq.heap.size, 4, none⟩ (.bool nd2)) := Ext_set (Ext_set (Ext_set (Ext_set (Ext_set hE2 hle) hle) hle) hle) hle
          have hM5 : Mut wq.heap.size wn (((((wn.setCell ⟨wq.heap.size, 0, none⟩ (.string (cleanS s))).setCell ⟨wq.heap.size, 1, none⟩ (.slice A7 l2.length c7)).setCell ⟨wq.heap.size, 2, none⟩ (.slice A1 (oursL ext).length c1)).setCell ⟨wq.heap.size, 3, none⟩ (.slice A2 2 c2)).setCell ⟨wq.heap.size, 4, none⟩ (.bool nd2)) := ((((Mut_set _ 0 _).trans (Mut_set _ 1 _)).trans (Mut_set _ 2 _)).trans (Mut_set _ 3 _)).trans (Mut_set _ 4 _)
          have hB5 : Blk (((((wn.setCell ⟨wq.heap.size, 0, none⟩ (.string (cleanS s))).setCell ⟨wq.heap.size, 1, none⟩ (.slice A7 l2.length c7)).setCell ⟨wq.heap.size, 2, none⟩ (.slice A1 (oursL ext).length c1)).setCell ⟨wq.heap.size, 3, none⟩ (.slice A2 2 c2)).setCell ⟨wq.heap.size, 4, none⟩ (.bool nd2)) wq.heap.size 69 (TdC (cleanS s) l2 A7 c7 (.slice A1 (oursL ext).length c1) (.slice A2 2 c2) nd2) := by
            have := (((((HYB.out.store 0 (.string (cleanS s))).store 1 (.slice A7 l2.length c7)).store 2 (.slice A1 (oursL ext).length c1)).store 3 (.slice A2 2 c2)).store 4 (.bool nd2))
            simpa [Z69, TdC] using this
          have hR5 : Rd (((((wn.setCell ⟨wq.heap.size, 0, none⟩ (.string (cleanS s))).setCell ⟨wq.heap.size, 1, none⟩ (.slice A7 l2.length c7)).setCell ⟨wq.heap.size, 2, none⟩ (.slice A1 (oursL ext).length c1)).setCell ⟨wq.heap.size, 3, none⟩ (.slice A2 2 c2)).setCell ⟨wq.heap.size, 4, none⟩ (.bool nd2)) 3 A7 l2.length (l2.flatMap One.enc) := by
            rcases HYF.out with ⟨e1, e2⟩ | ho
            · have h0 := Rd_ext hE5 S3.out.row
              rw [← e1, ← e2] at h0
              exact h0
            · exact HR7.out.grown hM5 (fun g e => by cases e; exact ho)
          have hD5 : Rd (((((wn.setCell ⟨wq.heap.size, 0, none⟩ (.string (cleanS s))).setCell ⟨wq.heap.size, 1, none⟩ (.slice A7 l2.length c7)).setCell ⟨wq.heap.size, 2, none⟩ (.slice A1 (oursL ext).length c1)).setCell ⟨wq.heap.size, 3, none⟩ (.slice A2 2 c2)).setCell ⟨wq.heap.size, 4, none⟩ (.bool nd2)) 1 A8 L.length (u8s L) := HD7.out.grown hM5 (fun g e => by cases e; exact HYL.out)
          have HE5 := Lib.hid hE5
          have HB5 := Lib.hid hB5
          have HR5 := Lib.hid hR5
          have HD5 := Lib.hid hD5
          clear hE5 hM5 hB5 hR5 hD5
          go_wp2_with fail
          go_meet
          case rel => exact ⟨_, A7, c7, A8, c8, rfl, rfl, HE5.out, HB5.out, (by first | exact hnq3 | exact hn3), HR5.out, HF7.out, HD5.out, HF8.out⟩
        · have hle : w3.heap.size ≤ w3.heap.size := Nat.le_refl _
          have hE5 : Ext w3 (((((wn.setCell ⟨w3.heap.size, 0, none⟩ (.string (cleanS s))).setCell ⟨w3.heap.size, 1, none⟩ (.slice A7 l2.length c7)).setCell ⟨w3.heap.size, 2, none⟩ (.slice A1 (oursL ext).length c1)).setCell ⟨w3.heap.size, 3, none⟩ (.slice A2 2 c2)).setCell ⟨w3.heap.size, 4, none⟩ (.bool nd2)) := Ext_set (Ext_set (Ext_set (Ext_set (Ext_set hE2 hle) hle) hle) hle) hle
          have hM5 : Mut w3.heap.size wn (((((wn.setCell ⟨w3.heap.size, 0, none⟩ (.string (cleanS s))).setCell ⟨w3.heap.size, 1, none⟩ (.slice A7 l2.length c7)).setCell ⟨w3.heap.size, 2, none⟩ (.slice A1 (oursL ext).length c1)).setCell ⟨w3.heap.size, 3, none⟩ (.slice A2 2 c2)).setCell ⟨w3.heap.size, 4, none⟩ (.bool nd2)) := ((((Mut_set _ 0 _).trans (Mut_set _ 1 _)).trans (Mut_set _ 2 _)).trans (Mut_set _ 3 _)).trans (Mut_set _ 4 _)
          have hB5 : Blk (((((wn.setCell ⟨w3.heap.size, 0, none⟩ (.string (cleanS s))).setCell ⟨w3.heap.size, 1, none⟩ (.slice A7 l2.length c7)).setCell ⟨w3.heap.size, 2, none⟩ (.slice A1 (oursL ext).length c1)).setCell ⟨w3.heap.size, 3, none⟩ (.slice A2 2 c2)).setCell ⟨w3.heap.size, 4, none⟩ (.bool nd2)) w3.heap.size 69 (TdC (cleanS s) l2 A7 c7 (.slice A1 (oursL ext).length c1) (.slice A2 2 c2) nd2) := by
            have := (((((HYB.out.store 0 (.string (cleanS s))).store 1 (.slice A7 l2.length c7)).store 2 (.slice A1 (oursL ext).length c1)).store 3 (.slice A2 2 c2)).store 4 (.bool nd2))
            simpa [Z69, TdC] using this
          have hR5 : Rd (((((wn.setCell ⟨w3.heap.size, 0, none⟩ (.string (cleanS s))).setCell ⟨w3.heap.size, 1, none⟩ (.slice A7 l2.length c7)).setCell ⟨w3.heap.size, 2, none⟩ (.slice A1 (oursL ext).length c1)).setCell ⟨w3.heap.size, 3, none⟩ (.slice A2 2 c2)).setCell ⟨w3.heap.size, 4, none⟩ (.bool nd2)) 3 A7 l2.length (l2.flatMap One.enc) := by
            rcases HYF.out with ⟨e1, e2⟩ | ho
            · have h0 := Rd_ext hE5 S3.out.row
              rw [← e1, ← e2] at h0
              exact h0
            · exact HR7.out.grown hM5 (fun g e => by cases e; exact ho)
          have hD5 : Rd (((((wn.setCell ⟨w3.heap.size, 0, none⟩ (.string (cleanS s))).setCell ⟨w3.heap.size, 1, none⟩ (.slice A7 l2.length c7)).setCell ⟨w3.heap.size, 2, none⟩ (.slice A1 (oursL ext).length c1)).setCell ⟨w3.heap.size, 3, none⟩ (.slice A2 2 c2)).setCell ⟨w3.heap.size, 4, none⟩ (.bool nd2)) 1 A8 L.length (u8s L) := HD7.out.grown hM5 (fun g e => by cases e; exact HYL.out)
          have HE5 := Lib.hid hE5
          have HB5 := Lib.hid hB5
          have HR5 := Lib.hid hR5
          have HD5 := Lib.hid hD5
          clear hE5 hM5 hB5 hR5 hD5
          go_wp2_with fail
          go_meet
          case rel => exact ⟨_, A7, c7, A8, c8, rfl, rfl, HE5.out, HB5.out, (by first | exact hnq3 | exact hn3), HR5.out, HF7.out, HD5.out, HF8.out⟩
      case rest =>
        obtain ⟨yb, A7, c7, A8, c8, rfl, rfl, E5, B5, ne5, R7, F7, D7, F8⟩ := hcut
        have S5 := Lib.hid (S3.out.step E5.out)
        have a0 := S5.out.box.cell 0
        have a1 := S5.out.box.cell 1
        have a2 := S5.out.box.cell 2
        have a3 := S5.out.box.cell 3
        have a4 := S5.out.box.cell 4
        have z0 := S5.out.box.free 0
        have z1 := S5.out.box.free 1
        have z2 := S5.out.box.free 2
        have z3 := S5.out.box.free 3
        have z4 := S5.out.box.free 4
        have y0 := B5.out.cell 0
        have y1 := B5.out.cell 1
        have y2 := B5.out.cell 2
        have y3 := B5.out.cell 3
        have y4 := B5.out.cell 4
        have ylt : yb < wc.heap.size := B5.out.lt
        have xlt : xb < wc.heap.size := S5.out.box.lt
        simp [TdC] at a0 a1 a2 a3 a4 y0 y1 y2 y3 y4
        have hM6 : Mut xb wc (((((wc.setCell ⟨xb, 0, none⟩ (.string (cleanS s))).setCell ⟨xb, 1, none⟩ (.slice A7 l2.length c7)).setCell ⟨xb, 2, none⟩ (.slice A1 (oursL ext).length c1)).setCell ⟨xb, 3, none⟩ (.slice A2 2 c2)).setCell ⟨xb, 4, none⟩ (.bool nd2)) := ((((Mut_set _ 0 _).trans (Mut_set _ 1 _)).trans (Mut_set _ 2 _)).trans (Mut_set _ 3 _)).trans (Mut_set _ 4 _)
        have hB6 : Blk (((((wc.setCell ⟨xb, 0, none⟩ (.string (cleanS s))).setCell ⟨xb, 1, none⟩ (.slice A7 l2.length c7)).setCell ⟨xb, 2, none⟩ (.slice A1 (oursL ext).length c1)).setCell ⟨xb, 3, none⟩ (.slice A2 2 c2)).setCell ⟨xb, 4, none⟩ (.bool nd2)) xb 69 (TdC (cleanS s) l2 A7 c7 (.slice A1 (oursL ext).length c1) (.slice A2 2 c2) nd2) := by
          have := (((((S5.out.box.store 0 (.string (cleanS s))).store 1 (.slice A7 l2.length c7)).store 2 (.slice A1 (oursL ext).length c1)).store 3 (.slice A2 2 c2)).store 4 (.bool nd2))
          simpa [TdC] using this
        have S6 := Lib.hid (S5.out.put hM6 hB6 R7.out (S3.out.offs' F7.out))
        have B6 := Lib.hid (Blk.grown (Blk.below' B3.out E5.out) hM6 (by simp; exact hob3))
        have HD6 := Lib.hid (Rd.grown (Rd_ext E5.out D6.out) hM6 (fun g e => by cases e; exact F6.out.off S2x.out))
        have HD8 := Lib.hid (Rd.grown D7.out hM6 (fun g e => by cases e; exact F8.out.off S3.out.box.lt))
        have hzx : w3.heap.size ≤ (((((wc.setCell ⟨xb, 0, none⟩ (.string (cleanS s))).setCell ⟨xb, 1, none⟩ (.slice A7 l2.length c7)).setCell ⟨xb, 2, none⟩ (.slice A1 (oursL ext).length c1)).setCell ⟨xb, 3, none⟩ (.slice A2 2 c2)).setCell ⟨xb, 4, none⟩ (.bool nd2)).heap.size := by have := E5.out.size; simp; omega
        clear hM6 hB6 S5 E5 B5 R7 D7
        cases hkl : ((k : Int) == leave)
        · go_wp2_with fail
          clear a0 a1 a2 a3 a4 z0 z1 z2 z3 z4 y0 y1 y2 y3 y4 ylt xlt
          generalize (((((wc.setCell ⟨xb, 0, none⟩ (.string (cleanS s))).setCell ⟨xb, 1, none⟩ (.slice A7 l2.length c7)).setCell ⟨xb, 2, none⟩ (.slice A1 (oursL ext).length c1)).setCell ⟨xb, 3, none⟩ (.slice A2 2 c2)).setCell ⟨xb, 4, none⟩ (.bool nd2)) = W6 at *
          have HX0 : Hid (RX w tb ob xb (cleanS s) A1 A2 c1 c2 (oursL ext) [0, 25] t2 l2 A7 c7 nd2 eb #[.int .i64 kd, .int .u8 co, .int .u8 (x : Int), .slice A3 bs.length c3] A6 A8 L W6.drew) := Lib.hid ⟨S6.out.draw 1, B6.out, HD6.out, HD8.out⟩
          have HBAS := Lib.hid HI4.out.basic
          have HST40 := Lib.hid (HI4.out.rel.st true 40 (by decide))
          have HSTX := Lib.hid (HI4.out.rel.st true x hx256)
          have HNDX := Lib.hid HI4.out.named
          have hl2L : l2.length ≤ 1000000 := by omega
          have hLL : L.length ≤ 1000000 := HLn.out
          have q1 := HX0.out.st.box.cell 0
          have q2 := HX0.out.st.box.cell 1
          have q3 := HX0.out.st.box.cell 2
          have q4 := HX0.out.st.box.cell 3
          have q5 := HX0.out.st.box.cell 4
          have q6 := HX0.out.b.cell 2
          simp [TdC] at q1 q2 q3 q4 q5 q6
          clear S6 B6 HD6 HD8
          go_region_held3 (fun W' => Hid (RX w tb ob xb (cleanS s) A1 A2 c1 c2 (oursL ext) [0, 25] t2 l2 A7 c7 nd2 eb #[.int .i64 kd, .int .u8 co, .int .u8 (x : Int), .slice A3 bs.length c3] A6 A8 L W') ∧ W'.cell? ⟨xb, 0, none⟩ = some (.string (cleanS s)) ∧ W'.cell? ⟨xb, 1, none⟩ = some (.slice A7 l2.length c7) ∧ W'.cell? ⟨xb, 2, none⟩ = some (.slice A1 (oursL ext).length c1) ∧ W'.cell? ⟨xb, 3, none⟩ = some (.slice A2 2 c2) ∧ W'.cell? ⟨xb, 4, none⟩ = some (.bool nd2) ∧ W'.cell? ⟨eb, 2, none⟩ = some (.int .u8 (x : Int)))
            (first | go_keep | exact ⟨m0, m1, m2, m3, m4, m5, m6⟩ | exact ⟨HX0, q1, q2, q3, q4, q5, q6⟩)
            ((first
              | (go_at_call 16; refine (Same_any A6 A8 c6 c8 L L (by omega) _ (rx_6 (by assumption)) (rx_8 (by assumption))).mono ?_; rintro e wn ⟨rfl, hb⟩; rw [decide_eq_true rfl]; have m0 := rx_ext (by assumption) hb; have m1 := m0.out.st.box.cell 0; have m2 := m0.out.st.box.cell 1; have m3 := m0.out.st.box.cell 2; have m4 := m0.out.st.box.cell 3; have m5 := m0.out.st.box.cell 4; have m6 := m0.out.b.cell 2; simp [TdC] at m1 m2 m3 m4 m5 m6)
              | (go_at_call 35; refine (Basic_any _ tb ob t2 _ (rx_st (by assumption)).tk).mono ?_; rintro e wn ⟨rfl, rfl⟩)
              | (go_at_call 36; refine (refBasic_any (cleanS s) l2 A7 A1 A2 c7 _ c1 _ c2 nd2 _ HBAS.out hl2L _ (rx_st (by assumption)).row).mono ?_; rintro e wn ⟨rfl, hb⟩; have m0 := rx_ext (by assumption) hb; have m1 := m0.out.st.box.cell 0; have m2 := m0.out.st.box.cell 1; have m3 := m0.out.st.box.cell 2; have m4 := m0.out.st.box.cell 3; have m5 := m0.out.st.box.cell 4; have m6 := m0.out.b.cell 2; simp [TdC] at m1 m2 m3 m4 m5 m6)
              | (go_at_call 37; refine (Extended_any _ tb ob t2 _ (rx_st (by assumption)).tk).mono ?_; rintro e wn ⟨rfl, rfl⟩)
              | (go_at_call 38; refine (refOn_any (cleanS s) l2 A7 A1 A2 c7 _ c1 _ c2 nd2 true 40 hl2L _ (rx_st (by assumption)).row).mono ?_; rintro e wn ⟨rfl, hb⟩; rw [show stateR l2 true 40 = t2.o.st true 40 from HST40.out]; have m0 := rx_ext (by assumption) hb; have m1 := m0.out.st.box.cell 0; have m2 := m0.out.st.box.cell 1; have m3 := m0.out.st.box.cell 2; have m4 := m0.out.st.box.cell 3; have m5 := m0.out.st.box.cell 4; have m6 := m0.out.b.cell 2; simp [TdC] at m1 m2 m3 m4 m5 m6)
              | (go_at_call 39; refine (Named_any _ tb ob t2 _ (rx_st (by assumption)).tk).mono ?_; rintro e wn ⟨rfl, rfl⟩; rw [HNDX.out])
              | (go_at_call 40; refine (Name_any _ tb ob t2 _ (rx_st (by assumption)).tk).mono ?_; rintro e wn ⟨rfl, rfl⟩; rw [HN3.out])
              | (go_at_call 41; refine (Options_any _ tb ob t2 _ (rx_st (by assumption)).tk).mono ?_; rintro e wn ⟨rfl, rfl⟩)
              | (go_at_call 20; refine (State_any ob x true t2.o hx256 _ (rx_st (by assumption)).tk.obj).mono ?_; rintro e wn ⟨rfl, rfl⟩)
              | (go_at_call 19; refine (ref_State A7 c7 _ _ l2 true (x : Int) hl2L _ (rx_st (by assumption)).row).mono ?_; rintro e wn ⟨rfl, hb⟩; rw [HSTX.out]; have m0 := rx_ext (by assumption) hb; have m1 := m0.out.st.box.cell 0; have m2 := m0.out.st.box.cell 1; have m3 := m0.out.st.box.cell 2; have m4 := m0.out.st.box.cell 3; have m5 := m0.out.st.box.cell 4; have m6 := m0.out.b.cell 2; simp [TdC] at m1 m2 m3 m4 m5 m6)))
          go_wp2_with fail
          go_roundw
          case rel => exact ⟨k + 1, t2, l2, A7, c7, nd2, by omega, by go_num, HI4.out, HN3.out, by omega, m0.out.st⟩
          case measure => simp [intOf]; omega
        · go_wp2_with fail
          clear a0 a1 a2 a3 a4 z0 z1 z2 z3 z4 y0 y1 y2 y3 y4 ylt xlt
          generalize (((((wc.setCell ⟨xb, 0, none⟩ (.string (cleanS s))).setCell ⟨xb, 1, none⟩ (.slice A7 l2.length c7)).setCell ⟨xb, 2, none⟩ (.slice A1 (oursL ext).length c1)).setCell ⟨xb, 3, none⟩ (.slice A2 2 c2)).setCell ⟨xb, 4, none⟩ (.bool nd2)) = W6 at *
          obtain ⟨hI5, hs5, hn5⟩ := HI4.out.leave
          have hlw := wantL_length l2 252 40
          have hlo := fun s => HI4.out.rel.low' (x := 40) (by decide) s
          have HLO := Lib.hid hlo
          obtain ⟨rw5, hrw⟩ : ∃ r, wantL l2 252 40 = r := ⟨_, rfl⟩
          rw [hrw] at hI5 hs5 hlw
          have HRW := Lib.hid hrw
          refine (Leave_any _ tb ob t2 _ S6.out.tk).mono ?_
          rintro e w7 ⟨v9, rfl, h7, m7, ⟨A11, c11, rfl, -, d11, f11⟩⟩
          rw [hs5] at d11 ⊢
          clear hs5 hrw hlo
          obtain ⟨l3, L3, f3⟩ := rw5
          dsimp only at *
          generalize t2.leave.1 = t3 at *
          have HI5 := Lib.hid hI5
          have HN5 := Lib.hid (hn5.trans HN3.out)
          have S7 := Lib.hid (S6.out.mut m7 h7)
          have B7 := Lib.hid (B6.out.mut2 m7 hob1 hob2)
          have HD67 := Lib.hid (Rd.mut2 HD6.out m7 (F6.out.off S2y.out) (F6.out.off S2z.out))
          have HD87 := Lib.hid (Rd.mut2 HD8.out m7 (F8.out.off S3.out.tk.blk.lt) (F8.out.off S3.out.tk.obj.lt))
          have D11 := Lib.hid d11
          have F11 := Lib.hid (f11.off S6.out.box.lt)
          have hz7 : w3.heap.size ≤ w7.heap.size := Nat.le_trans hzx m7.2.2.2.1
          clear hI5 hn5 h7 m7 d11 f11 S6 B6 HD6 HD8 HI4 HN3
          have x1 := S7.out.box.cell 1
          have x2 := S7.out.box.cell 2
          have x3 := S7.out.box.cell 3
          have xlt7 : xb < w7.heap.size := S7.out.box.lt
          simp [TdC] at x1 x2 x3
          go_wp2_with fail
          refine (ref_Want_any A7 A1 A2 c7 _ c1 _ c2 l2 252 40 (by decide) (by omega) _ S7.out.row HLO.out).mono ?_
          rw [HRW.out]
          rintro e w8 ⟨A9, c9, v10, rfl, r9, hoff, ⟨A10, c10, rfl, -, d10, f10⟩, hb⟩
          dsimp only at *
          have S8 := Lib.hid (S7.out.step hb)
          have B8 := Lib.hid (Blk.below' B7.out hb)
          have HD68 := Lib.hid (Rd_ext hb HD67.out)
          have HD88 := Lib.hid (Rd_ext hb HD87.out)
          have D118 := Lib.hid (Rd_ext hb D11.out)
          have D10 := Lib.hid d10
          have F10 := Lib.hid (f10.off xlt7)
          have R9 := Lib.hid r9
          have O9 : Hid (l3 = [] ∨ (Off tb A9 ∧ Off ob A9 ∧ Off xb A9)) := Lib.hid (by
            rcases S7.out.offs with e | ⟨o1, o2, o3⟩
            · left
              have h := HRW.out
              rw [e] at h
              have h2 := wantL_nil
              rw [h] at h2
              exact h2
            · exact .inr ⟨hoff _ S7.out.tk.blk.lt o1, hoff _ S7.out.tk.obj.lt o2, hoff _ S7.out.box.lt o3⟩)
          clear hb r9 hoff d10 f10 S7 B7 HD67 HD87 D11 x1 x2 x3 xlt7
          have x1 := S8.out.box.cell 1
          have x2 := S8.out.box.cell 2
          have x3 := S8.out.box.cell 3
          have x1f := S8.out.box.free 1
          have x2f := S8.out.box.free 2
          have x3f := S8.out.box.free 3
          have xlt8 : xb < w8.heap.size := S8.out.box.lt
          have xne8 : xb ≠ w8.heap.size := Nat.ne_of_lt xlt8
          simp [TdC] at x1 x2 x3
          have hM9 : Mut xb w8 (((w8.setCell ⟨xb, 1, none⟩ (.slice A9 l3.length c9)).setCell ⟨xb, 2, none⟩ (.slice A1 (oursL ext).length c1)).setCell ⟨xb, 3, none⟩ (.slice A2 2 c2)) := ((Mut_set _ 1 _).trans (Mut_set _ 2 _)).trans (Mut_set _ 3 _)
          have hB9 : Blk (((w8.setCell ⟨xb, 1, none⟩ (.slice A9 l3.length c9)).setCell ⟨xb, 2, none⟩ (.slice A1 (oursL ext).length c1)).setCell ⟨xb, 3, none⟩ (.slice A2 2 c2)) xb 69 (TdC (cleanS s) l3 A9 c9 (.slice A1 (oursL ext).length c1) (.slice A2 2 c2) nd2) := by
            have := (((S8.out.box.store 1 (.slice A9 l3.length c9)).store 2 (.slice A1 (oursL ext).length c1)).store 3 (.slice A2 2 c2))
            simpa [TdC] using this
          have hE9 : Ext (((w8.setCell ⟨xb, 1, none⟩ (.slice A9 l3.length c9)).setCell ⟨xb, 2, none⟩ (.slice A1 (oursL ext).length c1)).setCell ⟨xb, 3, none⟩ (.slice A2 2 c2)) ((((w8.setCell ⟨xb, 1, none⟩ (.slice A9 l3.length c9)).setCell ⟨xb, 2, none⟩ (.slice A1 (oursL ext).length c1)).setCell ⟨xb, 3, none⟩ (.slice A2 2 c2)).alloc (.cells #[.slice A9 l3.length c9, .slice A1 (oursL ext).length c1, .slice A2 2 c2] 29)) := Ext_alloc (Ext_refl _)
          have S10 := Lib.hid ((S8.out.put hM9 hB9 R9.out O9.out).step hE9)
          have B10 := Lib.hid (Blk.below' (Blk.grown B8.out hM9 (by simp; exact hob3)) hE9)
          have HD610 := Lib.hid (Rd_ext hE9 (Rd.grown HD68.out hM9 (fun g e => by cases e; exact F6.out.off S2x.out)))
          have HD810 := Lib.hid (Rd_ext hE9 (Rd.grown HD88.out hM9 (fun g e => by cases e; exact F8.out.off S3.out.box.lt)))
          have D1110 := Lib.hid (Rd_ext hE9 (Rd.grown D118.out hM9 (fun g e => by cases e; exact F11.out)))
          have D1010 := Lib.hid (Rd_ext hE9 (Rd.grown D10.out hM9 (fun g e => by cases e; exact F10.out)))
          have hL3 : L3.length ≤ 1000000 := by have h := wantL_said7 l2 252 40; rw [HRW.out] at h; simp only at h; omega
          clear hM9 hB9 hE9 S8 B8 HD68 HD88 D118 D10 R9
          go_wp2_with fail
          generalize (((w8.setCell ⟨xb, 1, none⟩ (.slice A9 l3.length c9)).setCell ⟨xb, 2, none⟩ (.slice A1 (oursL ext).length c1)).setCell ⟨xb, 3, none⟩ (.slice A2 2 c2)).alloc (.cells #[.slice A9 l3.length c9, .slice A1 (oursL ext).length c1, .slice A2 2 c2] 29) = W10 at *
          refine (Same_any A11 A10 c11 c10 L3 L3 (by omega) _ D1110.out D1010.out).mono ?_
          rintro e w11 ⟨rfl, hb⟩
          rw [decide_eq_true rfl]
          have S12 := Lib.hid (S10.out.step hb)
          have B6 := Lib.hid (Blk.below' B10.out hb)
          have HD6 := Lib.hid (Rd_ext hb HD610.out)
          have HD8 := Lib.hid (Rd_ext hb HD810.out)
          clear hb S10 B10 HD610 HD810 D1110 D1010 x1 x2 x3 x1f x2f x3f xlt8 xne8
          go_wp2_with fail
          have HX0 : Hid (RX w tb ob xb (cleanS s) A1 A2 c1 c2 (oursL ext) [0, 25] t3 l3 A9 c9 nd2 eb #[.int .i64 kd, .int .u8 co, .int .u8 (x : Int), .slice A3 bs.length c3] A6 A8 L w11.drew) := Lib.hid ⟨S12.out.draw 1, B6.out, HD6.out, HD8.out⟩
          have HBAS := Lib.hid HI5.out.basic
          have HST40 := Lib.hid (HI5.out.rel.st true 40 (by decide))
          have HSTX := Lib.hid (HI5.out.rel.st true x hx256)
          have HNDX := Lib.hid HI5.out.named
          have hl2L : l3.length ≤ 1000000 := by omega
          have hLL : L.length ≤ 1000000 := HLn.out
          have q1 := HX0.out.st.box.cell 0
          have q2 := HX0.out.st.box.cell 1
          have q3 := HX0.out.st.box.cell 2
          have q4 := HX0.out.st.box.cell 3
          have q5 := HX0.out.st.box.cell 4
          have q6 := HX0.out.b.cell 2
          simp [TdC] at q1 q2 q3 q4 q5 q6
          clear S12 B6 HD6 HD8
          go_region_held3 (fun W' => Hid (RX w tb ob xb (cleanS s) A1 A2 c1 c2 (oursL ext) [0, 25] t3 l3 A9 c9 nd2 eb #[.int .i64 kd, .int .u8 co, .int .u8 (x : Int), .slice A3 bs.length c3] A6 A8 L W') ∧ W'.cell? ⟨xb, 0, none⟩ = some (.string (cleanS s)) ∧ W'.cell? ⟨xb, 1, none⟩ = some (.slice A9 l3.length c9) ∧ W'.cell? ⟨xb, 2, none⟩ = some (.slice A1 (oursL ext).length c1) ∧ W'.cell? ⟨xb, 3, none⟩ = some (.slice A2 2 c2) ∧ W'.cell? ⟨xb, 4, none⟩ = some (.bool nd2) ∧ W'.cell? ⟨eb, 2, none⟩ = some (.int .u8 (x : Int)))
            (first | go_keep | exact ⟨m0, m1, m2, m3, m4, m5, m6⟩ | exact ⟨HX0, q1, q2, q3, q4, q5, q6⟩)
            ((first
              | (go_at_call 16; refine (Same_any A6 A8 c6 c8 L L (by omega) _ (rx_6 (by assumption)) (rx_8 (by assumption))).mono ?_; rintro e wn ⟨rfl, hb⟩; rw [decide_eq_true rfl]; have m0 := rx_ext (by assumption) hb; have m1 := m0.out.st.box.cell 0; have m2 := m0.out.st.box.cell 1; have m3 := m0.out.st.box.cell 2; have m4 := m0.out.st.box.cell 3; have m5 := m0.out.st.box.cell 4; have m6 := m0.out.b.cell 2; simp [TdC] at m1 m2 m3 m4 m5 m6)
              | (go_at_call 35; refine (Basic_any _ tb ob t3 _ (rx_st (by assumption)).tk).mono ?_; rintro e wn ⟨rfl, rfl⟩)
              | (go_at_call 36; refine (refBasic_any (cleanS s) l3 A9 A1 A2 c9 _ c1 _ c2 nd2 _ HBAS.out hl2L _ (rx_st (by assumption)).row).mono ?_; rintro e wn ⟨rfl, hb⟩; have m0 := rx_ext (by assumption) hb; have m1 := m0.out.st.box.cell 0; have m2 := m0.out.st.box.cell 1; have m3 := m0.out.st.box.cell 2; have m4 := m0.out.st.box.cell 3; have m5 := m0.out.st.box.cell 4; have m6 := m0.out.b.cell 2; simp [TdC] at m1 m2 m3 m4 m5 m6)
              | (go_at_call 37; refine (Extended_any _ tb ob t3 _ (rx_st (by assumption)).tk).mono ?_; rintro e wn ⟨rfl, rfl⟩)
              | (go_at_call 38; refine (refOn_any (cleanS s) l3 A9 A1 A2 c9 _ c1 _ c2 nd2 true 40 hl2L _ (rx_st (by assumption)).row).mono ?_; rintro e wn ⟨rfl, hb⟩; rw [show stateR l3 true 40 = t3.o.st true 40 from HST40.out]; have m0 := rx_ext (by assumption) hb; have m1 := m0.out.st.box.cell 0; have m2 := m0.out.st.box.cell 1; have m3 := m0.out.st.box.cell 2; have m4 := m0.out.st.box.cell 3; have m5 := m0.out.st.box.cell 4; have m6 := m0.out.b.cell 2; simp [TdC] at m1 m2 m3 m4 m5 m6)
              | (go_at_call 39; refine (Named_any _ tb ob t3 _ (rx_st (by assumption)).tk).mono ?_; rintro e wn ⟨rfl, rfl⟩; rw [HNDX.out])
              | (go_at_call 40; refine (Name_any _ tb ob t3 _ (rx_st (by assumption)).tk).mono ?_; rintro e wn ⟨rfl, rfl⟩; rw [HN5.out])
              | (go_at_call 41; refine (Options_any _ tb ob t3 _ (rx_st (by assumption)).tk).mono ?_; rintro e wn ⟨rfl, rfl⟩)
              | (go_at_call 20; refine (State_any ob x true t3.o hx256 _ (rx_st (by assumption)).tk.obj).mono ?_; rintro e wn ⟨rfl, rfl⟩)
              | (go_at_call 19; refine (ref_State A9 c9 _ _ l3 true (x : Int) hl2L _ (rx_st (by assumption)).row).mono ?_; rintro e wn ⟨rfl, hb⟩; rw [HSTX.out]; have m0 := rx_ext (by assumption) hb; have m1 := m0.out.st.box.cell 0; have m2 := m0.out.st.box.cell 1; have m3 := m0.out.st.box.cell 2; have m4 := m0.out.st.box.cell 3; have m5 := m0.out.st.box.cell 4; have m6 := m0.out.b.cell 2; simp [TdC] at m1 m2 m3 m4 m5 m6)))
          go_wp2_with fail
          go_roundw
          case rel => exact ⟨k + 1, t3, l3, A9, c9, nd2, by omega, by go_num, HI5.out, HN5.out, by omega, m0.out.st⟩
          case measure => simp [intOf]; omega
    · have : k = ms.length := by omega
      subst this
      go_wp2_with fail
      go_ret
      exact ⟨rfl, S1.out.ext⟩
theorem TalkPlays_walk {H : Type} (w : World) (s : ByteArray) (hs : s.size ≤ 140737488351232) (ext : Bool) (A : Option Addr) (n c : Nat) (t : Handed Try.prog H w 64 (.slice A n c)) (a : Int) (wa : (Lit.int .i64 a).wf = true) :
    Calls Try.prog 7 #[.string s, .bool ext, .slice A n c, .int .i64 a] w (Ret (.bool true) w) := by
  obtain ⟨ms, rfl, _, m1, r1, b1⟩ := ev_rows t
  have h := i64_wf wa
  exact TalkPlays_any s hs ext A c ms a h.1 h.2 w m1 r1 b1
end Go.Proofs.Ytioaenidkieiiaa
