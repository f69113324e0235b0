/- The functions of talk. -/
import Derived.Test.YtioaenidkieiiaaT7a
import Derived.Test.YtioaenidkieiiaaKW
import Derived.Lib.AppendStr
import Derived.StillTailTactics
namespace Go.Proofs.Ytioaenidkieiiaa
set_option linter.unusedVariables false
set_option linter.unusedSimpArgs false
open Go.RowKit Go.Shelf

structure Tk where
  name : ByteArray
  o : Opt
  named : Bool
def Tk.enc (t : Tk) (ob : Nat) : Array Value := #[.string t.name, .pointer (some ⟨ob, 0, none⟩), .bool t.named]
/-- a terminal at tb, its options at ob, both beyond B -/
structure TkAt (B : Nat) (W : World) (tb ob : Nat) (t : Tk) : Prop where
  blk : Blk W tb 113 (t.enc ob)
  obj : OptAt W ob t.o
  ne : tb ≠ ob
  htb : B ≤ tb
  hob : B ≤ ob
theorem TkAt.step {B : Nat} {W W' : World} {tb ob : Nat} {t : Tk} (h : TkAt B W tb ob t) (hx : Ext W W') : TkAt B W' tb ob t := ⟨Blk.below' h.blk hx, Blk.below' h.obj hx, h.ne, h.htb, h.hob⟩
/-- a call turns the terminal's two blocks alone -/
def Mut2 (a b : Nat) (w w' : World) : Prop := w'.os = w.os ∧ w'.tape = w.tape ∧ w'.output = w.output ∧ w.heap.size ≤ w'.heap.size ∧ ∀ i, i < w.heap.size → i ≠ a → i ≠ b → w'.heap[i]? = w.heap[i]?
theorem Mut2.of_mut_a {a b : Nat} {w w' : World} (h : Mut a w w') : Mut2 a b w w' := ⟨h.os, h.tape, h.output, h.size, fun i hi h1 _ => h.block i hi (fun e => h1 (by injection e))⟩
theorem Mut2.of_mut_b {a b : Nat} {w w' : World} (h : Mut b w w') : Mut2 a b w w' := ⟨h.os, h.tape, h.output, h.size, fun i hi _ h1 => h.block i hi (fun e => h1 (by injection e))⟩
theorem Mut2.of_ext {a b : Nat} {w w' : World} (h : Ext w w') : Mut2 a b w w' := ⟨h.os, h.tape, h.output, h.size, fun i hi _ _ => h.block i hi⟩
theorem Mut2.trans {a b : Nat} {w w1 w2 : World} (h : Mut2 a b w w1) (k : Mut2 a b w1 w2) : Mut2 a b w w2 := ⟨k.1.trans h.1, k.2.1.trans h.2.1, k.2.2.1.trans h.2.2.1, Nat.le_trans h.2.2.2.1 k.2.2.2.1, fun i hi h1 h2 => (k.2.2.2.2 i (Nat.lt_of_lt_of_le hi h.2.2.2.1) h1 h2).trans (h.2.2.2.2 i hi h1 h2)⟩
theorem Mut2.ext {a b : Nat} {w0 w w' : World} (h : Mut2 a b w w') (hx : Ext w0 w) (ha : w0.heap.size ≤ a) (hb : w0.heap.size ≤ b) : Ext w0 w' :=
  ⟨h.1.trans hx.os, h.2.1.trans hx.tape, h.2.2.1.trans hx.output, Nat.le_trans hx.size h.2.2.2.1, fun i hi => (h.2.2.2.2 i (Nat.lt_of_lt_of_le hi hx.size) (by omega) (by omega)).trans (hx.block i hi)⟩
theorem Blk.mut2 {a b g : Nat} {w w' : World} {t : TypeId} {cs : Array Value} (h : Blk w g t cs) (k : Mut2 a b w w') (ha : g ≠ a) (hb : g ≠ b) : Blk w' g t cs := (k.2.2.2.2 g h.lt ha hb).trans h
theorem Rd.mut2 {a b : Nat} {w w' : World} {sz n : Nat} {A : Option Addr} {cs : List Value} (h : Rd w sz A n cs) (k : Mut2 a b w w') (ha : Off a A) (hb : Off b A) : Rd w' sz A n cs :=
  h.keep fun b' _ _ e hlt _ => k.2.2.2.2 b' hlt (fun he => ha _ e he) (fun he => hb _ e he)

theorem Rd_app {w : World} {b : Nat} {t : TypeId} {l : List Value} {zs : Array Value} (h : Blk w b t (l.toArray ++ zs)) : Rd w 1 (some ⟨b, 0, none⟩) l.length l :=
  ⟨by simp, fun _ => ⟨b, 0, rfl, fun j u hu => by
    rw [h.cell, Nat.zero_add, Array.getElem?_append_left (by simpa using (List.getElem?_eq_some_iff.1 hu).1)]
    simpa using hu⟩⟩
def oursL (ext : Bool) : List Int := if ext then [0, 24, 25, 40] else [0, 24, 25]
def Tk.new (s : ByteArray) (ext : Bool) : Tk := ⟨cleanS s, Opt.new (oursL ext) [0, 25], false⟩
def NewT (w : World) (t : Tk) (e : Ending) (w' : World) : Prop := ∃ tb ob, e = .returned (.pointer (some ⟨tb, 0, none⟩)) ∧ TkAt w.heap.size w' tb ob t ∧ Ext w w'

set_option maxRecDepth 100000 in
set_option maxHeartbeats 4000000 in
theorem NewTalk_any (s : ByteArray) (hs : s.size ≤ 140737488351232) (ext : Bool) (w : World) : Calls Try.prog 29 #[.string s, .bool ext] w (NewT w (Tk.new s ext)) := by
  have HX := Lib.hid (Ext_refl w)
  cases ext
  · have hA := Rd.blk (w := w.alloc (.cells #[.int .u8 0, .int .u8 24, .int .u8 25] 5)) (b := w.heap.size) (n := 3) (sz := 1) (l := u8s [0, 24, 25]) (Blk.new w 5 _) rfl
    have HA := Lib.hid (fun w' (h : Ext (w.alloc (.cells #[.int .u8 0, .int .u8 24, .int .u8 25] 5)) w') => Rd_ext h hA)
    clear hA
    go_enter Try.func29, Try.ntmps29
    go_wp2_with fail
    have hE1 := Ext_alloc (o := .cells #[.int .u8 0, .int .u8 24, .int .u8 25] 5) (Ext_refl w)
    refine (clean_any s hs _).mono ?_
    rintro e w1 ⟨rfl, hb⟩
    have HR := Lib.hid (HA.out _ hb)
    have HX1 := Lib.hid (Ext_trans hb hE1)
    clear hb hE1 HA HX
    go_wp2_with fail
    have hE2 := Ext_alloc (o := .cells #[.int .u8 0, .int .u8 25] 5) (Ext_refl w1)
    have q2 := Rd.blk (sz := 1) (n := 2) (l := u8s [0, 25]) (Blk.new w1 5 _) rfl
    refine (New_obj (some ⟨w.heap.size, 0, none⟩) (some ⟨w1.heap.size, 0, none⟩) [0, 24, 25] [0, 25] 3 2 (by decide) (by decide) (by decide) (by decide) _ (Rd_ext hE2 HR.out) q2).mono ?_
    rintro e w2 ⟨b, rfl, hO, hx, hle, hlt⟩
    have HO := Lib.hid hO
    have HX2 := Lib.hid (Ext_trans hx (Ext_trans hE2 HX1.out))
    have hsz := HX1.out.size
    have hle2 : w.heap.size ≤ b := by simp at hle; omega
    clear hO hx hE2 q2 HR hle
    go_wp2_with fail
    go_ret
    exact ⟨w2.heap.size, b, rfl, ⟨Blk.new w2 _ _, Blk.below' HO.out (Ext_alloc (Ext_refl w2)), Nat.ne_of_gt hlt, HX2.out.size, hle2⟩, Ext_alloc HX2.out⟩
  · have hi5 : (Try.prog.info? 5).map (fun i => (i.zero, i.size, i.bytes)) = some (some (.int .u8 0), 1, 1) := info5
    have HI := Lib.hid hi5
    have hO3 : (w.alloc (.cells #[.int .u8 0, .int .u8 24, .int .u8 25] 5)).ownsRow w.heap.size 5 1 (.slice (some ⟨w.heap.size, 0, none⟩) 3 3) 3 (u8s [0, 24, 25]) :=
      ⟨rfl, .inr ⟨w.heap.size, 3, _, rfl, Nat.le_refl _, Blk.new w 5 #[.int .u8 0, .int .u8 24, .int .u8 25], Nat.le_refl _, by decide, rfl, rfl⟩⟩
    have HO3 := Lib.hid hO3
    clear hi5 hO3
    go_enter Try.func29, Try.ntmps29
    go_wp2_with fail
    generalize (Question.appendCap 4 3 5).cut (w.tape w.drawn (Question.appendCap 4 3 5)) = c9
    generalize Builtin.zeroCells #[.int .u8 0] (c9 - 4) = zs
    have q9 := Blk.new ((w.alloc (.cells #[.int .u8 0, .int .u8 24, .int .u8 25] 5)).alloc (.cells #[.int .u8 40] 5)) 5 (#[.int .u8 0, .int .u8 24, .int .u8 25, .int .u8 40] ++ zs)
    simp only [World.size_alloc] at q9
    have HR0 := Lib.hid (Rd_app (l := u8s [0, 24, 25, 40]) (zs := zs) q9)
    have hE1 : Ext w ((((w.alloc (.cells #[.int .u8 0, .int .u8 24, .int .u8 25] 5)).alloc (.cells #[.int .u8 40] 5)).alloc (.cells (#[.int .u8 0, .int .u8 24, .int .u8 25, .int .u8 40] ++ zs) 5)).drew) := Ext_drew (Ext_alloc (Ext_alloc (Ext_alloc (Ext_refl w))))
    clear q9
    refine (clean_any s hs _).mono ?_
    rintro e w1 ⟨rfl, hb⟩
    have HR := Lib.hid (Rd_ext hb (Rd_drew HR0.out))
    have HX1 := Lib.hid (Ext_trans hb hE1)
    clear hb hE1 HR0 HO3 HX
    go_wp2_with fail
    have hE2 := Ext_alloc (o := .cells #[.int .u8 0, .int .u8 25] 5) (Ext_refl w1)
    have q2 := Rd.blk (sz := 1) (n := 2) (l := u8s [0, 25]) (Blk.new w1 5 _) rfl
    refine (New_obj (some ⟨w.heap.size + 1 + 1, 0, none⟩) (some ⟨w1.heap.size, 0, none⟩) [0, 24, 25, 40] [0, 25] c9 2 (by decide) (by decide) (by decide) (by decide) _ (Rd_ext hE2 HR.out) q2).mono ?_
    rintro e w2 ⟨b, rfl, hO, hx, hle, hlt⟩
    have HO := Lib.hid hO
    have HX2 := Lib.hid (Ext_trans hx (Ext_trans hE2 HX1.out))
    have hsz := HX1.out.size
    have hle2 : w.heap.size ≤ b := by simp at hle; omega
    clear hO hx hE2 q2 HR hle
    go_wp2_with fail
    go_ret
    exact ⟨w2.heap.size, b, rfl, ⟨Blk.new w2 _ _, Blk.below' HO.out (Ext_alloc (Ext_refl w2)), Nat.ne_of_gt hlt, HX2.out.size, hle2⟩, Ext_alloc HX2.out⟩
/-- an event, as it comes -/
structure Ev where
  kind : Int
  code : Int
  opt : Nat
  bytes : List Int
def Ev.agg (e : Ev) (A : Option Addr) (c : Nat) : Value := .agg #[.int .i64 e.kind, .int .u8 e.code, .int .u8 (e.opt : Int), .slice A e.bytes.length c]
def Ev.cells (e : Ev) (A : Option Addr) (c : Nat) : Array Value := #[.int .i64 e.kind, .int .u8 e.code, .int .u8 (e.opt : Int), .slice A e.bytes.length c]
def Tk.verb (t : Tk) (c : Int) (x : Nat) : Tk × List Int := (⟨t.name, (t.o.got c x).1, t.named && ((t.o.got c x).1.st true 24 == 1)⟩, (t.o.got c x).2)
def TkP (B tb ob : Nat) (r : Tk × List Int) (w : World) (e : Ending) (w' : World) : Prop := ∃ v, e = .returned v ∧ TkAt B w' tb ob r.1 ∧ Mut2 tb ob w w' ∧ Bts w.heap.size w' v r.2

set_option maxRecDepth 100000 in
set_option maxHeartbeats 4000000 in
theorem verb_lit (B tb ob : Nat) (nm : ByteArray) (o o' : Opt) (nd nd' : Bool) (l : List Int) (ev : Ev) (A : Option Addr) (c : Nat) (hx : ev.opt < 256) (ho : (o.got ev.code ev.opt).1 = o') (hl : (o.got ev.code ev.opt).2 = l) (hn : (nd && (o'.st true 24 == 1)) = nd')
    (w : World) (h : TkAt B w tb ob ⟨nm, o, nd⟩) :
    Calls Try.prog 56 #[.pointer (some ⟨tb, 0, none⟩), ev.agg A c] w (TkP B tb ob (⟨nm, o', nd'⟩, l) w) := by
  have HN := Lib.hid hn
  have HOO := Lib.hid ho
  have HLL := Lib.hid hl
  clear hn ho hl
  unfold Ev.agg
  have H := Lib.hid h
  clear h
  go_enter Try.func56, Try.ntmps56
  go_wp2_with fail
  have hlt := H.out.blk.lt
  have hlo := H.out.obj.lt
  have H1 := Lib.hid (H.out.step (Ext_alloc (o := .cells #[.int .i64 ev.kind, .int .u8 ev.code, .int .u8 (ev.opt : Int), .slice A ev.bytes.length c] 72) (Ext_refl w)))
  have X1 := Lib.hid (Mut2.of_ext (a := tb) (b := ob) (Ext_alloc (o := .cells #[.int .i64 ev.kind, .int .u8 ev.code, .int .u8 (ev.opt : Int), .slice A ev.bytes.length c] 72) (Ext_refl w)))
  have BX := Blk.new w 72 #[.int .i64 ev.kind, .int .u8 ev.code, .int .u8 (ev.opt : Int), .slice A ev.bytes.length c]
  have hne : ob ≠ tb := fun e => H.out.ne e.symm
  have hsz : w.heap.size ≤ (w.alloc (.cells #[.int .i64 ev.kind, .int .u8 ev.code, .int .u8 (ev.opt : Int), .slice A ev.bytes.length c] 72)).heap.size := by simp
  clear H
  generalize w.alloc (.cells #[.int .i64 ev.kind, .int .u8 ev.code, .int .u8 (ev.opt : Int), .slice A ev.bytes.length c] 72) = W1 at *
  have e1 := BX.cell 1
  have e2 := BX.cell 2
  have q1 := H1.out.blk.cell 1
  clear BX
  simp [Tk.enc] at e1 e2 q1
  go_still_tail 8, (by kernel_rfl)
  change wpList _ _ _ _ _ W1.drew
  have H2 := Lib.hid (show TkAt B W1.drew tb ob ⟨nm, o, nd⟩ from ⟨H1.out.blk, H1.out.obj, H1.out.ne, H1.out.htb, H1.out.hob⟩)
  have X2 := Lib.hid (show Mut2 tb ob w W1.drew from X1.out)
  have hsz2 : w.heap.size ≤ W1.drew.heap.size := hsz
  clear H1 X1 e1 e2 q1 hsz
  generalize W1.drew = W2 at *
  go_wp2_with fail
  refine (Got_lit hx HOO.out HLL.out H2.out.obj).mono ?_
  rintro e w3 ⟨v, rfl, hO, hg, hd⟩
  have X3 := Lib.hid (X2.out.trans (Mut2.of_mut_b hg))
  have BT := Lib.hid (H2.out.blk.grown hg (by simp; exact fun e => H2.out.ne e))
  have HO := Lib.hid hO
  have hD := Bts.mono hd hsz2
  have HD := Lib.hid hD
  clear hO hg hd hD
  have q1 := BT.out.cell 1
  have q2 := BT.out.cell 2
  have f2 := BT.out.free 2
  have hlt3 : tb < w3.heap.size := BT.out.lt
  simp [Tk.enc] at q1 q2
  have hB := H2.out.htb
  have hB2 := H2.out.hob
  clear H2 X2
  cases nd
  · obtain rfl : false = nd' := HN.out
    go_wp2_with fail
    go_ret
    have hb' : Blk (w3.setCell ⟨tb, 2, none⟩ (.bool false)) tb 113 (Tk.enc ⟨nm, o', false⟩ ob) := by
      have := BT.out.store 2 (.bool false)
      simpa [Tk.enc] using this
    exact ⟨_, rfl, ⟨hb', Blk.far HO.out (p := ⟨tb, 2, none⟩) hne _, fun e => hne e.symm, hB, hB2⟩, X3.out.trans (Mut2.of_mut_a (Mut_set tb 2 _)), Bts_set HD.out hlt⟩
  · have HR : Hid ((o'.st true 24 == 1) = nd') := Lib.hid (by have := HN.out; simpa using this)
    go_wp2_with (go_at_call 21; refine (On_any ob 24 true o' (by decide) _ HO.out).mono ?_; rintro e wq ⟨rfl, rfl⟩; rw [HR.out])
    go_ret
    have hb' : Blk (wq.setCell ⟨tb, 2, none⟩ (.bool nd')) tb 113 (Tk.enc ⟨nm, o', nd'⟩ ob) := by
      have := BT.out.store 2 (.bool nd')
      simpa [Tk.enc] using this
    exact ⟨_, rfl, ⟨hb', Blk.far HO.out (p := ⟨tb, 2, none⟩) hne _, fun e => hne e.symm, hB, hB2⟩, X3.out.trans (Mut2.of_mut_a (Mut_set tb 2 _)), Bts_set HD.out hlt⟩
theorem verb_any (B tb ob : Nat) (t : Tk) (ev : Ev) (A : Option Addr) (c : Nat) (hx : ev.opt < 256) (w : World) (h : TkAt B w tb ob t) :
    Calls Try.prog 56 #[.pointer (some ⟨tb, 0, none⟩), ev.agg A c] w (TkP B tb ob (t.verb ev.code ev.opt) w) := verb_lit B tb ob t.name t.o _ t.named _ _ ev A c hx rfl rfl rfl w h
def Tk.asked (t : Tk) (e : Ev) : Bool := (e.kind == 5) && ((e.opt : Int) == 24) && (e.bytes == [1]) && (t.o.st true 24 == 1)

set_option maxRecDepth 100000 in
set_option maxHeartbeats 4000000 in
theorem asked_any (B tb ob : Nat) (t : Tk) (ev : Ev) (A : Option Addr) (c : Nat) (r : Bool) (hr : t.asked ev = r) (w : World) (h : TkAt B w tb ob t) (hn : ev.bytes.length ≤ 1000000) (hR : Rd w 1 A ev.bytes.length (u8s ev.bytes)) :
    Calls Try.prog 57 #[.pointer (some ⟨tb, 0, none⟩), ev.agg A c] w (Ret (.bool r) w) := by
  unfold Tk.asked at hr
  unfold Ev.agg
  have hlt := h.blk.lt
  have H := Lib.hid h
  have HR := Lib.hid hR
  clear h hR
  obtain ⟨nm, o, nd⟩ := t
  obtain ⟨kind, code, opt, bytes⟩ := ev
  dsimp only at *
  have hE := Ext_alloc (o := .cells #[.int .i64 kind, .int .u8 code, .int .u8 (opt : Int), .slice A bytes.length c] 72) (Ext_refl w)
  have H1 := Lib.hid (H.out.step hE)
  have HE := Lib.hid hE
  have BX := Lib.hid (Blk.new w 72 #[.int .i64 kind, .int .u8 code, .int .u8 (opt : Int), .slice A bytes.length c])
  have q1 := H.out.blk.cell 1
  simp [Tk.enc] at q1
  clear hE H
  cases h1 : (kind == 5)
  · rw [h1] at hr
    obtain rfl : false = r := by simpa using hr
    have HI := Lib.hid hr
    clear hr
    go_enter Try.func57, Try.ntmps57
    go_wp2_with fail
    go_ret
    exact ⟨rfl, HE.out⟩
  cases h2 : ((opt : Int) == 24)
  · rw [h1, h2] at hr
    obtain rfl : false = r := by simpa using hr
    clear hr
    go_enter Try.func57, Try.ntmps57
    go_wp2_with fail
    go_ret
    exact ⟨rfl, HE.out⟩
  cases h3 : ((bytes.length : Int) == 1)
  · have hb : (bytes == [1]) = false := by
      rw [beq_eq_false_iff_ne] at h3 ⊢
      rintro rfl
      exact h3 rfl
    rw [h1, h2, hb] at hr
    obtain rfl : false = r := by simpa using hr
    clear hr hb
    go_enter Try.func57, Try.ntmps57
    go_wp2_with fail
    go_ret
    exact ⟨rfl, HE.out⟩
  obtain ⟨x, rfl⟩ : ∃ x, bytes = [x] := by
    rw [beq_iff_eq] at h3
    match bytes, h3 with
    | [x], _ => exact ⟨x, rfl⟩
    | [], h => simp at h
    | a :: b :: l, h => simp at h; omega
  obtain ⟨g, q, u, rfl, hu, hcell⟩ := HR.out.at1 (i := 0) (Nat.zero_lt_one)
  obtain rfl : Value.int .u8 x = u := by simpa [u8s] using hu
  clear hu h3
  simp only [List.length_singleton, Nat.add_zero] at hcell HE H1 BX
  have hgl : g < w.heap.size := World.block_lt_of_cell? w _ hcell
  cases h4 : (x == 1)
  · have hb : (([x] : List Int) == [1]) = false := by
      rw [beq_eq_false_iff_ne] at h4 ⊢
      intro e
      exact h4 (by simpa using e)
    rw [h1, h2, hb] at hr
    obtain rfl : false = r := by simpa using hr
    clear hr hb
    go_enter Try.func57, Try.ntmps57
    go_wp2_with fail
    go_ret
    exact ⟨rfl, HE.out⟩
  have hb : (([x] : List Int) == [1]) = true := by
    rw [beq_iff_eq] at h4 ⊢
    rw [h4]
  rw [h1, h2, hb] at hr
  have HRR : Hid ((o.st true 24 == 1) = r) := Lib.hid (by simpa using hr)
  clear hr hb
  go_enter Try.func57, Try.ntmps57
  go_wp2_with fail
  refine (On_any ob 24 true o (by decide) _ H1.out.obj).mono ?_
  rintro e wq ⟨rfl, rfl⟩
  rw [HRR.out]
  go_wp2_with fail
  go_ret
  exact ⟨rfl, HE.out⟩

/-- what an event comes to -/
def Tk.take (t : Tk) (e : Ev) : Tk × List Int :=
  if e.kind == 4 then t.verb e.code e.opt else if t.asked e then (⟨t.name, t.o, true⟩, tellL 24 (0 :: numsOf t.name)) else (t, [])
theorem numsOf_strCells (s : ByteArray) : Lib.strCells s = u8s (numsOf s) := by
  unfold Lib.strCells u8s numsOf
  rw [List.map_map]; rfl

set_option maxRecDepth 100000 in
set_option maxHeartbeats 4000000 in
theorem TakeT_any (B tb ob : Nat) (t : Tk) (ev : Ev) (A : Option Addr) (c : Nat) (hx : ev.opt < 256) (w : World) (h : TkAt B w tb ob t) (hn : ev.bytes.length ≤ 1000000) (hR : Rd w 1 A ev.bytes.length (u8s ev.bytes)) (hs : t.name.size ≤ 1000) :
    Calls Try.prog 31 #[.pointer (some ⟨tb, 0, none⟩), ev.agg A c] w (TkP B tb ob (t.take ev) w) := by
  have hlt := h.blk.lt
  have H := Lib.hid h
  have HR := Lib.hid hR
  clear h hR
  have hE := Ext_alloc (o := .cells (ev.cells A c) 72) (Ext_refl w)
  have H1 := Lib.hid (H.out.step hE)
  have HR1 := Lib.hid (Rd_ext hE HR.out)
  have HE := Lib.hid hE
  have BX := Lib.hid (Blk.new w 72 (ev.cells A c))
  clear hE H HR
  unfold Tk.take
  cases h1 : (ev.kind == 4)
  · rw [if_neg (by decide)]
    cases h2 : t.asked ev
    · rw [if_neg (by decide)]
      have HA := Lib.hid h2
      clear h2
      unfold Ev.agg
      unfold Ev.cells at HE H1 HR1 BX
      go_enter Try.func31, Try.ntmps31
      go_wp2_with fail
      refine (asked_any B tb ob t ev A c false HA.out _ H1.out hn HR1.out).mono ?_
      rintro e w1 ⟨rfl, hb⟩
      have X2 := Lib.hid (Ext_trans hb HE.out)
      have H2 := Lib.hid (H1.out.step hb)
      clear hb
      go_wp2_with fail
      go_ret
      exact ⟨_, rfl, H2.out, Mut2.of_ext X2.out, Bts.nil _ _⟩
    · rw [if_pos rfl]
      have HA := Lib.hid h2
      clear h2
      unfold Ev.agg
      unfold Ev.cells at HE H1 HR1 BX
      obtain ⟨nm, o, nd⟩ := t
      dsimp only at hs ⊢
      obtain ⟨L, hL⟩ : ∃ L, tellL 24 (0 :: numsOf nm) = L := ⟨_, rfl⟩
      rw [hL]
      have HL := Lib.hid hL
      clear hL
      go_enter Try.func31, Try.ntmps31
      go_wp2_with fail
      refine (asked_any B tb ob _ ev A c true HA.out _ H1.out hn HR1.out).mono ?_
      rintro e w1 ⟨rfl, hb⟩
      have X2 := Lib.hid (Ext_trans hb HE.out)
      have H2 := Lib.hid (H1.out.step hb)
      have q0 := H2.out.blk.cell 0
      have q2 := H2.out.blk.cell 2
      have f2 := H2.out.blk.free 2
      have hlt1 : tb < w1.heap.size := H2.out.blk.lt
      have hsz := X2.out.size
      simp [Tk.enc] at q0 q2
      clear hb
      obtain ⟨i0, hi, hz0, hz1, hz2⟩ := info_parts info5
      have H3 := Lib.hid (show TkAt B (w1.setCell ⟨tb, 2, none⟩ (.bool true)) tb ob ⟨nm, o, true⟩ from ⟨by have := H2.out.blk.store 2 (.bool true); simpa [Tk.enc] using this, Blk.far H2.out.obj (p := ⟨tb, 2, none⟩) (fun e => H2.out.ne e.symm) _, H2.out.ne, H2.out.htb, H2.out.hob⟩)
      have X3 := Lib.hid ((Mut2.of_ext (a := tb) (b := ob) X2.out).trans (Mut2.of_mut_a (Mut_set tb 2 (.bool true))))
      have hB := Blk.new (w1.setCell ⟨tb, 2, none⟩ (.bool true)) 5 #[.int .u8 0]
      rw [World.size_setCell] at hB
      have hO3 : ((w1.setCell ⟨tb, 2, none⟩ (.bool true)).alloc (.cells #[.int .u8 0] 5)).ownsRow w1.heap.size 5 1 (.slice (some ⟨w1.heap.size, 0, none⟩) 1 1) 1 (u8s [0]) :=
        ⟨rfl, .inr ⟨w1.heap.size, 1, #[.int .u8 0], rfl, Nat.le_refl _, hB, Nat.le_refl _, by decide, rfl, rfl⟩⟩
      have HO3 := Lib.hid hO3
      clear hO3 H1 H2 HE X2
      go_wp2_with (at_builtin; refine Lib.wpList_append_own_string _ rfl (.tmp 19) (.tmp 23) 22 9 rfl w1.heap.size 5 i0 Try.underlying22 Try.underlying9 hi hz0 hz1 hz2 (.slice (some ⟨w1.heap.size, 0, none⟩) 1 1) 1 (u8s [0]) rfl HO3.out nm rfl (by unfold maxLen; omega) (by omega) (by simp) ?_; intro v4 w4 hown hg _; have HO4 := Lib.hid hown; have HG4 := Lib.hid hg; clear hown hg)
      have hB4 : Bts w1.heap.size w4 v4 (0 :: numsOf nm) := by
        refine Bts.of_own (e := 5) ?_
        have h4 := HO4.out
        rw [numsOf_strCells] at h4
        have e1 : (0 :: numsOf nm).length = 1 + nm.size := by rw [List.length_cons, numsOf_length]; omega
        rw [e1]
        exact h4
      obtain ⟨A4, c4, rfl, hc4, hr4, -⟩ := hB4
      have hx4 : Ext (w1.setCell ⟨tb, 2, none⟩ (.bool true)) w4 := Below.grown (Ext_alloc (Ext_refl _)) HG4.out (by simp) (fun g hg => by
        have : g = w1.heap.size := by simpa [Value.ownBlock] using hg.symm
        rw [World.size_setCell, this]
        exact Nat.le_refl _)
      have H4 := Lib.hid (H3.out.step hx4)
      have X4 := Lib.hid (X3.out.trans (Mut2.of_ext hx4))
      have hsz4 : w.heap.size ≤ w4.heap.size := by have := hx4.size; simp at this; omega
      clear hx4 HO4 HG4 H3 X3 HO3 hB
      refine (Tell_any 24 A4 c4 _ (by rw [List.length_cons, numsOf_length]; omega) hc4 _ hr4).mono ?_
      rintro e w5 ⟨v5, rfl, hd, hb⟩
      rw [HL.out] at hd
      have H5 := Lib.hid (H4.out.step hb)
      have X5 := Lib.hid (X4.out.trans (Mut2.of_ext hb))
      have HD := Lib.hid (Bts.mono hd hsz4)
      clear hb hd
      go_wp2_with fail
      go_ret
      exact ⟨_, rfl, H5.out, X5.out, HD.out⟩
  · rw [if_pos rfl]
    unfold Ev.agg
    unfold Ev.cells at HE H1 HR1 BX
    obtain ⟨r, hr⟩ : ∃ r, t.verb ev.code ev.opt = r := ⟨_, rfl⟩
    rw [hr]
    have HV := Lib.hid hr
    clear hr
    go_enter Try.func31, Try.ntmps31
    go_wp2_with fail
    refine (verb_any B tb ob t ev A c hx _ H1.out).mono ?_
    rintro e w1 ⟨v, rfl, h4, h5, h6⟩
    rw [HV.out] at h4 h6
    have H5 := Lib.hid h4
    have X5 := Lib.hid ((Mut2.of_ext HE.out).trans h5)
    have HD := Lib.hid (Bts.mono h6 HE.out.size)
    clear h4 h5 h6
    go_wp2_with fail
    go_ret
    exact ⟨_, rfl, H5.out, X5.out, HD.out⟩
end Go.Proofs.Ytioaenidkieiiaa
