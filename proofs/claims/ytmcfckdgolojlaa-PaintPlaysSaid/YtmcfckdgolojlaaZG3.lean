import Derived.Test.YtmcfckdgolojlaaZG2
import Derived.BigQuiet
/- Chapter 16: char, jump, special, start, dress, modify, cursor, data. -/
namespace Go.Proofs.Ytmcfckdgolojlaa
set_option linter.unusedVariables false
set_option linter.unusedSimpArgs false
open Go.RowKit
/-- an order -/
structure Ord where
  k : Int
  a : Int
  b : Int
  ge : Bool
  ps : List Pr
  da : List Int
theorem Rd.chgn {l : List Nat} {w w1 : World} {sz n : Nat} {A : Option Addr} {cs : List Value} (h : Rd w sz A n cs) (k : Chg l w w1) (hb : ∀ b, b ∈ l → 0 < n → Off b A) : Rd w1 sz A n cs := by
  by_cases hn : 0 < n
  · exact h.chg k (fun b hb' => hb b hb' hn)
  · exact ⟨h.1, fun hn' => absurd hn' hn⟩
/-- an order's rows, as they lie in memory, none of them in one of the blocks l -/
structure OrAt (l : List Nat) (w : World) (A B : Option Addr) (o : Ord) : Prop where
  ps : Rd w 2 A o.ps.length (o.ps.flatMap Pr.enc)
  da : Rd w 1 B o.da.length (u8s o.da)
  pl : o.ps.length ≤ maxLen
  dl : o.da.length ≤ maxLen
  bb : 0 ≤ o.b ∧ o.b < 256
  pb : ∀ x ∈ o.ps, 0 ≤ x.v ∧ x.v < 256
  db : ∀ x ∈ o.da, 0 ≤ x ∧ x < 256
  offA : ∀ i, i ∈ l → 0 < o.ps.length → Off i A
  offB : ∀ i, i ∈ l → 0 < o.da.length → Off i B
theorem OrAt.ext {l : List Nat} {w w' : World} {A B : Option Addr} {o : Ord} (h : OrAt l w A B o) (hx : Ext w w') : OrAt l w' A B o := ⟨Rd_ext hx h.ps, Rd_ext hx h.da, h.pl, h.dl, h.bb, h.pb, h.db, h.offA, h.offB⟩
theorem OrAt.chg {l : List Nat} {w w' : World} {A B : Option Addr} {o : Ord} (h : OrAt l w A B o) (hx : Chg l w w') : OrAt l w' A B o := ⟨h.ps.chgn hx h.offA, h.da.chgn hx h.offB, h.pl, h.dl, h.bb, h.pb, h.db, h.offA, h.offB⟩
theorem BrAt.store_look {w : World} {u g c : Nat} {b : Br} (h : BrAt w u g c b) (x : Cel) : BrAt ((((((w.setCell ⟨u, 2, none⟩ (.int .u8 x.b)).setCell ⟨u, 3, none⟩ (.bool x.ge)).setCell ⟨u, 4, none⟩ (.bool x.st)).setCell ⟨u, 5, none⟩ (.int .u8 x.li)).setCell ⟨u, 6, none⟩ (.int .u8 x.co))) u g c { b with look := x } :=
  ⟨((((h.obj.store 2 _).store 3 _).store 4 _).store 5 _).store 6 _, h.pl.chg (((((Chg.refl [u] w).set u 2 _ (.inl (by simp))).set u 3 _ (.inl (by simp))).set u 4 _ (.inl (by simp))).set u 5 _ (.inl (by simp)) |>.set u 6 _ (.inl (by simp))) (by have := h.ne; simp; omega) (by have := h.ne; simp; omega), h.a0, h.a1⟩
def Ret1 (v : Value) (Q : World → Prop) (e : Ending) (w : World) : Prop := e = .returned v ∧ Q w
set_option maxRecDepth 100000 in
set_option maxHeartbeats 4000000 in
theorem char_any (u g c : Nat) (b : Br) (x : Int) (ge : Bool) (w : World) (h : BrAt w u g c b) : Calls Try.prog 111 #[.pointer (some ⟨u, 0, none⟩), .int .u8 x, .bool ge] w (Ret (.agg #[.int .u8 x, .bool ge, .bool false, .int .u8 b.look.li, .int .u8 b.look.co]) w) := by
  have k5 := h.obj.cell 5
  have k6 := h.obj.cell 6
  have hu := h.obj.lt
  simp [Br.row] at k5 k6
  clear h
  go_enter Try.func111, Try.ntmps111
  go_wp2_with fail
  have hE := Ext_alloc (o := .cells #[.int .u8 0, .bool false, .bool false, .int .u8 0, .int .u8 0] 38) (Ext_refl w)
  have hB := Blk.new w 38 #[.int .u8 0, .bool false, .bool false, .int .u8 0, .int .u8 0]
  have j5 := (cell_ext hE hu).trans k5
  have j6 := (cell_ext hE hu).trans k6
  generalize w.alloc (.cells #[.int .u8 0, .bool false, .bool false, .int .u8 0, .int .u8 0] 38) = W1 at *
  have z0 := hB.cell 0
  have z1 := hB.cell 1
  have z2 := hB.cell 2
  have z3 := hB.cell 3
  have z4 := hB.cell 4
  have f0 := hB.free 0
  have f1 := hB.free 1
  have f2 := hB.free 2
  have f3 := hB.free 3
  have f4 := hB.free 4
  simp at z0 z1 z2 z3 z4
  go_region
  have hf : Blk ((((((W1.setCell ⟨w.heap.size, 0, none⟩ (.int .u8 x)).setCell ⟨w.heap.size, 1, none⟩ (.bool ge)).setCell ⟨w.heap.size, 2, none⟩ (.bool false)).setCell ⟨w.heap.size, 3, none⟩ (.int .u8 b.look.li)).setCell ⟨w.heap.size, 4, none⟩ (.int .u8 b.look.co)).drew) w.heap.size 38 #[.int .u8 x, .bool ge, .bool false, .int .u8 b.look.li, .int .u8 b.look.co] := (((((hB.store 0 _).store 1 _).store 2 _).store 3 _).store 4 _).drew
  have hG : Ext w ((((((W1.setCell ⟨w.heap.size, 0, none⟩ (.int .u8 x)).setCell ⟨w.heap.size, 1, none⟩ (.bool ge)).setCell ⟨w.heap.size, 2, none⟩ (.bool false)).setCell ⟨w.heap.size, 3, none⟩ (.int .u8 b.look.li)).setCell ⟨w.heap.size, 4, none⟩ (.int .u8 b.look.co)).drew) := Ext_drew (Ext_set (Ext_set (Ext_set (Ext_set (Ext_set hE (by simp)) (by simp)) (by simp)) (by simp)) (by simp))
  generalize (((((W1.setCell ⟨w.heap.size, 0, none⟩ (.int .u8 x)).setCell ⟨w.heap.size, 1, none⟩ (.bool ge)).setCell ⟨w.heap.size, 2, none⟩ (.bool false)).setCell ⟨w.heap.size, 3, none⟩ (.int .u8 b.look.li)).setCell ⟨w.heap.size, 4, none⟩ (.int .u8 b.look.co)).drew = Wf at *
  clear z0 z1 z2 z3 z4 f0 f1 f2 f3 f4 j5 j6
  have c0 := hf.cell 0
  have c1 := hf.cell 1
  have c2 := hf.cell 2
  have c3 := hf.cell 3
  have c4 := hf.cell 4
  simp at c0 c1 c2 c3 c4
  go_wp2
  refine bodyPost_ret (v := .agg #[.int .u8 x, .bool ge, .bool false, .int .u8 b.look.li, .int .u8 b.look.co]) (by simp [results, Try.results111, go_sem, c0, c1, c2, c3, c4]) rfl ?_
  exact ⟨rfl, hG⟩
set_option maxRecDepth 100000 in
set_option maxHeartbeats 4000000 in
theorem jump_yes (u g c : Nat) (b : Br) (A B : Option Addr) (cA cB : Nat) (o : Ord) (hh : 0 ≤ o.a ∧ o.a < b.p.n) (w : World) (h : BrAt w u g c b) (ho : OrAt [u, g, c] w A B o) : Calls Try.prog 94 #[.pointer (some ⟨u, 0, none⟩), .agg #[.int .u8 o.k, .int .i64 o.a, .int .u8 o.b, .bool o.ge, .slice A o.ps.length cA, .slice B o.da.length cB]] w (Ret1 (.int .i64 0) (BrTo u g c { b with at_ := o.a } w)) := by
  have HB := Lib.hid h
  have HO := Lib.hid ho
  clear h ho
  go_enter Try.func94, Try.ntmps94
  go_wp2_with fail
  have hE := Ext_alloc (o := .cells #[.int .u8 o.k, .int .i64 o.a, .int .u8 o.b, .bool o.ge, .slice A o.ps.length cA, .slice B o.da.length cB] 71) (Ext_refl w)
  have hB := Blk.new w 71 #[.int .u8 o.k, .int .i64 o.a, .int .u8 o.b, .bool o.ge, .slice A o.ps.length cA, .slice B o.da.length cB]
  generalize w.alloc (.cells #[.int .u8 o.k, .int .i64 o.a, .int .u8 o.b, .bool o.ge, .slice A o.ps.length cA, .slice B o.da.length cB] 71) = W1 at *
  have H1 := Lib.hid (HB.out.ext hE)
  have HO1 := Lib.hid (HO.out.ext hE)
  have HE := Lib.hid hE
  clear HB HO hE
  generalize w.heap.size = bx at *
  have z0 := hB.cell 0
  have z1 := hB.cell 1
  have z2 := hB.cell 2
  have z3 := hB.cell 3
  have z4 := hB.cell 4
  have z5 := hB.cell 5
  have k0 := H1.out.obj.cell 0
  have k1 := H1.out.obj.cell 1
  have k2 := H1.out.obj.cell 2
  have k3 := H1.out.obj.cell 3
  have k4 := H1.out.obj.cell 4
  have k5 := H1.out.obj.cell 5
  have k6 := H1.out.obj.cell 6
  have k7 := H1.out.obj.cell 7
  simp [Br.row] at z0 z1 z2 z3 z4 z5 k0 k1 k2 k3 k4 k5 k6 k7
  have hd : decide (o.a < 0) = false := decide_eq_false (by omega)
  have hd2 : decide (b.p.n ≤ o.a) = false := decide_eq_false (by omega)
  have h3 := hh.1
  have h4 := hh.2
  clear z0 z2 z3 z4 z5 k2 k3 k4 k5 k6 k7
  go_quiet ((go_at_call 18; exact Calls.quiet_of_same (LenQ_any g c b.p _ (H1.out.pl.ext (Ext_drewN (Ext_refl _))))))
  have f1 := H1.out.obj.free 1
  go_wp2
  go_ret
  exact ⟨rfl, (H1.out.ext (Ext_drewN (Ext_refl _))).store_at _ h3 h4, (Chg.of_ext (Ext_drewN HE.out) _).set u 1 _ (.inl (by simp))⟩
set_option maxRecDepth 100000 in
set_option maxHeartbeats 4000000 in
theorem jump_no (u g c : Nat) (b : Br) (A B : Option Addr) (cA cB : Nat) (o : Ord) (hh : ¬ (0 ≤ o.a ∧ o.a < b.p.n)) (w : World) (h : BrAt w u g c b) (ho : OrAt [u, g, c] w A B o) : Calls Try.prog 94 #[.pointer (some ⟨u, 0, none⟩), .agg #[.int .u8 o.k, .int .i64 o.a, .int .u8 o.b, .bool o.ge, .slice A o.ps.length cA, .slice B o.da.length cB]] w (Ret1 (.int .i64 32) (BrTo u g c b w)) := by
  have HB := Lib.hid h
  have HO := Lib.hid ho
  clear h ho
  go_enter Try.func94, Try.ntmps94
  go_wp2_with fail
  have hE := Ext_alloc (o := .cells #[.int .u8 o.k, .int .i64 o.a, .int .u8 o.b, .bool o.ge, .slice A o.ps.length cA, .slice B o.da.length cB] 71) (Ext_refl w)
  have hB := Blk.new w 71 #[.int .u8 o.k, .int .i64 o.a, .int .u8 o.b, .bool o.ge, .slice A o.ps.length cA, .slice B o.da.length cB]
  generalize w.alloc (.cells #[.int .u8 o.k, .int .i64 o.a, .int .u8 o.b, .bool o.ge, .slice A o.ps.length cA, .slice B o.da.length cB] 71) = W1 at *
  have H1 := Lib.hid (HB.out.ext hE)
  have HO1 := Lib.hid (HO.out.ext hE)
  have HE := Lib.hid hE
  clear HB HO hE
  generalize w.heap.size = bx at *
  have z0 := hB.cell 0
  have z1 := hB.cell 1
  have z2 := hB.cell 2
  have z3 := hB.cell 3
  have z4 := hB.cell 4
  have z5 := hB.cell 5
  have k0 := H1.out.obj.cell 0
  have k1 := H1.out.obj.cell 1
  have k2 := H1.out.obj.cell 2
  have k3 := H1.out.obj.cell 3
  have k4 := H1.out.obj.cell 4
  have k5 := H1.out.obj.cell 5
  have k6 := H1.out.obj.cell 6
  have k7 := H1.out.obj.cell 7
  simp [Br.row] at z0 z1 z2 z3 z4 z5 k0 k1 k2 k3 k4 k5 k6 k7
  clear z0 z2 z3 z4 z5 k1 k2 k3 k4 k5 k6 k7
  by_cases h0 : o.a < 0
  · have hd : decide (o.a < 0) = true := decide_eq_true h0
    go_quiet (fail)
    go_wp2
    go_ret
    exact ⟨rfl, H1.out.ext (Ext_drewN (Ext_refl _)), Chg.of_ext (Ext_drewN HE.out) _⟩
  · have h1 : ¬ o.a < b.p.n := fun e => hh ⟨by omega, e⟩
    have hd : decide (o.a < 0) = false := decide_eq_false h0
    have hd2 : decide (b.p.n ≤ o.a) = true := decide_eq_true (by omega)
    have h2 : b.p.n ≤ o.a := by omega
    go_quiet ((go_at_call 18; exact Calls.quiet_of_same (LenQ_any g c b.p _ (H1.out.pl.ext (Ext_drewN (Ext_refl _))))))
    go_wp2
    go_ret
    exact ⟨rfl, H1.out.ext (Ext_drewN (Ext_refl _)), Chg.of_ext (Ext_drewN HE.out) _⟩
set_option maxRecDepth 100000 in
set_option maxHeartbeats 4000000 in
theorem special_any (u g c : Nat) (b : Br) (A B : Option Addr) (cA cB : Nat) (o : Ord) (w : World) (h : BrAt w u g c b) (ho : OrAt [u, g, c] w A B o) : Calls Try.prog 93 #[.pointer (some ⟨u, 0, none⟩), .agg #[.int .u8 o.k, .int .i64 o.a, .int .u8 o.b, .bool o.ge, .slice A o.ps.length cA, .slice B o.da.length cB]] w (Ret1 (.int .i64 0) (BrTo u g c (b.lay (b.char o.b true)) w)) := by
  have HB := Lib.hid h
  have HO := Lib.hid ho
  clear h ho
  go_enter Try.func93, Try.ntmps93
  go_wp2_with fail
  have hE := Ext_alloc (o := .cells #[.int .u8 o.k, .int .i64 o.a, .int .u8 o.b, .bool o.ge, .slice A o.ps.length cA, .slice B o.da.length cB] 71) (Ext_refl w)
  have hB := Blk.new w 71 #[.int .u8 o.k, .int .i64 o.a, .int .u8 o.b, .bool o.ge, .slice A o.ps.length cA, .slice B o.da.length cB]
  generalize w.alloc (.cells #[.int .u8 o.k, .int .i64 o.a, .int .u8 o.b, .bool o.ge, .slice A o.ps.length cA, .slice B o.da.length cB] 71) = W1 at *
  have H1 := Lib.hid (HB.out.ext hE)
  have HO1 := Lib.hid (HO.out.ext hE)
  have HE := Lib.hid hE
  clear HB HO hE
  generalize w.heap.size = bx at *
  have z0 := hB.cell 0
  have z1 := hB.cell 1
  have z2 := hB.cell 2
  have z3 := hB.cell 3
  have z4 := hB.cell 4
  have z5 := hB.cell 5
  have k0 := H1.out.obj.cell 0
  have k1 := H1.out.obj.cell 1
  have k2 := H1.out.obj.cell 2
  have k3 := H1.out.obj.cell 3
  have k4 := H1.out.obj.cell 4
  have k5 := H1.out.obj.cell 5
  have k6 := H1.out.obj.cell 6
  have k7 := H1.out.obj.cell 7
  simp [Br.row] at z0 z1 z2 z3 z4 z5 k0 k1 k2 k3 k4 k5 k6 k7
  clear k1 k2 k3 k4 k5 k6 k7
  refine (char_any u g c b _ _ _ H1.out).mono ?_
  rintro e w2 ⟨rfl, hb⟩
  go_wp2_with fail
  refine (lay_any u g c b (b.char o.b true) HO1.out.bb _ (H1.out.ext hb)).mono ?_
  rintro e w3 ⟨⟨v, rfl⟩, hb3, hc3⟩
  have H3 := Lib.hid hb3
  have HC3 := Lib.hid ((Chg.of_ext (Ext_trans hb HE.out) _).trans hc3)
  go_wp2
  go_ret
  exact ⟨rfl, H3.out, HC3.out⟩
set_option maxRecDepth 100000 in
set_option maxHeartbeats 4000000 in
theorem cursor_any (u g c : Nat) (b : Br) (A B : Option Addr) (cA cB : Nat) (o : Ord) (w : World) (h : BrAt w u g c b) (ho : OrAt [u, g, c] w A B o) : Calls Try.prog 98 #[.pointer (some ⟨u, 0, none⟩), .agg #[.int .u8 o.k, .int .i64 o.a, .int .u8 o.b, .bool o.ge, .slice A o.ps.length cA, .slice B o.da.length cB]] w (Ret1 (.int .i64 0) (BrTo u g c { b with p := b.p.point b.at_ } w)) := by
  have HB := Lib.hid h
  have HO := Lib.hid ho
  clear h ho
  go_enter Try.func98, Try.ntmps98
  go_wp2_with fail
  have hE := Ext_alloc (o := .cells #[.int .u8 o.k, .int .i64 o.a, .int .u8 o.b, .bool o.ge, .slice A o.ps.length cA, .slice B o.da.length cB] 71) (Ext_refl w)
  have hB := Blk.new w 71 #[.int .u8 o.k, .int .i64 o.a, .int .u8 o.b, .bool o.ge, .slice A o.ps.length cA, .slice B o.da.length cB]
  generalize w.alloc (.cells #[.int .u8 o.k, .int .i64 o.a, .int .u8 o.b, .bool o.ge, .slice A o.ps.length cA, .slice B o.da.length cB] 71) = W1 at *
  have H1 := Lib.hid (HB.out.ext hE)
  have HO1 := Lib.hid (HO.out.ext hE)
  have HE := Lib.hid hE
  clear HB HO hE
  generalize w.heap.size = bx at *
  have z0 := hB.cell 0
  have z1 := hB.cell 1
  have z2 := hB.cell 2
  have z3 := hB.cell 3
  have z4 := hB.cell 4
  have z5 := hB.cell 5
  have k0 := H1.out.obj.cell 0
  have k1 := H1.out.obj.cell 1
  have k2 := H1.out.obj.cell 2
  have k3 := H1.out.obj.cell 3
  have k4 := H1.out.obj.cell 4
  have k5 := H1.out.obj.cell 5
  have k6 := H1.out.obj.cell 6
  have k7 := H1.out.obj.cell 7
  simp [Br.row] at z0 z1 z2 z3 z4 z5 k0 k1 k2 k3 k4 k5 k6 k7
  clear k2 k3 k4 k5 k6 k7 z0 z1 z2 z3 z4 z5
  go_still_tail 8, (by kernel_rfl)
  change wpList _ _ _ _ _ W1.drew
  have H2 := Lib.hid (H1.out.ext (Ext_drew (Ext_refl _)))
  have HE2 := Lib.hid (Ext_drew HE.out)
  generalize W1.drew = W2 at *
  go_wp2_with fail
  refine (Point_any g c b.p _ _ H2.out.pl).mono ?_
  rintro e w3 ⟨rfl, hs, hch⟩
  have hb3 := H2.out.pl_to hs hch (by unfold Pl.point; split <;> rfl)
  have H3 := Lib.hid hb3
  have HC3 := Lib.hid ((Chg.of_ext HE2.out [u, g, c]).trans (hch.mono (by simp)))
  go_wp2
  go_ret
  exact ⟨rfl, H3.out, HC3.out⟩
/-- what an attribute is behind SF or SFE -/
def Ord.attr (o : Ord) : Cel := if o.k = 29 then ⟨Go.bits .and .u8 o.b 63, false, true, 0, 0⟩ else (Cel.mk 0 false true 0 0).dress o.ps
theorem and63u {x : Int} (h : 0 ≤ x ∧ x < 256) : Go.bits .and .u8 x 63 = x % 64 := by
  obtain ⟨k, rfl⟩ := Int.eq_ofNat_of_zero_le h.1
  have hk : k < 256 := by omega
  exact (by decide +kernel : ∀ k : Fin 256, Go.bits .and .u8 (k.val : Int) 63 = (k.val : Int) % 64) ⟨k, hk⟩
theorem and63_bd {x : Int} (h : 0 ≤ x ∧ x < 256) : 0 ≤ Go.bits .and .u8 x 63 ∧ Go.bits .and .u8 x 63 < 256 := by rw [and63u h]; omega
theorem wear_bd (c : Cel) (x : Pr) (hc : 0 ≤ c.b ∧ c.b < 256) (hx : 0 ≤ x.v ∧ x.v < 256) : 0 ≤ (c.wear x).b ∧ (c.wear x).b < 256 := by
  unfold Cel.wear
  split
  · exact and63_bd hx
  split
  · exact hc
  split
  · exact hc
  split
  · exact hc
  · exact hc
theorem dress_bd (l : List Pr) : ∀ (c : Cel), 0 ≤ c.b ∧ c.b < 256 → (∀ x ∈ l, 0 ≤ x.v ∧ x.v < 256) → 0 ≤ (c.dress l).b ∧ (c.dress l).b < 256 := by
  induction l with
  | nil => exact fun c hc _ => hc
  | cons x l ih =>
    intro c hc hl
    exact ih (c.wear x) (wear_bd c x hc (hl x (by simp))) (fun y hy => hl y (by simp [hy]))
set_option maxRecDepth 100000 in
set_option maxHeartbeats 4000000 in
theorem start_sf (u g c : Nat) (b : Br) (A B : Option Addr) (cA cB : Nat) (o : Ord) (hk : o.k = 29) (w : World) (h : BrAt w u g c b) (ho : OrAt [u, g, c] w A B o) : Calls Try.prog 95 #[.pointer (some ⟨u, 0, none⟩), .agg #[.int .u8 o.k, .int .i64 o.a, .int .u8 o.b, .bool o.ge, .slice A o.ps.length cA, .slice B o.da.length cB]] w (Ret1 (.int .i64 0) (BrTo u g c (b.lay o.attr) w)) := by
  have hv : o.attr = ⟨Go.bits .and .u8 o.b 63, false, true, 0, 0⟩ := by unfold Ord.attr; rw [if_pos hk]
  rw [hv, hk]
  have HB := Lib.hid h
  have HO := Lib.hid ho
  clear h ho hk hv
  go_enter Try.func95, Try.ntmps95
  go_wp2_with fail
  refine (lay_any u g c b ⟨Go.bits .and .u8 o.b 63, false, true, 0, 0⟩ (and63_bd HO.out.bb) _ (HB.out.ext ?hx)).mono ?_
  case hx => first | exact Ext_alloc (Ext_alloc (Ext_refl w)) | exact Ext_set (Ext_alloc (Ext_alloc (Ext_refl w))) (by simp)
  rintro e w3 ⟨⟨v, rfl⟩, hb3, hc3⟩
  have hcw := (Chg.of_ext (show Ext w _ by first | exact Ext_alloc (Ext_alloc (Ext_refl w)) | exact Ext_set (Ext_alloc (Ext_alloc (Ext_refl w))) (by simp)) _).trans hc3
  have H3 := Lib.hid hb3
  have HC3 := Lib.hid hcw
  go_wp2
  go_ret
  exact ⟨rfl, H3.out, HC3.out⟩
set_option maxRecDepth 100000 in
set_option maxHeartbeats 4000000 in
theorem start_sfe (u g c : Nat) (b : Br) (A B : Option Addr) (cA cB : Nat) (o : Ord) (hk : o.k ≠ 29) (w : World) (h : BrAt w u g c b) (ho : OrAt [u, g, c] w A B o) : Calls Try.prog 95 #[.pointer (some ⟨u, 0, none⟩), .agg #[.int .u8 o.k, .int .i64 o.a, .int .u8 o.b, .bool o.ge, .slice A o.ps.length cA, .slice B o.da.length cB]] w (Ret1 (.int .i64 0) (BrTo u g c (b.lay o.attr) w)) := by
  have hv : o.attr = (Cel.mk 0 false true 0 0).dress o.ps := by unfold Ord.attr; rw [if_neg hk]
  rw [hv]
  have hk' : (o.k == 29) = false := by rw [beq_eq_false_iff_ne]; exact hk
  have HB := Lib.hid h
  have HO := Lib.hid ho
  clear h ho hk hv
  go_enter Try.func95, Try.ntmps95
  go_wp2_with fail
  refine (Dress_any (Cel.mk 0 false true 0 0) A cA o.ps HO.out.pl _ (Rd_ext (Ext_alloc (Ext_alloc (Ext_refl w))) HO.out.ps)).mono ?_
  rintro e w2 ⟨rfl, hb⟩
  have hx := dress_bd o.ps (Cel.mk 0 false true 0 0) ⟨by decide, by decide⟩ HO.out.pb
  generalize (Cel.mk 0 false true 0 0).dress o.ps = x at *
  have hC := (Blk.new (w.alloc (.cells #[.int .u8 o.k, .int .i64 o.a, .int .u8 o.b, .bool o.ge, .slice A o.ps.length cA, .slice B o.da.length cB] 71)) 38 #[.int .u8 0, .bool false, .bool true, .int .u8 0, .int .u8 0]).below' hb
  rw [World.size_alloc] at hC
  have hE2 : Ext w w2 := Ext_trans hb (Ext_alloc (Ext_alloc (Ext_refl w)))
  have HB3 := Lib.hid HB
  have HE2 := Lib.hid hE2
  clear HB HO hb hE2
  have HB3 := HB3.out
  have hwl : w.heap.size ≤ w.heap.size + 1 := by omega
  generalize w.heap.size + 1 = cb at *
  have z0 := hC.cell 0
  have z1 := hC.cell 1
  have z2 := hC.cell 2
  have z3 := hC.cell 3
  have z4 := hC.cell 4
  have f0 := hC.free 0
  have f1 := hC.free 1
  have f2 := hC.free 2
  have f3 := hC.free 3
  have f4 := hC.free 4
  simp at z0 z1 z2 z3 z4
  go_wp2_with fail
  have hE3 : Ext w ((((((w2.setCell ⟨cb, 0, none⟩ (.int .u8 x.b)).setCell ⟨cb, 1, none⟩ (.bool x.ge)).setCell ⟨cb, 2, none⟩ (.bool x.st)).setCell ⟨cb, 3, none⟩ (.int .u8 x.li)).setCell ⟨cb, 4, none⟩ (.int .u8 x.co))) := Ext_set (Ext_set (Ext_set (Ext_set (Ext_set HE2.out hwl) hwl) hwl) hwl) hwl
  have hb5 : BrAt ((((((w2.setCell ⟨cb, 0, none⟩ (.int .u8 x.b)).setCell ⟨cb, 1, none⟩ (.bool x.ge)).setCell ⟨cb, 2, none⟩ (.bool x.st)).setCell ⟨cb, 3, none⟩ (.int .u8 x.li)).setCell ⟨cb, 4, none⟩ (.int .u8 x.co))) u g c b := HB3.out.ext hE3
  generalize (((((w2.setCell ⟨cb, 0, none⟩ (.int .u8 x.b)).setCell ⟨cb, 1, none⟩ (.bool x.ge)).setCell ⟨cb, 2, none⟩ (.bool x.st)).setCell ⟨cb, 3, none⟩ (.int .u8 x.li)).setCell ⟨cb, 4, none⟩ (.int .u8 x.co)) = W5 at *
  refine (lay_any u g c b x hx _ hb5).mono ?_
  rintro e w3 ⟨⟨v, rfl⟩, hb3, hc3⟩
  have H3 := Lib.hid hb3
  have HC3 := Lib.hid ((Chg.of_ext hE3 _).trans hc3)
  clear z0 z1 z2 z3 z4 f0 f1 f2 f3 f4
  go_wp2
  go_ret
  exact ⟨rfl, H3.out, HC3.out⟩
set_option maxRecDepth 100000 in
set_option maxHeartbeats 4000000 in
theorem dress_any (u g c : Nat) (b : Br) (A B : Option Addr) (cA cB : Nat) (o : Ord) (w : World) (h : BrAt w u g c b) (ho : OrAt [u, g, c] w A B o) : Calls Try.prog 96 #[.pointer (some ⟨u, 0, none⟩), .agg #[.int .u8 o.k, .int .i64 o.a, .int .u8 o.b, .bool o.ge, .slice A o.ps.length cA, .slice B o.da.length cB]] w (Ret1 (.int .i64 0) (BrTo u g c { b with look := b.look.dress o.ps } w)) := by
  have HB := Lib.hid h
  have HO := Lib.hid ho
  clear h ho
  go_enter Try.func96, Try.ntmps96
  go_wp2_with fail
  have hE := Ext_alloc (o := .cells #[.int .u8 o.k, .int .i64 o.a, .int .u8 o.b, .bool o.ge, .slice A o.ps.length cA, .slice B o.da.length cB] 71) (Ext_refl w)
  have hB := Blk.new w 71 #[.int .u8 o.k, .int .i64 o.a, .int .u8 o.b, .bool o.ge, .slice A o.ps.length cA, .slice B o.da.length cB]
  generalize w.alloc (.cells #[.int .u8 o.k, .int .i64 o.a, .int .u8 o.b, .bool o.ge, .slice A o.ps.length cA, .slice B o.da.length cB] 71) = W1 at *
  have H1 := Lib.hid (HB.out.ext hE)
  have HO1 := Lib.hid (HO.out.ext hE)
  have HE := Lib.hid hE
  clear HB HO hE
  generalize w.heap.size = bx at *
  have z0 := hB.cell 0
  have z1 := hB.cell 1
  have z2 := hB.cell 2
  have z3 := hB.cell 3
  have z4 := hB.cell 4
  have z5 := hB.cell 5
  have k0 := H1.out.obj.cell 0
  have k1 := H1.out.obj.cell 1
  have k2 := H1.out.obj.cell 2
  have k3 := H1.out.obj.cell 3
  have k4 := H1.out.obj.cell 4
  have k5 := H1.out.obj.cell 5
  have k6 := H1.out.obj.cell 6
  have k7 := H1.out.obj.cell 7
  simp [Br.row] at z0 z1 z2 z3 z4 z5 k0 k1 k2 k3 k4 k5 k6 k7
  clear z0 z1 z2 z3 z5 k0 k1 k7
  go_region_with (go_at_call 112; refine (Dress_any b.look A cA o.ps HO1.out.pl _ (Rd_ext (by first | exact Ext_refl _ | exact Ext_drew (Ext_refl _)) HO1.out.ps)).mono ?_; rintro e w2 ⟨rfl, hb⟩; have H2 := Lib.hid (H1.out.ext (Ext_trans hb (by first | exact Ext_refl _ | exact Ext_drew (Ext_refl _)))); have HE2 := Lib.hid (Ext_trans (Ext_trans hb (by first | exact Ext_refl _ | exact Ext_drew (Ext_refl _))) HE.out); have k2 := H2.out.obj.cell 2; have k3 := H2.out.obj.cell 3; have k4 := H2.out.obj.cell 4; have k5 := H2.out.obj.cell 5; have k6 := H2.out.obj.cell 6; have f2 := H2.out.obj.free 2; have f3 := H2.out.obj.free 3; have f4 := H2.out.obj.free 4; have f5 := H2.out.obj.free 5; have f6 := H2.out.obj.free 6; simp [Br.row] at k2 k3 k4 k5 k6; clear hb)
  all_goals go_wp2
  all_goals go_ret
  all_goals exact ⟨rfl, H2.out.store_look _, (((((Chg.of_ext HE2.out [u, g, c]).set u 2 _ (.inl (by simp))).set u 3 _ (.inl (by simp))).set u 4 _ (.inl (by simp))).set u 5 _ (.inl (by simp))).set u 6 _ (.inl (by simp))⟩
end Go.Proofs.Ytmcfckdgolojlaa
