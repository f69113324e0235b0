import Derived.Test.YtmcfckdgolojlaaZG1
import Derived.StillTailTactics
/- Chapter 16: a brush; next, lay, char, jump. -/
namespace Go.Proofs.Ytmcfckdgolojlaa
set_option linter.unusedVariables false
set_option linter.unusedSimpArgs false
open Go.RowKit
/-- a brush -/
structure Br where
  p : Pl
  at_ : Int
  look : Cel
  laid : Bool
def Br.row (g : Nat) (b : Br) : Array Value := #[.pointer (some ⟨g, 0, none⟩), .int .i64 b.at_, .int .u8 b.look.b, .bool b.look.ge, .bool b.look.st, .int .u8 b.look.li, .int .u8 b.look.co, .bool b.laid]
structure BrAt (w : World) (u g c : Nat) (b : Br) : Prop where
  obj : Blk w u 108 (b.row g)
  pl : PlAt w g c b.p
  a0 : 0 ≤ b.at_
  a1 : b.at_ < b.p.n
theorem BrAt.ne {w : World} {u g c : Nat} {b : Br} (h : BrAt w u g c b) : u ≠ g ∧ u ≠ c := by
  obtain ⟨_, _, k⟩ := h.pl
  refine ⟨?_, ?_⟩
  · rintro rfl
    exact absurd (Blk.same h.obj k.obj).1 (by decide)
  · rintro rfl
    exact absurd (Blk.same h.obj k.row).1 (by decide)
theorem BrAt.ext {w w' : World} {u g c : Nat} {b : Br} (h : BrAt w u g c b) (hx : Ext w w') : BrAt w' u g c b := ⟨Blk.below' h.obj hx, h.pl.ext hx, h.a0, h.a1⟩
theorem BrAt.chg {l : List Nat} {w w' : World} {u g c : Nat} {b : Br} (h : BrAt w u g c b) (k : Chg l w w') (hu : u ∉ l) (hg : g ∉ l) (hc : c ∉ l) : BrAt w' u g c b := ⟨h.obj.chg k hu, h.pl.chg k hg hc, h.a0, h.a1⟩
theorem BrAt.store_at {w : World} {u g c : Nat} {b : Br} (h : BrAt w u g c b) (i : Int) (h0 : 0 ≤ i) (h1 : i < b.p.n) : BrAt (w.setCell ⟨u, 1, none⟩ (.int .i64 i)) u g c { b with at_ := i } :=
  ⟨h.obj.store 1 _, h.pl.chg ((Chg.refl [u] w).set u 1 _ (.inl (by simp))) (by have := h.ne; simp; omega) (by have := h.ne; simp; omega), h0, h1⟩
theorem BrAt.store_laid {w : World} {u g c : Nat} {b : Br} (h : BrAt w u g c b) (x : Bool) : BrAt (w.setCell ⟨u, 7, none⟩ (.bool x)) u g c { b with laid := x } :=
  ⟨h.obj.store 7 _, h.pl.chg ((Chg.refl [u] w).set u 7 _ (.inl (by simp))) (by have := h.ne; simp; omega) (by have := h.ne; simp; omega), h.a0, h.a1⟩
def BrTo (u g c : Nat) (b : Br) (w : World) (w' : World) : Prop := BrAt w' u g c b ∧ Chg [u, g, c] w w'
def Void (Q : World → Prop) (e : Ending) (w : World) : Prop := (∃ v, e = .returned v) ∧ Q w
def Br.next (b : Br) : Br := { b with at_ := (b.at_ + 1) % b.p.n }
def Br.lay (b : Br) (x : Cel) : Br := { b with p := b.p.set b.at_ x, at_ := (b.at_ + 1) % b.p.n }
def Br.char (b : Br) (x : Int) (ge : Bool) : Cel := ⟨x, ge, false, b.look.li, b.look.co⟩
theorem mod_bd {a n : Int} (hn : 1 ≤ n) : 0 ≤ a % n ∧ a % n < n := ⟨Int.emod_nonneg _ (by omega), Int.emod_lt_of_pos _ (by omega)⟩
set_option maxRecDepth 100000 in
set_option maxHeartbeats 4000000 in
theorem next_any (u g c : Nat) (b : Br) (w : World) (h : BrAt w u g c b) : Calls Try.prog 116 #[.pointer (some ⟨u, 0, none⟩)] w (Void (BrTo u g c b.next w)) := by
  have k0 := h.obj.cell 0
  have k1 := h.obj.cell 1
  have f1 := h.obj.free 1
  have hu := h.obj.lt
  have hne := h.ne
  simp [Br.row] at k0 k1
  have H := Lib.hid h
  have HX := Lib.hid (Ext_refl w)
  have hsz := h.pl.ok.sz
  clear h
  go_enter Try.func116, Try.ntmps116
  go_region_with (first
    | (go_at_call 62; refine (Size_any g c b.p _ (H.out.pl.ext (by repeat' (first | (with_reducible first | exact HX.out | apply Ext_alloc | apply Ext_drewN | apply Ext_drew | (refine Ext_set ?_ ?_) | exact Ext_refl _) | (simp only [World.size_alloc, World.size_setCell, World.size_drew, size_drewN]; omega) | (simp; done) | (simp; omega))))).mono ?_; rintro e wn ⟨rfl, hb⟩; have HXn := Lib.hid (Ext_trans hb (by repeat' (first | (with_reducible first | exact HX.out | apply Ext_alloc | apply Ext_drewN | apply Ext_drew | (refine Ext_set ?_ ?_) | exact Ext_refl _) | (simp only [World.size_alloc, World.size_setCell, World.size_drew, size_drewN]; omega) | (simp; done) | (simp; omega)))); clear hb HX; have HX := HXn; clear HXn; have j0 := (cell_ext HX.out hu).trans k0; have j1 := (cell_ext HX.out hu).trans k1)
    | (go_at_call 83; refine (Move_any _ _ _ _ _ hsz _).mono ?_; rintro e wn ⟨rfl, hb⟩; have HXn := Lib.hid (Ext_trans hb (by repeat' (first | (with_reducible first | exact HX.out | apply Ext_alloc | apply Ext_drewN | apply Ext_drew | (refine Ext_set ?_ ?_) | exact Ext_refl _) | (simp only [World.size_alloc, World.size_setCell, World.size_drew, size_drewN]; omega) | (simp; done) | (simp; omega)))); clear hb HX; have HX := HXn; clear HXn; have fj := (H.out.ext HX.out).obj.free 1; have j0 := (cell_ext HX.out hu).trans k0; have j1 := (cell_ext HX.out hu).trans k1))
  all_goals go_end0
  all_goals exact ⟨⟨_, rfl⟩, (H.out.ext HX.out).store_at _ (mod_bd hsz.n0).1 (mod_bd hsz.n0).2, (Chg.of_ext HX.out _).set u 1 _ (.inl (by simp))⟩
theorem BrAt.pl_to {w w' : World} {u g c : Nat} {b : Br} {p' : Pl} (h : BrAt w u g c b) (hp : PlAt w' g c p') (hch : Chg [g, c] w w') (hn : p'.n = b.p.n) : BrAt w' u g c { b with p := p' } :=
  ⟨h.obj.chg hch (by have := h.ne; simp; omega), hp, h.a0, by show b.at_ < p'.n; rw [hn]; exact h.a1⟩
theorem set_n (p : Pl) (i : Int) (x : Cel) : (p.set i x).n = p.n := by
  unfold Pl.set
  split
  · simp [Pl.n]
  · rfl
set_option maxRecDepth 100000 in
set_option maxHeartbeats 4000000 in
theorem lay_any (u g c : Nat) (b : Br) (x : Cel) (hx : 0 ≤ x.b ∧ x.b < 256) (w : World) (h : BrAt w u g c b) : Calls Try.prog 110 #[.pointer (some ⟨u, 0, none⟩), .agg #[.int .u8 x.b, .bool x.ge, .bool x.st, .int .u8 x.li, .int .u8 x.co]] w (Void (BrTo u g c (b.lay x) w)) := by
  have HB := Lib.hid h
  clear h
  go_enter Try.func110, Try.ntmps110
  go_wp2_with fail
  have hE := Ext_alloc (o := .cells #[.int .u8 x.b, .bool x.ge, .bool x.st, .int .u8 x.li, .int .u8 x.co] 38) (Ext_refl w)
  have hB := Blk.new w 38 #[.int .u8 x.b, .bool x.ge, .bool x.st, .int .u8 x.li, .int .u8 x.co]
  generalize w.alloc (.cells #[.int .u8 x.b, .bool x.ge, .bool x.st, .int .u8 x.li, .int .u8 x.co] 38) = W1 at *
  have H1 := Lib.hid (HB.out.ext hE)
  have HE := Lib.hid hE
  clear HB hE
  generalize w.heap.size = bx at *
  have k0 := H1.out.obj.cell 0
  have k1 := H1.out.obj.cell 1
  have z0 := hB.cell 0
  have z1 := hB.cell 1
  have z2 := hB.cell 2
  have z3 := hB.cell 3
  have z4 := hB.cell 4
  simp [Br.row] at k0 k1 z0 z1 z2 z3 z4
  clear hB
  go_still_tail 9, (by kernel_rfl)
  change wpList _ _ _ _ _ W1.drew
  have H2 := Lib.hid (H1.out.ext (Ext_drew (Ext_refl _)))
  have HE2 := Lib.hid (Ext_drew HE.out)
  generalize W1.drew = W2 at *
  go_wp2_with fail
  refine (Set_any g c b.p _ x hx _ H2.out.pl).mono ?_
  rintro e w3 ⟨rfl, hs, hch⟩
  have hb3 := H2.out.pl_to hs hch (set_n _ _ _)
  have H3 := Lib.hid hb3
  have HC3 := Lib.hid ((Chg.of_ext HE2.out [u, g, c]).trans (hch.mono (by simp)))
  clear hs hch hb3 k0 k1 z0 z1 z2 z3 z4
  go_wp2_with fail
  refine (next_any u g c _ _ H3.out).mono ?_
  rintro e w4 ⟨⟨v, rfl⟩, hb4, hc4⟩
  have H4 := Lib.hid hb4
  have HC4 := Lib.hid (HC3.out.trans hc4)
  clear hb4 hc4
  go_wp2
  go_end0
  refine ⟨⟨_, rfl⟩, ?_, HC4.out⟩
  have := H4.out
  unfold Br.next at this
  rw [set_n] at this
  exact this
end Go.Proofs.Ytmcfckdgolojlaa
