/- wipe.Rest, where nothing may be typed, and where there is no field. -/
import Derived.Test.YtmldhgebbgalbaaV5
namespace Go.Proofs.Ytmldhgebbgalbaa
set_option linter.unusedVariables false
set_option linter.unusedSimpArgs false
open Go.RowKit Go.Shelf
attribute [local go_sem] Oper.semAt_some
set_option maxRecDepth 100000 in
set_option maxHeartbeats 4000000 in
theorem Rest_shut (g c : Nat) (p : Pl) (i : Int) (ho : p.open_ i = false) (w : World) (h : PlAt w g c p) :
    Calls Try.prog 52 #[.pointer (some ⟨g, 0, none⟩), .int .i64 i] w (PlTo (.tuple #[.int .i64 0, .bool false]) g c p w) := by
  have HP := Lib.hid h
  have HX := Lib.hid (Ext_refl w)
  have HO := Lib.hid ho
  clear h ho
  go_enter Try.func52, Try.ntmps52
  go_wp2_with (go_at_call 24; refine (Open_any g c p _ _ (HP.out.ext (by repeat' (first | (with_reducible first | exact HX.out | apply Ext_alloc | apply Ext_drewN | apply Ext_drew | (refine Ext_set ?_ ?_) | exact Ext_refl _) | (simp only [World.size_alloc, World.size_setCell, World.size_drew, size_drewN]; omega) | (simp; done) | (simp; omega))))).mono ?_; rintro e wn ⟨rfl, hb⟩; rw [HO.out]; have hz0 : w.heap.size < wn.heap.size := (by have := hb.size; (try simp only [World.size_alloc, World.size_setCell, World.size_drew, size_drewN] at this); omega); have hz1 : w.heap.size + 1 < wn.heap.size := (by have := hb.size; (try simp only [World.size_alloc, World.size_setCell, World.size_drew, size_drewN] at this); omega); have hc0_0 : wn.cell? ⟨w.heap.size, 0, none⟩ = some (.pointer (some ⟨g, 0, none⟩)) := (cell_ext hb (by unfold In; first | omega | (simp; done) | (simp; omega))).trans (by go_simp); have hf0_0 : wn.frozen? ⟨w.heap.size, 0, none⟩ = false := (frozen_ext hb (by unfold In; first | omega | (simp; done) | (simp; omega))).trans (by go_simp); have hc1_0 : wn.cell? ⟨w.heap.size + 1, 0, none⟩ = some (.int .i64 i) := (cell_ext hb (by unfold In; first | omega | (simp; done) | (simp; omega))).trans (by go_simp); have hf1_0 : wn.frozen? ⟨w.heap.size + 1, 0, none⟩ = false := (frozen_ext hb (by unfold In; first | omega | (simp; done) | (simp; omega))).trans (by go_simp); have HXn := Lib.hid (Ext_trans hb (by repeat' (first | (with_reducible first | exact HX.out | apply Ext_alloc | apply Ext_drewN | apply Ext_drew | (refine Ext_set ?_ ?_) | exact Ext_refl _) | (simp only [World.size_alloc, World.size_setCell, World.size_drew, size_drewN]; omega) | (simp; done) | (simp; omega)))); clear hb HX; have HX := HXn; clear HXn)
  go_ret2
  exact ⟨rfl, HP.out.ext (by repeat' (first | (with_reducible first | exact HX.out | apply Ext_alloc | apply Ext_drewN | apply Ext_drew | (refine Ext_set ?_ ?_) | exact Ext_refl _) | (simp only [World.size_alloc, World.size_setCell, World.size_drew, size_drewN]; omega) | (simp; done) | (simp; omega))), Chg.of_ext (by repeat' (first | (with_reducible first | exact HX.out | apply Ext_alloc | apply Ext_drewN | apply Ext_drew | (refine Ext_set ?_ ?_) | exact Ext_refl _) | (simp only [World.size_alloc, World.size_setCell, World.size_drew, size_drewN]; omega) | (simp; done) | (simp; omega))) _⟩
set_option maxRecDepth 100000 in
set_option maxHeartbeats 4000000 in
theorem Rest_plain (g c : Nat) (p : Pl) (i : Int) (ho : p.open_ i = true) (hb : p.before i < 0) (i0 : 0 ≤ i) (i1 : i < p.n) (w : World) (h : PlAt w g c p) :
    Calls Try.prog 52 #[.pointer (some ⟨g, 0, none⟩), .int .i64 i] w (PlTo (.tuple #[.int .i64 (p.n - i), .bool true]) g c (p.puts (btwN p.n i (btwM p.n i 0)) Cel.zero) w) := by
  have HP := Lib.hid h
  have HX := Lib.hid (Ext_refl w)
  have HO := Lib.hid ho
  have n1 := h.ok.sz.n1
  have n0 : 0 < p.n := by omega
  have HOF := Lib.hid (show p.ofV i = .tuple #[.agg #[.int .i64 0, .int .i64 0, .int .u8 0], .bool false] by unfold Pl.ofV; rw [if_pos hb])
  clear h ho hb
  go_enter Try.func52, Try.ntmps52
  go_wp2_with (first | (go_at_call 24; refine (Open_any g c p _ _ (HP.out.ext (by repeat' (first | (with_reducible first | exact HX.out | apply Ext_alloc | apply Ext_drewN | apply Ext_drew | (refine Ext_set ?_ ?_) | exact Ext_refl _) | (simp only [World.size_alloc, World.size_setCell, World.size_drew, size_drewN]; omega) | (simp; done) | (simp; omega))))).mono ?_; rintro e wn ⟨rfl, hb⟩; rw [HO.out]; have hz0 : w.heap.size < wn.heap.size := (by have := hb.size; (try simp only [World.size_alloc, World.size_setCell, World.size_drew, size_drewN] at this); omega); have hz1 : w.heap.size + 1 < wn.heap.size := (by have := hb.size; (try simp only [World.size_alloc, World.size_setCell, World.size_drew, size_drewN] at this); omega); have hc0_0 : wn.cell? ⟨w.heap.size, 0, none⟩ = some (.pointer (some ⟨g, 0, none⟩)) := (cell_ext hb (by unfold In; first | omega | (simp; done) | (simp; omega))).trans (by go_simp); have hf0_0 : wn.frozen? ⟨w.heap.size, 0, none⟩ = false := (frozen_ext hb (by unfold In; first | omega | (simp; done) | (simp; omega))).trans (by go_simp); have hc1_0 : wn.cell? ⟨w.heap.size + 1, 0, none⟩ = some (.int .i64 i) := (cell_ext hb (by unfold In; first | omega | (simp; done) | (simp; omega))).trans (by go_simp); have hf1_0 : wn.frozen? ⟨w.heap.size + 1, 0, none⟩ = false := (frozen_ext hb (by unfold In; first | omega | (simp; done) | (simp; omega))).trans (by go_simp); have HXn := Lib.hid (Ext_trans hb (by repeat' (first | (with_reducible first | exact HX.out | apply Ext_alloc | apply Ext_drewN | apply Ext_drew | (refine Ext_set ?_ ?_) | exact Ext_refl _) | (simp only [World.size_alloc, World.size_setCell, World.size_drew, size_drewN]; omega) | (simp; done) | (simp; omega)))); clear hb HX; have HX := HXn; clear HXn) | (go_at_call 16; refine (Of_any g c p _ _ (HP.out.ext (by repeat' (first | (with_reducible first | exact HX.out | apply Ext_alloc | apply Ext_drewN | apply Ext_drew | (refine Ext_set ?_ ?_) | exact Ext_refl _) | (simp only [World.size_alloc, World.size_setCell, World.size_drew, size_drewN]; omega) | (simp; done) | (simp; omega))))).mono ?_; rintro e wn ⟨rfl, hb⟩; rw [HOF.out]; have hz0 : w.heap.size < wn.heap.size := (by have := hb.size; (try simp only [World.size_alloc, World.size_setCell, World.size_drew, size_drewN] at this); omega); have hz1 : w.heap.size + 1 < wn.heap.size := (by have := hb.size; (try simp only [World.size_alloc, World.size_setCell, World.size_drew, size_drewN] at this); omega); have hc0_0 : wn.cell? ⟨w.heap.size, 0, none⟩ = some (.pointer (some ⟨g, 0, none⟩)) := (cell_ext hb (by unfold In; first | omega | (simp; done) | (simp; omega))).trans (by go_simp); have hf0_0 : wn.frozen? ⟨w.heap.size, 0, none⟩ = false := (frozen_ext hb (by unfold In; first | omega | (simp; done) | (simp; omega))).trans (by go_simp); have hc1_0 : wn.cell? ⟨w.heap.size + 1, 0, none⟩ = some (.int .i64 i) := (cell_ext hb (by unfold In; first | omega | (simp; done) | (simp; omega))).trans (by go_simp); have hf1_0 : wn.frozen? ⟨w.heap.size + 1, 0, none⟩ = false := (frozen_ext hb (by unfold In; first | omega | (simp; done) | (simp; omega))).trans (by go_simp); have HXn := Lib.hid (Ext_trans hb (by repeat' (first | (with_reducible first | exact HX.out | apply Ext_alloc | apply Ext_drewN | apply Ext_drew | (refine Ext_set ?_ ?_) | exact Ext_refl _) | (simp only [World.size_alloc, World.size_setCell, World.size_drew, size_drewN]; omega) | (simp; done) | (simp; omega)))); clear hb HX; have HX := HXn; clear HXn))
  have hw : IntKind.i64.wrap (p.n - i) = p.n - i := IntWalk.i64_in _ (by omega)
  go_quiet ((go_at_call 22; exact Calls.quiet_of_same (LenQ_any g c p _ (HP.out.ext (by repeat' (first | (with_reducible first | exact HX.out | apply Ext_alloc | apply Ext_drewN | apply Ext_drew | (refine Ext_set ?_ ?_) | exact Ext_refl _) | (simp only [World.size_alloc, World.size_setCell, World.size_drew, size_drewN]; omega) | (simp; done) | (simp; omega)))))))
  go_wp2_with (go_at_call 77; refine (Fill_any g c p i 0 Cel.zero (by decide) i0 i1 (Int.le_refl _) n0 _ (HP.out.ext (by repeat' (first | (with_reducible first | exact HX.out | apply Ext_alloc | apply Ext_drewN | apply Ext_drew | (refine Ext_set ?_ ?_) | exact Ext_refl _) | (simp only [World.size_alloc, World.size_setCell, World.size_drew, size_drewN]; omega) | (simp; done) | (simp; omega))))).mono ?_; rintro e w' ⟨rfl, h1, h2⟩; have H1 := Lib.hid h1; have H2 := Lib.hid (Chg.trans (Chg.of_ext (by repeat' (first | (with_reducible first | exact HX.out | apply Ext_alloc | apply Ext_drewN | apply Ext_drew | (refine Ext_set ?_ ?_) | exact Ext_refl _) | (simp only [World.size_alloc, World.size_setCell, World.size_drew, size_drewN]; omega) | (simp; done) | (simp; omega))) [g, c]) h2); clear h1 h2)
  go_ret2
  exact ⟨rfl, H1.out, H2.out⟩
end Go.Proofs.Ytmldhgebbgalbaa
/- wipe.Rest in a field. -/
namespace Go.Proofs.Ytmldhgebbgalbaa
set_option linter.unusedVariables false
set_option linter.unusedSimpArgs false
open Go.RowKit Go.Shelf
attribute [local go_sem] Oper.semAt_some
/-- from a place on -/
def from_ (i : Int) (l : List Int) : List Int := l.dropWhile (· != i)
theorem from_snoc (i x : Int) : ∀ l : List Int, from_ i (l ++ [x]) = if x = i ∨ 0 < (from_ i l).length then from_ i l ++ [x] else []
  | [] => by
    unfold from_
    by_cases h : x = i <;> simp [List.dropWhile, h]
  | y :: l => by
    have ih := from_snoc i x l
    by_cases h : y = i
    · have e1 : ∀ r, from_ i (y :: r) = y :: r := fun r => by unfold from_; rw [List.dropWhile_cons_of_neg]; simpa using h
      rw [List.cons_append, e1, e1, if_pos (.inr (by simp))]
      rfl
    · have e1 : ∀ r, from_ i (y :: r) = from_ i r := fun r => by unfold from_; rw [List.dropWhile_cons_of_pos]; simpa using h
      rw [List.cons_append, e1, e1]
      exact ih
theorem from_nil (i x : Int) (l : List Int) (h : ¬(x = i ∨ 0 < (from_ i l).length)) : from_ i l = [] := by
  have : ¬ 0 < (from_ i l).length := fun h' => h (.inr h')
  exact List.eq_nil_of_length_eq_zero (by omega)
theorem from_len (i : Int) (l : List Int) : (from_ i l).length ≤ l.length := (List.dropWhile_suffix _).length_le
def Pl.restL (p : Pl) (i : Int) : List Int := from_ i (plcN p.n (p.before i) (plcM p.n (p.lenAt (p.before i))))
def Pl.restP (p : Pl) (i : Int) : Pl := p.gone (p.restL i)
theorem Chg.cell {l : List Nat} {w0 w : World} (h : Chg l w0 w) {b i : Nat} (hb : b ∉ l) (hl : b < w0.heap.size) : w.cell? ⟨b, i, none⟩ = w0.cell? ⟨b, i, none⟩ := World.cell?_of_block (h.block b hl hb)
set_option maxRecDepth 100000 in
set_option maxHeartbeats 4000000 in
theorem Rest_field (g c : Nat) (p : Pl) (i : Int) (ho : p.open_ i = true) (hb0 : ¬ p.before i < 0) (w : World) (h : PlAt w g c p) :
    Calls Try.prog 52 #[.pointer (some ⟨g, 0, none⟩), .int .i64 i] w (PlTo (.tuple #[.int .i64 (p.restL i).length, .bool (decide (0 ≤ (p.restP i).before i))]) g c ((p.restP i).mark i) w) := by
  have HP := Lib.hid h
  have HX := Lib.hid (Ext_refl w)
  have HO := Lib.hid ho
  have s0 : 0 ≤ p.before i := by omega
  have s1 : p.before i < p.n := (lookM_bd p h.ok _ _).2
  have HOF := Lib.hid (show p.ofV i = .tuple #[.agg #[.int .i64 (p.before i), .int .i64 (p.lenAt (p.before i)), .int .u8 (p.attrAt (p.before i))], .bool true] by unfold Pl.ofV; rw [if_neg hb0])
  have hg := h.glt
  have hc := h.clt
  clear h ho hb0
  have hrl : p.restL i = from_ i (plcN p.n (p.before i) (plcM p.n (p.lenAt (p.before i)))) := rfl
  have HRL := Lib.hid hrl
  clear hrl
  generalize p.attrAt (p.before i) = a at *
  generalize p.lenAt (p.before i) = len at *
  generalize p.before i = s at *
  refine (callsIn_wide (n := 9)).1 ?_
  refine callsIn_of_wp_marks Try.func52 rfl trivial ?_ rfl
  simp only [Try.ntmps52, List.size_toArray, List.length_cons, List.length_nil, Nat.reduceAdd, Nat.reduceSub, Array.replicate_succ, Array.replicate_zero, List.push_toArray, List.append_toArray, List.nil_append, List.cons_append]
  gi_wp2_with (first | (refine ⟨trivial, ?_⟩; gi_at_call 24; refine (callsIn_wide.2 (Open_any g c p _ _ (HP.out.ext (by repeat' (first | (with_reducible first | exact HX.out | apply Ext_alloc | apply Ext_drewN | apply Ext_drew | (refine Ext_set ?_ ?_) | exact Ext_refl _) | (simp only [World.size_alloc, World.size_setCell, World.size_drew, size_drewN]; omega) | (simp; done) | (simp; omega)))))).mono ?_; rintro e wn ⟨rfl, hb⟩; rw [HO.out]; have hz0 : w.heap.size < wn.heap.size := (by have := hb.size; (try simp only [World.size_alloc, World.size_setCell, World.size_drew, size_drewN] at this); omega); have hz1 : w.heap.size + 1 < wn.heap.size := (by have := hb.size; (try simp only [World.size_alloc, World.size_setCell, World.size_drew, size_drewN] at this); omega); have hc0_0 : wn.cell? ⟨w.heap.size, 0, none⟩ = some (.pointer (some ⟨g, 0, none⟩)) := (cell_ext hb (by unfold In; first | omega | (simp; done) | (simp; omega))).trans (by go_simp); have hf0_0 : wn.frozen? ⟨w.heap.size, 0, none⟩ = false := (frozen_ext hb (by unfold In; first | omega | (simp; done) | (simp; omega))).trans (by go_simp); have hc1_0 : wn.cell? ⟨w.heap.size + 1, 0, none⟩ = some (.int .i64 i) := (cell_ext hb (by unfold In; first | omega | (simp; done) | (simp; omega))).trans (by go_simp); have hf1_0 : wn.frozen? ⟨w.heap.size + 1, 0, none⟩ = false := (frozen_ext hb (by unfold In; first | omega | (simp; done) | (simp; omega))).trans (by go_simp); have HXn := Lib.hid (Ext_trans hb (by repeat' (first | (with_reducible first | exact HX.out | apply Ext_alloc | apply Ext_drewN | apply Ext_drew | (refine Ext_set ?_ ?_) | exact Ext_refl _) | (simp only [World.size_alloc, World.size_setCell, World.size_drew, size_drewN]; omega) | (simp; done) | (simp; omega)))); clear hb HX; have HX := HXn; clear HXn) | (refine ⟨trivial, ?_⟩; gi_at_call 16; refine (callsIn_wide.2 (Of_any g c p _ _ (HP.out.ext (by repeat' (first | (with_reducible first | exact HX.out | apply Ext_alloc | apply Ext_drewN | apply Ext_drew | (refine Ext_set ?_ ?_) | exact Ext_refl _) | (simp only [World.size_alloc, World.size_setCell, World.size_drew, size_drewN]; omega) | (simp; done) | (simp; omega)))))).mono ?_; rintro e wn ⟨rfl, hb⟩; rw [HOF.out]; have hz0 : w.heap.size < wn.heap.size := (by have := hb.size; (try simp only [World.size_alloc, World.size_setCell, World.size_drew, size_drewN] at this); omega); have hz1 : w.heap.size + 1 < wn.heap.size := (by have := hb.size; (try simp only [World.size_alloc, World.size_setCell, World.size_drew, size_drewN] at this); omega); have hc0_0 : wn.cell? ⟨w.heap.size, 0, none⟩ = some (.pointer (some ⟨g, 0, none⟩)) := (cell_ext hb (by unfold In; first | omega | (simp; done) | (simp; omega))).trans (by go_simp); have hf0_0 : wn.frozen? ⟨w.heap.size, 0, none⟩ = false := (frozen_ext hb (by unfold In; first | omega | (simp; done) | (simp; omega))).trans (by go_simp); have hc1_0 : wn.cell? ⟨w.heap.size + 1, 0, none⟩ = some (.int .i64 i) := (cell_ext hb (by unfold In; first | omega | (simp; done) | (simp; omega))).trans (by go_simp); have hf1_0 : wn.frozen? ⟨w.heap.size + 1, 0, none⟩ = false := (frozen_ext hb (by unfold In; first | omega | (simp; done) | (simp; omega))).trans (by go_simp); have HXn := Lib.hid (Ext_trans hb (by repeat' (first | (with_reducible first | exact HX.out | apply Ext_alloc | apply Ext_drewN | apply Ext_drew | (refine Ext_set ?_ ?_) | exact Ext_refl _) | (simp only [World.size_alloc, World.size_setCell, World.size_drew, size_drewN]; omega) | (simp; done) | (simp; omega)))); clear hb HX; have HX := HXn; clear HXn) | (refine ⟨trivial, ?_⟩; gi_at_call 76; refine (callsIn_wide.2 (FPlaces_any _ _ _ _ _)).mono ?_; rintro e w' ⟨rfl, rfl⟩))
  obtain ⟨W0, hW0⟩ : ∃ W0, ((((wn.alloc (.cells #[.int .i64 s, .int .i64 len, .int .u8 a] 50)).alloc (.cells #[.int .i64 0] 3)).alloc (.cells #[.pointer (some ⟨g, 0, none⟩)] 27)).alloc (.cells #[.int .i64 s, .int .i64 len, .int .u8 a] 50)) = W0 := ⟨_, rfl⟩
  have hsz : W0.heap.size = wn.heap.size + 4 := by rw [← hW0]; simp
  have hs1 : W0.heap.size ≤ wn.heap.size + 4 := by omega
  have hs2 : wn.heap.size + 4 ≤ W0.heap.size := by omega
  clear hsz
  have hB0 : Ext wn W0 := by rw [← hW0]; exact Ext_alloc (Ext_alloc (Ext_alloc (Ext_alloc (Ext_refl _))))
  have b2 : Blk W0 (wn.heap.size + 1) 3 #[.int .i64 0] := by
    have := Blk.new (wn.alloc (.cells #[.int .i64 s, .int .i64 len, .int .u8 a] 50)) 3 #[.int .i64 0]
    rw [World.size_alloc] at this
    rw [← hW0]; exact (this.alloc _).alloc _
  have b3 : Blk W0 (wn.heap.size + 1 + 1) 27 #[.pointer (some ⟨g, 0, none⟩)] := by
    have := Blk.new ((wn.alloc (.cells #[.int .i64 s, .int .i64 len, .int .u8 a] 50)).alloc (.cells #[.int .i64 0] 3)) 27 #[.pointer (some ⟨g, 0, none⟩)]
    rw [World.size_alloc, World.size_alloc] at this
    rw [← hW0]; exact this.alloc _
  have b4 : Blk W0 (wn.heap.size + 1 + 1 + 1) 50 #[.int .i64 s, .int .i64 len, .int .u8 a] := by
    have := Blk.new (((wn.alloc (.cells #[.int .i64 s, .int .i64 len, .int .u8 a] 50)).alloc (.cells #[.int .i64 0] 3)).alloc (.cells #[.pointer (some ⟨g, 0, none⟩)] 27)) 50 #[.int .i64 s, .int .i64 len, .int .u8 a]
    rw [World.size_alloc, World.size_alloc, World.size_alloc] at this
    rw [← hW0]; exact this
  rw [hW0]
  clear hW0
  have p0 := (cell_ext hB0 hz0).trans hc0_0
  have p1 := (cell_ext hB0 hz1).trans hc1_0
  have hHX : Ext w W0 := Ext_trans hB0 HX.out
  have HP0 := Lib.hid (HP.out.ext hHX)
  have hl0 : w.heap.size < W0.heap.size := by omega
  have hl1 : w.heap.size + 1 < W0.heap.size := by omega
  clear hc0_0 hc1_0 hf0_0 hf1_0
  refine wpIn_rangeFunc_ownG rfl (by omega) (gf := 85) (lb := #[.pointer (some ⟨wn.heap.size + 1 + 1 + 1, 0, none⟩), .pointer (some ⟨wn.heap.size + 1 + 1, 0, none⟩)]) rfl trivial (enters_of Try.func85 (by kernel_rfl) rfl)
    (Places_stops 8 (by omega) (wn.heap.size + 1 + 1 + 1) (wn.heap.size + 1 + 1) g c p s len a s0 s1 W0 b4 b3 HP0.out) KpP.trans (KpP.put (by omega) (by omega)) (Below.refl _ _) (fun _ => rfl)
    (fun pre W => PlAt W g c (p.gone (from_ i pre)) ∧ Blk W (wn.heap.size + 1) 3 #[.int .i64 (from_ i pre).length] ∧ Chg [g, c, wn.heap.size + 1] W0 W ∧ (p.gone (from_ i pre)).rows = p.rows ∧ (p.gone (from_ i pre)).cols = p.cols ∧ (p.gone (from_ i pre)).cells.length = p.cells.length)
    (fun _ _ _ => False)
    (OwnFrom.and (plat_own g c _ |>.from _) (OwnFrom.and ((blk_own _ 3 (fun pre : List Int => #[.int .i64 (from_ i pre).length])).from _) (OwnFrom.and (chg_ownFrom _ _ _ (Nat.le_refl _)) (ownFrom_pure _ _))))
    (fun cd s X Y row hs hg' hr => hs)
    ⟨HP0.out, b2, Chg.refl _ _, rfl, rfl, rfl⟩
    (fun x => { tmps := #[.pointer (some ⟨g, 0, none⟩), .int .i64 i, .pointer (some ⟨w.heap.size, 0, none⟩), .pointer (some ⟨w.heap.size + 1, 0, none⟩), .int .i64 0, .bool false, .pointer (some ⟨wn.heap.size, 0, none⟩), .bool true, undef, .pointer (some ⟨wn.heap.size + 1, 0, none⟩), .int .i64 x, .pointer (some ⟨g, 0, none⟩), .int .i64 i, .bool true, .bool false, .tuple #[.agg #[.int .i64 s, .int .i64 len, .int .u8 a], .bool true], .pointer (some ⟨g, 0, none⟩), .int .i64 i, .tuple #[.agg #[.int .i64 s, .int .i64 len, .int .u8 a], .bool true], .agg #[.int .i64 s, .int .i64 len, .int .u8 a], .bool true, .bool true, .bool false, undef, undef, undef, undef, undef, undef, undef, undef, undef, .pointer (some ⟨g, 0, none⟩), .agg #[.int .i64 s, .int .i64 len, .int .u8 a], .func (.func 85) #[] #[.pointer (some ⟨wn.heap.size + 1 + 1 + 1, 0, none⟩), .pointer (some ⟨wn.heap.size + 1 + 1, 0, none⟩)], .int .i64 x, undef, undef, undef, undef, undef, undef, undef, undef, undef, undef, undef, undef, undef, undef, undef, undef, undef], defers := [] })
    ?assign ?body ?done ?stop
  case assign =>
    intro l x W K hK
    gi_wp2
    exact hK
  case body =>
    rintro l pre x W ⟨hp, hn, hch, hd1, hd2, hd3⟩ hlt
    have hfl := from_len i pre
    have cB := (hch.cell (i := 0) (by simp; omega) hl0).trans p0
    have cI := (hch.cell (i := 0) (by simp; omega) hl1).trans p1
    have cN := hn.cell 0
    simp at cN
    have hnl : wn.heap.size + 1 ∉ [g, c] := by simp; omega
    obtain ⟨L, hL⟩ : ∃ L, from_ i pre = L := ⟨_, rfl⟩
    rw [hL] at hp hn hd1 hd2 hd3 hfl cN
    have hl1' : (L.length : Int) < 5000 := by omega
    have hw : IntKind.i64.wrap ((L.length : Int) + 1) = ((L.length + 1 : Nat) : Int) := IntWalk.i64_in _ (by omega)
    have HL := Lib.hid hL
    have HPP := Lib.hid hp
    have HN := Lib.hid hn
    have HCH := Lib.hid hch
    clear hp hn hch hL hfl
    dsimp only
    by_cases hxi : x = i
    · have HOR : x = i ∨ 0 < L.length := .inl hxi
      rw [hxi]
      have HXI := Lib.hid hxi
      clear hxi
      gi_wp2_with (refine ⟨trivial, ?_⟩; gi_at_call 30; refine (CallsIn.inRound l (callsIn_wide.2 (Set_any g c (p.gone L) i Cel.zero (by decide) _ HPP.out))).mono ?_; rintro e wm ⟨rfl, hs, hc2⟩; have HS := Lib.hid hs; have HC2 := Lib.hid hc2; have n0 := (HN.out.chg hc2 hnl).cell 0; have f0 := (HN.out.chg hc2 hnl).free 0; have hlN := (HN.out.chg hc2 hnl).lt; simp at n0; clear hs hc2)
      have hne1 : g ≠ wn.heap.size + 1 := by omega
      have hne2 : c ≠ wn.heap.size + 1 := by omega
      have hP2 : PlAt (wm.setCell ⟨wn.heap.size + 1, 0, none⟩ (.int .i64 ((L.length + 1 : Nat) : Int))) g c ((p.gone L).set i Cel.zero) := HS.out.chg (l := [wn.heap.size + 1]) ((Chg.refl _ _).set _ _ _ (.inl (by simp))) (by simp; omega) (by simp; omega)
      have hd := set_dims (p.gone L) i Cel.zero
      have hfs : from_ i (pre ++ [i]) = L ++ [i] := by rw [from_snoc, HL.out, if_pos (.inl rfl)]
      refine ⟨KeepsFrom.of_chg (l := [g, c, wn.heap.size + 1]) ((HC2.out.mono (by first | (simp; done) | (simp; omega))).set _ _ _ (.inl (by simp))) (by simp; omega), KpP.of_to' HPP.out hP2 ((HC2.out.mono (m := [g, c, wn.heap.size + 1]) (by first | (simp; done) | (simp; omega))).set _ _ _ (.inl (by simp))) hd (by simp; omega) (by simp; omega), ?_, ?_, ?_, ?_⟩
      · rw [hfs, gone_snoc]; exact hP2
      · have := (HN.out.chg HC2.out hnl).store 0 (.int .i64 ((L.length + 1 : Nat) : Int))
        rw [hfs, List.length_append, List.length_singleton]
        exact this
      · exact (HCH.out.trans (HC2.out.mono (by first | (simp; done) | (simp; omega)))).set _ _ _ (.inl (by simp))
      · rw [hfs, gone_snoc]
        exact ⟨hd.1.trans hd1, hd.2.1.trans hd2, hd.2.2.trans hd3⟩
    · have hx2 : decide (x = i) = false := decide_eq_false hxi
      have hx3 : (x == i) = false := by simpa using hxi
      by_cases hln : 0 < L.length
      · have HOR : x = i ∨ 0 < L.length := .inr hln
        have hln2 : (0 : Int) < (L.length : Int) := by omega
        clear hln
        gi_wp2_with (refine ⟨trivial, ?_⟩; gi_at_call 30; refine (CallsIn.inRound l (callsIn_wide.2 (Set_any g c (p.gone L) x Cel.zero (by decide) _ HPP.out))).mono ?_; rintro e wm ⟨rfl, hs, hc2⟩; have HS := Lib.hid hs; have HC2 := Lib.hid hc2; have n0 := (HN.out.chg hc2 hnl).cell 0; have f0 := (HN.out.chg hc2 hnl).free 0; have hlN := (HN.out.chg hc2 hnl).lt; simp at n0; clear hs hc2)
        have hne1 : g ≠ wn.heap.size + 1 := by omega
        have hne2 : c ≠ wn.heap.size + 1 := by omega
        have hP2 : PlAt (wm.setCell ⟨wn.heap.size + 1, 0, none⟩ (.int .i64 ((L.length + 1 : Nat) : Int))) g c ((p.gone L).set x Cel.zero) := HS.out.chg (l := [wn.heap.size + 1]) ((Chg.refl _ _).set _ _ _ (.inl (by simp))) (by simp; omega) (by simp; omega)
        have hd := set_dims (p.gone L) x Cel.zero
        have hfs : from_ i (pre ++ [x]) = L ++ [x] := by rw [from_snoc, HL.out, if_pos HOR]
        refine ⟨KeepsFrom.of_chg (l := [g, c, wn.heap.size + 1]) ((HC2.out.mono (by first | (simp; done) | (simp; omega))).set _ _ _ (.inl (by simp))) (by simp; omega), KpP.of_to' HPP.out hP2 ((HC2.out.mono (m := [g, c, wn.heap.size + 1]) (by first | (simp; done) | (simp; omega))).set _ _ _ (.inl (by simp))) hd (by simp; omega) (by simp; omega), ?_, ?_, ?_, ?_⟩
        · rw [hfs, gone_snoc]; exact hP2
        · have := (HN.out.chg HC2.out hnl).store 0 (.int .i64 ((L.length + 1 : Nat) : Int))
          rw [hfs, List.length_append, List.length_singleton]
          exact this
        · exact (HCH.out.trans (HC2.out.mono (by first | (simp; done) | (simp; omega)))).set _ _ _ (.inl (by simp))
        · rw [hfs, gone_snoc]
          exact ⟨hd.1.trans hd1, hd.2.1.trans hd2, hd.2.2.trans hd3⟩
      · have hL0 : from_ i pre = [] := from_nil i x pre (by rw [HL.out]; rintro (h | h); exact hxi h; exact hln h)
        have hLn : L = [] := HL.out.symm.trans hL0
        have hfs : from_ i (pre ++ [x]) = L := by rw [from_snoc, HL.out, if_neg (by rintro (h | h); exact hxi h; exact hln h), hLn]
        have HFS := Lib.hid hfs
        have cN0 : W.cell? ⟨wn.heap.size + 1, 0, none⟩ = some (.int .i64 0) := by rw [cN, hLn]; rfl
        have HLN := Lib.hid hLn
        clear hln hL0 hLn hfs cN
        gi_wp2
        refine ⟨KeepsFrom.of_chg (l := []) (Chg.refl _ _) (by simp), KpP.refl _ _ _ _ _, ?_, ?_, ?_, ?_⟩
        · rw [HFS.out]; exact HPP.out
        · rw [HFS.out]; exact HN.out
        · exact HCH.out
        · rw [HFS.out]; exact ⟨hd1, hd2, hd3⟩
  case done =>
    rintro D xs W hD rfl ⟨hp, hn, hch, hd1, hd2, hd3⟩ hK
    rw [← HRL.out] at hp hn
    have HPR := Lib.hid (show PlAt W g c (p.restP i) from hp)
    have q0 := (hch.cell (i := 0) (by simp; omega) hl0).trans p0
    have q1 := (hch.cell (i := 0) (by simp; omega) hl1).trans p1
    have qN := hn.cell 0
    simp at qN
    have hz0 : w.heap.size < W.heap.size := Nat.lt_of_lt_of_le hl0 hch.size
    have hz1 : w.heap.size + 1 < W.heap.size := Nat.lt_of_lt_of_le hl1 hch.size
    have hzN : wn.heap.size + 1 < W.heap.size := hn.lt
    have hgW := hp.glt
    have hcW := hp.clt
    have HCH := Lib.hid hch
    have HNN := Lib.hid hn
    have HHK := Lib.hid hK
    have HHD := Lib.hid hD
    have HHX := Lib.hid hHX
    clear hp hn hch hd1 hd2 hd3 hK b2 b3 b4 hB0 hHX
    generalize (p.restL i).length = nr at *
    dsimp only
    gi_wp2
    refine wpIn_wide.2 ?_
    go_region_held3 (fun w' => w'.cell? ⟨w.heap.size, 0, none⟩ = some (.pointer (some ⟨g, 0, none⟩)) ∧ w'.cell? ⟨w.heap.size + 1, 0, none⟩ = some (.int .i64 i) ∧ w'.cell? ⟨wn.heap.size + 1, 0, none⟩ = some (.int .i64 nr)) (first | exact ⟨q0, q1, qN⟩ | exact ⟨m0, m1, mN⟩) ((go_at_call 43; refine (Mark_any g c (p.restP i) i _ (HPR.out.drew)).mono ?_; rintro e wm ⟨rfl, h1, h2⟩; have m0 := (Chg.cell (i := 0) h2 (b := w.heap.size) (by simp; omega) hz0).trans q0; have m1 := (Chg.cell (i := 0) h2 (b := w.heap.size + 1) (by simp; omega) hz1).trans q1; have mN := (Chg.cell (i := 0) h2 (b := wn.heap.size + 1) (by simp; omega) hzN).trans qN; have H1 := Lib.hid h1; have H2 := Lib.hid h2; clear h1 h2))
    gi_wp2
    have hDl : D < W.heap.size := by
      have := HHK.out
      exact (Array.getElem?_eq_some_iff.1 this).1
    have hDn : D ∉ [g, c] := by
      have := HHD.out
      simp; omega
    have hKm : wm.heap[D]? = some (.deferred (some [])) := (H2.out.block D hDl hDn).trans HHK.out
    refine ⟨by simp, .inl ⟨_, _, rfl, run_takeDeferred hKm, ?_⟩⟩
    refine ⟨.tuple #[.int .i64 nr, .bool (decide (0 ≤ (p.restP i).before i))], ?_, rfl, (plat_own (β := Unit) g c (fun _ => (p.restP i).mark i)).putObj (s := ()) _ H1.out hKm rfl, (((HCH.out.drop (m := [g, c]) HHX.out (by intro i hi; simp at hi ⊢; omega)).trans (Chg.trans (Chg.of_ext (Ext_drew (Ext_refl W)) _) H2.out)).put D _ (by have := HHD.out; omega))⟩
    simp [results, Try.f52, go_sem]
  case stop =>
    rintro D cd pre W hD hpre hf hK
    exact hf.elim
end Go.Proofs.Ytmldhgebbgalbaa
