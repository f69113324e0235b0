/- A field's cells let go: wipe.Inside. -/
import Derived.Test.YtmcfckdgolojlaaV1
namespace Go.Proofs.Ytmcfckdgolojlaa
set_option linter.unusedVariables false
set_option linter.unusedSimpArgs false
open Go.RowKit Go.Shelf
attribute [local go_sem] Oper.semAt_some
/-- cells let go -/
def Pl.gone (p : Pl) (l : List Int) : Pl := l.foldl (fun q i => q.set i Cel.zero) p
theorem gone_snoc (p : Pl) (l : List Int) (i : Int) : p.gone (l ++ [i]) = (p.gone l).set i Cel.zero := by unfold Pl.gone; rw [List.foldl_append]; rfl
theorem set_dims (p : Pl) (i : Int) (x : Cel) : (p.set i x).rows = p.rows ∧ (p.set i x).cols = p.cols ∧ (p.set i x).cells.length = p.cells.length := by
  unfold Pl.set
  split <;> simp
theorem plat_own {β : Type} (g c : Nat) (f : β → Pl) : Own (fun s W => PlAt W g c (f s)) := fun s X Y row hs hg hrow => by
  have ne : ∀ {x : Nat} {t : TypeId} {cs : Array Value}, Blk X x t cs → some x ≠ row := fun hx e => by
    obtain ⟨o, ho, hc⟩ := hrow _ e.symm
    rw [show X.heap[_]? = _ from hx] at ho; cases ho; cases hc
  obtain ⟨k, t, hk⟩ := hs
  exact ⟨k, t, hk.obj.grown hg (ne hk.obj), hk.row.grown hg (ne hk.row), hk.ok⟩
theorem chg_ownFrom {β : Type} (l : List Nat) (w : World) (B : Nat) (hB : w.heap.size ≤ B) : OwnFrom B (fun (_ : β) W => Chg l w W) := fun s X Y row hs hg hr =>
  ⟨hg.os.trans hs.os, hg.tape.trans hs.tape, hg.output.trans hs.output, Nat.le_trans hs.size hg.size, fun i hi hn => (hg.block i (Nat.lt_of_lt_of_le hi hs.size) (fun e => by have := (hr i e.symm).1; omega)).trans (hs.block i hi hn)⟩
theorem Chg.drop {l m : List Nat} {w w1 w2 : World} (h : Chg l w1 w2) (k : Ext w w1) (hl : ∀ i, i ∈ l → i ∈ m ∨ w.heap.size ≤ i) : Chg m w w2 :=
  ⟨h.os.trans k.os, h.tape.trans k.tape, h.output.trans k.output, Nat.le_trans k.size h.size, fun i hi hn => (h.block i (Nat.lt_of_lt_of_le hi k.size) (fun hx => by
    rcases hl i hx with h1 | h1
    · exact hn h1
    · omega)).trans (k.block i hi)⟩
theorem Chg.put {l : List Nat} {w w1 : World} (h : Chg l w w1) (D : Nat) (o : Obj) (hD : w.heap.size ≤ D) : Chg l w (w1.putObj D o) := by
  have hg := grownBy_putObj' w1 D o
  exact ⟨hg.os.trans h.os, hg.tape.trans h.tape, hg.output.trans h.output, Nat.le_trans h.size hg.size, fun i hi hn => (hg.block i (Nat.lt_of_lt_of_le hi h.size) (fun e => by injection e with e; omega)).trans (h.block i hi hn)⟩
theorem KeepsFrom.of_chg {B : Nat} {l : List Nat} {X Y : World} (h : Chg l X Y) (hl : ∀ i, i ∈ l → i < B) : KeepsFrom B X Y :=
  ⟨h.size, fun k o hB hk _ => (h.block k (Array.getElem?_eq_some_iff.1 hk).1 (fun hx => by have := hl k hx; omega)).trans hk⟩
theorem KpP.of_to' {g c a b : Nat} {l : List Nat} {X Y : World} {p q : Pl} (h : PlAt X g c p) (hq : PlAt Y g c q) (hc : Chg l X Y) (hs : q.rows = p.rows ∧ q.cols = p.cols ∧ q.cells.length = p.cells.length) (ha : a ∉ l) (hb : b ∉ l) : KpP g c a b X Y := by
  refine ⟨hc.size, fun i hi hl => hc.block i hl (by rcases hi with rfl | rfl <;> assumption), fun r hr => ?_⟩
  have hpr : r.rows = p.rows ∧ r.cols = p.cols ∧ r.cells.length = p.cells.length := by
    obtain ⟨k1, t1, h1⟩ := h
    obtain ⟨k2, t2, h2⟩ := hr
    have e := (Blk.same h1.obj h2.obj).2
    simp only [Array.mk.injEq, List.cons.injEq, Value.int.injEq, Value.slice.injEq, true_and, and_true] at e
    obtain ⟨e1, e2, e3, e4⟩ := e
    exact ⟨e1.symm, e2.symm, e3.1.symm⟩
  exact ⟨q, hq, hs.1.trans hpr.1.symm, hs.2.1.trans hpr.2.1.symm, hs.2.2.trans hpr.2.2.symm⟩
set_option maxRecDepth 100000 in
set_option maxHeartbeats 4000000 in
theorem Inside_any (g c : Nat) (p : Pl) (s len a : Int) (s0 : 0 ≤ s) (s1 : s < p.n) (w : World) (h : PlAt w g c p) :
    Calls Try.prog 39 #[.pointer (some ⟨g, 0, none⟩), .agg #[.int .i64 s, .int .i64 len, .int .u8 a]] w (PlTo (.int .i64 (plcM p.n len)) g c (p.gone (plcN p.n s (plcM p.n len))) w) := by
  have HP := Lib.hid h
  have hg := h.glt
  have hc := h.clt
  clear h
  refine (callsIn_wide (n := 9)).1 ?_
  refine callsIn_of_wp_marks Try.func39 rfl trivial ?_ rfl
  simp only [Try.ntmps39, List.size_toArray, List.length_cons, List.length_nil, Nat.reduceAdd, Nat.reduceSub, Array.replicate_succ, Array.replicate_zero, List.push_toArray, List.append_toArray, List.nil_append, List.cons_append]
  gi_wp2_with (refine ⟨trivial, ?_⟩; gi_at_call 73; refine (callsIn_wide.2 (FPlaces_any _ _ _ _ _)).mono ?_; rintro e w' ⟨rfl, rfl⟩)
  obtain ⟨W0, hW0⟩ : ∃ W0, (((((w.alloc (.cells #[.pointer (some ⟨g, 0, none⟩)] 26)).alloc (.cells #[.int .i64 s, .int .i64 len, .int .u8 a] 52)).alloc (.cells #[.int .i64 0] 3)).alloc (.cells #[.pointer (some ⟨g, 0, none⟩)] 26)).alloc (.cells #[.int .i64 s, .int .i64 len, .int .u8 a] 52)) = W0 := ⟨_, rfl⟩
  have hsz : W0.heap.size = w.heap.size + 5 := by rw [← hW0]; simp
  have hs1 : W0.heap.size ≤ w.heap.size + 5 := by omega
  have hs2 : w.heap.size + 5 ≤ W0.heap.size := by omega
  clear hsz
  have hB0 : Ext w W0 := by rw [← hW0]; exact Ext_alloc (Ext_alloc (Ext_alloc (Ext_alloc (Ext_alloc (Ext_refl _)))))
  have b0 : Blk W0 w.heap.size 26 #[.pointer (some ⟨g, 0, none⟩)] := by rw [← hW0]; exact ((((Blk.new w _ _).alloc _).alloc _).alloc _).alloc _
  have b2 : Blk W0 (w.heap.size + 1 + 1) 3 #[.int .i64 0] := by
    have := Blk.new ((w.alloc (.cells #[.pointer (some ⟨g, 0, none⟩)] 26)).alloc (.cells #[.int .i64 s, .int .i64 len, .int .u8 a] 52)) 3 #[.int .i64 0]
    rw [World.size_alloc, World.size_alloc] at this
    rw [← hW0]; exact (this.alloc _).alloc _
  have b3 : Blk W0 (w.heap.size + 1 + 1 + 1) 26 #[.pointer (some ⟨g, 0, none⟩)] := by
    have := Blk.new (((w.alloc (.cells #[.pointer (some ⟨g, 0, none⟩)] 26)).alloc (.cells #[.int .i64 s, .int .i64 len, .int .u8 a] 52)).alloc (.cells #[.int .i64 0] 3)) 26 #[.pointer (some ⟨g, 0, none⟩)]
    rw [World.size_alloc, World.size_alloc, World.size_alloc] at this
    rw [← hW0]; exact this.alloc _
  have b4 : Blk W0 (w.heap.size + 1 + 1 + 1 + 1) 52 #[.int .i64 s, .int .i64 len, .int .u8 a] := by
    have := Blk.new ((((w.alloc (.cells #[.pointer (some ⟨g, 0, none⟩)] 26)).alloc (.cells #[.int .i64 s, .int .i64 len, .int .u8 a] 52)).alloc (.cells #[.int .i64 0] 3)).alloc (.cells #[.pointer (some ⟨g, 0, none⟩)] 26)) 52 #[.int .i64 s, .int .i64 len, .int .u8 a]
    rw [World.size_alloc, World.size_alloc, World.size_alloc, World.size_alloc] at this
    rw [← hW0]; exact this
  rw [hW0]
  clear hW0
  refine wpIn_rangeFunc_ownG rfl (by omega) (gf := 88) (lb := #[.pointer (some ⟨w.heap.size + 1 + 1 + 1 + 1, 0, none⟩), .pointer (some ⟨w.heap.size + 1 + 1 + 1, 0, none⟩)]) rfl trivial (enters_of Try.func88 (by kernel_rfl) rfl)
    (Places_stops 8 (by omega) (w.heap.size + 1 + 1 + 1 + 1) (w.heap.size + 1 + 1 + 1) g c p s len a s0 s1 W0 b4 b3 (HP.out.ext hB0)) KpP.trans (KpP.put (by omega) (by omega)) (Below.refl _ _) (fun _ => rfl)
    (fun pre W => PlAt W g c (p.gone pre) ∧ Blk W (w.heap.size + 1 + 1) 3 #[.int .i64 pre.length] ∧ Chg [g, c, w.heap.size + 1 + 1] W0 W ∧ (p.gone pre).rows = p.rows ∧ (p.gone pre).cols = p.cols ∧ (p.gone pre).cells.length = p.cells.length)
    (fun _ _ _ => False)
    (OwnFrom.and (plat_own g c _ |>.from _) (OwnFrom.and ((blk_own _ 3 (fun pre : List Int => #[.int .i64 pre.length])).from _) (OwnFrom.and (chg_ownFrom _ _ _ (Nat.le_refl _)) (ownFrom_pure _ _))))
    (fun cd s X Y row hs hg' hr => hs)
    ⟨HP.out.ext hB0, b2, Chg.refl _ _, rfl, rfl, rfl⟩
    (fun x => { tmps := #[.pointer (some ⟨g, 0, none⟩), .agg #[.int .i64 s, .int .i64 len, .int .u8 a], .pointer (some ⟨w.heap.size, 0, none⟩), .pointer (some ⟨w.heap.size + 1, 0, none⟩), .int .i64 0, .pointer (some ⟨w.heap.size + 1 + 1, 0, none⟩), .int .i64 x, .pointer (some ⟨g, 0, none⟩), .agg #[.int .i64 s, .int .i64 len, .int .u8 a], .func (.func 88) #[] #[.pointer (some ⟨w.heap.size + 1 + 1 + 1 + 1, 0, none⟩), .pointer (some ⟨w.heap.size + 1 + 1 + 1, 0, none⟩)], .int .i64 x, undef, undef, undef, undef, undef, undef, undef], defers := [] })
    ?assign ?body ?done ?stop
  case assign =>
    intro l x W K hK
    gi_wp2
    exact hK
  case body =>
    rintro l pre x W ⟨hp, hn, hch, hd1, hd2, hd3⟩ hlt
    have bB := b0.chg hch (by simp; omega)
    have cB := bB.cell 0
    have hnl : w.heap.size + 1 + 1 ∉ [g, c] := by simp; omega
    have hl1 : (pre.length : Int) < 5000 := by omega
    have hw : IntKind.i64.wrap ((pre.length : Int) + 1) = ((pre.length + 1 : Nat) : Int) := IntWalk.i64_in _ (by omega)
    simp at cB
    have HPP := Lib.hid hp
    have HN := Lib.hid hn
    have HCH := Lib.hid hch
    clear hp hn hch
    gi_wp2_with (refine ⟨trivial, ?_⟩; gi_at_call 50; refine (CallsIn.inRound l (callsIn_wide.2 (Set_any g c (p.gone pre) x Cel.zero (by decide) _ HPP.out))).mono ?_; rintro e wn ⟨rfl, hs, hc2⟩; have HS := Lib.hid hs; have HC2 := Lib.hid hc2; have n0 := (HN.out.chg hc2 hnl).cell 0; have f0 := (HN.out.chg hc2 hnl).free 0; have hlN := (HN.out.chg hc2 hnl).lt; simp at n0; clear hs hc2)
    have hne1 : g ≠ w.heap.size + 1 + 1 := by omega
    have hne2 : c ≠ w.heap.size + 1 + 1 := by omega
    have hP2 : PlAt (wn.setCell ⟨w.heap.size + 1 + 1, 0, none⟩ (.int .i64 ((pre.length + 1 : Nat) : Int))) g c ((p.gone pre).set x Cel.zero) := HS.out.chg (l := [w.heap.size + 1 + 1]) ((Chg.refl _ _).set _ _ _ (.inl (by simp))) (by simp; omega) (by simp; omega)
    have hd := set_dims (p.gone pre) x Cel.zero
    refine ⟨KeepsFrom.of_chg (l := [g, c, w.heap.size + 1 + 1]) ((HC2.out.mono (by first | (simp; done) | (simp; omega))).set _ _ _ (.inl (by simp))) (by simp; omega), KpP.of_to' HPP.out hP2 ((HC2.out.mono (m := [g, c, w.heap.size + 1 + 1]) (by first | (simp; done) | (simp; omega))).set _ _ _ (.inl (by simp))) hd (by simp; omega) (by simp; omega), ?_, ?_, ?_, ?_⟩
    · rw [gone_snoc]; exact hP2
    · have := (HN.out.chg HC2.out hnl).store 0 (.int .i64 ((pre.length + 1 : Nat) : Int))
      rw [List.length_append, List.length_singleton]
      exact this
    · exact (HCH.out.trans (HC2.out.mono (by first | (simp; done) | (simp; omega)))).set _ _ _ (.inl (by simp))
    · rw [gone_snoc]
      exact ⟨hd.1.trans hd1, hd.2.1.trans hd2, hd.2.2.trans hd3⟩
  case done =>
    rintro D xs W hD rfl ⟨hp, hn, hch, hd1, hd2, hd3⟩ hK
    have cN := hn.cell 0
    rw [plcN_len] at cN
    simp at cN
    gi_wp2
    refine ⟨by simp, .inl ⟨_, _, rfl, run_takeDeferred hK, ?_⟩⟩
    refine ⟨.int .i64 (plcM p.n len), ?_, rfl, (plat_own (β := Unit) g c (fun _ => p.gone (plcN p.n s (plcM p.n len)))).putObj (s := ()) _ hp hK rfl, (hch.drop (m := [g, c]) hB0 (by intro i hi; simp at hi ⊢; omega)).put D _ (by omega)⟩
    simp [results, Try.f39, go_sem]
  case stop =>
    rintro D cd pre W hD hpre hf hK
    exact hf.elim
end Go.Proofs.Ytmcfckdgolojlaa
