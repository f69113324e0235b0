/- Places between two, filled. -/
import Derived.Test.YtmldhgebbgalbaaV4
import Derived.Test.YtmldhgebbgalbaaRL
namespace Go.Proofs.Ytmldhgebbgalbaa
set_option linter.unusedVariables false
set_option linter.unusedSimpArgs false
open Go.RowKit Go.Shelf
attribute [local go_sem] Oper.semAt_some
def Pl.puts (p : Pl) (l : List Int) (x : Cel) : Pl := l.foldl (fun q i => q.set i x) p
theorem puts_snoc (p : Pl) (l : List Int) (x : Cel) (i : Int) : p.puts (l ++ [i]) x = (p.puts l x).set i x := by unfold Pl.puts; rw [List.foldl_append]; rfl
set_option maxRecDepth 100000 in
set_option maxHeartbeats 1000000 in
theorem Fill_any (g c : Nat) (p : Pl) (f t : Int) (x : Cel) (hx : 0 ≤ x.b ∧ x.b < 256) (f0 : 0 ≤ f) (f1 : f < p.n) (t0 : 0 ≤ t) (t1 : t < p.n) (w : World) (h : PlAt w g c p) :
    Calls Try.prog 77 #[.pointer (some ⟨g, 0, none⟩), .int .i64 f, .int .i64 t, .agg #[.int .u8 x.b, .bool x.ge, .bool x.st, .int .u8 x.li, .int .u8 x.co]] w (PlTo (.int .i64 (btwM p.n f t)) g c (p.puts (btwN p.n f (btwM p.n f t)) x) w) := by
  have HP := Lib.hid h
  have hg := h.glt
  have hc := h.clt
  obtain ⟨kap, hr, k0, k1, k2, k3⟩ := h.rd
  clear hr k3 h
  have hg1 : g < w.heap.size + 1 := by omega
  have hg2 : g < w.heap.size + 1 + 1 := by omega
  have hg3 : (g = w.heap.size) = False := by simp; omega
  have hg4 : (g = w.heap.size + 1) = False := by simp; omega
  have hg5 : (g = w.heap.size + 1 + 1) = False := by simp; omega
  refine (callsIn_wide (n := 9)).1 ?_
  refine callsIn_of_wp_marks Try.func77 rfl trivial ?_ rfl
  simp only [Try.ntmps77, List.size_toArray, List.length_cons, List.length_nil, Nat.reduceAdd, Nat.reduceSub, Array.replicate_succ, Array.replicate_zero, List.push_toArray, List.append_toArray, List.nil_append, List.cons_append]
  gi_wp2_with (refine ⟨trivial, ?_⟩; gi_at_call 86; refine (callsIn_wide.2 (Between_any _ _ _ _ _)).mono ?_; rintro e w' ⟨rfl, rfl⟩)
  obtain ⟨W0, hW0⟩ : ∃ W0, ((((((w.alloc (.cells #[.pointer (some ⟨g, 0, none⟩)] 27)).alloc (.cells #[.int .u8 x.b, .bool x.ge, .bool x.st, .int .u8 x.li, .int .u8 x.co] 46)).alloc (.cells #[.int .i64 0] 3)).alloc (.cells #[.int .i64 p.rows, .int .i64 p.cols] 23)).alloc (.cells #[.int .i64 f] 3)).alloc (.cells #[.int .i64 t] 3)) = W0 := ⟨_, rfl⟩
  have hsz : W0.heap.size = w.heap.size + 6 := by rw [← hW0]; simp
  have hs1 : W0.heap.size ≤ w.heap.size + 6 := by omega
  have hs2 : w.heap.size + 6 ≤ W0.heap.size := by omega
  clear hsz hg1 hg2 hg3 hg4 hg5 k0 k1 k2
  have hB0 : Ext w W0 := by rw [← hW0]; exact Ext_alloc (Ext_alloc (Ext_alloc (Ext_alloc (Ext_alloc (Ext_alloc (Ext_refl _))))))
  have b0 : Blk W0 (w.heap.size) 27 #[.pointer (some ⟨g, 0, none⟩)] := by
    have := Blk.new w 27 #[.pointer (some ⟨g, 0, none⟩)]
    rw [← hW0]; exact (((((this.alloc _).alloc _).alloc _).alloc _).alloc _)
  have b1 : Blk W0 (w.heap.size + 1) 46 #[.int .u8 x.b, .bool x.ge, .bool x.st, .int .u8 x.li, .int .u8 x.co] := by
    have := Blk.new (w.alloc (.cells #[.pointer (some ⟨g, 0, none⟩)] 27)) 46 #[.int .u8 x.b, .bool x.ge, .bool x.st, .int .u8 x.li, .int .u8 x.co]
    rw [World.size_alloc] at this
    rw [← hW0]; exact ((((this.alloc _).alloc _).alloc _).alloc _)
  have b2 : Blk W0 (w.heap.size + 1 + 1) 3 #[.int .i64 0] := by
    have := Blk.new ((w.alloc (.cells #[.pointer (some ⟨g, 0, none⟩)] 27)).alloc (.cells #[.int .u8 x.b, .bool x.ge, .bool x.st, .int .u8 x.li, .int .u8 x.co] 46)) 3 #[.int .i64 0]
    rw [World.size_alloc, World.size_alloc] at this
    rw [← hW0]; exact (((this.alloc _).alloc _).alloc _)
  have b3 : Blk W0 (w.heap.size + 1 + 1 + 1) 23 #[.int .i64 p.rows, .int .i64 p.cols] := by
    have := Blk.new (((w.alloc (.cells #[.pointer (some ⟨g, 0, none⟩)] 27)).alloc (.cells #[.int .u8 x.b, .bool x.ge, .bool x.st, .int .u8 x.li, .int .u8 x.co] 46)).alloc (.cells #[.int .i64 0] 3)) 23 #[.int .i64 p.rows, .int .i64 p.cols]
    rw [World.size_alloc, World.size_alloc, World.size_alloc] at this
    rw [← hW0]; exact ((this.alloc _).alloc _)
  have b4 : Blk W0 (w.heap.size + 1 + 1 + 1 + 1) 3 #[.int .i64 f] := by
    have := Blk.new ((((w.alloc (.cells #[.pointer (some ⟨g, 0, none⟩)] 27)).alloc (.cells #[.int .u8 x.b, .bool x.ge, .bool x.st, .int .u8 x.li, .int .u8 x.co] 46)).alloc (.cells #[.int .i64 0] 3)).alloc (.cells #[.int .i64 p.rows, .int .i64 p.cols] 23)) 3 #[.int .i64 f]
    rw [World.size_alloc, World.size_alloc, World.size_alloc, World.size_alloc] at this
    rw [← hW0]; exact (this.alloc _)
  have b5 : Blk W0 (w.heap.size + 1 + 1 + 1 + 1 + 1) 3 #[.int .i64 t] := by
    have := Blk.new (((((w.alloc (.cells #[.pointer (some ⟨g, 0, none⟩)] 27)).alloc (.cells #[.int .u8 x.b, .bool x.ge, .bool x.st, .int .u8 x.li, .int .u8 x.co] 46)).alloc (.cells #[.int .i64 0] 3)).alloc (.cells #[.int .i64 p.rows, .int .i64 p.cols] 23)).alloc (.cells #[.int .i64 f] 3)) 3 #[.int .i64 t]
    rw [World.size_alloc, World.size_alloc, World.size_alloc, World.size_alloc, World.size_alloc] at this
    rw [← hW0]; exact this
  rw [hW0]
  clear hW0
  refine wpIn_rangeFunc_ownG rfl (by omega) (gf := 88) (lb := #[.pointer (some ⟨w.heap.size + 1 + 1 + 1, 0, none⟩), .pointer (some ⟨w.heap.size + 1 + 1 + 1 + 1, 0, none⟩), .pointer (some ⟨w.heap.size + 1 + 1 + 1 + 2, 0, none⟩)]) rfl trivial (enters_of Try.func88 (by kernel_rfl) rfl)
    (Between_stops 8 (by omega) (w.heap.size + 1 + 1 + 1) (w.heap.size + 1 + 1 + 1 + 1) (w.heap.size + 1 + 1 + 1 + 2) p.rows p.cols p.n f t HP.out.ok.sz f0 f1 t0 t1 W0 b3 b4 b5) Kp3.trans (Kp3.put (by omega) (by omega) (by omega)) (Below.refl _ _) (fun _ => rfl)
    (fun pre W => PlAt W g c (p.puts (vals pre) x) ∧ Blk W (w.heap.size + 1 + 1) 3 #[.int .i64 pre.length] ∧ Chg [g, c, w.heap.size + 1 + 1] W0 W ∧ (p.puts (vals pre) x).n = p.n)
    (fun _ _ _ => False)
    (OwnFrom.and (plat_own g c _ |>.from _) (OwnFrom.and ((blk_own _ 3 (fun pre : List (PlN p.n) => #[.int .i64 pre.length])).from _) (OwnFrom.and (chg_ownFrom _ _ _ (Nat.le_refl _)) (ownFrom_pure _ _))))
    (fun cd s X Y row hs hg' hr => hs)
    ⟨HP.out.ext hB0, b2, Chg.refl _ _, rfl⟩
    (fun y => { tmps := #[.pointer (some ⟨g, 0, none⟩), .int .i64 f, .int .i64 t, .agg #[.int .u8 x.b, .bool x.ge, .bool x.st, .int .u8 x.li, .int .u8 x.co], .pointer (some ⟨w.heap.size, 0, none⟩), undef, undef, .pointer (some ⟨w.heap.size + 1, 0, none⟩), .int .i64 0, .pointer (some ⟨w.heap.size + 1 + 1, 0, none⟩), .int .i64 y.1, .pointer (some ⟨g, 0, none⟩), .pointer (some ⟨g, 0, none⟩), .pointer (some ⟨g, 0, none⟩), .agg #[.int .i64 p.rows, .int .i64 p.cols], .int .i64 f, .int .i64 t, .func (.func 88) #[] #[.pointer (some ⟨w.heap.size + 1 + 1 + 1, 0, none⟩), .pointer (some ⟨w.heap.size + 1 + 1 + 1 + 1, 0, none⟩), .pointer (some ⟨w.heap.size + 1 + 1 + 1 + 2, 0, none⟩)], .int .i64 y.1, undef, undef, undef, undef, undef, undef, undef, undef, undef, undef], defers := [] })
    ?assign ?body ?done ?stop
  case assign =>
    intro l y W K hK
    gi_wp2
    exact hK
  case body =>
    rintro l pre ⟨y, y0, y1⟩ W ⟨hp, hn, hch, hd⟩ hlt
    have bB := b0.chg hch (by simp; omega)
    have bX := b1.chg hch (by simp; omega)
    have cB := bB.cell 0
    have x0 := bX.cell 0
    have x1 := bX.cell 1
    have x2 := bX.cell 2
    have x3 := bX.cell 3
    have x4 := bX.cell 4
    have hnl : w.heap.size + 1 + 1 ∉ [g, c] := by simp; omega
    have hw : IntKind.i64.wrap ((pre.length : Int) + 1) = ((pre.length + 1 : Nat) : Int) := IntWalk.i64_in _ (by omega)
    simp at cB x0 x1 x2 x3 x4
    obtain ⟨j, rfl⟩ := Int.eq_ofNat_of_zero_le y0
    have hj : j < (p.puts (vals pre) x).cells.length := by
      have : (p.puts (vals pre) x).n = ((p.puts (vals pre) x).cells.length : Int) := rfl
      omega
    obtain ⟨kap, hr, g0, g1, g2, g3⟩ := hp.rd
    obtain ⟨z, hz, c0, c1, c2, c3, c4⟩ := hp.at_ hj
    obtain ⟨kap', tl', hk⟩ := id hp
    have hf := hk.row.free
    have HPP := Lib.hid hp
    have HN := Lib.hid hn
    have HCH := Lib.hid hch
    have hjn : (j : Int) < (((p.puts (vals pre) x).cells.length : Nat) : Int) := by omega
    clear hp hn hch hr g0 g1 g3 hk hz
    have f0' := hf (j * 5)
    have f1' := hf (j * 5 + 1)
    have f2' := hf (j * 5 + 2)
    have f3' := hf (j * 5 + 3)
    have f4' := hf (j * 5 + 4)
    clear hf
    have hfz : g ≠ c := fun e => by
      obtain ⟨k, tl, hk⟩ := HPP.out
      subst e
      have := (Blk.same hk.obj hk.row).1
      simp at this
    obtain ⟨Q, hQ⟩ : ∃ Q, p.puts (vals pre) x = Q := ⟨_, rfl⟩
    rw [hQ] at hd hj g2 HPP hjn
    have HQ := Lib.hid hQ
    clear hQ
    clear bB bX b0 b1 b2 b3 b4 b5 
    gi_wp2
    refine wpIn_round_chain 7 rfl (by kernel_rfl) ?_
    simp only [List.take_succ_cons, List.take_zero, List.drop_succ_cons, List.drop_zero]
    repeat (refine wpQuietIn_step (by quiet_asked_in) (fun K hK => ?_); go_simp; first | (refine hK _ ?_; clear hK K) | (apply Exists.intro; refine ⟨fun _ => ?_, hK _ ?_⟩; (fail); clear hK K))
    refine wpQuietIn_nil ?_
    intro _ hw'
    obtain ⟨nq, hw''⟩ := hw'
    subst hw''
    have HP1 := Lib.hid (HPP.out.ext (Ext_drewN (n := nq) (Ext_refl W)))
    have HC1 := Lib.hid (HCH.out.trans (Chg.of_ext (Ext_drewN (n := nq) (Ext_refl W)) _))
    have n0 := (HN.out.drewN nq).cell 0
    have fn := (HN.out.drewN nq).free 0
    have HN1 := Lib.hid (HN.out.drewN nq)
    have hcn : c ≠ w.heap.size + 1 + 1 := fun e => hnl (by rw [e]; simp)
    have hgn : g ≠ w.heap.size + 1 + 1 := fun e => hnl (by rw [e]; simp)
    simp only [World.cell?_drewN, World.frozen?_drewN] at n0 fn
    simp at n0
    gi_wp2
    obtain ⟨WF, hWF⟩ : ∃ WF, (((((W.drewN nq).setCell ⟨c, j * 5, none⟩ (.int .u8 x.b)).setCell ⟨c, j * 5 + 1, none⟩ (.bool x.ge)).setCell ⟨c, j * 5 + 2, none⟩ (.bool x.st)).setCell ⟨c, j * 5 + 3, none⟩ (.int .u8 x.li)).setCell ⟨c, j * 5 + 4, none⟩ (.int .u8 x.co) = WF := ⟨_, rfl⟩
    have hP1 := HP1.out.store_cell hj x hx
    have hS : Q.set (j : Int) x = { Q with cells := Q.cells.set j x } := by
      unfold Pl.set
      rw [if_pos (by simp only [Pl.has, Bool.and_eq_true, decide_eq_true_eq]; unfold Pl.n at *; omega), Int.toNat_natCast]
    rw [← hS, hWF] at hP1
    have hCF : Chg [g, c, w.heap.size + 1 + 1] (W.drewN nq) WF := by
      rw [← hWF]
      exact ((((((Chg.refl _ _).set _ _ _ (.inl (by simp))).set _ _ _ (.inl (by simp))).set _ _ _ (.inl (by simp))).set _ _ _ (.inl (by simp))).set _ _ _ (.inl (by simp)))
    have hCF' : Chg [g, c] (W.drewN nq) WF := by
      rw [← hWF]
      exact ((((((Chg.refl _ _).set _ _ _ (.inl (by simp))).set _ _ _ (.inl (by simp))).set _ _ _ (.inl (by simp))).set _ _ _ (.inl (by simp))).set _ _ _ (.inl (by simp)))
    rw [hWF]
    have hnF := HN1.out.chg hCF' hnl
    have hCW : Chg [g, c, w.heap.size + 1 + 1] W (WF.setCell ⟨w.heap.size + 1 + 1, 0, none⟩ (.int .i64 ((pre.length : Int) + 1))) := ((Chg.of_ext (Ext_drewN (n := nq) (Ext_refl W)) _).trans hCF).set _ _ _ (.inl (by simp))
    refine ⟨KeepsFrom.of_chg hCW (by simp; omega), Kp3.of_chg hCW (by simp; omega) (by simp; omega) (by simp; omega), ?_, ?_, ?_, ?_⟩
    · rw [vals_snoc, puts_snoc, HQ.out]
      exact hP1.chg (l := [w.heap.size + 1 + 1]) ((Chg.refl _ _).set _ _ _ (.inl (by simp))) (by simp; omega) (by simp; omega)
    · have := hnF.store 0 (.int .i64 ((pre.length : Int) + 1))
      rw [List.length_append, List.length_singleton, Int.natCast_add]
      exact this
    · exact (HC1.out.trans hCF).set _ _ _ (.inl (by simp))
    · rw [vals_snoc, puts_snoc, HQ.out]
      have := (set_dims Q (j : Int) x).2.2
      unfold Pl.n at hd ⊢
      rw [this]
      exact hd
  case done =>
    rintro D xs W hD hxs ⟨hp, hn, hch, hd⟩ hK
    have cN := hn.cell 0
    rw [← vals_len, hxs, btwN_len] at cN
    rw [hxs] at hp
    simp at cN
    gi_wp2
    refine ⟨by simp, .inl ⟨_, _, rfl, run_takeDeferred hK, ?_⟩⟩
    refine ⟨.int .i64 (btwM p.n f t), ?_, rfl, (plat_own (β := Unit) g c (fun _ => p.puts (btwN p.n f (btwM p.n f t)) x)).putObj (s := ()) _ hp hK rfl, (hch.drop (m := [g, c]) hB0 (by intro i hi; simp at hi ⊢; omega)).put D _ (by omega)⟩
    simp [results, Try.f77, go_sem]
  case stop =>
    rintro D cd pre W hD hpre hf hK
    exact hf.elim
end Go.Proofs.Ytmldhgebbgalbaa
