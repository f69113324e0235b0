/- wipe.Open. -/
import Derived.Test.YtmcfckdgolojlaaV9
namespace Go.Proofs.Ytmcfckdgolojlaa
set_option linter.unusedVariables false
set_option linter.unusedSimpArgs false
open Go.RowKit Go.Shelf
attribute [local go_sem] Oper.semAt_some
/-- the first k places, let go where something may be typed; how many -/
def Pl.opk (p : Pl) : Nat → Pl × Nat
  | 0 => (p, 0)
  | k + 1 => if (p.opk k).1.open_ (k : Int) then ((p.opk k).1.set (k : Int) Cel.zero, (p.opk k).2 + 1) else p.opk k
theorem opk_dims (p : Pl) : ∀ k, (p.opk k).1.rows = p.rows ∧ (p.opk k).1.cols = p.cols ∧ (p.opk k).1.cells.length = p.cells.length ∧ (p.opk k).2 ≤ k
  | 0 => ⟨rfl, rfl, rfl, Nat.le_refl _⟩
  | k + 1 => by
    obtain ⟨h1, h2, h3, h4⟩ := opk_dims p k
    unfold Pl.opk
    split
    · obtain ⟨k1, k2, k3⟩ := set_dims (p.opk k).1 (k : Int) Cel.zero
      exact ⟨k1.trans h1, k2.trans h2, k3.trans h3, by simp only; omega⟩
    · exact ⟨h1, h2, h3, by omega⟩
def Pl.tameK (p : Pl) (l : List (Int × Int × Bool)) : Pl := l.foldl (fun q x => if x.2.2 then q else q.modP x.1 false) p
theorem tameK_snoc (p : Pl) (l : List (Int × Int × Bool)) (x : Int × Int × Bool) : p.tameK (l ++ [x]) = if x.2.2 then p.tameK l else (p.tameK l).modP x.1 false := by unfold Pl.tameK; rw [List.foldl_append]; rfl
theorem has_lt {p : Pl} {i : Int} (h : p.has i = true) : 0 ≤ i ∧ i < p.n := by simpa [Pl.has] using h
theorem set_at (p : Pl) (s : Int) (y : Cel) (i : Int) : (p.set s y).at i = if i = s ∧ p.has s = true then y else p.at i := by
  unfold Pl.set
  by_cases h : p.has s = true
  · rw [if_pos h]
    obtain ⟨h0, h1⟩ := has_lt h
    obtain ⟨k, rfl⟩ := Int.eq_ofNat_of_zero_le h0
    have hn : ({ p with cells := p.cells.set (k : Int).toNat y } : Pl).n = p.n := by unfold Pl.n; simp
    by_cases hi : i = (k : Int)
    · subst hi
      have hk : k < p.cells.length := by unfold Pl.n at h1; omega
      rw [if_pos ⟨rfl, h⟩]
      unfold Pl.at
      rw [hn, if_pos ⟨h0, h1⟩]
      simp [hk]
    · have e0 : (if i = (k : Int) ∧ p.has (k : Int) = true then y else p.at i) = p.at i := if_neg (fun e => hi e.1)
      rw [e0]
      unfold Pl.at
      rw [hn]
      by_cases hb : 0 ≤ i ∧ i < p.n
      · rw [if_pos hb, if_pos hb]
        have : k ≠ i.toNat := by omega
        simp [List.getElem?_set, this]
      · rw [if_neg hb, if_neg hb]
  · rw [if_neg h, if_neg (fun e => h e.2)]
theorem tamed_mod (p : Pl) (s : Int) : Tamed p (p.modP s false) := by
  obtain ⟨h1, h2, h3⟩ := set_dims p s ((p.at s).mod false)
  refine ⟨h1, h2, h3, fun i => ?_⟩
  unfold Pl.modP
  rw [set_at]
  split
  · next h => rw [h.1]; exact .inr rfl
  · exact .inl rfl
theorem tamed_tameK (p : Pl) (hby : ∀ y ∈ p.cells, 0 ≤ y.b ∧ y.b < 256) : ∀ l, Tamed p (p.tameK l) := by
  intro l
  obtain ⟨n, hn⟩ : ∃ n, l.length = n := ⟨_, rfl⟩
  induction n generalizing l with
  | zero => rw [List.eq_nil_of_length_eq_zero hn]; exact Tamed.refl p
  | succ n ih =>
    rcases List.eq_nil_or_concat l with rfl | ⟨l', x, rfl⟩
    · simp at hn
    · rw [List.concat_eq_append, tameK_snoc]
      have := ih l' (by simpa using hn)
      split
      · exact this
      · exact Tamed.trans hby this (tamed_mod _ _)
theorem enc_inj {x y : Cel} (h : x.enc = y.enc) : x = y := by
  unfold Cel.enc at h
  simp only [List.cons.injEq, Value.int.injEq, Value.bool.injEq, true_and, and_true] at h
  cases x; cases y
  simp_all
theorem encs_inj : ∀ {l m : List Cel}, l.flatMap Cel.enc = m.flatMap Cel.enc → l = m
  | [], [], _ => rfl
  | [], y :: m, h => by simp [Cel.enc] at h
  | x :: l, [], h => by simp [Cel.enc] at h
  | x :: l, y :: m, h => by
    rw [List.flatMap_cons, List.flatMap_cons] at h
    obtain ⟨h1, h2⟩ := List.append_inj h (by rw [Cel.len, Cel.len])
    rw [enc_inj h1, encs_inj h2]
theorem PlAt.uniq {w : World} {g c : Nat} {p q : Pl} (h : PlAt w g c p) (k : PlAt w g c q) : p = q := by
  obtain ⟨a1, t1, h⟩ := h
  obtain ⟨a2, t2, k⟩ := k
  have e := (Blk.same h.obj k.obj).2
  simp only [Array.mk.injEq, List.cons.injEq, Value.int.injEq, Value.slice.injEq, true_and, and_true] at e
  obtain ⟨e1, e2, ⟨e3, e4⟩, e5⟩ := e
  have r := (Blk.same h.row k.row).2
  simp only [Array.mk.injEq] at r
  have := (List.append_inj r (by rw [flat_len Cel.enc 5 Cel.len, flat_len Cel.enc 5 Cel.len, e3])).1
  have hc := encs_inj this
  cases p; cases q
  simp only at e1 e2 e5 hc
  subst e1 e2 e5 hc
  rfl
set_option maxRecDepth 100000 in
set_option maxHeartbeats 4000000 in
theorem Open17_any (g c : Nat) (p : Pl) (w : World) (h : PlAt w g c p) :
    Calls Try.prog 41 #[.pointer (some ⟨g, 0, none⟩)] w (PlTo (.int .i64 (p.opk p.cells.length).2) g c (((p.opk p.cells.length).1.tameK (((p.opk p.cells.length).1.flds p.cells.length).map FV.key)).point ((p.opk p.cells.length).1.tameK (((p.opk p.cells.length).1.flds p.cells.length).map FV.key)).homeM) w) := by
  have HP := Lib.hid h
  have HX := Lib.hid (Ext_refl w)
  have hg := h.glt
  have hc := h.clt
  have hn1 : p.n ≤ 4096 := h.ok.sz.n1
  have hpn : p.n = (p.cells.length : Int) := rfl
  have HPN := Lib.hid hpn
  clear h hpn
  obtain ⟨R, hR⟩ : ∃ R, p.opk p.cells.length = R := ⟨_, rfl⟩
  rw [hR]
  have HR := Lib.hid hR
  clear hR
  obtain ⟨T, hT⟩ : ∃ T, R.1.tameK ((R.1.flds p.cells.length).map FV.key) = T := ⟨_, rfl⟩
  rw [hT]
  have HT := Lib.hid hT
  clear hT
  refine (callsIn_wide (n := 9)).1 ?_
  refine callsIn_of_wp_marks Try.func41 rfl trivial ?_ rfl
  simp only [Try.ntmps41, List.size_toArray, List.length_cons, List.length_nil, Nat.reduceAdd, Nat.reduceSub, Array.replicate_succ, Array.replicate_zero, List.push_toArray, List.append_toArray, List.nil_append, List.cons_append]
  gi_wp2_with (refine ⟨trivial, ?_⟩; gi_at_call 18; refine (callsIn_wide.2 (Len_any g c p _ (HP.out.ext (by repeat' (first | (with_reducible first | exact HX.out | apply Ext_alloc | apply Ext_drewN | apply Ext_drew | (refine Ext_set ?_ ?_) | exact Ext_refl _) | (simp only [World.size_alloc, World.size_setCell, World.size_drew, size_drewN]; omega) | (simp; done) | (simp; omega)))))).mono ?_; rintro e wn ⟨rfl, hb⟩; have hz0 : w.heap.size < wn.heap.size := (by have := hb.size; (try simp only [World.size_alloc, World.size_setCell, World.size_drew, size_drewN] at this); omega); have hc0_0 : wn.cell? ⟨w.heap.size, 0, none⟩ = some (.pointer (some ⟨g, 0, none⟩)) := (cell_ext hb (by unfold In; first | omega | (simp; done) | (simp; omega))).trans (by go_simp); have hf0_0 : wn.frozen? ⟨w.heap.size, 0, none⟩ = false := (frozen_ext hb (by unfold In; first | omega | (simp; done) | (simp; omega))).trans (by go_simp); have HXn := Lib.hid (Ext_trans hb (by repeat' (first | (with_reducible first | exact HX.out | apply Ext_alloc | apply Ext_drewN | apply Ext_drew | (refine Ext_set ?_ ?_) | exact Ext_refl _) | (simp only [World.size_alloc, World.size_setCell, World.size_drew, size_drewN]; omega) | (simp; done) | (simp; omega)))); clear hb HX; have HX := HXn; clear HXn)
  have HC0 := Lib.hid (Chg.of_ext HX.out [g, c])
  have HP0 := Lib.hid (HP.out.ext HX.out)
  clear HX
  gi_loopw [3, 4, 9] (fun v3 _ v9 wr => ∃ k : Nat, k ≤ p.cells.length ∧ v9 = .int .i64 k ∧ v3 = .int .i64 (p.opk k).2 ∧ Hid (PlAt wr g c (p.opk k).1) ∧ Hid (Chg [g, c] wn wr)) (fun _ _ v9 _ => p.cells.length - (intOf v9).toNat)
  case atStart => exact ⟨0, Nat.zero_le _, rfl, rfl, HP0.out, Chg.refl _ _⟩
  case round =>
    obtain ⟨k, hk, rfl, rfl, HPk, HCk⟩ := hrel
    obtain ⟨d1, d2, d3, d4⟩ := opk_dims p k
    have hz0' : w.heap.size ∉ [g, c] := by simp; omega
    have cB := (HCk.out.cell (i := 0) hz0' hz0).trans hc0_0
    have HS := Lib.hid (show p.opk (k + 1) = if (p.opk k).1.open_ (k : Int) then ((p.opk k).1.set (k : Int) Cel.zero, (p.opk k).2 + 1) else p.opk k from rfl)
    have hnn := HPN.out
    by_cases hlt : k < p.cells.length
    · have hlt' : (k : Int) < p.n := by omega
      have hw : IntKind.i64.wrap (((p.opk k).2 : Int) + 1) = (((p.opk k).2 + 1 : Nat) : Int) := IntWalk.i64_in _ (by omega)
      have HX := Lib.hid (Ext_refl wr)
      obtain ⟨Q, hQ⟩ : ∃ Q, p.opk k = Q := ⟨_, rfl⟩
      rw [hQ] at HPk HS d4 hw ⊢
      obtain ⟨Q, m⟩ := Q
      simp only at HPk HS d4 hw ⊢
      have hzr : w.heap.size < wr.heap.size := Nat.lt_of_lt_of_le hz0 HCk.out.size
      clear hnn d1 d2 d3 hQ
      cases ho : Q.open_ (k : Int)
      · have HO := Lib.hid ho
        rw [ho] at HS
        clear ho
        gi_wp2_with (refine ⟨trivial, ?_⟩; gi_at_call 22; refine (callsIn_wide.2 (Open_any g c Q _ _ HPk.out)).mono ?_; rintro e w2 ⟨rfl, hb⟩; rw [HO.out]; have HB := Lib.hid hb; clear hb)
        go_roundw
        case rel => exact ⟨k + 1, by omega, by go_num, by rw [HS.out]; rfl, by rw [HS.out]; exact HPk.out.ext HB.out, HCk.out.trans (Chg.of_ext HB.out _)⟩
        case measure => simp [intOf]; omega
      · have HO := Lib.hid ho
        rw [ho] at HS
        clear ho
        gi_wp2_with (first
          | (refine ⟨trivial, ?_⟩; gi_at_call 22; refine (callsIn_wide.2 (Open_any g c Q _ _ HPk.out)).mono ?_; rintro e w2 ⟨rfl, hb⟩; rw [HO.out]; have cB2 := (cell_ext hb hzr).trans cB; have HPQ := Lib.hid (HPk.out.ext hb); have HB := Lib.hid (HCk.out.trans (Chg.of_ext hb [g, c])); clear hb)
          | (refine ⟨trivial, ?_⟩; gi_at_call 50; refine (callsIn_wide.2 (Set_any g c Q _ Cel.zero (by decide) _ HPQ.out)).mono ?_; rintro e w3 ⟨rfl, hs, hc2⟩; have HS3 := Lib.hid hs; have HC3 := Lib.hid (HB.out.trans hc2); clear hs hc2))
        go_roundw
        case rel => exact ⟨k + 1, by omega, by go_num, by rw [HS.out]; rfl, by rw [HS.out]; exact HS3.out, HC3.out⟩
        case measure => simp [intOf]; omega
    · have hke : k = p.cells.length := by omega
      subst hke
      have hge : ¬ ((p.cells.length : Int) < p.n) := by omega
      clear hnn
      rw [HR.out] at HPk d1 d2 d3 d4 ⊢
      have hnT := HT
      rw [← d3] at HT
      obtain ⟨Q, m⟩ := R
      simp only at HPk d1 d2 d3 d4 HT ⊢
      have hzr : w.heap.size < wr.heap.size := Nat.lt_of_lt_of_le hz0 HCk.out.size
      gi_wp2_with (refine ⟨trivial, ?_⟩; gi_at_call 76; refine (callsIn_wide.2 (FAll_any _ _)).mono ?_; rintro e w' ⟨rfl, rfl⟩)
      obtain ⟨W0, hW0⟩ : ∃ W0, wr.alloc (.cells #[.pointer (some ⟨g, 0, none⟩)] 26) = W0 := ⟨_, rfl⟩
      have hs1 : W0.heap.size ≤ wr.heap.size + 1 := by rw [← hW0]; simp
      have hs2 : wr.heap.size + 1 ≤ W0.heap.size := by rw [← hW0]; simp
      have hB0 : Ext wr W0 := by rw [← hW0]; exact Ext_alloc (Ext_refl _)
      have b1 : Blk W0 wr.heap.size 26 #[.pointer (some ⟨g, 0, none⟩)] := by rw [← hW0]; exact Blk.new wr _ _
      rw [hW0]
      clear hW0
      have HQ0 := Lib.hid (HPk.out.ext hB0)
      have HC0' := Lib.hid (HC0.out.trans (HCk.out.trans (Chg.of_ext hB0 [g, c])))
      have p0 := (cell_ext hB0 hzr).trans cB
      have hl0 : w.heap.size < W0.heap.size := by omega
      have HBYQ := Lib.hid HPk.out.ok.by_
      clear hc0_0 hf0_0 cB HCk HC0 HP0 hzr HPk HS
      refine wpIn_rangeFunc_ownH rfl (by omega) (gf := 91) (lb := #[.pointer (some ⟨wr.heap.size, 0, none⟩)]) rfl trivial (enters_of Try.func91 (by kernel_rfl) rfl)
        (FAllS_stops 8 (by omega) wr.heap.size g c Q W0 b1 HQ0.out) KpS.trans (KpS.put (by omega)) (Below.refl _ _) (fun _ => rfl)
        (fun pre W => PlAt W g c (Q.tameK (pre.map FV.key)) ∧ Chg [g, c] W0 W)
        (fun _ _ _ => False)
        (OwnFrom.and (plat_own g c (fun pre : List FV => Q.tameK (pre.map FV.key)) |>.from _) (chg_ownFrom _ _ _ (Nat.le_refl _)))
        (fun cd s X Y row hs hg' hr => hs)
        ⟨HQ0.out, Chg.refl _ _⟩
        (fun x a' W => ∃ Bx, W0.heap.size ≤ Bx ∧ Blk W Bx 52 x.cells ∧ a' = { tmps := #[.pointer (some ⟨g, 0, none⟩), .pointer (some ⟨w.heap.size, 0, none⟩), .int .i64 0, .int .i64 m, u4, .pointer (some ⟨Bx, 0, none⟩), undef, .pointer (some ⟨g, 0, none⟩), .int .i64 p.n, .int .i64 p.cells.length, .bool false, u11, u12, u13, u14, u15, u16, u17, u18, u19, u20, u21, .pointer (some ⟨g, 0, none⟩), .func (.func 91) #[] #[.pointer (some ⟨wr.heap.size, 0, none⟩)], .agg #[.int .i64 x.s, .int .i64 x.l, .int .u8 x.a], undef, undef, undef, undef, undef, undef, undef, undef, undef, undef, undef, undef, undef, undef, undef, undef, undef, undef, undef, undef, undef], defers := [] })
        (fun x a' _ X Y row hs hg' hr => by obtain ⟨Bx, e1, e2, e3⟩ := hs; exact ⟨Bx, e1, blk_own Bx _ (fun (_ : Unit) => x.cells) () X Y row e2 hg' (fun r e => (hr r e).2), e3⟩)
        ?assign ?body ?done ?stop
      case assign =>
        rintro l pre x W K ⟨hp, hB1⟩ hK
        gi_wp2
        have hE : Ext W (W.alloc (.cells #[.int .i64 x.s, .int .i64 x.l, .int .u8 x.a] 52)) := Ext_alloc (Ext_refl _)
        exact hK _ _ (KeepsFrom.of_ext hE _) (KpS.of_ext hE) ⟨hp.ext hE, hB1.trans (Chg.of_ext hE _)⟩ ⟨W.heap.size, hB1.size, Blk.new _ _ _, rfl⟩
      case body =>
        rintro l pre x a' W hl ⟨r, hr⟩ ⟨hp, hB1⟩ ⟨Bx, hBx, bX, rfl⟩ hlt
        dsimp only
        have k0 := bX.cell 0
        have k1 := bX.cell 1
        have k2 := bX.cell 2
        have cB := (hB1.cell (i := 0) hz0' hl0).trans p0
        simp [FV.cells] at k0 k1 k2
        have HPW := Lib.hid hp
        have HCW := Lib.hid hB1
        have HX := Lib.hid (Ext_refl W)
        have iX : In Bx W := bX.lt
        have iB : In w.heap.size W := Nat.lt_of_lt_of_le hl0 hB1.size
        have HSN := Lib.hid (tameK_snoc Q (pre.map FV.key) x.key)
        have HBYT := Lib.hid hp.ok.by_
        obtain ⟨PT, hPT⟩ : ∃ PT, Q.tameK (pre.map FV.key) = PT := ⟨_, rfl⟩
        rw [hPT] at HPW HSN HBYT
        have HPT := Lib.hid hPT
        clear hp hB1 hPT
        cases hy : bitB x.a 32
        · have HY := Lib.hid hy
          have HSN' := Lib.hid (show Q.tameK (pre.map FV.key ++ [x.key]) = PT.modP x.s false by rw [HSN.out]; unfold FV.key; simp only; rw [hy]; rfl)
          clear hy HSN HX
          obtain ⟨y, hyv⟩ : ∃ y, PT.at x.s = y := ⟨_, rfl⟩
          have HYB := Lib.hid (at_bdd HBYT.out x.s)
          rw [hyv] at HYB
          have HYV := Lib.hid hyv
          clear hyv
          gi_wp2_with fail
          refine ⟨trivial, ?_⟩
          refine (CallsIn.inRound l (callsIn_wide.2 (Protected_any _ _))).mono ?_
          rintro e w1 ⟨rfl, hb⟩
          rw [HY.out]
          have i0 := (cell_ext hb iX).trans k0
          have iC := (cell_ext hb iB).trans cB
          have HP1 := Lib.hid (HPW.out.ext hb)
          have HX1 := Lib.hid hb
          have jX : In Bx w1 := Nat.lt_of_lt_of_le iX hb.size
          have jB : In w.heap.size w1 := Nat.lt_of_lt_of_le iB hb.size
          clear hb k0 k1 k2 cB bX
          gi_wp2_with fail
          refine ⟨trivial, ?_⟩
          refine (CallsIn.inRound l (callsIn_wide.2 (At_any g c PT x.s _ HP1.out))).mono ?_
          rw [HYV.out]
          rintro e w2 ⟨rfl, hb⟩
          have j0 := (cell_ext hb jX).trans i0
          have jC := (cell_ext hb jB).trans iC
          have HP2 := Lib.hid (HP1.out.ext hb)
          have HX2 := Lib.hid (Ext_trans hb HX1.out)
          have kX : In Bx w2 := Nat.lt_of_lt_of_le jX hb.size
          have kB : In w.heap.size w2 := Nat.lt_of_lt_of_le jB hb.size
          clear hb i0 iC HP1 HX1
          gi_wp2_with fail
          refine ⟨trivial, ?_⟩
          refine (CallsIn.inRound l (callsIn_wide.2 (Modify_any y.b false _))).mono ?_
          rintro e w3 ⟨rfl, hb⟩
          have hal := Ext_alloc (o := .cells #[.int .u8 y.b, .bool y.ge, .bool y.st, .int .u8 y.li, .int .u8 y.co] 38) (Ext_refl w2)
          have hbx := (Blk.new w2 38 #[.int .u8 y.b, .bool y.ge, .bool y.st, .int .u8 y.li, .int .u8 y.co]).below' hb
          have l0 := (cell_ext (Ext_trans hb hal) kX).trans j0
          have lC := (cell_ext (Ext_trans hb hal) kB).trans jC
          have HP3 := Lib.hid (HP2.out.ext (Ext_trans hb hal))
          have HX3 := Lib.hid (Ext_trans (Ext_trans hb hal) HX2.out)
          have hgl : g < w2.heap.size := HP2.out.glt
          have hcl : c < w2.heap.size := HP2.out.clt
          have hWs : W.heap.size ≤ w2.heap.size := HX2.out.size
          have nX : Bx ≠ w2.heap.size := fun e => by unfold In at kX; omega
          have nB : w.heap.size ≠ w2.heap.size := fun e => by unfold In at kB; omega
          have e0 := hbx.cell 0
          have e1 := hbx.cell 1
          have e2 := hbx.cell 2
          have e3 := hbx.cell 3
          have e4 := hbx.cell 4
          have f0 := hbx.free 0
          have hbl := hbx.lt
          simp at e0 e1 e2 e3 e4
          obtain ⟨nb, hnb⟩ : ∃ nb, modB y.b false = nb := ⟨_, rfl⟩
          have HNB := Lib.hid hnb
          rw [hnb]
          clear hb hbx HP2 HX2 hnb j0 jC kX kB jX jB hal iX iB
          generalize w2.heap.size = bx at *
          gi_wp2_with fail
          have hp4 : PlAt (w3.setCell ⟨bx, 0, none⟩ (.int .u8 nb)) g c PT := HP3.out.chg (l := [bx]) ((Chg.refl _ _).set _ _ _ (.inl (by simp))) (by simp; omega) (by simp; omega)
          have hb2 : 0 ≤ nb ∧ nb < 256 := by rw [← HNB.out]; exact modB_bd _ HYB.out false
          refine ⟨trivial, ?_⟩
          refine (CallsIn.inRound l (callsIn_wide.2 (Set_any g c PT x.s ⟨nb, y.ge, y.st, y.li, y.co⟩ hb2 _ hp4))).mono ?_
          rintro e w4 ⟨rfl, hs, hc4⟩
          have HS4 := Lib.hid hs
          have HC4 := Lib.hid (((Chg.of_ext HX3.out [g, c]).set bx 0 (.int .u8 nb) (.inr hWs)).trans hc4)
          clear hs hc4 hp4
          gi_wp2_with fail
          have hmod : PT.modP x.s false = PT.set x.s ⟨nb, y.ge, y.st, y.li, y.co⟩ := by
            unfold Pl.modP Cel.mod
            rw [HYV.out, HNB.out]
          have hP5 : PlAt w4 g c (PT.modP x.s false) := by rw [hmod]; exact HS4.out
          refine ⟨KeepsFrom.of_chg HC4.out (by simp; omega), ⟨HC4.out.size, fun hl => HC4.out.block _ hl (by simp; omega), fun p' hp' => ?_⟩, ?_, HCW.out.trans HC4.out⟩
          · rw [hp'.uniq HPW.out]
            exact ⟨_, hP5, tamed_mod _ _⟩
          · rw [List.map_append, List.map_singleton, HSN'.out]
            exact hP5
        · have HY := Lib.hid hy
          have HSN' := Lib.hid (show Q.tameK (pre.map FV.key ++ [x.key]) = PT by rw [HSN.out]; unfold FV.key; simp only; rw [hy]; rfl)
          clear hy
          gi_wp2_with (refine ⟨trivial, ?_⟩; gi_at_call 60; refine (CallsIn.inRound l (callsIn_wide.2 (Protected_any _ _))).mono ?_; rintro e wn ⟨rfl, hb⟩; rw [HY.out]; have HX := Lib.hid hb; clear hb)
          refine ⟨KeepsFrom.of_ext HX.out _, KpS.of_ext HX.out, ?_, HCW.out.trans (Chg.of_ext HX.out _)⟩
          rw [List.map_append, List.map_singleton, HSN'.out]
          exact HPW.out.ext HX.out
      case done =>
        rintro D xs W hD hxs ⟨hp, hch⟩ hK
        rw [hxs] at hp
        have hTT := HT.out
        rw [hTT] at hp
        have q0 := (hch.cell (i := 0) hz0' hl0).trans p0
        have hzW : w.heap.size < W.heap.size := Nat.lt_of_lt_of_le hl0 hch.size
        have HPT := Lib.hid hp
        have HCH := Lib.hid hch
        have HHK := Lib.hid hK
        have HHD := Lib.hid hD
        clear hp hch hK hD hxs hTT p0
        dsimp only
        gi_wp2
        refine wpIn_wide.2 ?_
        go_region_held3 (fun w' => w'.cell? ⟨w.heap.size, 0, none⟩ = some (.pointer (some ⟨g, 0, none⟩))) (first | exact q0 | exact m0 | exact m1) (first
          | (go_at_call 61; refine (FHome_any g c T _ (HPT.out.drew)).mono ?_; rintro e wh ⟨rfl, hb⟩; have m0 := (cell_ext hb hzW).trans q0; have HPH := Lib.hid (HPT.out.drew.ext hb); have HXH := Lib.hid hb; have hzh : w.heap.size < wh.heap.size := Nat.lt_of_lt_of_le hzW hb.size; clear hb)
          | (go_at_call 25; refine (Point_any g c T T.homeM _ HPH.out).mono ?_; rintro e wp ⟨rfl, h1, h2⟩; have m1 := (Chg.cell (i := 0) h2 hz0' hzh).trans m0; have H1 := Lib.hid h1; have H2 := Lib.hid h2; clear h1 h2))
        gi_wp2
        have hDl : D < W.heap.size := (Array.getElem?_eq_some_iff.1 HHK.out).1
        have hDn : D ∉ [g, c] := by
          have := HHD.out
          simp; omega
        have hc2 : Chg [g, c] W wp := (Chg.of_ext (Ext_trans HXH.out (Ext_drew (Ext_refl W))) _).trans H2.out
        have hKm : wp.heap[D]? = some (.deferred (some [])) := (hc2.block D hDl hDn).trans HHK.out
        refine ⟨by simp, .inl ⟨_, _, rfl, run_takeDeferred hKm, ?_⟩⟩
        refine ⟨.int .i64 m, ?_, rfl, (plat_own (β := Unit) g c (fun _ => T.point T.homeM)).putObj (s := ()) _ H1.out hKm rfl, ((HC0'.out.trans (HCH.out.trans hc2)).put D _ (by have := HHD.out; omega))⟩
        simp [results, Try.f41, go_sem]
      case stop =>
        rintro D cd pre W hD hpre hf hK
        exact hf.elim
end Go.Proofs.Ytmcfckdgolojlaa
