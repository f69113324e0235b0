/- The range over the places between two. -/
import Derived.Test.YtmldhgebbgalbaaV3
namespace Go.Proofs.Ytmldhgebbgalbaa
set_option linter.unusedVariables false
set_option linter.unusedSimpArgs false
open Go.RowKit Go.Shelf
attribute [local go_sem] Oper.semAt_some
/-- three blocks stay -/
structure Kp3 (a b d : Nat) (X Y : World) : Prop where
  size : X.heap.size ≤ Y.heap.size
  same : ∀ i, i = a ∨ i = b ∨ i = d → i < X.heap.size → Y.heap[i]? = X.heap[i]?
theorem Kp3.refl (a b d : Nat) (X : World) : Kp3 a b d X X := ⟨Nat.le_refl _, fun _ _ _ => rfl⟩
theorem Kp3.trans {a b d : Nat} {X Y Z : World} (h : Kp3 a b d X Y) (k : Kp3 a b d Y Z) : Kp3 a b d X Z :=
  ⟨Nat.le_trans h.size k.size, fun i hi hl => (k.same i hi (Nat.lt_of_lt_of_le hl h.size)).trans (h.same i hi hl)⟩
theorem Kp3.of_ext {a b d : Nat} {X Y : World} (h : Ext X Y) : Kp3 a b d X Y := ⟨h.size, fun i _ hl => h.block i hl⟩
theorem Kp3.of_chg {a b d : Nat} {l : List Nat} {X Y : World} (h : Chg l X Y) (ha : a ∉ l) (hb : b ∉ l) (hd : d ∉ l) : Kp3 a b d X Y :=
  ⟨h.size, fun i hi hl => h.block i hl (by rcases hi with rfl | rfl | rfl <;> assumption)⟩
theorem Kp3.put {a b d : Nat} {w : World} (ha : a < w.heap.size) (hb : b < w.heap.size) (hd : d < w.heap.size) (W : World) (l : Nat) (o o' : Obj) (hl : w.heap.size ≤ l) (h : W.heap[l]? = some o) (_ : o.isCells = false) (_ : o.isWalk = false) : Kp3 a b d W (W.putObj l o') := by
  have hg := grownBy_putObj' W l o'
  exact ⟨hg.size, fun i hi hil => hg.block i hil (fun e => by injection e with e; omega)⟩
/-- how many places from one on up to another -/
def btwM (n f t : Int) : Nat := ((t - f - 1) % n).toNat + 1
def btwN (n f : Int) (m : Nat) : List Int := (List.range m).map fun j : Nat => (f + (j : Int)) % n
theorem btwN_succ (n f : Int) (m : Nat) : btwN n f (m + 1) = btwN n f m ++ [(f + (m : Int)) % n] := by unfold btwN; rw [List.range_succ, List.map_append]; rfl
theorem btwN_len (n f : Int) (m : Nat) : (btwN n f m).length = m := by simp [btwN]
theorem btwN_prefix (n f : Int) (k : Nat) : ∀ m, btwN n f k <+: btwN n f (k + m)
  | 0 => List.prefix_refl _
  | m + 1 => by
    refine (btwN_prefix n f k m).trans ?_
    rw [← Nat.add_assoc, btwN_succ]
    exact List.prefix_append _ _
/-- it is come to the end just behind the last -/
theorem btw_end {n f t : Int} (hn : 1 ≤ n) (t0 : 0 ≤ t) (t1 : t < n) (k : Nat) (hk : k < btwM n f t) : ((f + ((k : Int) + 1)) % n == t) = decide (k + 1 = btwM n f t) := by
  have h0 : 0 ≤ (t - f - 1) % n := Int.emod_nonneg _ (by omega)
  have h1 : (t - f - 1) % n < n := Int.emod_lt_of_pos _ (by omega)
  have e : (f + ((t - f - 1) % n + 1)) % n = t := by
    rw [Int.add_comm ((t - f - 1) % n) 1, ← Int.add_assoc, Int.add_emod_emod, show f + 1 + (t - f - 1) = t by omega, Int.emod_eq_of_lt t0 t1]
  unfold btwM at *
  by_cases hkk : k + 1 = ((t - f - 1) % n).toNat + 1
  · rw [decide_eq_true hkk, beq_iff_eq]
    rw [← e]
    congr 2
    omega
  · rw [decide_eq_false hkk, beq_eq_false_iff_ne]
    intro e2
    have e3 : ((f + ((k : Int) + 1)) - (f + ((t - f - 1) % n + 1))) % n = 0 := by
      rw [Int.sub_emod, e2, e, Int.sub_self, Int.zero_emod]
    rw [show (f + ((k : Int) + 1)) - (f + ((t - f - 1) % n + 1)) = (k : Int) - (t - f - 1) % n by omega] at e3
    have := Int.emod_emod_of_dvd ((k : Int) - (t - f - 1) % n) (Int.dvd_refl n)
    have hd : n ∣ (k : Int) - (t - f - 1) % n := Int.dvd_of_emod_eq_zero e3
    obtain ⟨q, hq⟩ := hd
    have : q = 0 := by
      rcases Int.lt_trichotomy q 0 with h | h | h
      · have : n * q ≤ n * (-1) := Int.mul_le_mul_of_nonneg_left (by omega) (by omega)
        omega
      · exact h
      · have : n * 1 ≤ n * q := Int.mul_le_mul_of_nonneg_left (by omega) (by omega)
        omega
    rw [this, Int.mul_zero] at hq
    omega
theorem Between_any (r c f t : Int) (w : World) : Calls Try.prog 86 #[.agg #[.int .i64 r, .int .i64 c], .int .i64 f, .int .i64 t] w fun e w' =>
    e = .returned (.func (.func 88) #[] #[.pointer (some ⟨w.heap.size, 0, none⟩), .pointer (some ⟨w.heap.size + 1, 0, none⟩), .pointer (some ⟨w.heap.size + 2, 0, none⟩)]) ∧ w' = ((w.alloc (.cells #[.int .i64 r, .int .i64 c] 23)).alloc (.cells #[.int .i64 f] 3)).alloc (.cells #[.int .i64 t] 3) := by
  go_enter Try.func86, Try.ntmps86
  go_wp2
  go_ret
  exact ⟨rfl, rfl⟩
set_option maxRecDepth 100000 in
set_option maxHeartbeats 4000000 in
theorem Between1_in (n : Nat) (hn : 1 ≤ n) (l B1 B2 B3 : Nat) (r c nn f t : Int) (hz : SzOk r c nn) (f0 : 0 ≤ f) (f1 : f < nn) (t0 : 0 ≤ t) (t1 : t < nn) (J Jx : List Int → World → Prop) (W : World) (hJ : AbidesFrom W.heap.size J)
    (hY : ∀ pre x W, J pre W → pre.length < 5000 → 0 ≤ x → x < nn → YieldAt Fence.wide (n - 1) Try.prog l #[.int .i64 x] W fun e W' =>
      (e = .returned (.bool true) ∧ J (pre ++ [x]) W' ∧ Kp3 B1 B2 B3 W W') ∨ (e = .returned (.bool false) ∧ Jx (pre ++ [x]) W'))
    (h1 : Blk W B1 23 #[.int .i64 r, .int .i64 c]) (h2 : Blk W B2 3 #[.int .i64 f]) (h3 : Blk W B3 3 #[.int .i64 t]) (h0 : J [] W) :
    CallsIn Fence.wide n Try.prog 88 #[.func (.yield l) #[] #[], .pointer (some ⟨B1, 0, none⟩), .pointer (some ⟨B2, 0, none⟩), .pointer (some ⟨B3, 0, none⟩)] W fun e W' => (∃ v, e = .returned v) ∧
      ((∃ xs, xs = btwN nn f (btwM nn f t) ∧ J xs W') ∨ (∃ pre, (pre <+: btwN nn f (btwM nn f t)) ∧ Jx pre W')) := by
  have HJ := Lib.hid hJ
  have H1 := Lib.hid h1
  have H2 := Lib.hid h2
  have H3 := Lib.hid h3
  have HZ := Lib.hid hz
  have HC := Lib.hid (cellsM_ok hz)
  have q0 := h1.cell 0
  have q1 := h1.cell 1
  have z0 := h2.cell 0
  have y0 := h3.cell 0
  simp at q0 q1 z0 y0
  have hlt1 := h1.lt
  have hlt2 := h2.lt
  have hlt3 := h3.lt
  have hn1 : nn ≤ 4096 := hz.n1
  have hn0 : 1 ≤ nn := hz.n0
  have hs0 : decide (f < 0) = false := decide_eq_false (by omega)
  have hs1 : decide (nn ≤ f) = false := decide_eq_false (by omega)
  have hs2 : decide (t < 0) = false := decide_eq_false (by omega)
  have hs3 : decide (nn ≤ t) = false := decide_eq_false (by omega)
  have HX := Lib.hid (Ext_refl W)
  clear hJ h1 h2 h3 hz
  refine callsIn_of_wp Try.func88 rfl trivial ?_ rfl
  simp only [Try.ntmps88, List.size_toArray, List.length_cons, List.length_nil, Nat.reduceAdd, Nat.reduceSub, Array.replicate_succ, Array.replicate_zero, List.push_toArray, List.append_toArray, List.nil_append, List.cons_append]
  gi_wp2_with (refine ⟨trivial, ?_⟩; gi_at_call 54; refine (callsIn_wide.2 (Cells_any _ _ _)).mono ?_; rintro e wn ⟨rfl, hb⟩; rw [HC.out]; have HXn := Lib.hid (Ext_trans hb (by repeat' (first | (with_reducible first | exact HX.out | apply Ext_alloc | apply Ext_drewN | apply Ext_drew | (refine Ext_set ?_ ?_) | exact Ext_refl _) | (simp only [World.size_alloc, World.size_setCell, World.size_drew, size_drewN]; omega) | (simp; done) | (simp; omega)))); clear hb HX; have HX := HXn; clear HXn; have m1 := (cell_ext HX.out hlt1).trans q0; have m1b := (cell_ext HX.out hlt1).trans q1; have m2 := (cell_ext HX.out hlt2).trans z0; have m3 := (cell_ext HX.out hlt3).trans y0)
  obtain ⟨m, hm⟩ : ∃ m, btwM nn f t = m := ⟨_, rfl⟩
  have hm1 : 1 ≤ m := by rw [← hm]; unfold btwM; omega
  have hmn : (m : Int) ≤ nn := by
    rw [← hm]
    unfold btwM
    have h0 : 0 ≤ (t - f - 1) % nn := Int.emod_nonneg _ (by omega)
    have h1 : (t - f - 1) % nn < nn := Int.emod_lt_of_pos _ (by omega)
    omega
  have HM := Lib.hid hm
  have HEND := Lib.hid (fun k (hk : k < btwM nn f t) => btw_end (f := f) hn0 t0 t1 k hk)
  have H12 := Lib.hid (Blk.below' H1.out HX.out)
  have H22 := Lib.hid (Blk.below' H2.out HX.out)
  have H32 := Lib.hid (Blk.below' H3.out HX.out)
  have HJ2 := Lib.hid (HJ.out _ _ _ none h0 (grown_below HX.out none) (fun _ e => by cases e))
  have hidx : ∀ k : Nat, k < m → ((f + (k : Int)) % nn - f) % nn = k := fun k hk => by
    rw [Int.emod_sub_emod, show f + (k : Int) - f = k by omega]
    exact Int.emod_eq_of_lt (by omega) (by omega)
  have HIDX := Lib.hid hidx
  have hf0 : f = (f + ((0 : Nat) : Int)) % nn := by
    have : f + ((0 : Nat) : Int) = f := by omega
    rw [this, Int.emod_eq_of_lt f0 f1]
  have HF0 := Lib.hid hf0
  clear q0 q1 z0 y0 m1 m1b m2 m3 hm hidx hf0 hlt1 hlt2 hlt3
  gi_loopw [6] (fun v wr => ∃ k : Nat, k < m ∧ v = .int .i64 ((f + (k : Int)) % nn) ∧ Hid (J (btwN nn f k) wr) ∧ Hid (Kp3 B1 B2 B3 wn wr)) (fun v _ => m - ((intOf v - f) % nn).toNat)
  case atStart => exact ⟨0, by omega, by rw [← HF0.out], HJ2, Kp3.refl _ _ _ _⟩
  case round =>
    obtain ⟨k, hk, rfl, HJk, HK⟩ := hrel
    have B1' := Lib.hid (show Blk wr B1 _ _ from (HK.out.same B1 (.inl rfl) H12.out.lt).trans H12.out)
    have B2' := Lib.hid (show Blk wr B2 _ _ from (HK.out.same B2 (.inr (.inl rfl)) H22.out.lt).trans H22.out)
    have B3' := Lib.hid (show Blk wr B3 _ _ from (HK.out.same B3 (.inr (.inr rfl)) H32.out.lt).trans H32.out)
    obtain ⟨fn, tmps, assign, body, hy, hR⟩ := hY (btwN nn f k) ((f + (k : Int)) % nn) wr HJk.out (by rw [btwN_len]; omega) (Int.emod_nonneg _ (by omega)) (Int.emod_lt_of_pos _ (by omega))
    have HI1 := Lib.hid (HIDX.out k hk)
    obtain ⟨av, hav⟩ : ∃ av, (f + (k : Int)) % nn = av := ⟨_, rfl⟩
    have HAV := Lib.hid hav
    rw [hav] at hy hR ⊢
    clear hav
    gi_wp2
    refine hR.mono ?_
    rintro e W3 (⟨rfl, hJ3, hk3⟩ | ⟨rfl, hJx3⟩)
    · have B13 := (show Blk W3 B1 _ _ from (hk3.same B1 (.inl rfl) B1'.out.lt).trans B1'.out)
      have B33 := (show Blk W3 B3 _ _ from (hk3.same B3 (.inr (.inr rfl)) B3'.out.lt).trans B3'.out)
      have q0 := B13.cell 0
      have q1 := B13.cell 1
      have y0 := B33.cell 0
      simp at q0 q1 y0
      have hlt3 := B33.lt
      have HK3 := Lib.hid (HK.out.trans hk3)
      have HJ3 := Lib.hid (show J (btwN nn f (k + 1)) W3 by rw [btwN_succ, HAV.out]; exact hJ3)
      have hend := HEND.out k (by rw [HM.out]; exact hk)
      have hnext : (av + 1) % nn = (f + ((k : Int) + 1)) % nn := by rw [← HAV.out, Int.emod_add_emod, Int.add_assoc]
      rw [← hnext, HM.out] at hend
      have HNX := Lib.hid hnext
      clear hJ3 hk3 hR hy B13 B33 hnext
      gi_wp2_with fail
      refine ⟨trivial, ?_⟩
      refine (callsIn_wide.2 (Move_any _ _ _ _ nn HZ.out _)).mono ?_
      rintro e W4 ⟨rfl, hb⟩
      have HX4 := Lib.hid hb
      have y1 := (cell_ext hb hlt3).trans y0
      have HJ4 := Lib.hid (HJ.out _ _ _ none HJ3.out (grown_below hb none) (fun _ e => by cases e))
      have HK4 := Lib.hid (HK3.out.trans (Kp3.of_ext hb))
      clear hb
      by_cases hkm : k + 1 = m
      · rw [decide_eq_true hkm] at hend
        gi_wp2
        refine bodyPost_ret (results_none rfl _ _ _) rfl ?_
        refine ⟨⟨_, rfl⟩, .inl ⟨btwN nn f (btwM nn f t), rfl, ?_⟩⟩
        rw [HM.out, ← hkm]
        exact HJ4.out
      · rw [decide_eq_false hkm] at hend
        have HI2 := Lib.hid (HIDX.out (k + 1) (by omega))
        gi_wp2
        go_roundw
        case rel => exact ⟨k + 1, by omega, by rw [HNX.out]; rfl, HJ4, HK4⟩
        case measure =>
          have h1 := HI1.out
          have h2 := HI2.out
          have h3 := HNX.out
          rw [HAV.out] at h1
          have h4 : ((k + 1 : Nat) : Int) = (k : Int) + 1 := by omega
          rw [h4, ← h3] at h2
          simp only [intOf]
          omega
    · gi_wp2
      go_end0
      refine ⟨⟨_, rfl⟩, .inr ⟨btwN nn f (k + 1), ?_, by rw [btwN_succ, HAV.out]; exact hJx3⟩⟩
      rw [HM.out]
      have := btwN_prefix nn f (k + 1) (m - (k + 1))
      rwa [show k + 1 + (m - (k + 1)) = m by omega] at this
/-- a place -/
abbrev PlN (nn : Int) := { x : Int // 0 ≤ x ∧ x < nn }
def vals {nn : Int} (l : List (PlN nn)) : List Int := l.map Subtype.val
theorem vals_snoc {nn : Int} (l : List (PlN nn)) (x : PlN nn) : vals (l ++ [x]) = vals l ++ [x.1] := by unfold vals; rw [List.map_append]; rfl
theorem vals_len {nn : Int} (l : List (PlN nn)) : (vals l).length = l.length := by unfold vals; exact List.length_map ..
theorem Between_stops (n : Nat) (hn : 1 ≤ n) (B1 B2 B3 : Nat) (r c nn f t : Int) (hz : SzOk r c nn) (f0 : 0 ≤ f) (f1 : f < nn) (t0 : 0 ≤ t) (t1 : t < nn) (w : World)
    (h1 : Blk w B1 23 #[.int .i64 r, .int .i64 c]) (h2 : Blk w B2 3 #[.int .i64 f]) (h3 : Blk w B3 3 #[.int .i64 t]) :
    SeqStopsK Fence.wide n Try.prog 88 #[.pointer (some ⟨B1, 0, none⟩), .pointer (some ⟨B2, 0, none⟩), .pointer (some ⟨B3, 0, none⟩)] (fun x : PlN nn => #[.int .i64 x.1]) (Kp3 B1 B2 B3) (fun xs => vals xs = btwN nn f (btwM nn f t)) (fun pre => vals pre <+: btwN nn f (btwM nn f t)) 5000 w :=
  fun l J Jx W hW hJ _ hY h0 => by
    refine (Between1_in n hn l B1 B2 B3 r c nn f t hz f0 f1 t0 t1 (fun pre W => ∃ pre' : List (PlN nn), vals pre' = pre ∧ J pre' W) (fun pre W => ∃ pre' : List (PlN nn), vals pre' = pre ∧ Jx pre' W) W ?_ ?_ (Blk.below' h1 hW) (Blk.below' h2 hW) (Blk.below' h3 hW) ⟨[], rfl, h0⟩).mono ?_
    · intro s X Y row hs hg hr
      obtain ⟨s', e, hs⟩ := hs
      exact ⟨s', e, hJ s' X Y row hs hg hr⟩
    · rintro pre x X ⟨pre', rfl, hp⟩ hl x0 x1
      rw [vals_len] at hl
      obtain ⟨fn, tmps, assign, body, hy, hR⟩ := hY pre' ⟨x, x0, x1⟩ X hp hl
      refine ⟨fn, tmps, assign, body, hy, hR.mono fun e Y h => ?_⟩
      rcases h with ⟨h1, h2, h3⟩ | ⟨h1, h2⟩
      · exact .inl ⟨h1, ⟨_, vals_snoc _ _, h2⟩, h3⟩
      · exact .inr ⟨h1, ⟨_, vals_snoc _ _, h2⟩⟩
    · rintro e Y ⟨h1, h2⟩
      refine ⟨h1, ?_⟩
      rcases h2 with ⟨xs, rfl, xs', e1, e2⟩ | ⟨pre, e0, pre', e1, e2⟩
      · exact .inl ⟨xs', e1, e2⟩
      · exact .inr ⟨pre', by show vals pre' <+: _; rw [e1]; exact e0, e2⟩
end Go.Proofs.Ytmldhgebbgalbaa
