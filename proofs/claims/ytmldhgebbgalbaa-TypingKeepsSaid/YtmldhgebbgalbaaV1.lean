/- The range over a field's places, where the body may turn the plane's cells. -/
import Derived.Test.YtmldhgebbgalbaaUA
import Derived.Test.YtmldhgebbgalbaaP6
import Derived.Sort.QuietTacIn
namespace Go.Proofs.Ytmldhgebbgalbaa
set_option linter.unusedVariables false
set_option linter.unusedSimpArgs false
open Go.RowKit Go.Shelf
attribute [local go_sem] Oper.semAt_some
/-- the plane stays a plane of its size, and blocks a and b stay -/
structure KpP (g c a b : Nat) (X Y : World) : Prop where
  size : X.heap.size ≤ Y.heap.size
  same : ∀ i, i = a ∨ i = b → i < X.heap.size → Y.heap[i]? = X.heap[i]?
  pl : ∀ p, PlAt X g c p → ∃ q, PlAt Y g c q ∧ q.rows = p.rows ∧ q.cols = p.cols ∧ q.cells.length = p.cells.length
theorem KpP.refl (g c a b : Nat) (X : World) : KpP g c a b X X := ⟨Nat.le_refl _, fun _ _ _ => rfl, fun p h => ⟨p, h, rfl, rfl, rfl⟩⟩
theorem KpP.trans {g c a b : Nat} {X Y Z : World} (h : KpP g c a b X Y) (k : KpP g c a b Y Z) : KpP g c a b X Z :=
  ⟨Nat.le_trans h.size k.size, fun i hi hl => (k.same i hi (Nat.lt_of_lt_of_le hl h.size)).trans (h.same i hi hl), fun p hp => by
    obtain ⟨q, h1, h2, h3, h4⟩ := h.pl p hp
    obtain ⟨r, k1, k2, k3, k4⟩ := k.pl q h1
    exact ⟨r, k1, k2.trans h2, k3.trans h3, k4.trans h4⟩⟩
theorem KpP.of_ext {g c a b : Nat} {X Y : World} (h : Ext X Y) : KpP g c a b X Y := ⟨h.size, fun i _ hl => h.block i hl, fun p hp => ⟨p, hp.ext h, rfl, rfl, rfl⟩⟩
theorem KpP.put {g c a b : Nat} {w : World} (ha : a < w.heap.size) (hb : b < w.heap.size) (W : World) (l : Nat) (o o' : Obj) (hl : w.heap.size ≤ l) (h : W.heap[l]? = some o) (h1 : o.isCells = false) (_ : o.isWalk = false) : KpP g c a b W (W.putObj l o') := by
  have hg := grownBy_putObj' W l o'
  refine ⟨hg.size, fun i hi hil => hg.block i hil (fun e => by injection e with e; omega), fun p hp => ⟨p, ?_, rfl, rfl, rfl⟩⟩
  obtain ⟨k, t, hk⟩ := hp
  have ne : ∀ {x : Nat} {t : TypeId} {cs : Array Value}, Blk W x t cs → some x ≠ some l := fun hx e => by
    injection e with e
    subst e
    have h2 := hx
    unfold Blk at h2
    rw [h] at h2
    cases h2
    cases h1
  exact ⟨k, t, hk.obj.grown hg (ne hk.obj), hk.row.grown hg (ne hk.row), hk.ok⟩
theorem KpP.of_to {g c a b : Nat} {X Y : World} {p q : Pl} (h : PlAt X g c p) (hq : PlAt Y g c q) (hc : Chg [g, c] X Y) (hs : q.rows = p.rows ∧ q.cols = p.cols ∧ q.cells.length = p.cells.length) (ha : a ∉ [g, c]) (hb : b ∉ [g, c]) : KpP g c a b X Y := by
  refine ⟨hc.size, fun i hi hl => hc.block i hl (by rcases hi with rfl | rfl <;> assumption), fun r hr => ?_⟩
  have hpr : r.rows = p.rows ∧ r.cols = p.cols ∧ r.cells.length = p.cells.length := by
    obtain ⟨k1, t1, h1⟩ := h
    obtain ⟨k2, t2, h2⟩ := hr
    have e := (Blk.same h1.obj h2.obj).2
    simp only [Array.mk.injEq, List.cons.injEq, Value.int.injEq, Value.slice.injEq, true_and, and_true] at e
    obtain ⟨e1, e2, e3, e4⟩ := e
    exact ⟨e1.symm, e2.symm, e3.1.symm⟩
  exact ⟨q, hq, hs.1.trans hpr.1.symm, hs.2.1.trans hpr.2.1.symm, hs.2.2.trans hpr.2.2.symm⟩
/-- a field's places: m of them, in a plane of n cells -/
def plcN (n s : Int) (m : Nat) : List Int := (List.range m).map fun j : Nat => (s + ((j : Int) + 1)) % n
theorem plcN_succ (n s : Int) (m : Nat) : plcN n s (m + 1) = plcN n s m ++ [(s + ((m : Int) + 1)) % n] := by unfold plcN; rw [List.range_succ, List.map_append]; rfl
theorem plcN_len (n s : Int) (m : Nat) : (plcN n s m).length = m := by simp [plcN]
theorem plcN_prefix (n s : Int) (k : Nat) : ∀ m, plcN n s k <+: plcN n s (k + m)
  | 0 => List.prefix_refl _
  | m + 1 => by
    refine (plcN_prefix n s k m).trans ?_
    rw [← Nat.add_assoc, plcN_succ]
    exact List.prefix_append _ _
/-- how many of a field of that length -/
def plcM (n l : Int) : Nat := (if n < (if l < 0 then 0 else l) then n else (if l < 0 then 0 else l)).toNat
theorem FPlaces_any (g : Nat) (s l a : Int) (w : World) : Calls Try.prog 76 #[.pointer (some ⟨g, 0, none⟩), .agg #[.int .i64 s, .int .i64 l, .int .u8 a]] w fun e w' =>
    e = .returned (.func (.func 85) #[] #[.pointer (some ⟨w.heap.size + 1, 0, none⟩), .pointer (some ⟨w.heap.size, 0, none⟩)]) ∧ w' = (w.alloc (.cells #[.pointer (some ⟨g, 0, none⟩)] 27)).alloc (.cells #[.int .i64 s, .int .i64 l, .int .u8 a] 50) := by
  go_enter Try.func76, Try.ntmps76
  go_wp2
  go_ret
  exact ⟨rfl, rfl⟩
theorem LenQ_any (g c : Nat) (p : Pl) (w : World) (h : PlAt w g c p) : Calls Try.prog 22 #[.pointer (some ⟨g, 0, none⟩)] w (fun e w' => e = .returned (.int .i64 p.n) ∧ w' = w) := by
  obtain ⟨kap, tl, h⟩ := h
  have c2 := h.obj.cell 2
  have hn := h.ok.sz.n1
  unfold Pl.n at hn
  clear h
  go_enter Try.func22, Try.ntmps22
  go_wp2
  go_ret
  exact ⟨rfl, rfl⟩
/-- on or not: one way for both -/
theorem yield_bool {e : Ending} {A B : Prop} (h : (e = .returned (.bool true) ∧ A) ∨ (e = .returned (.bool false) ∧ B)) : ∃ b : Bool, e = .returned (.bool b) ∧ ((b = true ∧ A) ∨ (b = false ∧ B)) := by
  rcases h with ⟨h1, h2⟩ | ⟨h1, h2⟩
  · exact ⟨true, h1, .inl ⟨rfl, h2⟩⟩
  · exact ⟨false, h1, .inr ⟨rfl, h2⟩⟩
set_option maxRecDepth 100000 in
set_option maxHeartbeats 4000000 in
theorem Places1_in (n : Nat) (hn : 1 ≤ n) (l Bf Bp g c : Nat) (p : Pl) (s len a : Int) (s0 : 0 ≤ s) (s1 : s < p.n) (J Jx : List Int → World → Prop) (W : World) (hJ : AbidesFrom W.heap.size J)
    (hY : ∀ pre x W, J pre W → pre.length < 5000 → YieldAt Fence.wide (n - 1) Try.prog l #[.int .i64 x] W fun e W' =>
      (e = .returned (.bool true) ∧ J (pre ++ [x]) W' ∧ KpP g c Bf Bp W W') ∨ (e = .returned (.bool false) ∧ Jx (pre ++ [x]) W'))
    (h1 : Blk W Bf 50 #[.int .i64 s, .int .i64 len, .int .u8 a]) (h2 : Blk W Bp 27 #[.pointer (some ⟨g, 0, none⟩)]) (hP : PlAt W g c p) (h0 : J [] W) :
    CallsIn Fence.wide n Try.prog 85 #[.func (.yield l) #[] #[], .pointer (some ⟨Bf, 0, none⟩), .pointer (some ⟨Bp, 0, none⟩)] W fun e W' => (∃ v, e = .returned v) ∧
      ((∃ xs, xs = plcN p.n s (plcM p.n len) ∧ J xs W') ∨ (∃ pre, (pre <+: plcN p.n s (plcM p.n len)) ∧ Jx pre W')) := by
  have HP := Lib.hid hP
  have HX := Lib.hid (Ext_refl W)
  have HJ := Lib.hid hJ
  have H1 := Lib.hid h1
  have H2 := Lib.hid h2
  have q0 := h1.cell 0
  have q1 := h1.cell 1
  have z0 := h2.cell 0
  simp at q0 q1 z0
  have hlt := h1.lt
  have hlt2 := h2.lt
  have HPZ := Lib.hid hP.ok.sz
  have hn1 : p.n ≤ 4096 := hP.ok.sz.n1
  have hn0 : 1 ≤ p.n := hP.ok.sz.n0
  have hs0 : decide (s < 0) = false := decide_eq_false (by omega)
  have hs1 : decide (p.n ≤ s) = false := decide_eq_false (by omega)
  clear hP hJ h1 h2
  refine callsIn_of_wp Try.func85 rfl trivial ?_ rfl
  simp only [Try.ntmps85, List.size_toArray, List.length_cons, List.length_nil, Nat.reduceAdd, Nat.reduceSub, Array.replicate_succ, Array.replicate_zero, List.push_toArray, List.append_toArray, List.nil_append, List.cons_append]
  gi_wp2_with fail
  refine wpIn_region_quiet_lit rfl (by kernel_rfl) (by kernel_rfl) ?_
  repeat (refine wpQuietIn_step (fun _ _ _ _ => trivial) (fun K hK => ?_); go_simp; first | (refine hK _ ?_; clear hK K) | (apply Exists.intro; refine ⟨fun _ => ?_, hK _ ?_⟩; (gi_at_call 22; refine CallsIn.quiet_of_same (callsIn_wide.2 (LenQ_any g c p _ (HP.out.drewN _)))); clear hK K))
  refine wpQuietIn_nil ?_
  intro _ hw'
  obtain ⟨nq, hw''⟩ := hw'
  subst hw''
  have HP1 := Lib.hid (HP.out.drewN nq)
  have HX1 := Lib.hid (Ext_drewN (n := nq) (Ext_refl W))
  have H11 := Lib.hid (Blk.below' H1.out HX1.out)
  have H21 := Lib.hid (Blk.below' H2.out HX1.out)
  have HJ1 := Lib.hid (HJ.out _ _ _ none h0 (grown_below HX1.out none) (fun _ e => by cases e))
  clear q0 q1 z0 HX hlt hlt2
  generalize W.drewN nq = W1 at *
  have q0 := H11.out.cell 0
  have q1 := H11.out.cell 1
  have z0 := H21.out.cell 0
  simp at q0 q1 z0
  gi_wp2_with fail
  refine wpIn_region_quiet_lit rfl (by kernel_rfl) (by kernel_rfl) ?_
  repeat (refine wpQuietIn_step (fun _ _ _ _ => trivial) (fun K hK => ?_); go_simp; first | (refine hK _ ?_; clear hK K) | (apply Exists.intro; refine ⟨fun _ => ?_, hK _ ?_⟩; (gi_at_call 22; refine CallsIn.quiet_of_same (callsIn_wide.2 (LenQ_any g c p _ (HP1.out.drewN _)))); clear hK K))
  refine wpQuietIn_nil ?_
  intro _ hw'
  obtain ⟨nq, hw''⟩ := hw'
  subst hw''
  obtain ⟨m, hm⟩ : ∃ m, plcM p.n len = m := ⟨_, rfl⟩
  have hmi : (if p.n < (if len < 0 then 0 else len) then p.n else (if len < 0 then 0 else len)) = (m : Int) := by
    rw [← hm]
    unfold plcM
    rw [Int.toNat_of_nonneg]
    split
    · omega
    · split <;> omega
  have hmn : (m : Int) ≤ p.n := by
    rw [← hmi]
    split
    · omega
    · omega
  rw [hmi]
  have HM := Lib.hid hm
  have HP2 := Lib.hid (HP1.out.drewN nq)
  have HX2 := Lib.hid (Ext_drewN (n := nq) HX1.out)
  have H12 := Lib.hid (Blk.below' H11.out (Ext_drewN (n := nq) (Ext_refl W1)))
  have H22 := Lib.hid (Blk.below' H21.out (Ext_drewN (n := nq) (Ext_refl W1)))
  have HJ2 := Lib.hid (HJ.out _ _ _ none HJ1.out (grown_below (Ext_drewN (n := nq) (Ext_refl W1)) none) (fun _ e => by cases e))
  clear q0 q1 z0 HP1 HX1 H11 H21 HJ1 hm hmi
  generalize (if len < 0 then (0 : Int) else len) = x16
  generalize W1.drewN nq = W2 at *
  have HKB := Lib.hid (KpP.refl g c Bf Bp W2)
  have hpn : p.n = (p.cells.length : Int) := rfl
  have HPN := Lib.hid hpn
  clear hpn
  gi_wp2_with fail
  gi_loopw [4, 21] (fun _ v wr => ∃ k : Nat, k ≤ m ∧ v = .int .i64 k ∧ Hid (J (plcN p.n s k) wr) ∧ Hid (KpP g c Bf Bp W2 wr)) (fun _ v _ => m - (intOf v).toNat)
  case atStart => exact ⟨0, Nat.zero_le _, rfl, HJ2, HKB⟩
  case round =>
    obtain ⟨k, hk, rfl, HJk, HK⟩ := hrel
    obtain ⟨q, hq, hqr, hqc, hql⟩ := HK.out.pl p HP2.out
    have hqn : q.n = p.n := by unfold Pl.n; rw [hql]
    have HQ := Lib.hid hq
    have B1 := Lib.hid (show Blk wr Bf _ _ from (HK.out.same Bf (.inl rfl) H12.out.lt).trans H12.out)
    have B2 := Lib.hid (show Blk wr Bp _ _ from (HK.out.same Bp (.inr rfl) H22.out.lt).trans H22.out)
    have q0 := B1.out.cell 0
    have z0 := B2.out.cell 0
    simp at q0 z0
    have hlt1 := B1.out.lt
    have hlt2 := B2.out.lt
    have HQZ := Lib.hid hq.ok.sz
    clear hq
    by_cases hlt : k < m
    · have hli : (k : Int) < (m : Int) := by omega
      have hwk : IntKind.i64.wrap ((k : Int) + 1) = ((k + 1 : Nat) : Int) := IntWalk.i64_in _ (by omega)
      have HX := Lib.hid (Ext_refl wr)
      gi_wp2_with fail
      gi_region_with (first
        | (refine ⟨trivial, ?_⟩; gi_at_call 79; refine (callsIn_wide.2 (Size_any g c q _ (HQ.out.ext (by repeat' (first | (with_reducible first | exact HX.out | apply Ext_alloc | apply Ext_drewN | apply Ext_drew | (refine Ext_set ?_ ?_) | exact Ext_refl _) | (simp only [World.size_alloc, World.size_setCell, World.size_drew, size_drewN]; omega) | (simp; done) | (simp; omega)))))).mono ?_; rintro e wn ⟨rfl, hb⟩; have HXn := Lib.hid (Ext_trans hb (by repeat' (first | (with_reducible first | exact HX.out | apply Ext_alloc | apply Ext_drewN | apply Ext_drew | (refine Ext_set ?_ ?_) | exact Ext_refl _) | (simp only [World.size_alloc, World.size_setCell, World.size_drew, size_drewN]; omega) | (simp; done) | (simp; omega)))); clear hb HX; have HX := HXn; clear HXn; have m0 := (cell_ext HX.out hlt1).trans q0; have mz := (cell_ext HX.out hlt2).trans z0)
        | (refine ⟨trivial, ?_⟩; gi_at_call 78; refine (callsIn_wide.2 (Move_any _ _ _ _ p.n HPZ.out _)).mono ?_; rintro e wn ⟨rfl, hb⟩; have HXn := Lib.hid (Ext_trans hb (by repeat' (first | (with_reducible first | exact HX.out | apply Ext_alloc | apply Ext_drewN | apply Ext_drew | (refine Ext_set ?_ ?_) | exact Ext_refl _) | (simp only [World.size_alloc, World.size_setCell, World.size_drew, size_drewN]; omega) | (simp; done) | (simp; omega)))); clear hb HX; have HX := HXn; clear HXn; have m0 := (cell_ext HX.out hlt1).trans q0; have mz := (cell_ext HX.out hlt2).trans z0; obtain ⟨fn, tmps, assign, body, hy, hR⟩ := hY (plcN p.n s k) ((s + ((k : Int) + 1)) % p.n) wn (HJ.out _ _ _ none HJk.out (grown_below HX.out none) (fun _ e => by cases e)) (by rw [plcN_len]; omega))
        | (refine (hR.mono (fun e W3 h => yield_bool h)).mono ?_; rintro e W3 ⟨bb, rfl, hb3⟩; have HB3 := Lib.hid hb3; clear hb3))
      all_goals
        have HKw := Lib.hid (HK.out.trans (KpP.of_ext (g := g) (c := c) (a := Bf) (b := Bp) HX.out))
        clear hR hy m0 mz HX
        cases bb
        · have HJx : Hid (Jx (plcN p.n s (k + 1)) W3) := Lib.hid (by
            rw [plcN_succ]
            rcases HB3.out with ⟨h, _⟩ | ⟨_, h⟩
            · cases h
            · exact h)
          clear HB3
          gi_wp2
          refine bodyPost_ret (results_none rfl _ _ _) rfl ?_
          refine ⟨⟨_, rfl⟩, .inr ⟨plcN p.n s (k + 1), ?_, HJx.out⟩⟩
          rw [HM.out]
          have := plcN_prefix p.n s (k + 1) (m - (k + 1))
          rwa [show k + 1 + (m - (k + 1)) = m by omega] at this
        · have HJ3 : Hid (J (plcN p.n s (k + 1)) W3 ∧ KpP g c Bf Bp wn W3) := Lib.hid (by
            rw [plcN_succ]
            rcases HB3.out with ⟨_, h⟩ | ⟨h, _⟩
            · exact h
            · cases h)
          clear HB3
          gi_wp2
          go_roundw
          case rel => exact ⟨k + 1, by omega, by go_num, HJ3.out.1, HKw.out.trans HJ3.out.2⟩
          case measure => simp [intOf]; omega
    · have hke : k = m := by omega
      subst hke
      gi_wp2
      go_end0
      refine ⟨⟨_, rfl⟩, .inl ⟨plcN p.n s (plcM p.n len), rfl, ?_⟩⟩
      rw [HM.out]
      exact HJk.out
theorem Places_stops (n : Nat) (hn : 1 ≤ n) (Bf Bp g c : Nat) (p : Pl) (s len a : Int) (s0 : 0 ≤ s) (s1 : s < p.n) (w : World) (h1 : Blk w Bf 50 #[.int .i64 s, .int .i64 len, .int .u8 a]) (h2 : Blk w Bp 27 #[.pointer (some ⟨g, 0, none⟩)]) (hP : PlAt w g c p) :
    SeqStopsK Fence.wide n Try.prog 85 #[.pointer (some ⟨Bf, 0, none⟩), .pointer (some ⟨Bp, 0, none⟩)] (fun x : Int => #[.int .i64 x]) (KpP g c Bf Bp) (fun xs => xs = plcN p.n s (plcM p.n len)) (fun pre => pre <+: plcN p.n s (plcM p.n len)) 5000 w :=
  fun l J Jx W hW hJ _ hY h0 =>
    Places1_in n hn l Bf Bp g c p s len a s0 s1 J Jx W hJ hY (Blk.below' h1 hW) (Blk.below' h2 hW) (hP.ext hW) h0
end Go.Proofs.Ytmldhgebbgalbaa
