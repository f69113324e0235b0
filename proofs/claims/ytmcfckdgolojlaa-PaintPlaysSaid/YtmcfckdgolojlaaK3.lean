import Derived.Test.YtmcfckdgolojlaaProg
import Derived.Below
import Derived.Deep.Draws
import Derived.Deep.AppendLies
import Derived.Maps.AppendAt
import Derived.OwnWalk
import Derived.Laws.BytesArg
import Derived.Laws.MakeOwn
import Derived.Laws.OwnMore
import Derived.Deep.OwnRows
import Derived.Tactics
import Derived.Lib.ConvBytes
import Derived.Laws.Slices
import Derived.WalkKit
import Derived.KernelRfl
import Derived.RowKit3
import Derived.Deep.LoopGhost
import Derived.Deep.QuietTactic
import Derived.BigQuiet
import Derived.WideLaws
import Derived.Deep.DeepCutAuto
import Derived.Deep.CutBlock
import Derived.Deep.RegionHeld3
import Derived.Laws.Rows
import Derived.Lib.AppendStr
import Derived.ArgAppend
import Derived.Laws.IdiomCopy
import Derived.OrdersHeld
import Derived.Laws.BitsLemmas
import Derived.RowKit
import Derived.Test.YtmcfckdgolojlaaK2
-- PRINTED BY print.sh 35421559b90ae4d0a3588c463048766b98c2df88dd9212a6774a882060cdf62d: not written by this session
namespace Go.Proofs.Ytmcfckdgolojlaa.PPaintPlays
open Go.RowKit Go.Proofs.YtmcfckdgolojlaaW.PrintWords Go.Proofs.YtmcfckdgolojlaaW.PrintLast Go.Proofs.YtmcfckdgolojlaaW.PrintMore
attribute [local go_sem] max2_int min2_int max_two min_two max_three min_three max_four min_four   -- for this text's walks alone
set_option linter.unusedVariables false
set_option linter.unusedSimpArgs false



def errW : Option Int → Value
  | none => .nilIface
  | some c => .iface 0 (.int .i64 c)
theorem errW_none : errW none = .nilIface := rfl
theorem errW_some (c : Int) : errW (some c) = .iface 0 (.int .i64 c) := rfl

theorem info3 : (Try.prog.info? 3).map (fun i => (i.zero, i.size, i.bytes)) = some (some (.int .i64 0), 1, 8) := by kernel_rfl
theorem info38 : (Try.prog.info? 38).map (fun i => (i.zero, i.size, i.bytes)) = some (some (.agg #[(.int .u8 0), (.bool false), (.bool false), (.int .u8 0), (.int .u8 0)]), 5, 5) := by kernel_rfl
theorem info82 : (Try.prog.info? 82).map (fun i => (i.zero, i.size, i.bytes)) = some (some (.agg #[(.int .i64 0), (.int .i64 0), (.int .u8 0)]), 3, 24) := by kernel_rfl
-- the values' own types
/-! #### struct type 38 -/
structure S38 where
  f0 : Int
  f1 : Bool
  f2 : Bool
  f3 : Int
  f4 : Int
def z38 : S38 := ⟨(0 : Int), false, false, (0 : Int), (0 : Int)⟩
def k38 : Kd S38 := Kd.iso (Kd.pair (Kd.int .u8) (Kd.pair Kd.bool (Kd.pair Kd.bool (Kd.pair (Kd.int .u8) (Kd.int .u8))))) (fun x : S38 => (x.f0, x.f1, x.f2, x.f3, x.f4))
theorem k38_open {w : World} {x : S38} {cs : List Value} (h : k38.K w x cs) : cs = [.int .u8 x.f0, .bool x.f1, .bool x.f2, .int .u8 x.f3, .int .u8 x.f4] := by
  obtain ⟨_, _, rfl, rfl, ⟨_, _, rfl, rfl, ⟨_, _, rfl, rfl, ⟨_, _, rfl, rfl, rfl⟩⟩⟩⟩ := h
  exact rfl
theorem k38_openM {w : World} {base : Nat} {ok : Nat → Prop} {x : S38} {cs : List Value} (h : k38.M w base ok x cs) : cs = [.int .u8 x.f0, .bool x.f1, .bool x.f2, .int .u8 x.f3, .int .u8 x.f4] := by
  obtain ⟨_, _, rfl, rfl, ⟨_, _, rfl, rfl, ⟨_, _, rfl, rfl, ⟨_, _, rfl, rfl, rfl⟩⟩⟩⟩ := h
  exact rfl
theorem k38_mkM (w : World) (base : Nat) (ok : Nat → Prop) (x : S38)  : k38.M w base ok x [.int .u8 x.f0, .bool x.f1, .bool x.f2, .int .u8 x.f3, .int .u8 x.f4] := ⟨[.int .u8 x.f0], [.bool x.f1, .bool x.f2, .int .u8 x.f3, .int .u8 x.f4], rfl, rfl, ⟨[.bool x.f1], [.bool x.f2, .int .u8 x.f3, .int .u8 x.f4], rfl, rfl, ⟨[.bool x.f2], [.int .u8 x.f3, .int .u8 x.f4], rfl, rfl, ⟨[.int .u8 x.f3], [.int .u8 x.f4], rfl, rfl, rfl⟩⟩⟩⟩
def rd_T38 (xs : List S38) (i : Int) : S38 := xs.getD i.toNat z38
theorem at_T38 {w : World} {A : Option Addr} {n : Nat} {xs : List S38} (h : Kd.C k38 w A n xs) (i : Int) (h0 : 0 ≤ i) (h1 : i < n) : ∃ ad , A = some ad ∧ w.cell? (ad.add (i.toNat * 5)) = some (.int .u8 (rd_T38 xs i).f0) ∧ w.cell? ⟨(ad.add (i.toNat * 5)).block, (ad.add (i.toNat * 5)).off + 1, none⟩ = some (.bool (rd_T38 xs i).f1) ∧ w.cell? ⟨(ad.add (i.toNat * 5)).block, (ad.add (i.toNat * 5)).off + 2, none⟩ = some (.bool (rd_T38 xs i).f2) ∧ w.cell? ⟨(ad.add (i.toNat * 5)).block, (ad.add (i.toNat * 5)).off + 3, none⟩ = some (.int .u8 (rd_T38 xs i).f3) ∧ w.cell? ⟨(ad.add (i.toNat * 5)).block, (ad.add (i.toNat * 5)).off + 4, none⟩ = some (.int .u8 (rd_T38 xs i).f4) := by
  obtain ⟨ad, c, e, _, hK, hc0⟩ := Kd.C_get h z38 i h0 h1
  have hc : ∀ j u, c[j]? = some u → w.cell? (ad.add (i.toNat * 5 + j)) = some u := hc0
  obtain rfl := k38_open hK
  exact ⟨ad, e, hc 0 _ rfl, by rw [← add_field _ _ 1 (by omega)]; exact hc 1 _ rfl, by rw [← add_field _ _ 2 (by omega)]; exact hc 2 _ rfl, by rw [← add_field _ _ 3 (by omega)]; exact hc 3 _ rfl, by rw [← add_field _ _ 4 (by omega)]; exact hc 4 _ rfl⟩

/-! #### struct type 131 -/
structure S131 where
  f0 : Int
  f1 : Int
def z131 : S131 := ⟨(0 : Int), (0 : Int)⟩
def k131 : Kd S131 := Kd.iso (Kd.pair (Kd.int .u8) (Kd.int .u8)) (fun x : S131 => (x.f0, x.f1))
theorem k131_open {w : World} {x : S131} {cs : List Value} (h : k131.K w x cs) : cs = [.int .u8 x.f0, .int .u8 x.f1] := by
  obtain ⟨_, _, rfl, rfl, rfl⟩ := h
  exact rfl
theorem k131_mk (w : World) (x : S131)  : k131.K w x [.int .u8 x.f0, .int .u8 x.f1] := ⟨[.int .u8 x.f0], [.int .u8 x.f1], rfl, rfl, rfl⟩
def rd_T131 (xs : List S131) (i : Int) : S131 := xs.getD i.toNat z131
theorem at_T131 {w : World} {A : Option Addr} {n : Nat} {xs : List S131} (h : Kd.C k131 w A n xs) (i : Int) (h0 : 0 ≤ i) (h1 : i < n) : ∃ ad , A = some ad ∧ w.cell? (ad.add (i.toNat * 2)) = some (.int .u8 (rd_T131 xs i).f0) ∧ w.cell? ⟨(ad.add (i.toNat * 2)).block, (ad.add (i.toNat * 2)).off + 1, none⟩ = some (.int .u8 (rd_T131 xs i).f1) := by
  obtain ⟨ad, c, e, _, hK, hc0⟩ := Kd.C_get h z131 i h0 h1
  have hc : ∀ j u, c[j]? = some u → w.cell? (ad.add (i.toNat * 2 + j)) = some u := hc0
  obtain rfl := k131_open hK
  exact ⟨ad, e, hc 0 _ rfl, by rw [← add_field _ _ 1 (by omega)]; exact hc 1 _ rfl⟩

/-! #### struct type 71 -/
structure S71 where
  f0 : Int
  f1 : Int
  f2 : Int
  f3 : Bool
  f4 : (List S131)
  f5 : (List Int)
/-! #### struct type 82 -/
structure S82 where
  f0 : Int
  f1 : Int
  f2 : Int
def z82 : S82 := ⟨(0 : Int), (0 : Int), (0 : Int)⟩
def k82 : Kd S82 := Kd.iso (Kd.pair (Kd.int .i64) (Kd.pair (Kd.int .i64) (Kd.int .u8))) (fun x : S82 => (x.f0, x.f1, x.f2))
theorem k82_open {w : World} {x : S82} {cs : List Value} (h : k82.K w x cs) : cs = [.int .i64 x.f0, .int .i64 x.f1, .int .u8 x.f2] := by
  obtain ⟨_, _, rfl, rfl, ⟨_, _, rfl, rfl, rfl⟩⟩ := h
  exact rfl
theorem k82_mkM (w : World) (base : Nat) (ok : Nat → Prop) (x : S82)  : k82.M w base ok x [.int .i64 x.f0, .int .i64 x.f1, .int .u8 x.f2] := ⟨[.int .i64 x.f0], [.int .i64 x.f1, .int .u8 x.f2], rfl, rfl, ⟨[.int .i64 x.f1], [.int .u8 x.f2], rfl, rfl, rfl⟩⟩
def rd_T82 (xs : List S82) (i : Int) : S82 := xs.getD i.toNat z82
theorem at_T82 {w : World} {A : Option Addr} {n : Nat} {xs : List S82} (h : Kd.C k82 w A n xs) (i : Int) (h0 : 0 ≤ i) (h1 : i < n) : ∃ ad , A = some ad ∧ w.cell? (ad.add (i.toNat * 3)) = some (.int .i64 (rd_T82 xs i).f0) ∧ w.cell? ⟨(ad.add (i.toNat * 3)).block, (ad.add (i.toNat * 3)).off + 1, none⟩ = some (.int .i64 (rd_T82 xs i).f1) ∧ w.cell? ⟨(ad.add (i.toNat * 3)).block, (ad.add (i.toNat * 3)).off + 2, none⟩ = some (.int .u8 (rd_T82 xs i).f2) := by
  obtain ⟨ad, c, e, _, hK, hc0⟩ := Kd.C_get h z82 i h0 h1
  have hc : ∀ j u, c[j]? = some u → w.cell? (ad.add (i.toNat * 3 + j)) = some u := hc0
  obtain rfl := k82_open hK
  exact ⟨ad, e, hc 0 _ rfl, by rw [← add_field _ _ 1 (by omega)]; exact hc 1 _ rfl, by rw [← add_field _ _ 2 (by omega)]; exact hc 2 _ rfl⟩

end Go.Proofs.Ytmcfckdgolojlaa.PPaintPlays
-- PRINTED BY print.sh 35421559b90ae4d0a3588c463048766b98c2df88dd9212a6774a882060cdf62d: not written by this session
namespace Go.Proofs.Ytmcfckdgolojlaa.PPaintPlays
open Go.RowKit Go.Proofs.YtmcfckdgolojlaaW.PrintWords Go.Proofs.YtmcfckdgolojlaaW.PrintLast Go.Proofs.YtmcfckdgolojlaaW.PrintMore
attribute [local go_sem] max2_int min2_int max_two min_two max_three min_three max_four min_four   -- for this text's walks alone
set_option linter.unusedVariables false
set_option linter.unusedSimpArgs false

/-! ### plane_Plane_Cursor: function 19 -/
/-! ### plane_Plane_has: function 59 -/
/-! ### plane_Plane_At: function 21 -/
/-! ### plane_Plane_Len: function 18 -/
/-! ### addr_Cells: function 80 -/
/-! ### greenscreenref02_Cells: function 81 -/
def greenscreenref02_Cells.f (a0_0 : Int) (a0_1 : Int) : Option (Int) := if a0_0 < 1 then (some 0) else (if a0_0 > 43 then (some 0) else (if a0_1 < 1 then (some 0) else (if a0_1 > 132 then (some 0) else (if (wrap64 (a0_0 * a0_1)) > 4096 then (some 0) else (some (wrap64 (a0_0 * a0_1)))))))
set_option maxHeartbeats 8000000 in
set_option maxRecDepth 100000 in
theorem greenscreenref02_Cells.calls (a0_0 : Int) (a0_1 : Int) (r : Int) (w : World) (h : greenscreenref02_Cells.f a0_0 a0_1 = some r) :
    Calls Try.prog 81 #[.agg #[.int .i64 a0_0, .int .i64 a0_1]] w fun e w' => e = .returned (.int .i64 r) ∧ Below w.heap.size w w' := by
  have hu23 := Try.underlying23
  have HB := Aside0.mk (Below.refl w.heap.size w)
  have H : (if a0_0 < 1 then (some 0) else (if a0_0 > 43 then (some 0) else (if a0_1 < 1 then (some 0) else (if a0_1 > 132 then (some 0) else (if (wrap64 (a0_0 * a0_1)) > 4096 then (some 0) else (some (wrap64 (a0_0 * a0_1)))))))) = some r := h
  clear h
  by_cases c2 : a0_0 < 1
  · rw [if_pos c2] at H
    have c2b0 : decide (a0_0 < 1) = true := decide_eq_true c2
    clear c2
    obtain rfl := Option.some.inj H
    go_enter Try.func81, Try.ntmps81
    go_wp2_with (first | ((with_reducible refine gate_dst (N := 1) rfl ?_); refine box_event ?hg (N := 1) ?hd (cs := #[.int .i64 a0_0, .int .i64 a0_1]) (t := 23) ?hr ?_; (case hd => rfl); (case hg => rfl); (case hr => first | (go_simp; done) | (go_simp; rfl)); intro gb117 hg w3 hbox hb; have n0_ := Aside0.mk (below_step (by repeat (first | (with_reducible first | exact HB.out | apply below_alloc | apply pw_below_drewN | apply below_drew1) | exact HB.out)) hb); have n1_ := Aside0.mk (hbox); have n2_ := Aside0.mk ((by rw [hg]; exact (below_size (by repeat (first | (with_reducible first | exact HB.out | apply below_alloc | apply pw_below_drewN | apply below_drew1) | exact HB.out))) : w.heap.size ≤ gb117)); have n3_ := Aside0.mk ((by rw [hg]; exact (below_size (by repeat (first | (with_reducible first | exact HB.out | apply below_alloc | apply pw_below_drewN | apply below_drew1) | exact HB.out))) : w.heap.size ≤ gb117)); clear HB; have HB := n0_; have BK117 := n1_; have GW117 := n2_; have GE117 := n3_; clear n0_ n1_ n2_ n3_; clear hb hbox hg; have hcz4_0 : w3.cell? ⟨gb117, 0, none⟩ = some (.int .i64 a0_0) := (blk_cell BK117.out 0).trans rfl; have hcz4_1 : w3.cell? ⟨gb117, 1, none⟩ = some (.int .i64 a0_1) := (blk_cell BK117.out 1).trans rfl; have hfz4_0 := blk_frozen BK117.out 0; have hfz4_1 := blk_frozen BK117.out 1))
    go_ret
    exact ⟨by first | rfl | (simp [errW_none, errW_some] <;> rfl) | (simp [*, errW_none, errW_some] <;> rfl), by repeat (first | (with_reducible first | exact HB.out | apply below_alloc | apply pw_below_drewN | apply below_drew1 | refine below_set ?_ GE117.out) | exact HB.out)⟩
  · rw [if_neg c2] at H
    have c2b0 : decide (a0_0 < 1) = false := decide_eq_false c2
    clear c2
    by_cases c5 : a0_0 > 43
    · rw [if_pos c5] at H
      have c5b0 : decide (43 < a0_0) = true := decide_eq_true c5
      clear c5
      obtain rfl := Option.some.inj H
      go_enter Try.func81, Try.ntmps81
      go_wp2_with (first | ((with_reducible refine gate_dst (N := 1) rfl ?_); refine box_event ?hg (N := 1) ?hd (cs := #[.int .i64 a0_0, .int .i64 a0_1]) (t := 23) ?hr ?_; (case hd => rfl); (case hg => rfl); (case hr => first | (go_simp; done) | (go_simp; rfl)); intro gb117 hg w6 hbox hb; have n0_ := Aside0.mk (below_step (by repeat (first | (with_reducible first | exact HB.out | apply below_alloc | apply pw_below_drewN | apply below_drew1) | exact HB.out)) hb); have n1_ := Aside0.mk (hbox); have n2_ := Aside0.mk ((by rw [hg]; exact (below_size (by repeat (first | (with_reducible first | exact HB.out | apply below_alloc | apply pw_below_drewN | apply below_drew1) | exact HB.out))) : w.heap.size ≤ gb117)); have n3_ := Aside0.mk ((by rw [hg]; exact (below_size (by repeat (first | (with_reducible first | exact HB.out | apply below_alloc | apply pw_below_drewN | apply below_drew1) | exact HB.out))) : w.heap.size ≤ gb117)); clear HB; have HB := n0_; have BK117 := n1_; have GW117 := n2_; have GE117 := n3_; clear n0_ n1_ n2_ n3_; clear hb hbox hg; have hcz7_0 : w6.cell? ⟨gb117, 0, none⟩ = some (.int .i64 a0_0) := (blk_cell BK117.out 0).trans rfl; have hcz7_1 : w6.cell? ⟨gb117, 1, none⟩ = some (.int .i64 a0_1) := (blk_cell BK117.out 1).trans rfl; have hfz7_0 := blk_frozen BK117.out 0; have hfz7_1 := blk_frozen BK117.out 1))
      go_ret
      exact ⟨by first | rfl | (simp [errW_none, errW_some] <;> rfl) | (simp [*, errW_none, errW_some] <;> rfl), by repeat (first | (with_reducible first | exact HB.out | apply below_alloc | apply pw_below_drewN | apply below_drew1 | refine below_set ?_ GE117.out) | exact HB.out)⟩
    · rw [if_neg c5] at H
      have c5b0 : decide (43 < a0_0) = false := decide_eq_false c5
      clear c5
      by_cases c8 : a0_1 < 1
      · rw [if_pos c8] at H
        have c8b0 : decide (a0_1 < 1) = true := decide_eq_true c8
        clear c8
        obtain rfl := Option.some.inj H
        go_enter Try.func81, Try.ntmps81
        go_wp2_with (first | ((with_reducible refine gate_dst (N := 1) rfl ?_); refine box_event ?hg (N := 1) ?hd (cs := #[.int .i64 a0_0, .int .i64 a0_1]) (t := 23) ?hr ?_; (case hd => rfl); (case hg => rfl); (case hr => first | (go_simp; done) | (go_simp; rfl)); intro gb117 hg w9 hbox hb; have n0_ := Aside0.mk (below_step (by repeat (first | (with_reducible first | exact HB.out | apply below_alloc | apply pw_below_drewN | apply below_drew1) | exact HB.out)) hb); have n1_ := Aside0.mk (hbox); have n2_ := Aside0.mk ((by rw [hg]; exact (below_size (by repeat (first | (with_reducible first | exact HB.out | apply below_alloc | apply pw_below_drewN | apply below_drew1) | exact HB.out))) : w.heap.size ≤ gb117)); have n3_ := Aside0.mk ((by rw [hg]; exact (below_size (by repeat (first | (with_reducible first | exact HB.out | apply below_alloc | apply pw_below_drewN | apply below_drew1) | exact HB.out))) : w.heap.size ≤ gb117)); clear HB; have HB := n0_; have BK117 := n1_; have GW117 := n2_; have GE117 := n3_; clear n0_ n1_ n2_ n3_; clear hb hbox hg; have hcz10_0 : w9.cell? ⟨gb117, 0, none⟩ = some (.int .i64 a0_0) := (blk_cell BK117.out 0).trans rfl; have hcz10_1 : w9.cell? ⟨gb117, 1, none⟩ = some (.int .i64 a0_1) := (blk_cell BK117.out 1).trans rfl; have hfz10_0 := blk_frozen BK117.out 0; have hfz10_1 := blk_frozen BK117.out 1))
        go_ret
        exact ⟨by first | rfl | (simp [errW_none, errW_some] <;> rfl) | (simp [*, errW_none, errW_some] <;> rfl), by repeat (first | (with_reducible first | exact HB.out | apply below_alloc | apply pw_below_drewN | apply below_drew1 | refine below_set ?_ GE117.out) | exact HB.out)⟩
      · rw [if_neg c8] at H
        have c8b0 : decide (a0_1 < 1) = false := decide_eq_false c8
        clear c8
        by_cases c11 : a0_1 > 132
        · rw [if_pos c11] at H
          have c11b0 : decide (132 < a0_1) = true := decide_eq_true c11
          clear c11
          obtain rfl := Option.some.inj H
          go_enter Try.func81, Try.ntmps81
          go_wp2_with (first | ((with_reducible refine gate_dst (N := 1) rfl ?_); refine box_event ?hg (N := 1) ?hd (cs := #[.int .i64 a0_0, .int .i64 a0_1]) (t := 23) ?hr ?_; (case hd => rfl); (case hg => rfl); (case hr => first | (go_simp; done) | (go_simp; rfl)); intro gb117 hg w12 hbox hb; have n0_ := Aside0.mk (below_step (by repeat (first | (with_reducible first | exact HB.out | apply below_alloc | apply pw_below_drewN | apply below_drew1) | exact HB.out)) hb); have n1_ := Aside0.mk (hbox); have n2_ := Aside0.mk ((by rw [hg]; exact (below_size (by repeat (first | (with_reducible first | exact HB.out | apply below_alloc | apply pw_below_drewN | apply below_drew1) | exact HB.out))) : w.heap.size ≤ gb117)); have n3_ := Aside0.mk ((by rw [hg]; exact (below_size (by repeat (first | (with_reducible first | exact HB.out | apply below_alloc | apply pw_below_drewN | apply below_drew1) | exact HB.out))) : w.heap.size ≤ gb117)); clear HB; have HB := n0_; have BK117 := n1_; have GW117 := n2_; have GE117 := n3_; clear n0_ n1_ n2_ n3_; clear hb hbox hg; have hcz13_0 : w12.cell? ⟨gb117, 0, none⟩ = some (.int .i64 a0_0) := (blk_cell BK117.out 0).trans rfl; have hcz13_1 : w12.cell? ⟨gb117, 1, none⟩ = some (.int .i64 a0_1) := (blk_cell BK117.out 1).trans rfl; have hfz13_0 := blk_frozen BK117.out 0; have hfz13_1 := blk_frozen BK117.out 1))
          go_ret
          exact ⟨by first | rfl | (simp [errW_none, errW_some] <;> rfl) | (simp [*, errW_none, errW_some] <;> rfl), by repeat (first | (with_reducible first | exact HB.out | apply below_alloc | apply pw_below_drewN | apply below_drew1 | refine below_set ?_ GE117.out) | exact HB.out)⟩
        · rw [if_neg c11] at H
          have c11b0 : decide (132 < a0_1) = false := decide_eq_false c11
          clear c11
          by_cases c14 : (wrap64 (a0_0 * a0_1)) > 4096
          · rw [if_pos c14] at H
            have c14b0 : decide (4096 < (wrap64 (a0_0 * a0_1))) = true := decide_eq_true c14
            clear c14
            obtain rfl := Option.some.inj H
            go_enter Try.func81, Try.ntmps81
            go_wp2_with (first | ((with_reducible refine gate_dst (N := 1) rfl ?_); refine box_event ?hg (N := 1) ?hd (cs := #[.int .i64 a0_0, .int .i64 a0_1]) (t := 23) ?hr ?_; (case hd => rfl); (case hg => rfl); (case hr => first | (go_simp; done) | (go_simp; rfl)); intro gb117 hg w15 hbox hb; have n0_ := Aside0.mk (below_step (by repeat (first | (with_reducible first | exact HB.out | apply below_alloc | apply pw_below_drewN | apply below_drew1) | exact HB.out)) hb); have n1_ := Aside0.mk (hbox); have n2_ := Aside0.mk ((by rw [hg]; exact (below_size (by repeat (first | (with_reducible first | exact HB.out | apply below_alloc | apply pw_below_drewN | apply below_drew1) | exact HB.out))) : w.heap.size ≤ gb117)); have n3_ := Aside0.mk ((by rw [hg]; exact (below_size (by repeat (first | (with_reducible first | exact HB.out | apply below_alloc | apply pw_below_drewN | apply below_drew1) | exact HB.out))) : w.heap.size ≤ gb117)); clear HB; have HB := n0_; have BK117 := n1_; have GW117 := n2_; have GE117 := n3_; clear n0_ n1_ n2_ n3_; clear hb hbox hg; have hcz16_0 : w15.cell? ⟨gb117, 0, none⟩ = some (.int .i64 a0_0) := (blk_cell BK117.out 0).trans rfl; have hcz16_1 : w15.cell? ⟨gb117, 1, none⟩ = some (.int .i64 a0_1) := (blk_cell BK117.out 1).trans rfl; have hfz16_0 := blk_frozen BK117.out 0; have hfz16_1 := blk_frozen BK117.out 1))
            go_ret
            exact ⟨by first | rfl | (simp [errW_none, errW_some] <;> rfl) | (simp [*, errW_none, errW_some] <;> rfl), by repeat (first | (with_reducible first | exact HB.out | apply below_alloc | apply pw_below_drewN | apply below_drew1 | refine below_set ?_ GE117.out) | exact HB.out)⟩
          · rw [if_neg c14] at H
            have c14b0 : decide (4096 < (wrap64 (a0_0 * a0_1))) = false := decide_eq_false c14
            clear c14
            obtain rfl := Option.some.inj H
            go_enter Try.func81, Try.ntmps81
            go_wp2_with (first | ((with_reducible refine gate_dst (N := 1) rfl ?_); refine box_event ?hg (N := 1) ?hd (cs := #[.int .i64 a0_0, .int .i64 a0_1]) (t := 23) ?hr ?_; (case hd => rfl); (case hg => rfl); (case hr => first | (go_simp; done) | (go_simp; rfl)); intro gb117 hg w17 hbox hb; have n0_ := Aside0.mk (below_step (by repeat (first | (with_reducible first | exact HB.out | apply below_alloc | apply pw_below_drewN | apply below_drew1) | exact HB.out)) hb); have n1_ := Aside0.mk (hbox); have n2_ := Aside0.mk ((by rw [hg]; exact (below_size (by repeat (first | (with_reducible first | exact HB.out | apply below_alloc | apply pw_below_drewN | apply below_drew1) | exact HB.out))) : w.heap.size ≤ gb117)); have n3_ := Aside0.mk ((by rw [hg]; exact (below_size (by repeat (first | (with_reducible first | exact HB.out | apply below_alloc | apply pw_below_drewN | apply below_drew1) | exact HB.out))) : w.heap.size ≤ gb117)); clear HB; have HB := n0_; have BK117 := n1_; have GW117 := n2_; have GE117 := n3_; clear n0_ n1_ n2_ n3_; clear hb hbox hg; have hcz18_0 : w17.cell? ⟨gb117, 0, none⟩ = some (.int .i64 a0_0) := (blk_cell BK117.out 0).trans rfl; have hcz18_1 : w17.cell? ⟨gb117, 1, none⟩ = some (.int .i64 a0_1) := (blk_cell BK117.out 1).trans rfl; have hfz18_0 := blk_frozen BK117.out 0; have hfz18_1 := blk_frozen BK117.out 1))
            go_ret
            exact ⟨by first | rfl | (simp [errW_none, errW_some] <;> rfl) | (simp [*, errW_none, errW_some] <;> rfl), by repeat (first | (with_reducible first | exact HB.out | apply below_alloc | apply pw_below_drewN | apply below_drew1 | refine below_set ?_ GE117.out) | exact HB.out)⟩

/-! ### greenscreenref14_New: function 51 -/
/-! ### greenscreenlaw16_few: function 45 -/
/-! ### greenscreenref14_Has: function 78 -/
def greenscreenref14_Has.f (a0_0 : Int) (a0_1 : Int) (l0_2 : List (S38)) (a0_3 : Int) (a1 : Int) : Option (Bool) := if a1 ≥ 0 then (some (decide (a1 < (l0_2.length : Int)))) else (some false)
set_option maxHeartbeats 8000000 in
set_option maxRecDepth 100000 in
theorem greenscreenref14_Has.calls (a0_0 : Int) (a0_1 : Int) (A0_2 : Option Addr) (c0_2 : Nat) (l0_2 : List (S38)) (a0_3 : Int) (a1 : Int) (r : Bool) (w : World) (hr0_2 : Kd.C k38 w A0_2 l0_2.length l0_2) (hc0_2 : l0_2.length ≤ c0_2) (h : greenscreenref14_Has.f a0_0 a0_1 l0_2 a0_3 a1 = some r) :
    Calls Try.prog 78 #[.agg #[.int .i64 a0_0, .int .i64 a0_1, .slice A0_2 l0_2.length c0_2, .int .i64 a0_3], .int .i64 a1] w fun e w' => e = .returned (.bool r) ∧ Below w.heap.size w w' := by
  have hu28 := Try.underlying28
  have HR0_2 := Aside0.mk hr0_2
  have HC0_2 := Aside0.mk hc0_2
  clear hr0_2 hc0_2
  have HB := Aside0.mk (Below.refl w.heap.size w)
  have H : (if a1 ≥ 0 then (some (decide (a1 < (l0_2.length : Int)))) else (some false)) = some r := h
  clear h
  by_cases c3 : a1 ≥ 0
  · rw [if_pos c3] at H
    have c3b0 : decide (0 ≤ a1) = true := decide_eq_true c3
    clear c3
    obtain rfl := Option.some.inj H
    go_enter Try.func78, Try.ntmps78
    go_wp2_with (first | ((with_reducible refine gate_dst (N := 2) rfl ?_); (try (refine gate_guard (by rfl) ?_; dsimp only)); refine box_event ?hg (N := 2) ?hd (cs := #[.int .i64 a0_0, .int .i64 a0_1, .slice A0_2 l0_2.length c0_2, .int .i64 a0_3]) (t := 28) ?hr ?_; (case hd => rfl); (case hg => rfl); (case hr => first | (go_simp; done) | (go_simp; rfl)); intro gb126 hg w4 hbox hb; have n0_ := Aside0.mk (below_step (by repeat (first | (with_reducible first | exact HB.out | apply below_alloc | apply pw_below_drewN | apply below_drew1) | exact HB.out)) hb); have n1_ := Aside0.mk (hbox); have n2_ := Aside0.mk ((by rw [hg]; exact (below_size (by repeat (first | (with_reducible first | exact HB.out | apply below_alloc | apply pw_below_drewN | apply below_drew1) | exact HB.out))) : w.heap.size ≤ gb126)); have n3_ := Aside0.mk ((by rw [hg]; exact (below_size (by repeat (first | (with_reducible first | exact HB.out | apply below_alloc | apply pw_below_drewN | apply below_drew1) | exact HB.out))) : w.heap.size ≤ gb126)); clear HB; have HB := n0_; have BK126 := n1_; have GW126 := n2_; have GE126 := n3_; clear n0_ n1_ n2_ n3_; clear hb hbox hg; have hcz5_0 : w4.cell? ⟨gb126, 0, none⟩ = some (.int .i64 a0_0) := (blk_cell BK126.out 0).trans rfl; have hcz5_1 : w4.cell? ⟨gb126, 1, none⟩ = some (.int .i64 a0_1) := (blk_cell BK126.out 1).trans rfl; have hcz5_2 : w4.cell? ⟨gb126, 2, none⟩ = some (.slice A0_2 l0_2.length c0_2) := (blk_cell BK126.out 2).trans rfl; have hcz5_3 : w4.cell? ⟨gb126, 3, none⟩ = some (.int .i64 a0_3) := (blk_cell BK126.out 3).trans rfl; have hfz5_0 := blk_frozen BK126.out 0; have hfz5_1 := blk_frozen BK126.out 1; have hfz5_2 := blk_frozen BK126.out 2; have hfz5_3 := blk_frozen BK126.out 3))
    go_ret
    exact ⟨by first | rfl | (simp [errW_none, errW_some] <;> rfl) | (simp [*, errW_none, errW_some] <;> rfl), by repeat (first | (with_reducible first | exact HB.out | apply below_alloc | apply pw_below_drewN | apply below_drew1 | refine below_set ?_ GE126.out) | exact HB.out)⟩
  · rw [if_neg c3] at H
    have c3b0 : decide (0 ≤ a1) = false := decide_eq_false c3
    clear c3
    obtain rfl := Option.some.inj H
    go_enter Try.func78, Try.ntmps78
    go_wp2_with (first | ((with_reducible refine gate_dst (N := 2) rfl ?_); (try (refine gate_guard (by rfl) ?_; dsimp only)); refine box_event ?hg (N := 2) ?hd (cs := #[.int .i64 a0_0, .int .i64 a0_1, .slice A0_2 l0_2.length c0_2, .int .i64 a0_3]) (t := 28) ?hr ?_; (case hd => rfl); (case hg => rfl); (case hr => first | (go_simp; done) | (go_simp; rfl)); intro gb126 hg w6 hbox hb; have n0_ := Aside0.mk (below_step (by repeat (first | (with_reducible first | exact HB.out | apply below_alloc | apply pw_below_drewN | apply below_drew1) | exact HB.out)) hb); have n1_ := Aside0.mk (hbox); have n2_ := Aside0.mk ((by rw [hg]; exact (below_size (by repeat (first | (with_reducible first | exact HB.out | apply below_alloc | apply pw_below_drewN | apply below_drew1) | exact HB.out))) : w.heap.size ≤ gb126)); have n3_ := Aside0.mk ((by rw [hg]; exact (below_size (by repeat (first | (with_reducible first | exact HB.out | apply below_alloc | apply pw_below_drewN | apply below_drew1) | exact HB.out))) : w.heap.size ≤ gb126)); clear HB; have HB := n0_; have BK126 := n1_; have GW126 := n2_; have GE126 := n3_; clear n0_ n1_ n2_ n3_; clear hb hbox hg))
    go_ret
    exact ⟨by first | rfl | (simp [errW_none, errW_some] <;> rfl) | (simp [*, errW_none, errW_some] <;> rfl), by repeat (first | (with_reducible first | exact HB.out | apply below_alloc | apply pw_below_drewN | apply below_drew1 | refine below_set ?_ GE126.out) | exact HB.out)⟩

/-! ### greenscreenref14_Set: function 114 -/
def greenscreenref14_Set.f (a0_0 : Int) (a0_1 : Int) (l0_2 : List (S38)) (a0_3 : Int) (a1 : Int) (a2_0 : Int) (a2_1 : Bool) (a2_2 : Bool) (a2_3 : Int) (a2_4 : Int) : Option (Int × Int × (List (S38)) × Int) := (greenscreenref14_Has.f a0_0 a0_1 l0_2 a0_3 a1).bind fun t130 => (if t130 = true then ((some (([] : List (S38)) : List (S38))).bind fun y131 => (if y131.length + l0_2.length < 28147497671065 then ((some (y131 ++ l0_2 : List (S38))).bind fun y134 => (if 0 ≤ a1 then (if a1 < (y134.length : Int) then (some (a0_0, a0_1, (y134.set (a1 : Int).toNat (⟨a2_0, a2_1, a2_2, a2_3, a2_4⟩ : S38)), a0_3)) else (none)) else (none))) else (none))) else (some (a0_0, a0_1, l0_2, a0_3)))
set_option maxHeartbeats 8000000 in
set_option maxRecDepth 100000 in
theorem greenscreenref14_Set.calls (a0_0 : Int) (a0_1 : Int) (P0_2_ : Nat → Prop) (u9000_ : Value) (l0_2 : List (S38)) (a0_3 : Int) (a1 : Int) (a2_0 : Int) (a2_1 : Bool) (a2_2 : Bool) (a2_3 : Int) (a2_4 : Int) (r1 : Int) (r2 : Int) (r3 : List (S38)) (r4 : Int) (w0 w : World) (hB : Below w0.heap.size w0 w) (ho0_2 : Kd.R k38 38 w w0.heap.size P0_2_ u9000_ l0_2) (h : greenscreenref14_Set.f a0_0 a0_1 l0_2 a0_3 a1 a2_0 a2_1 a2_2 a2_3 a2_4 = some (r1, r2, r3, r4)) :
    Calls Try.prog 114 #[.agg #[.int .i64 a0_0, .int .i64 a0_1, u9000_, .int .i64 a0_3], .int .i64 a1, .agg #[.int .u8 a2_0, .bool a2_1, .bool a2_2, .int .u8 a2_3, .int .u8 a2_4]] w fun e w' => ∃ v2_ : Value, e = .returned (.agg #[.int .i64 r1, .int .i64 r2, v2_, .int .i64 r4]) ∧ Kd.R k38 38 w' w0.heap.size (fun k_ => (P0_2_ k_ ∨ w.heap.size ≤ k_)) v2_ r3 ∧ Below w0.heap.size w0 w' ∧ Kept w w' (fun k_ => P0_2_ k_) := by
  have hu28 := Try.underlying28
  have hu38 := Try.underlying38
  have HO0_2 := Aside0.mk (show Kd.R k38 38 w w0.heap.size (fun k_ => (P0_2_ k_ ∨ w.heap.size ≤ k_)) u9000_ l0_2 from Kd.R_mono ho0_2 (fun k_ hk => (.inl hk)))
  have HK := Aside0.mk (Kept.refl w (fun k_ => P0_2_ k_))
  have HW0 := Aside0.mk hB.size
  have HB := Aside0.mk hB
  clear hB
  have H : ((greenscreenref14_Has.f a0_0 a0_1 l0_2 a0_3 a1).bind fun t130 => (if t130 = true then ((some (([] : List (S38)) : List (S38))).bind fun y131 => (if y131.length + l0_2.length < 28147497671065 then ((some (y131 ++ l0_2 : List (S38))).bind fun y134 => (if 0 ≤ a1 then (if a1 < (y134.length : Int) then (some (a0_0, a0_1, (y134.set (a1 : Int).toNat (⟨a2_0, a2_1, a2_2, a2_3, a2_4⟩ : S38)), a0_3)) else (none)) else (none))) else (none))) else (some (a0_0, a0_1, l0_2, a0_3)))) = some (r1, r2, r3, r4) := h
  clear h
  replace H := Option.bind_eq_some_iff.mp H
  obtain ⟨t130, A40, H⟩ := H
  replace H : (if t130 = true then ((some (([] : List (S38)) : List (S38))).bind fun y131 => (if y131.length + l0_2.length < 28147497671065 then ((some (y131 ++ l0_2 : List (S38))).bind fun y134 => (if 0 ≤ a1 then (if a1 < (y134.length : Int) then (some (a0_0, a0_1, (y134.set (a1 : Int).toNat (⟨a2_0, a2_1, a2_2, a2_3, a2_4⟩ : S38)), a0_3)) else (none)) else (none))) else (none))) else (some (a0_0, a0_1, l0_2, a0_3))) = some (r1, r2, r3, r4) := H
  have A4 := Aside0.mk A40
  clear A40
  by_cases c5 : t130 = true
  · subst c5
    have H1 : ((some (([] : List (S38)) : List (S38))).bind fun y131 => (if y131.length + l0_2.length < 28147497671065 then ((some (y131 ++ l0_2 : List (S38))).bind fun y134 => (if 0 ≤ a1 then (if a1 < (y134.length : Int) then (some (a0_0, a0_1, (y134.set (a1 : Int).toNat (⟨a2_0, a2_1, a2_2, a2_3, a2_4⟩ : S38)), a0_3)) else (none)) else (none))) else (none))) = some (r1, r2, r3, r4) := by rw [if_pos rfl] at H; exact H
    clear H
    have H := H1
    clear H1
    obtain ⟨y131, hy131⟩ : ∃ y_ : List (S38), y_ = (([] : List (S38))) := ⟨_, rfl⟩
    replace H : (if y131.length + l0_2.length < 28147497671065 then ((some (y131 ++ l0_2 : List (S38))).bind fun y134 => (if 0 ≤ a1 then (if a1 < (y134.length : Int) then (some (a0_0, a0_1, (y134.set (a1 : Int).toNat (⟨a2_0, a2_1, a2_2, a2_3, a2_4⟩ : S38)), a0_3)) else (none)) else (none))) else (none)) = some (r1, r2, r3, r4) := by first | (rw [hy131]; with_reducible exact H) | (have H2_ := (Option.bind_some _ _).symm.trans H; rw [hy131]; with_reducible exact H2_) | (have H2_ := (Option.bind_some _ _).symm.trans H; with_reducible exact H2_) | with_reducible exact H | (rw [hy131]; exact H) | exact H
    have Ny131 := Aside0.mk hy131
    clear hy131
    by_cases c6 : y131.length + l0_2.length < 28147497671065
    · rw [if_pos c6] at H
      have LMc6 := Aside0.mk c6
      clear c6
      obtain ⟨y134, hy134⟩ : ∃ y_ : List (S38), y_ = (y131 ++ l0_2) := ⟨_, rfl⟩
      replace H : (if 0 ≤ a1 then (if a1 < (y134.length : Int) then (some (a0_0, a0_1, (y134.set (a1 : Int).toNat (⟨a2_0, a2_1, a2_2, a2_3, a2_4⟩ : S38)), a0_3)) else (none)) else (none)) = some (r1, r2, r3, r4) := by first | (rw [hy134]; with_reducible exact H) | (have H2_ := (Option.bind_some _ _).symm.trans H; rw [hy134]; with_reducible exact H2_) | (have H2_ := (Option.bind_some _ _).symm.trans H; with_reducible exact H2_) | with_reducible exact H | (rw [hy134]; exact H) | exact H
      have Ny134 := Aside0.mk hy134
      clear hy134
      by_cases c7 : 0 ≤ a1
      · rw [if_pos c7] at H
        have c7b0 : decide (0 ≤ a1) = true := decide_eq_true c7
        clear c7
        by_cases c8 : a1 < (y134.length : Int)
        · rw [if_pos c8] at H
          have c8b0 : decide (a1 < (y134.length : Int)) = true := decide_eq_true c8
          clear c8
          obtain ⟨y137, hy137⟩ : ∃ y_ : List (S38), y_ = (y134.set (a1 : Int).toNat (⟨a2_0, a2_1, a2_2, a2_3, a2_4⟩ : S38)) := ⟨_, rfl⟩
          replace H : (some (a0_0, a0_1, y137, a0_3)) = some (r1, r2, r3, r4) := by first | (rw [hy137]; with_reducible exact H) | (have H2_ := (Option.bind_some _ _).symm.trans H; rw [hy137]; with_reducible exact H2_) | (have H2_ := (Option.bind_some _ _).symm.trans H; with_reducible exact H2_) | with_reducible exact H | (rw [hy137]; exact H) | exact H
          have Ny137 := Aside0.mk hy137
          clear hy137
          simp only [Option.some.injEq, Prod.mk.injEq] at H
          obtain ⟨rfl, rfl, rfl, rfl⟩ := H
          obtain ⟨Ao10, co10, eo10⟩ := Kd.R_slice HO0_2.out
          subst eo10
          go_enter Try.func114, Try.ntmps114
          go_wp2_with (first | ((with_reducible refine gate_dst (N := 3) rfl ?_); refine box_event ?hg (N := 3) ?hd (cs := #[.int .i64 a0_0, .int .i64 a0_1, .slice Ao10 l0_2.length co10, .int .i64 a0_3]) (t := 28) ?hr ?_; (case hd => rfl); (case hg => rfl); (case hr => first | (go_simp; done) | (go_simp; rfl)); intro gb127 hg w11 hbox hb; have n0_ := Aside0.mk (Kd.R_below (by (with_reducible repeat (first | apply Kd.R_alloc | apply Kd.R_drewN | apply Kd.R_drew)); exact HO0_2.out) hb); have n1_ := Aside0.mk (Kept.below (S := (fun k_ => P0_2_ k_)) (by repeat (first | (with_reducible first | exact HK.out | apply Kept.alloc | apply Kept.drewN | apply Kept.drew) | exact HK.out)) hb); have n2_ := Aside0.mk (below_step (by repeat (first | (with_reducible first | exact HB.out | apply below_alloc | apply pw_below_drewN | apply below_drew1) | exact HB.out)) hb); have n3_ := Aside0.mk (hbox); have n4_ := Aside0.mk ((by rw [hg]; exact (by first | exact HK.out.1 | exact (show Kept w _ (fun k_ => P0_2_ k_) from by repeat (first | (with_reducible first | exact HK.out | apply Kept.alloc | apply Kept.drewN | apply Kept.drew) | exact HK.out)).1) : w.heap.size ≤ gb127)); have n5_ := Aside0.mk ((by rw [hg]; exact (below_size (by repeat (first | (with_reducible first | exact HB.out | apply below_alloc | apply pw_below_drewN | apply below_drew1) | exact HB.out))) : w0.heap.size ≤ gb127)); clear HO0_2; clear HK; clear HB; have HO0_2 := n0_; have HK := n1_; have HB := n2_; have BK127 := n3_; have GW127 := n4_; have GE127 := n5_; clear n0_ n1_ n2_ n3_ n4_ n5_; clear hb hbox hg) | ((with_reducible refine gate_dst (N := 5) rfl ?_); refine box_event ?hg (N := 5) ?hd (cs := #[.int .u8 a2_0, .bool a2_1, .bool a2_2, .int .u8 a2_3, .int .u8 a2_4]) (t := 38) ?hr ?_; (case hd => rfl); (case hg => rfl); (case hr => first | (go_simp; done) | (go_simp; rfl)); intro gb128 hg w12 hbox hb; have n0_ := Aside0.mk (Kd.R_below (Kd.R_elderB (by (with_reducible repeat (first | apply Kd.R_alloc | apply Kd.R_drewN | apply Kd.R_drew)); exact HO0_2.out) gb128 (Nat.le_of_eq hg.symm)) hb); have n1_ := Aside0.mk (blk_below (g := gb127) (o := .cells #[.int .i64 a0_0, .int .i64 a0_1, .slice Ao10 l0_2.length co10, .int .i64 a0_3] 28 (0, 0)) (by (with_reducible repeat (first | refine blk_drewN ?_ _ | refine blk_drew ?_ | refine blk_alloc ?_ _)); exact BK127.out) hb); have n2_ := Aside0.mk (Kept.below (S := (fun k_ => P0_2_ k_)) (by repeat (first | (with_reducible first | exact HK.out | apply Kept.alloc | apply Kept.drewN | apply Kept.drew | refine Kept.setCell ?_ (.inr GW127.out) _) | exact HK.out)) hb); have n3_ := Aside0.mk (below_step (by repeat (first | (with_reducible first | exact HB.out | apply below_alloc | apply pw_below_drewN | apply below_drew1 | refine below_set ?_ GE127.out) | exact HB.out)) hb); have n4_ := Aside0.mk (hbox); have n5_ := Aside0.mk ((by rw [hg]; exact (by first | exact HK.out.1 | exact (show Kept w _ (fun k_ => P0_2_ k_) from by repeat (first | (with_reducible first | exact HK.out | apply Kept.alloc | apply Kept.drewN | apply Kept.drew | refine Kept.setCell ?_ (.inr GW127.out) _) | exact HK.out)).1) : w.heap.size ≤ gb128)); have n6_ := Aside0.mk ((by rw [hg]; exact (below_size (by repeat (first | (with_reducible first | exact HB.out | apply below_alloc | apply pw_below_drewN | apply below_drew1 | refine below_set ?_ GE127.out) | exact HB.out))) : w0.heap.size ≤ gb128)); have n7_ := Aside0.mk ((by rw [hg]; exact Nat.ne_of_lt (blk_lt (g := gb127) (o := .cells #[.int .i64 a0_0, .int .i64 a0_1, .slice Ao10 l0_2.length co10, .int .i64 a0_3] 28 (0, 0)) (by (with_reducible repeat (first | refine blk_drewN ?_ _ | refine blk_drew ?_ | refine blk_alloc ?_ _)); exact BK127.out)) : gb127 ≠ gb128)); have n8_ := Aside0.mk ((by rw [hg]; exact Nat.ne_of_gt (blk_lt (g := gb127) (o := .cells #[.int .i64 a0_0, .int .i64 a0_1, .slice Ao10 l0_2.length co10, .int .i64 a0_3] 28 (0, 0)) (by (with_reducible repeat (first | refine blk_drewN ?_ _ | refine blk_drew ?_ | refine blk_alloc ?_ _)); exact BK127.out)) : gb128 ≠ gb127)); clear HO0_2; clear BK127; clear HK; clear HB; have HO0_2 := n0_; have BK127 := n1_; have HK := n2_; have HB := n3_; have BK128 := n4_; have GW128 := n5_; have GE128 := n6_; have NB127_128 := n7_; have NB128_127 := n8_; clear n0_ n1_ n2_ n3_ n4_ n5_ n6_ n7_ n8_; clear hb hbox hg) | ((with_reducible refine gate_dst (N := 6) rfl ?_); refine box_event ?hg (N := 6) ?hd (cs := #[.int .i64 0, .int .i64 0, .slice none 0 0, .int .i64 0]) (t := 28) ?hr ?_; (case hd => rfl); (case hg => rfl); (case hr => first | (go_simp; done) | (go_simp; rfl)); intro gb129 hg w13 hbox hb; have n0_ := Aside0.mk (Kd.R_below (by (with_reducible repeat (first | apply Kd.R_alloc | apply Kd.R_drewN | apply Kd.R_drew)); exact HO0_2.out) hb); have n1_ := Aside0.mk (blk_below (g := gb127) (o := .cells #[.int .i64 a0_0, .int .i64 a0_1, .slice Ao10 l0_2.length co10, .int .i64 a0_3] 28 (0, 0)) (by (with_reducible repeat (first | refine blk_drewN ?_ _ | refine blk_drew ?_ | refine blk_alloc ?_ _)); exact BK127.out) hb); have n2_ := Aside0.mk (blk_below (g := gb128) (o := .cells #[.int .u8 a2_0, .bool a2_1, .bool a2_2, .int .u8 a2_3, .int .u8 a2_4] 38 (0, 0)) (by (with_reducible repeat (first | refine blk_drewN ?_ _ | refine blk_drew ?_ | refine blk_alloc ?_ _)); exact BK128.out) hb); have n3_ := Aside0.mk (Kept.below (S := (fun k_ => P0_2_ k_)) (by repeat (first | (with_reducible first | exact HK.out | apply Kept.alloc | apply Kept.drewN | apply Kept.drew | refine Kept.setCell ?_ (.inr GW127.out) _ | refine Kept.setCell ?_ (.inr GW128.out) _) | exact HK.out)) hb); have n4_ := Aside0.mk (below_step (by repeat (first | (with_reducible first | exact HB.out | apply below_alloc | apply pw_below_drewN | apply below_drew1 | refine below_set ?_ GE127.out | refine below_set ?_ GE128.out) | exact HB.out)) hb); have n5_ := Aside0.mk (hbox); have n6_ := Aside0.mk ((by rw [hg]; exact (by first | exact HK.out.1 | exact (show Kept w _ (fun k_ => P0_2_ k_) from by repeat (first | (with_reducible first | exact HK.out | apply Kept.alloc | apply Kept.drewN | apply Kept.drew | refine Kept.setCell ?_ (.inr GW127.out) _ | refine Kept.setCell ?_ (.inr GW128.out) _) | exact HK.out)).1) : w.heap.size ≤ gb129)); have n7_ := Aside0.mk ((by rw [hg]; exact (below_size (by repeat (first | (with_reducible first | exact HB.out | apply below_alloc | apply pw_below_drewN | apply below_drew1 | refine below_set ?_ GE127.out | refine below_set ?_ GE128.out) | exact HB.out))) : w0.heap.size ≤ gb129)); have n8_ := Aside0.mk ((by rw [hg]; exact Nat.ne_of_lt (blk_lt (g := gb127) (o := .cells #[.int .i64 a0_0, .int .i64 a0_1, .slice Ao10 l0_2.length co10, .int .i64 a0_3] 28 (0, 0)) (by (with_reducible repeat (first | refine blk_drewN ?_ _ | refine blk_drew ?_ | refine blk_alloc ?_ _)); exact BK127.out)) : gb127 ≠ gb129)); have n9_ := Aside0.mk ((by rw [hg]; exact Nat.ne_of_gt (blk_lt (g := gb127) (o := .cells #[.int .i64 a0_0, .int .i64 a0_1, .slice Ao10 l0_2.length co10, .int .i64 a0_3] 28 (0, 0)) (by (with_reducible repeat (first | refine blk_drewN ?_ _ | refine blk_drew ?_ | refine blk_alloc ?_ _)); exact BK127.out)) : gb129 ≠ gb127)); have n10_ := Aside0.mk ((by rw [hg]; exact Nat.ne_of_lt (blk_lt (g := gb128) (o := .cells #[.int .u8 a2_0, .bool a2_1, .bool a2_2, .int .u8 a2_3, .int .u8 a2_4] 38 (0, 0)) (by (with_reducible repeat (first | refine blk_drewN ?_ _ | refine blk_drew ?_ | refine blk_alloc ?_ _)); exact BK128.out)) : gb128 ≠ gb129)); have n11_ := Aside0.mk ((by rw [hg]; exact Nat.ne_of_gt (blk_lt (g := gb128) (o := .cells #[.int .u8 a2_0, .bool a2_1, .bool a2_2, .int .u8 a2_3, .int .u8 a2_4] 38 (0, 0)) (by (with_reducible repeat (first | refine blk_drewN ?_ _ | refine blk_drew ?_ | refine blk_alloc ?_ _)); exact BK128.out)) : gb129 ≠ gb128)); clear HO0_2; clear BK127; clear BK128; clear HK; clear HB; have HO0_2 := n0_; have BK127 := n1_; have BK128 := n2_; have HK := n3_; have HB := n4_; have BK129 := n5_; have GW129 := n6_; have GE129 := n7_; have NB127_129 := n8_; have NB129_127 := n9_; have NB128_129 := n10_; have NB129_128 := n11_; clear n0_ n1_ n2_ n3_ n4_ n5_ n6_ n7_ n8_ n9_ n10_ n11_; clear hb hbox hg; have hnb14 := NB127_128.out; have hnc14 := NB128_127.out; have hnb15 := NB127_129.out; have hnc15 := NB129_127.out; have hcz16_0 : w13.cell? ⟨gb127, 0, none⟩ = some (.int .i64 a0_0) := (blk_cell BK127.out 0).trans rfl; have hcz16_1 : w13.cell? ⟨gb127, 1, none⟩ = some (.int .i64 a0_1) := (blk_cell BK127.out 1).trans rfl; have hcz16_2 : w13.cell? ⟨gb127, 2, none⟩ = some (.slice Ao10 l0_2.length co10) := (blk_cell BK127.out 2).trans rfl; have hcz16_3 : w13.cell? ⟨gb127, 3, none⟩ = some (.int .i64 a0_3) := (blk_cell BK127.out 3).trans rfl; have hfz16_0 := blk_frozen BK127.out 0; have hfz16_1 := blk_frozen BK127.out 1; have hfz16_2 := blk_frozen BK127.out 2; have hfz16_3 := blk_frozen BK127.out 3) | ((with_reducible refine gate_callee (f := 78) rfl ?_); refine goesL_ (some 10) rfl rfl Try.func78 (by kernel_rfl) rfl #[.agg #[.int .i64 a0_0, .int .i64 a0_1, .slice Ao10 l0_2.length co10, .int .i64 a0_3], .int .i64 a1] rfl (by (try simp only [List.map_toArray, List.map_cons, List.map_nil]); first | done | rfl | (simp only [List.length_drop, List.length_take]; rfl)) ?_; (with_reducible refine (greenscreenref14_Has.calls a0_0 a0_1 _ _ l0_2 a0_3 a1 true _ ?side1 ?side2 A4.out).mono ?_); (case side1 => repeat (first | exact (Kd.R_reads' HO0_2.out).2.2 | (with_reducible refine Kd.C_alloc ?_ _) | (with_reducible refine Kd.C_drewN ?_ _) | (with_reducible refine Kd.C_drew ?_))); (case side2 => exact (Kd.R_reads' HO0_2.out).2.1); rintro e w17 ⟨rfl, hb⟩; refine ⟨_, rfl, ?_⟩; have n0_ := Aside0.mk (Kd.R_below (by (with_reducible repeat (first | apply Kd.R_alloc | apply Kd.R_drewN | apply Kd.R_drew)); exact HO0_2.out) hb); have n1_ := Aside0.mk (blk_below (g := gb127) (o := .cells #[.int .i64 a0_0, .int .i64 a0_1, .slice Ao10 l0_2.length co10, .int .i64 a0_3] 28 (0, 0)) (by (with_reducible repeat (first | refine blk_drewN ?_ _ | refine blk_drew ?_ | refine blk_alloc ?_ _)); exact BK127.out) hb); have n2_ := Aside0.mk (blk_below (g := gb128) (o := .cells #[.int .u8 a2_0, .bool a2_1, .bool a2_2, .int .u8 a2_3, .int .u8 a2_4] 38 (0, 0)) (by (with_reducible repeat (first | refine blk_drewN ?_ _ | refine blk_drew ?_ | refine blk_alloc ?_ _)); exact BK128.out) hb); have n3_ := Aside0.mk (blk_below (g := gb129) (o := .cells #[.int .i64 0, .int .i64 0, .slice none 0 0, .int .i64 0] 28 (0, 0)) (by (with_reducible repeat (first | refine blk_drewN ?_ _ | refine blk_drew ?_ | refine blk_alloc ?_ _)); exact BK129.out) hb); have n4_ := Aside0.mk (Kept.below (S := (fun k_ => P0_2_ k_)) (by repeat (first | (with_reducible first | exact HK.out | apply Kept.alloc | apply Kept.drewN | apply Kept.drew | refine Kept.setCell ?_ (.inr GW127.out) _ | refine Kept.setCell ?_ (.inr GW128.out) _ | refine Kept.setCell ?_ (.inr GW129.out) _) | exact HK.out)) hb); have n5_ := Aside0.mk (below_step (by repeat (first | (with_reducible first | exact HB.out | apply below_alloc | apply pw_below_drewN | apply below_drew1 | refine below_set ?_ GE127.out | refine below_set ?_ GE128.out | refine below_set ?_ GE129.out) | exact HB.out)) hb); clear HO0_2; clear BK127; clear BK128; clear BK129; clear HK; clear HB; have HO0_2 := n0_; have BK127 := n1_; have BK128 := n2_; have BK129 := n3_; have HK := n4_; have HB := n5_; clear n0_ n1_ n2_ n3_ n4_ n5_; (try clear hb); (try clear hb2); (try clear hk); (try clear hi)) | ((with_reducible refine gate_dst (N := 11) rfl ?_); refine Kd.R_lit k38 _ 38 ?hg (N := 11) ?hd (xs := ([] : List (S38))) (inner := []) (ok := fun _ => True) (okp := fun _ => True) ?hr ?hp (fun _ hk => hk) trivial (Below.refl _ _) (Nat.le_refl _) (by simp) ?_; (case hd => rfl); (case hg => rfl); (case hr => first | (go_simp; done) | (go_simp; rfl)); (case hp => exact (Reps.none _ _)); intro v132 w18 ho19 hb hg_ hnew_; clear hg_ hnew_; (first | rw [← Ny131.out] at ho19 | (simp only [Int.reduceToNat] at ho19; rw [← Ny131.out] at ho19)); have n0_ := Aside0.mk (Kd.R_elder' (by (with_reducible repeat (first | apply Kd.R_alloc | apply Kd.R_drewN | apply Kd.R_drew)); exact HO0_2.out) (Kd.R_base ho19) hb); have n1_ := Aside0.mk (Kd.R_lower (Kd.R_newB (Kd.R_new' (Kd.R_newM (M := fun k_ => (P0_2_ k_ ∨ w.heap.size ≤ k_)) ho19 (by first | exact HK.out.1 | exact (show Kept w _ (fun k_ => P0_2_ k_) from by repeat (first | (with_reducible first | exact HK.out | apply Kept.alloc | apply Kept.drewN | apply Kept.drew | refine Kept.setCell ?_ (.inr GW127.out) _ | refine Kept.setCell ?_ (.inr GW128.out) _ | refine Kept.setCell ?_ (.inr GW129.out) _) | exact HK.out)).1) (fun k_ h_ => .inr h_)) (Kd.R_lt (by (with_reducible repeat (first | apply Kd.R_alloc | apply Kd.R_drewN | apply Kd.R_drew)); exact HO0_2.out))) (g := gb128) (o := .cells #[.int .u8 a2_0, .bool a2_1, .bool a2_2, .int .u8 a2_3, .int .u8 a2_4] 38 (0, 0)) (by (with_reducible repeat (first | refine blk_drewN ?_ _ | refine blk_drew ?_ | refine blk_alloc ?_ _)); exact BK128.out)) (below_size (by repeat (first | (with_reducible first | exact HB.out | apply below_alloc | apply pw_below_drewN | apply below_drew1 | refine below_set ?_ GE127.out | refine below_set ?_ GE128.out | refine below_set ?_ GE129.out) | exact HB.out)))); have n2_ := Aside0.mk (blk_below (g := gb127) (o := .cells #[.int .i64 a0_0, .int .i64 a0_1, .slice Ao10 l0_2.length co10, .int .i64 a0_3] 28 (0, 0)) (by (with_reducible repeat (first | refine blk_drewN ?_ _ | refine blk_drew ?_ | refine blk_alloc ?_ _)); exact BK127.out) hb); have n3_ := Aside0.mk (blk_below (g := gb128) (o := .cells #[.int .u8 a2_0, .bool a2_1, .bool a2_2, .int .u8 a2_3, .int .u8 a2_4] 38 (0, 0)) (by (with_reducible repeat (first | refine blk_drewN ?_ _ | refine blk_drew ?_ | refine blk_alloc ?_ _)); exact BK128.out) hb); have n4_ := Aside0.mk (blk_below (g := gb129) (o := .cells #[.int .i64 0, .int .i64 0, .slice none 0 0, .int .i64 0] 28 (0, 0)) (by (with_reducible repeat (first | refine blk_drewN ?_ _ | refine blk_drew ?_ | refine blk_alloc ?_ _)); exact BK129.out) hb); have n5_ := Aside0.mk (Kept.below (S := (fun k_ => P0_2_ k_)) (by repeat (first | (with_reducible first | exact HK.out | apply Kept.alloc | apply Kept.drewN | apply Kept.drew | refine Kept.setCell ?_ (.inr GW127.out) _ | refine Kept.setCell ?_ (.inr GW128.out) _ | refine Kept.setCell ?_ (.inr GW129.out) _) | exact HK.out)) hb); have n6_ := Aside0.mk (below_step (by repeat (first | (with_reducible first | exact HB.out | apply below_alloc | apply pw_below_drewN | apply below_drew1 | refine below_set ?_ GE127.out | refine below_set ?_ GE128.out | refine below_set ?_ GE129.out) | exact HB.out)) hb); clear HO0_2; clear BK127; clear BK128; clear BK129; clear HK; clear HB; have HO0_2 := n0_; have HO133 := n1_; have BK127 := n2_; have BK128 := n3_; have BK129 := n4_; have HK := n5_; have HB := n6_; clear n0_ n1_ n2_ n3_ n4_ n5_ n6_; clear hb ho19; have hcz20_0 : w18.cell? ⟨gb127, 0, none⟩ = some (.int .i64 a0_0) := (blk_cell BK127.out 0).trans rfl; have hcz20_1 : w18.cell? ⟨gb127, 1, none⟩ = some (.int .i64 a0_1) := (blk_cell BK127.out 1).trans rfl; have hcz20_2 : w18.cell? ⟨gb127, 2, none⟩ = some (.slice Ao10 l0_2.length co10) := (blk_cell BK127.out 2).trans rfl; have hcz20_3 : w18.cell? ⟨gb127, 3, none⟩ = some (.int .i64 a0_3) := (blk_cell BK127.out 3).trans rfl; have hfz20_0 := blk_frozen BK127.out 0; have hfz20_1 := blk_frozen BK127.out 1; have hfz20_2 := blk_frozen BK127.out 2; have hfz20_3 := blk_frozen BK127.out 3) | ((with_reducible refine gate_builtin (b := .append) (xs := #[.tmp 12, .tmp 14]) rfl ?_); at_builtin; refine Kd.R_append_rows k38 (w0 := w0) w0.heap.size rfl (.tmp 12) (.tmp 14) 24 38 (.agg #[(.int .u8 0), (.bool false), (.bool false), (.int .u8 0), (.int .u8 0)]) 5 rfl Try.underlying24 info38 rfl (by decide) (by omega) v132 y131 l0_2 _ _ _ (fun k_ => (P0_2_ k_ ∨ w.heap.size ≤ k_) ∧ some k_ ≠ (.slice Ao10 l0_2.length co10 : Value).ownBlock ∧ k_ ≠ gb128) (fun _ => False) rfl rfl ?aO ?aR (fun _ _ h => h) (fun _ h => h.elim) ?aF ?aB ?aS ?aL ?_; (case aR => repeat (first | exact (Kd.R_reads' HO0_2.out).2.2 | (with_reducible refine Kd.C_alloc ?_ _) | (with_reducible refine Kd.C_drewN ?_ _) | (with_reducible refine Kd.C_drew ?_))); (case aB => exact (by repeat (first | (with_reducible first | exact HB.out | apply below_alloc | apply pw_below_drewN | apply below_drew1 | refine below_set ?_ GE127.out | refine below_set ?_ GE128.out | refine below_set ?_ GE129.out) | exact HB.out))); (case aF => exact (fun k_ hk => ⟨(.inr (Nat.le_trans (by first | exact HK.out.1 | exact (show Kept w _ (fun k_ => P0_2_ k_) from by repeat (first | (with_reducible first | exact HK.out | apply Kept.alloc | apply Kept.drewN | apply Kept.drew | refine Kept.setCell ?_ (.inr GW127.out) _ | refine Kept.setCell ?_ (.inr GW128.out) _ | refine Kept.setCell ?_ (.inr GW129.out) _) | exact HK.out)).1) hk)), Kd.fresh' (Kd.R_lt (by (with_reducible repeat (first | apply Kd.R_alloc | apply Kd.R_drewN | apply Kd.R_drew)); exact HO0_2.out)) k_ hk, Kd.freshB (g := gb128) (o := .cells #[.int .u8 a2_0, .bool a2_1, .bool a2_2, .int .u8 a2_3, .int .u8 a2_4] 38 (0, 0)) (by (with_reducible repeat (first | refine blk_drewN ?_ _ | refine blk_drew ?_ | refine blk_alloc ?_ _)); exact BK128.out) k_ hk⟩)); (case aO => exact (by (with_reducible repeat (first | apply Kd.R_alloc | apply Kd.R_drewN | apply Kd.R_drew)); exact Kd.R_mono HO133.out (fun _ hk => ⟨hk.1.1.1, ⟨hk.1.2, hk.2⟩⟩))); (case aS => exact (below_size (by repeat (first | (with_reducible first | exact HB.out | apply below_alloc | apply pw_below_drewN | apply below_drew1 | refine below_set ?_ GE127.out | refine below_set ?_ GE128.out | refine below_set ?_ GE129.out) | exact HB.out)))); (case aL => have := LMc6.out; omega); intro v135 w21 ho hb hg hat; rw [← Ny134.out] at ho; have n0_ := Aside0.mk (Kd.R_after (ok := (fun k_ => (P0_2_ k_ ∨ w.heap.size ≤ k_) ∧ k_ ≠ gb128)) (by (with_reducible repeat (first | apply Kd.R_alloc | apply Kd.R_drewN | apply Kd.R_drew)); exact HO0_2.out) hg hat); have n1_ := Aside0.mk (blk_grown (g := gb127) (o := .cells #[.int .i64 a0_0, .int .i64 a0_1, .slice Ao10 l0_2.length co10, .int .i64 a0_3] 28 (0, 0)) (by (with_reducible repeat (first | refine blk_drewN ?_ _ | refine blk_drew ?_ | refine blk_alloc ?_ _)); exact BK127.out) hg (Kd.R_ne HO133.out BK127.out (by decide))); have n2_ := Aside0.mk (blk_grown (g := gb128) (o := .cells #[.int .u8 a2_0, .bool a2_1, .bool a2_2, .int .u8 a2_3, .int .u8 a2_4] 38 (0, 0)) (by (with_reducible repeat (first | refine blk_drewN ?_ _ | refine blk_drew ?_ | refine blk_alloc ?_ _)); exact BK128.out) hg (Kd.R_away HO133.out (fun _ hk => hk.2))); have n3_ := Aside0.mk (blk_grown (g := gb129) (o := .cells #[.int .i64 0, .int .i64 0, .slice none 0 0, .int .i64 0] 28 (0, 0)) (by (with_reducible repeat (first | refine blk_drewN ?_ _ | refine blk_drew ?_ | refine blk_alloc ?_ _)); exact BK129.out) hg (Kd.R_ne HO133.out BK129.out (by decide))); have n4_ := Aside0.mk (hb); have n5_ := Aside0.mk (Kept.of_grown (S := (fun k_ => P0_2_ k_)) hg (by repeat (first | (with_reducible first | exact HK.out | apply Kept.alloc | apply Kept.drewN | apply Kept.drew | refine Kept.setCell ?_ (.inr GW127.out) _ | refine Kept.setCell ?_ (.inr GW128.out) _ | refine Kept.setCell ?_ (.inr GW129.out) _) | exact HK.out)) (fun k_ e_ => (HO133.out.1 k_ e_).1.1.1)); have n6_ := Aside0.mk (ho); clear HO0_2; clear BK127; clear BK128; clear BK129; clear HB; clear HK; clear HO133; have HO0_2 := n0_; have BK127 := n1_; have BK128 := n2_; have BK129 := n3_; have HB := n4_; have HK := n5_; have HO136 := n6_; clear n0_ n1_ n2_ n3_ n4_ n5_ n6_; clear ho hb hg hat; have hnb22 := NB128_129.out; have hnc22 := NB129_128.out; have hcz23_0 : w21.cell? ⟨gb128, 0, none⟩ = some (.int .u8 a2_0) := (blk_cell BK128.out 0).trans rfl; have hcz23_1 : w21.cell? ⟨gb128, 1, none⟩ = some (.bool a2_1) := (blk_cell BK128.out 1).trans rfl; have hcz23_2 : w21.cell? ⟨gb128, 2, none⟩ = some (.bool a2_2) := (blk_cell BK128.out 2).trans rfl; have hcz23_3 : w21.cell? ⟨gb128, 3, none⟩ = some (.int .u8 a2_3) := (blk_cell BK128.out 3).trans rfl; have hcz23_4 : w21.cell? ⟨gb128, 4, none⟩ = some (.int .u8 a2_4) := (blk_cell BK128.out 4).trans rfl; have hfz23_0 := blk_frozen BK128.out 0; have hfz23_1 := blk_frozen BK128.out 1; have hfz23_2 := blk_frozen BK128.out 2; have hfz23_3 := blk_frozen BK128.out 3; have hfz23_4 := blk_frozen BK128.out 4; have p9 : 0 ≤ (a1 : Int) := of_decide_eq_true (by first | (with_reducible assumption) | assumption); have q9 : (a1 : Int) < ((y134.length : Int) : Int) := of_decide_eq_true (by first | (with_reducible assumption) | assumption); obtain ⟨go9, co9, eo9, gb9, gl9, cl9, HG9⟩ := Kd.R_form HO136.out (by omega); (first | cases eo9 | (injection eo9 with ea_ en_ ec_; (first | subst ea_ | (injection ea_ with ea_; subst ea_)); subst ec_; clear en_)); have GB9 := Aside0.mk gb9; have GG9 := Aside0.mk HG9; clear gb9 gl9 HG9; have HMgo9 := Aside0.mk (show (P0_2_ go9 ∨ w.heap.size ≤ go9) from (HO136.out.1 _ rfl).1); obtain ⟨ce9, hcl9, hM9, hcc9, hfr9⟩ := Kd.R_elem HO136.out z38 (a1 : Int) p9 q9; obtain rfl := k38_openM hM9; have hx9_0 : w21.cell? ⟨go9, (a1 : Int).toNat * 5, none⟩ = some (.int .u8 ((rd_T38 y134 a1).f0)) := hcc9 0 _ rfl; have hx9_1 : w21.cell? ⟨go9, (a1 : Int).toNat * 5 + 1, none⟩ = some (.bool ((rd_T38 y134 a1).f1)) := hcc9 1 _ rfl; have hx9_2 : w21.cell? ⟨go9, (a1 : Int).toNat * 5 + 2, none⟩ = some (.bool ((rd_T38 y134 a1).f2)) := hcc9 2 _ rfl; have hx9_3 : w21.cell? ⟨go9, (a1 : Int).toNat * 5 + 3, none⟩ = some (.int .u8 ((rd_T38 y134 a1).f3)) := hcc9 3 _ rfl; have hx9_4 : w21.cell? ⟨go9, (a1 : Int).toNat * 5 + 4, none⟩ = some (.int .u8 ((rd_T38 y134 a1).f4)) := hcc9 4 _ rfl; have hf9_0 : w21.frozen? ⟨go9, (a1 : Int).toNat * 5, none⟩ = false := hfr9 0; have hf9_1 : w21.frozen? ⟨go9, (a1 : Int).toNat * 5 + 1, none⟩ = false := hfr9 1; have hf9_2 : w21.frozen? ⟨go9, (a1 : Int).toNat * 5 + 2, none⟩ = false := hfr9 2; have hf9_3 : w21.frozen? ⟨go9, (a1 : Int).toNat * 5 + 3, none⟩ = false := hfr9 3; have hf9_4 : w21.frozen? ⟨go9, (a1 : Int).toNat * 5 + 4, none⟩ = false := hfr9 4; clear hcl9 hcc9 hfr9 hM9; replace p9 := eq_true p9; replace q9 := eq_true q9; have HX24 := Aside0.mk (show Kd.R k38 38 w21 w0.heap.size (fun k_ => (P0_2_ k_ ∨ w.heap.size ≤ k_) ∧ some k_ ≠ (.slice Ao10 l0_2.length co10 : Value).ownBlock ∧ k_ ≠ gb128) (.slice (some ⟨go9, 0, none⟩) y134.length co9) y134 from (by (with_reducible repeat (first | apply Kd.R_alloc | apply Kd.R_drewN | apply Kd.R_drew)); exact HO136.out)); obtain ⟨ce24, hcl24, hM24, hcc24, hfr24⟩ := Kd.R_elem HX24.out z38 (a1 : Int) (of_decide_eq_true (by first | (with_reducible assumption) | assumption)) (by have h_ : (a1 : Int) < ((y134.length : Int) : Int) := of_decide_eq_true (by first | (with_reducible assumption) | assumption); first | exact h_ | (have e_ := (Kd.R_reads' HO136.out).1; omega) | simpa using h_); obtain rfl := k38_openM hM24; have HP24 := Kd.R_seg HX24.out (a1 : Int) (of_decide_eq_true (by first | (with_reducible assumption) | assumption)) (by have h_ : (a1 : Int) < ((y134.length : Int) : Int) := of_decide_eq_true (by first | (with_reducible assumption) | assumption); first | exact h_ | (have e_ := (Kd.R_reads' HO136.out).1; omega) | simpa using h_) (seg := [.int .u8 a2_0, .bool a2_1, .bool a2_2, .int .u8 a2_3, .int .u8 a2_4]) (j := 0) hcl24 hcc24 (show 5 ≤ 5 from by decide) (x' := (⟨a2_0, a2_1, a2_2, a2_3, a2_4⟩ : S38)) (k38_mkM _ _ _ (⟨a2_0, a2_1, a2_2, a2_3, a2_4⟩ : S38) ) (fun _ hk => hk); have hx24_0 := hcc24 0 _ rfl; (try simp only [show (k38).sz = 5 from rfl, Nat.mul_one, Nat.add_zero] at hx24_0); have hf24_0 := hfr24 0; (try simp only [show (k38).sz = 5 from rfl, Nat.mul_one, Nat.add_zero] at hf24_0); have hx24_1 := hcc24 1 _ rfl; (try simp only [show (k38).sz = 5 from rfl, Nat.mul_one, Nat.add_zero] at hx24_1); have hf24_1 := hfr24 1; (try simp only [show (k38).sz = 5 from rfl, Nat.mul_one, Nat.add_zero] at hf24_1); have hx24_2 := hcc24 2 _ rfl; (try simp only [show (k38).sz = 5 from rfl, Nat.mul_one, Nat.add_zero] at hx24_2); have hf24_2 := hfr24 2; (try simp only [show (k38).sz = 5 from rfl, Nat.mul_one, Nat.add_zero] at hf24_2); have hx24_3 := hcc24 3 _ rfl; (try simp only [show (k38).sz = 5 from rfl, Nat.mul_one, Nat.add_zero] at hx24_3); have hf24_3 := hfr24 3; (try simp only [show (k38).sz = 5 from rfl, Nat.mul_one, Nat.add_zero] at hf24_3); have hx24_4 := hcc24 4 _ rfl; (try simp only [show (k38).sz = 5 from rfl, Nat.mul_one, Nat.add_zero] at hx24_4); have hf24_4 := hfr24 4; (try simp only [show (k38).sz = 5 from rfl, Nat.mul_one, Nat.add_zero] at hf24_4); clear hcl24 hcc24 hfr24 hM24) | ((with_reducible refine gate_store (t := 38) (p := 19) rfl ?_); refine store_event (t := 38) (p := 19) (v := ?vo_w25) (w1 := (((((w21.setCell ⟨go9, (a1 : Int).toNat * 5, none⟩ (.int .u8 a2_0)).setCell ⟨go9, (a1 : Int).toNat * 5 + 1, none⟩ (.bool a2_1)).setCell ⟨go9, (a1 : Int).toNat * 5 + 2, none⟩ (.bool a2_2)).setCell ⟨go9, (a1 : Int).toNat * 5 + 3, none⟩ (.int .u8 a2_3)).setCell ⟨go9, (a1 : Int).toNat * 5 + 4, none⟩ (.int .u8 a2_4))) ?hg ?ho ?hn ?hr ?_; (case ho => rfl); (case hg => rfl); (case hn => rfl); (case hr => first | (go_simp; done) | (go_simp; rfl)); intro w25 hw; have hg : w21.grownBy w25 (some go9) := (by rw [hw]; exact HP24.2); have hp_ : Kd.R k38 38 w25 w0.heap.size (fun k_ => (P0_2_ k_ ∨ w.heap.size ≤ k_) ∧ some k_ ≠ (.slice Ao10 l0_2.length co10 : Value).ownBlock ∧ k_ ≠ gb128) (.slice (some ⟨go9, 0, none⟩) y134.length co9) y137 := (by rw [hw, Ny137.out]; exact HP24.1); clear HP24; have n0_ := Aside0.mk (Kd.R_after (v := (.slice (some ⟨go9, 0, none⟩) y134.length co9)) (v1 := (.slice (some ⟨go9, 0, none⟩) y134.length co9)) (ok := (fun k_ => (P0_2_ k_ ∨ w.heap.size ≤ k_) ∧ k_ ≠ gb128)) (by (with_reducible repeat (first | apply Kd.R_alloc | apply Kd.R_drewN | apply Kd.R_drew)); exact HO0_2.out) hg (.inl rfl)); have n1_ := Aside0.mk (blk_grown (g := gb127) (o := .cells #[.int .i64 a0_0, .int .i64 a0_1, .slice Ao10 l0_2.length co10, .int .i64 a0_3] 28 (0, 0)) (by (with_reducible repeat (first | refine blk_drewN ?_ _ | refine blk_drew ?_ | refine blk_alloc ?_ _)); exact BK127.out) hg (Kd.R_ne HO136.out BK127.out (by decide))); have n2_ := Aside0.mk (blk_grown (g := gb128) (o := .cells #[.int .u8 a2_0, .bool a2_1, .bool a2_2, .int .u8 a2_3, .int .u8 a2_4] 38 (0, 0)) (by (with_reducible repeat (first | refine blk_drewN ?_ _ | refine blk_drew ?_ | refine blk_alloc ?_ _)); exact BK128.out) hg (Kd.R_away HO136.out (fun _ hk => hk.2.2))); have n3_ := Aside0.mk (blk_grown (g := gb129) (o := .cells #[.int .i64 0, .int .i64 0, .slice none 0 0, .int .i64 0] 28 (0, 0)) (by (with_reducible repeat (first | refine blk_drewN ?_ _ | refine blk_drew ?_ | refine blk_alloc ?_ _)); exact BK129.out) hg (Kd.R_ne HO136.out BK129.out (by decide))); have n4_ := Aside0.mk (hp_); have n5_ := Aside0.mk ((by rw [hw]; exact below_set (below_set (below_set (below_set (below_set (HB.out) GB9.out) GB9.out) GB9.out) GB9.out) GB9.out : Below w0.heap.size w0 w25)); have n6_ := Aside0.mk (Kept.of_grown (S := (fun k_ => P0_2_ k_)) hg (by repeat (first | (with_reducible first | exact HK.out | apply Kept.alloc | apply Kept.drewN | apply Kept.drew | refine Kept.setCell ?_ (.inr GW127.out) _ | refine Kept.setCell ?_ (.inr GW128.out) _ | refine Kept.setCell ?_ (.inr GW129.out) _) | exact HK.out)) (fun k_ e_ => (HO136.out.1 k_ e_).1)); clear HO0_2; clear BK127; clear BK128; clear BK129; clear HO136; clear HB; clear HK; have HO0_2 := n0_; have BK127 := n1_; have BK128 := n2_; have BK129 := n3_; have HO136 := n4_; have HB := n5_; have HK := n6_; clear n0_ n1_ n2_ n3_ n4_ n5_ n6_; clear hg hw hp_; have hcz26_0 : w25.cell? ⟨gb127, 0, none⟩ = some (.int .i64 a0_0) := (blk_cell BK127.out 0).trans rfl; have hcz26_1 : w25.cell? ⟨gb127, 1, none⟩ = some (.int .i64 a0_1) := (blk_cell BK127.out 1).trans rfl; have hcz26_2 : w25.cell? ⟨gb127, 2, none⟩ = some (.slice Ao10 l0_2.length co10) := (blk_cell BK127.out 2).trans rfl; have hcz26_3 : w25.cell? ⟨gb127, 3, none⟩ = some (.int .i64 a0_3) := (blk_cell BK127.out 3).trans rfl; have hfz26_0 := blk_frozen BK127.out 0; have hfz26_1 := blk_frozen BK127.out 1; have hfz26_2 := blk_frozen BK127.out 2; have hfz26_3 := blk_frozen BK127.out 3; have hcz27_0 : w25.cell? ⟨gb129, 0, none⟩ = some (.int .i64 0) := (blk_cell BK129.out 0).trans rfl; have hcz27_1 : w25.cell? ⟨gb129, 1, none⟩ = some (.int .i64 0) := (blk_cell BK129.out 1).trans rfl; have hcz27_2 : w25.cell? ⟨gb129, 2, none⟩ = some (.slice none 0 0) := (blk_cell BK129.out 2).trans rfl; have hcz27_3 : w25.cell? ⟨gb129, 3, none⟩ = some (.int .i64 0) := (blk_cell BK129.out 3).trans rfl; have hfz27_0 := blk_frozen BK129.out 0; have hfz27_1 := blk_frozen BK129.out 1; have hfz27_2 := blk_frozen BK129.out 2; have hfz27_3 := blk_frozen BK129.out 3))
          refine bodyPost_ret (results_cell_row rfl _ _ gb129 28 #[.int .i64 a0_0, .int .i64 a0_1, .slice (some ⟨go9, 0, none⟩) y134.length co9, .int .i64 a0_3] (0, 0) _ rfl (by (with_reducible repeat (first | refine blk_drewN ?_ _ | refine blk_drew ?_ | refine blk_alloc ?_ _)); refine blk_put (cs := #[.int .i64 a0_0, .int .i64 a0_1, .slice (some ⟨go9, 0, none⟩) y134.length co9, .int .i64 0]) ?_ 3 _ rfl; (with_reducible repeat (first | refine blk_drewN ?_ _ | refine blk_drew ?_ | refine blk_alloc ?_ _)); refine blk_put (cs := #[.int .i64 a0_0, .int .i64 a0_1, .slice none 0 0, .int .i64 0]) ?_ 2 _ rfl; (with_reducible repeat (first | refine blk_drewN ?_ _ | refine blk_drew ?_ | refine blk_alloc ?_ _)); refine blk_put (cs := #[.int .i64 a0_0, .int .i64 0, .slice none 0 0, .int .i64 0]) ?_ 1 _ rfl; (with_reducible repeat (first | refine blk_drewN ?_ _ | refine blk_drew ?_ | refine blk_alloc ?_ _)); refine blk_put (cs := #[.int .i64 0, .int .i64 0, .slice none 0 0, .int .i64 0]) ?_ 0 _ rfl; (with_reducible repeat (first | refine blk_drewN ?_ _ | refine blk_drew ?_ | refine blk_alloc ?_ _)); refine blk_far ?_ NB129_127.out _; (with_reducible repeat (first | refine blk_drewN ?_ _ | refine blk_drew ?_ | refine blk_alloc ?_ _)); exact BK129.out) Try.underlying28 rfl (by kernel_rfl)) rfl ?_
          exact ⟨_, by first | rfl | (simp [errW_none, errW_some] <;> rfl) | (simp [*, errW_none, errW_some] <;> rfl), by (with_reducible repeat (first | apply Kd.R_alloc | apply Kd.R_drewN | apply Kd.R_drew)); exact Kd.R_mono (Kd.R_far (p := ⟨gb129, 3, none⟩) (Kd.R_far (p := ⟨gb129, 2, none⟩) (Kd.R_far (p := ⟨gb129, 1, none⟩) (Kd.R_far (p := ⟨gb129, 0, none⟩) (Kd.R_far (p := ⟨gb127, 2, none⟩) (Kd.R_types (Kd.R_types HO136.out BK127.out (by decide)) BK129.out (by decide)) (fun _ hk => hk.1.2) (.slice (some ⟨go9, 0, none⟩) y134.length co9)) (fun _ hk => hk.2) (.int .i64 a0_0)) (fun _ hk => hk.2) (.int .i64 a0_1)) (fun _ hk => hk.2) (.slice (some ⟨go9, 0, none⟩) y134.length co9)) (fun _ hk => hk.2) (.int .i64 a0_3)) (fun _ hk => hk.1.1.1), by repeat (first | (with_reducible first | exact HB.out | apply below_alloc | apply pw_below_drewN | apply below_drew1 | refine below_set ?_ GE127.out | refine below_set ?_ GE128.out | refine below_set ?_ GE129.out) | exact HB.out), by repeat (first | (with_reducible first | exact HK.out | apply Kept.alloc | apply Kept.drewN | apply Kept.drew | refine Kept.setCell ?_ (.inr GW127.out) _ | refine Kept.setCell ?_ (.inr GW128.out) _ | refine Kept.setCell ?_ (.inr GW129.out) _) | exact HK.out)⟩
        · rw [if_neg c8] at H
          exact absurd H (by simp)
      · rw [if_neg c7] at H
        exact absurd H (by simp)
    · rw [if_neg c6] at H
      exact absurd H (by simp)
  · replace c5 := Bool.eq_false_iff.mpr c5
    subst c5
    have H1 : (some (a0_0, a0_1, l0_2, a0_3)) = some (r1, r2, r3, r4) := by rw [if_neg (show ¬ (false = true) by decide)] at H; exact H
    clear H
    have H := H1
    clear H1
    simp only [Option.some.injEq, Prod.mk.injEq] at H
    obtain ⟨rfl, rfl, rfl, rfl⟩ := H
    obtain ⟨Ao28, co28, eo28⟩ := Kd.R_slice HO0_2.out
    subst eo28
    go_enter Try.func114, Try.ntmps114
    go_wp2_with (first | ((with_reducible refine gate_dst (N := 3) rfl ?_); refine box_event ?hg (N := 3) ?hd (cs := #[.int .i64 a0_0, .int .i64 a0_1, .slice Ao28 l0_2.length co28, .int .i64 a0_3]) (t := 28) ?hr ?_; (case hd => rfl); (case hg => rfl); (case hr => first | (go_simp; done) | (go_simp; rfl)); intro gb127 hg w29 hbox hb; have n0_ := Aside0.mk (Kd.R_below (by (with_reducible repeat (first | apply Kd.R_alloc | apply Kd.R_drewN | apply Kd.R_drew)); exact HO0_2.out) hb); have n1_ := Aside0.mk (Kept.below (S := (fun k_ => P0_2_ k_)) (by repeat (first | (with_reducible first | exact HK.out | apply Kept.alloc | apply Kept.drewN | apply Kept.drew) | exact HK.out)) hb); have n2_ := Aside0.mk (below_step (by repeat (first | (with_reducible first | exact HB.out | apply below_alloc | apply pw_below_drewN | apply below_drew1) | exact HB.out)) hb); have n3_ := Aside0.mk (hbox); have n4_ := Aside0.mk ((by rw [hg]; exact (by first | exact HK.out.1 | exact (show Kept w _ (fun k_ => P0_2_ k_) from by repeat (first | (with_reducible first | exact HK.out | apply Kept.alloc | apply Kept.drewN | apply Kept.drew) | exact HK.out)).1) : w.heap.size ≤ gb127)); have n5_ := Aside0.mk ((by rw [hg]; exact (below_size (by repeat (first | (with_reducible first | exact HB.out | apply below_alloc | apply pw_below_drewN | apply below_drew1) | exact HB.out))) : w0.heap.size ≤ gb127)); clear HO0_2; clear HK; clear HB; have HO0_2 := n0_; have HK := n1_; have HB := n2_; have BK127 := n3_; have GW127 := n4_; have GE127 := n5_; clear n0_ n1_ n2_ n3_ n4_ n5_; clear hb hbox hg) | ((with_reducible refine gate_dst (N := 5) rfl ?_); refine box_event ?hg (N := 5) ?hd (cs := #[.int .u8 a2_0, .bool a2_1, .bool a2_2, .int .u8 a2_3, .int .u8 a2_4]) (t := 38) ?hr ?_; (case hd => rfl); (case hg => rfl); (case hr => first | (go_simp; done) | (go_simp; rfl)); intro gb128 hg w30 hbox hb; have n0_ := Aside0.mk (Kd.R_below (Kd.R_elderB (by (with_reducible repeat (first | apply Kd.R_alloc | apply Kd.R_drewN | apply Kd.R_drew)); exact HO0_2.out) gb128 (Nat.le_of_eq hg.symm)) hb); have n1_ := Aside0.mk (blk_below (g := gb127) (o := .cells #[.int .i64 a0_0, .int .i64 a0_1, .slice Ao28 l0_2.length co28, .int .i64 a0_3] 28 (0, 0)) (by (with_reducible repeat (first | refine blk_drewN ?_ _ | refine blk_drew ?_ | refine blk_alloc ?_ _)); exact BK127.out) hb); have n2_ := Aside0.mk (Kept.below (S := (fun k_ => P0_2_ k_)) (by repeat (first | (with_reducible first | exact HK.out | apply Kept.alloc | apply Kept.drewN | apply Kept.drew | refine Kept.setCell ?_ (.inr GW127.out) _) | exact HK.out)) hb); have n3_ := Aside0.mk (below_step (by repeat (first | (with_reducible first | exact HB.out | apply below_alloc | apply pw_below_drewN | apply below_drew1 | refine below_set ?_ GE127.out) | exact HB.out)) hb); have n4_ := Aside0.mk (hbox); have n5_ := Aside0.mk ((by rw [hg]; exact (by first | exact HK.out.1 | exact (show Kept w _ (fun k_ => P0_2_ k_) from by repeat (first | (with_reducible first | exact HK.out | apply Kept.alloc | apply Kept.drewN | apply Kept.drew | refine Kept.setCell ?_ (.inr GW127.out) _) | exact HK.out)).1) : w.heap.size ≤ gb128)); have n6_ := Aside0.mk ((by rw [hg]; exact (below_size (by repeat (first | (with_reducible first | exact HB.out | apply below_alloc | apply pw_below_drewN | apply below_drew1 | refine below_set ?_ GE127.out) | exact HB.out))) : w0.heap.size ≤ gb128)); have n7_ := Aside0.mk ((by rw [hg]; exact Nat.ne_of_lt (blk_lt (g := gb127) (o := .cells #[.int .i64 a0_0, .int .i64 a0_1, .slice Ao28 l0_2.length co28, .int .i64 a0_3] 28 (0, 0)) (by (with_reducible repeat (first | refine blk_drewN ?_ _ | refine blk_drew ?_ | refine blk_alloc ?_ _)); exact BK127.out)) : gb127 ≠ gb128)); have n8_ := Aside0.mk ((by rw [hg]; exact Nat.ne_of_gt (blk_lt (g := gb127) (o := .cells #[.int .i64 a0_0, .int .i64 a0_1, .slice Ao28 l0_2.length co28, .int .i64 a0_3] 28 (0, 0)) (by (with_reducible repeat (first | refine blk_drewN ?_ _ | refine blk_drew ?_ | refine blk_alloc ?_ _)); exact BK127.out)) : gb128 ≠ gb127)); clear HO0_2; clear BK127; clear HK; clear HB; have HO0_2 := n0_; have BK127 := n1_; have HK := n2_; have HB := n3_; have BK128 := n4_; have GW128 := n5_; have GE128 := n6_; have NB127_128 := n7_; have NB128_127 := n8_; clear n0_ n1_ n2_ n3_ n4_ n5_ n6_ n7_ n8_; clear hb hbox hg) | ((with_reducible refine gate_dst (N := 6) rfl ?_); refine box_event ?hg (N := 6) ?hd (cs := #[.int .i64 0, .int .i64 0, .slice none 0 0, .int .i64 0]) (t := 28) ?hr ?_; (case hd => rfl); (case hg => rfl); (case hr => first | (go_simp; done) | (go_simp; rfl)); intro gb129 hg w31 hbox hb; have n0_ := Aside0.mk (Kd.R_below (by (with_reducible repeat (first | apply Kd.R_alloc | apply Kd.R_drewN | apply Kd.R_drew)); exact HO0_2.out) hb); have n1_ := Aside0.mk (blk_below (g := gb127) (o := .cells #[.int .i64 a0_0, .int .i64 a0_1, .slice Ao28 l0_2.length co28, .int .i64 a0_3] 28 (0, 0)) (by (with_reducible repeat (first | refine blk_drewN ?_ _ | refine blk_drew ?_ | refine blk_alloc ?_ _)); exact BK127.out) hb); have n2_ := Aside0.mk (blk_below (g := gb128) (o := .cells #[.int .u8 a2_0, .bool a2_1, .bool a2_2, .int .u8 a2_3, .int .u8 a2_4] 38 (0, 0)) (by (with_reducible repeat (first | refine blk_drewN ?_ _ | refine blk_drew ?_ | refine blk_alloc ?_ _)); exact BK128.out) hb); have n3_ := Aside0.mk (Kept.below (S := (fun k_ => P0_2_ k_)) (by repeat (first | (with_reducible first | exact HK.out | apply Kept.alloc | apply Kept.drewN | apply Kept.drew | refine Kept.setCell ?_ (.inr GW127.out) _ | refine Kept.setCell ?_ (.inr GW128.out) _) | exact HK.out)) hb); have n4_ := Aside0.mk (below_step (by repeat (first | (with_reducible first | exact HB.out | apply below_alloc | apply pw_below_drewN | apply below_drew1 | refine below_set ?_ GE127.out | refine below_set ?_ GE128.out) | exact HB.out)) hb); have n5_ := Aside0.mk (hbox); have n6_ := Aside0.mk ((by rw [hg]; exact (by first | exact HK.out.1 | exact (show Kept w _ (fun k_ => P0_2_ k_) from by repeat (first | (with_reducible first | exact HK.out | apply Kept.alloc | apply Kept.drewN | apply Kept.drew | refine Kept.setCell ?_ (.inr GW127.out) _ | refine Kept.setCell ?_ (.inr GW128.out) _) | exact HK.out)).1) : w.heap.size ≤ gb129)); have n7_ := Aside0.mk ((by rw [hg]; exact (below_size (by repeat (first | (with_reducible first | exact HB.out | apply below_alloc | apply pw_below_drewN | apply below_drew1 | refine below_set ?_ GE127.out | refine below_set ?_ GE128.out) | exact HB.out))) : w0.heap.size ≤ gb129)); have n8_ := Aside0.mk ((by rw [hg]; exact Nat.ne_of_lt (blk_lt (g := gb127) (o := .cells #[.int .i64 a0_0, .int .i64 a0_1, .slice Ao28 l0_2.length co28, .int .i64 a0_3] 28 (0, 0)) (by (with_reducible repeat (first | refine blk_drewN ?_ _ | refine blk_drew ?_ | refine blk_alloc ?_ _)); exact BK127.out)) : gb127 ≠ gb129)); have n9_ := Aside0.mk ((by rw [hg]; exact Nat.ne_of_gt (blk_lt (g := gb127) (o := .cells #[.int .i64 a0_0, .int .i64 a0_1, .slice Ao28 l0_2.length co28, .int .i64 a0_3] 28 (0, 0)) (by (with_reducible repeat (first | refine blk_drewN ?_ _ | refine blk_drew ?_ | refine blk_alloc ?_ _)); exact BK127.out)) : gb129 ≠ gb127)); have n10_ := Aside0.mk ((by rw [hg]; exact Nat.ne_of_lt (blk_lt (g := gb128) (o := .cells #[.int .u8 a2_0, .bool a2_1, .bool a2_2, .int .u8 a2_3, .int .u8 a2_4] 38 (0, 0)) (by (with_reducible repeat (first | refine blk_drewN ?_ _ | refine blk_drew ?_ | refine blk_alloc ?_ _)); exact BK128.out)) : gb128 ≠ gb129)); have n11_ := Aside0.mk ((by rw [hg]; exact Nat.ne_of_gt (blk_lt (g := gb128) (o := .cells #[.int .u8 a2_0, .bool a2_1, .bool a2_2, .int .u8 a2_3, .int .u8 a2_4] 38 (0, 0)) (by (with_reducible repeat (first | refine blk_drewN ?_ _ | refine blk_drew ?_ | refine blk_alloc ?_ _)); exact BK128.out)) : gb129 ≠ gb128)); clear HO0_2; clear BK127; clear BK128; clear HK; clear HB; have HO0_2 := n0_; have BK127 := n1_; have BK128 := n2_; have HK := n3_; have HB := n4_; have BK129 := n5_; have GW129 := n6_; have GE129 := n7_; have NB127_129 := n8_; have NB129_127 := n9_; have NB128_129 := n10_; have NB129_128 := n11_; clear n0_ n1_ n2_ n3_ n4_ n5_ n6_ n7_ n8_ n9_ n10_ n11_; clear hb hbox hg; have hnb32 := NB127_128.out; have hnc32 := NB128_127.out; have hnb33 := NB127_129.out; have hnc33 := NB129_127.out; have hcz34_0 : w31.cell? ⟨gb127, 0, none⟩ = some (.int .i64 a0_0) := (blk_cell BK127.out 0).trans rfl; have hcz34_1 : w31.cell? ⟨gb127, 1, none⟩ = some (.int .i64 a0_1) := (blk_cell BK127.out 1).trans rfl; have hcz34_2 : w31.cell? ⟨gb127, 2, none⟩ = some (.slice Ao28 l0_2.length co28) := (blk_cell BK127.out 2).trans rfl; have hcz34_3 : w31.cell? ⟨gb127, 3, none⟩ = some (.int .i64 a0_3) := (blk_cell BK127.out 3).trans rfl; have hfz34_0 := blk_frozen BK127.out 0; have hfz34_1 := blk_frozen BK127.out 1; have hfz34_2 := blk_frozen BK127.out 2; have hfz34_3 := blk_frozen BK127.out 3) | ((with_reducible refine gate_callee (f := 78) rfl ?_); refine goesL_ (some 10) rfl rfl Try.func78 (by kernel_rfl) rfl #[.agg #[.int .i64 a0_0, .int .i64 a0_1, .slice Ao28 l0_2.length co28, .int .i64 a0_3], .int .i64 a1] rfl (by (try simp only [List.map_toArray, List.map_cons, List.map_nil]); first | done | rfl | (simp only [List.length_drop, List.length_take]; rfl)) ?_; (with_reducible refine (greenscreenref14_Has.calls a0_0 a0_1 _ _ l0_2 a0_3 a1 false _ ?side1 ?side2 A4.out).mono ?_); (case side1 => repeat (first | exact (Kd.R_reads' HO0_2.out).2.2 | (with_reducible refine Kd.C_alloc ?_ _) | (with_reducible refine Kd.C_drewN ?_ _) | (with_reducible refine Kd.C_drew ?_))); (case side2 => exact (Kd.R_reads' HO0_2.out).2.1); rintro e w35 ⟨rfl, hb⟩; refine ⟨_, rfl, ?_⟩; have n0_ := Aside0.mk (Kd.R_below (by (with_reducible repeat (first | apply Kd.R_alloc | apply Kd.R_drewN | apply Kd.R_drew)); exact HO0_2.out) hb); have n1_ := Aside0.mk (blk_below (g := gb127) (o := .cells #[.int .i64 a0_0, .int .i64 a0_1, .slice Ao28 l0_2.length co28, .int .i64 a0_3] 28 (0, 0)) (by (with_reducible repeat (first | refine blk_drewN ?_ _ | refine blk_drew ?_ | refine blk_alloc ?_ _)); exact BK127.out) hb); have n2_ := Aside0.mk (blk_below (g := gb128) (o := .cells #[.int .u8 a2_0, .bool a2_1, .bool a2_2, .int .u8 a2_3, .int .u8 a2_4] 38 (0, 0)) (by (with_reducible repeat (first | refine blk_drewN ?_ _ | refine blk_drew ?_ | refine blk_alloc ?_ _)); exact BK128.out) hb); have n3_ := Aside0.mk (blk_below (g := gb129) (o := .cells #[.int .i64 0, .int .i64 0, .slice none 0 0, .int .i64 0] 28 (0, 0)) (by (with_reducible repeat (first | refine blk_drewN ?_ _ | refine blk_drew ?_ | refine blk_alloc ?_ _)); exact BK129.out) hb); have n4_ := Aside0.mk (Kept.below (S := (fun k_ => P0_2_ k_)) (by repeat (first | (with_reducible first | exact HK.out | apply Kept.alloc | apply Kept.drewN | apply Kept.drew | refine Kept.setCell ?_ (.inr GW127.out) _ | refine Kept.setCell ?_ (.inr GW128.out) _ | refine Kept.setCell ?_ (.inr GW129.out) _) | exact HK.out)) hb); have n5_ := Aside0.mk (below_step (by repeat (first | (with_reducible first | exact HB.out | apply below_alloc | apply pw_below_drewN | apply below_drew1 | refine below_set ?_ GE127.out | refine below_set ?_ GE128.out | refine below_set ?_ GE129.out) | exact HB.out)) hb); clear HO0_2; clear BK127; clear BK128; clear BK129; clear HK; clear HB; have HO0_2 := n0_; have BK127 := n1_; have BK128 := n2_; have BK129 := n3_; have HK := n4_; have HB := n5_; clear n0_ n1_ n2_ n3_ n4_ n5_; (try clear hb); (try clear hb2); (try clear hk); (try clear hi); have hcz36_0 : w35.cell? ⟨gb127, 0, none⟩ = some (.int .i64 a0_0) := (blk_cell BK127.out 0).trans rfl; have hcz36_1 : w35.cell? ⟨gb127, 1, none⟩ = some (.int .i64 a0_1) := (blk_cell BK127.out 1).trans rfl; have hcz36_2 : w35.cell? ⟨gb127, 2, none⟩ = some (.slice Ao28 l0_2.length co28) := (blk_cell BK127.out 2).trans rfl; have hcz36_3 : w35.cell? ⟨gb127, 3, none⟩ = some (.int .i64 a0_3) := (blk_cell BK127.out 3).trans rfl; have hfz36_0 := blk_frozen BK127.out 0; have hfz36_1 := blk_frozen BK127.out 1; have hfz36_2 := blk_frozen BK127.out 2; have hfz36_3 := blk_frozen BK127.out 3; have hnb37 := NB129_128.out; have hnc37 := NB128_129.out; have hcz38_0 : w35.cell? ⟨gb129, 0, none⟩ = some (.int .i64 0) := (blk_cell BK129.out 0).trans rfl; have hcz38_1 : w35.cell? ⟨gb129, 1, none⟩ = some (.int .i64 0) := (blk_cell BK129.out 1).trans rfl; have hcz38_2 : w35.cell? ⟨gb129, 2, none⟩ = some (.slice none 0 0) := (blk_cell BK129.out 2).trans rfl; have hcz38_3 : w35.cell? ⟨gb129, 3, none⟩ = some (.int .i64 0) := (blk_cell BK129.out 3).trans rfl; have hfz38_0 := blk_frozen BK129.out 0; have hfz38_1 := blk_frozen BK129.out 1; have hfz38_2 := blk_frozen BK129.out 2; have hfz38_3 := blk_frozen BK129.out 3))
    refine bodyPost_ret (results_cell_row rfl _ _ gb129 28 #[.int .i64 a0_0, .int .i64 a0_1, .slice Ao28 l0_2.length co28, .int .i64 a0_3] (0, 0) _ rfl (by (with_reducible repeat (first | refine blk_drewN ?_ _ | refine blk_drew ?_ | refine blk_alloc ?_ _)); refine blk_put (cs := #[.int .i64 a0_0, .int .i64 a0_1, .slice Ao28 l0_2.length co28, .int .i64 0]) ?_ 3 _ rfl; (with_reducible repeat (first | refine blk_drewN ?_ _ | refine blk_drew ?_ | refine blk_alloc ?_ _)); refine blk_put (cs := #[.int .i64 a0_0, .int .i64 a0_1, .slice none 0 0, .int .i64 0]) ?_ 2 _ rfl; (with_reducible repeat (first | refine blk_drewN ?_ _ | refine blk_drew ?_ | refine blk_alloc ?_ _)); refine blk_put (cs := #[.int .i64 a0_0, .int .i64 0, .slice none 0 0, .int .i64 0]) ?_ 1 _ rfl; (with_reducible repeat (first | refine blk_drewN ?_ _ | refine blk_drew ?_ | refine blk_alloc ?_ _)); refine blk_put (cs := #[.int .i64 0, .int .i64 0, .slice none 0 0, .int .i64 0]) ?_ 0 _ rfl; (with_reducible repeat (first | refine blk_drewN ?_ _ | refine blk_drew ?_ | refine blk_alloc ?_ _)); exact BK129.out) Try.underlying28 rfl (by kernel_rfl)) rfl ?_
    exact ⟨_, by first | rfl | (simp [errW_none, errW_some] <;> rfl) | (simp [*, errW_none, errW_some] <;> rfl), by (with_reducible repeat (first | apply Kd.R_alloc | apply Kd.R_drewN | apply Kd.R_drew)); exact Kd.R_mono (Kd.R_far (p := ⟨gb129, 3, none⟩) (Kd.R_far (p := ⟨gb129, 2, none⟩) (Kd.R_far (p := ⟨gb129, 1, none⟩) (Kd.R_far (p := ⟨gb129, 0, none⟩) (Kd.R_types HO0_2.out BK129.out (by decide)) (fun _ hk => hk.2) (.int .i64 a0_0)) (fun _ hk => hk.2) (.int .i64 a0_1)) (fun _ hk => hk.2) (.slice Ao28 l0_2.length co28)) (fun _ hk => hk.2) (.int .i64 a0_3)) (fun _ hk => hk.1.1), by repeat (first | (with_reducible first | exact HB.out | apply below_alloc | apply pw_below_drewN | apply below_drew1 | refine below_set ?_ GE127.out | refine below_set ?_ GE128.out | refine below_set ?_ GE129.out) | exact HB.out), by repeat (first | (with_reducible first | exact HK.out | apply Kept.alloc | apply Kept.drewN | apply Kept.drew | refine Kept.setCell ?_ (.inr GW127.out) _ | refine Kept.setCell ?_ (.inr GW128.out) _ | refine Kept.setCell ?_ (.inr GW129.out) _) | exact HK.out)⟩

/-! ### greenscreenref16_lay: function 102 -/
def greenscreenref16_lay.f (a0_0 : Int) (a0_1 : Int) (l0_2 : List (S38)) (a0_3 : Int) (a0_4 : Int) (a0_5 : Int) (a0_6 : Int) (a0_7 : Bool) (a1_0 : Int) (a1_1 : Bool) (a1_2 : Bool) (a1_3 : Int) (a1_4 : Int) : Option (Int × Int × (List (S38)) × Int × Int × Int × Int × Bool) := (greenscreenref14_Set.f a0_0 a0_1 l0_2 a0_3 a0_4 a1_0 a1_1 a1_2 a1_3 a1_4).bind fun bt141 => (if (bt141.2.2.1.length : Int) = 0 then (none) else (some (bt141.1, bt141.2.1, bt141.2.2.1, bt141.2.2.2, Int.tmod (wrap64 (a0_4 + 1)) (bt141.2.2.1.length : Int), a0_5, a0_6, a0_7)))
set_option maxHeartbeats 8000000 in
set_option maxRecDepth 100000 in
theorem greenscreenref16_lay.calls (a0_0 : Int) (a0_1 : Int) (P0_2_ : Nat → Prop) (u9000_ : Value) (l0_2 : List (S38)) (a0_3 : Int) (a0_4 : Int) (a0_5 : Int) (a0_6 : Int) (a0_7 : Bool) (a1_0 : Int) (a1_1 : Bool) (a1_2 : Bool) (a1_3 : Int) (a1_4 : Int) (r1 : Int) (r2 : Int) (r3 : List (S38)) (r4 : Int) (r5 : Int) (r6 : Int) (r7 : Int) (r8 : Bool) (w0 w : World) (hB : Below w0.heap.size w0 w) (ho0_2 : Kd.R k38 38 w w0.heap.size P0_2_ u9000_ l0_2) (h : greenscreenref16_lay.f a0_0 a0_1 l0_2 a0_3 a0_4 a0_5 a0_6 a0_7 a1_0 a1_1 a1_2 a1_3 a1_4 = some (r1, r2, r3, r4, r5, r6, r7, r8)) :
    Calls Try.prog 102 #[.agg #[.int .i64 a0_0, .int .i64 a0_1, u9000_, .int .i64 a0_3, .int .i64 a0_4, .int .u8 a0_5, .int .u8 a0_6, .bool a0_7], .agg #[.int .u8 a1_0, .bool a1_1, .bool a1_2, .int .u8 a1_3, .int .u8 a1_4]] w fun e w' => ∃ v2_ : Value, e = .returned (.agg #[.int .i64 r1, .int .i64 r2, v2_, .int .i64 r4, .int .i64 r5, .int .u8 r6, .int .u8 r7, .bool r8]) ∧ Kd.R k38 38 w' w0.heap.size (fun k_ => (P0_2_ k_ ∨ w.heap.size ≤ k_)) v2_ r3 ∧ Below w0.heap.size w0 w' ∧ Kept w w' (fun k_ => P0_2_ k_) := by
  have hu111 := Try.underlying111
  have hu38 := Try.underlying38
  have hu28 := Try.underlying28
  have HO0_2 := Aside0.mk (show Kd.R k38 38 w w0.heap.size (fun k_ => (P0_2_ k_ ∨ w.heap.size ≤ k_)) u9000_ l0_2 from Kd.R_mono ho0_2 (fun k_ hk => (.inl hk)))
  have HK := Aside0.mk (Kept.refl w (fun k_ => P0_2_ k_))
  have HW0 := Aside0.mk hB.size
  have HB := Aside0.mk hB
  clear hB
  have H : ((greenscreenref14_Set.f a0_0 a0_1 l0_2 a0_3 a0_4 a1_0 a1_1 a1_2 a1_3 a1_4).bind fun bt141 => (if (bt141.2.2.1.length : Int) = 0 then (none) else (some (bt141.1, bt141.2.1, bt141.2.2.1, bt141.2.2.2, Int.tmod (wrap64 (a0_4 + 1)) (bt141.2.2.1.length : Int), a0_5, a0_6, a0_7)))) = some (r1, r2, r3, r4, r5, r6, r7, r8) := h
  clear h
  replace H := Option.bind_eq_some_iff.mp H
  obtain ⟨⟨t141, t142, t143, t146⟩, A30, H⟩ := H
  replace H : (if (t143.length : Int) = 0 then (none) else (some (t141, t142, t143, t146, Int.tmod (wrap64 (a0_4 + 1)) (t143.length : Int), a0_5, a0_6, a0_7))) = some (r1, r2, r3, r4, r5, r6, r7, r8) := H
  have A3 := Aside0.mk A30
  clear A30
  by_cases c4 : (t143.length : Int) = 0
  · rw [if_pos c4] at H
    exact absurd H (by simp)
  · rw [if_neg c4] at H
    have c4b0 : ((t143.length : Int) == 0) = false := beq_eq_false_iff_ne.mpr c4
    have c4b1 : ((t143.length : Int) != 0) = true := bne_iff_ne.mpr c4
    have c4b2 : ¬ (t143 = []) := fun h_ => c4 (by rw [h_]; rfl)
    simp only [Option.some.injEq, Prod.mk.injEq] at H
    obtain ⟨rfl, rfl, rfl, rfl, rfl, rfl, rfl, rfl⟩ := H
    obtain ⟨Ao5, co5, eo5⟩ := Kd.R_slice HO0_2.out
    subst eo5
    go_enter Try.func102, Try.ntmps102
    go_wp2_with (first | ((with_reducible refine gate_dst (N := 2) rfl ?_); refine box_event ?hg (N := 2) ?hd (cs := #[.int .i64 a0_0, .int .i64 a0_1, .slice Ao5 l0_2.length co5, .int .i64 a0_3, .int .i64 a0_4, .int .u8 a0_5, .int .u8 a0_6, .bool a0_7]) (t := 111) ?hr ?_; (case hd => rfl); (case hg => rfl); (case hr => first | (go_simp; done) | (go_simp; rfl)); intro gb138 hg w6 hbox hb; have n0_ := Aside0.mk (Kd.R_below (by (with_reducible repeat (first | apply Kd.R_alloc | apply Kd.R_drewN | apply Kd.R_drew)); exact HO0_2.out) hb); have n1_ := Aside0.mk (Kept.below (S := (fun k_ => P0_2_ k_)) (by repeat (first | (with_reducible first | exact HK.out | apply Kept.alloc | apply Kept.drewN | apply Kept.drew) | exact HK.out)) hb); have n2_ := Aside0.mk (below_step (by repeat (first | (with_reducible first | exact HB.out | apply below_alloc | apply pw_below_drewN | apply below_drew1) | exact HB.out)) hb); have n3_ := Aside0.mk (hbox); have n4_ := Aside0.mk ((by rw [hg]; exact (by first | exact HK.out.1 | exact (show Kept w _ (fun k_ => P0_2_ k_) from by repeat (first | (with_reducible first | exact HK.out | apply Kept.alloc | apply Kept.drewN | apply Kept.drew) | exact HK.out)).1) : w.heap.size ≤ gb138)); have n5_ := Aside0.mk ((by rw [hg]; exact (below_size (by repeat (first | (with_reducible first | exact HB.out | apply below_alloc | apply pw_below_drewN | apply below_drew1) | exact HB.out))) : w0.heap.size ≤ gb138)); clear HO0_2; clear HK; clear HB; have HO0_2 := n0_; have HK := n1_; have HB := n2_; have BK138 := n3_; have GW138 := n4_; have GE138 := n5_; clear n0_ n1_ n2_ n3_ n4_ n5_; clear hb hbox hg) | ((with_reducible refine gate_dst (N := 3) rfl ?_); refine box_event ?hg (N := 3) ?hd (cs := #[.int .u8 a1_0, .bool a1_1, .bool a1_2, .int .u8 a1_3, .int .u8 a1_4]) (t := 38) ?hr ?_; (case hd => rfl); (case hg => rfl); (case hr => first | (go_simp; done) | (go_simp; rfl)); intro gb139 hg w7 hbox hb; have n0_ := Aside0.mk (Kd.R_below (Kd.R_elderB (by (with_reducible repeat (first | apply Kd.R_alloc | apply Kd.R_drewN | apply Kd.R_drew)); exact HO0_2.out) gb139 (Nat.le_of_eq hg.symm)) hb); have n1_ := Aside0.mk (blk_below (g := gb138) (o := .cells #[.int .i64 a0_0, .int .i64 a0_1, .slice Ao5 l0_2.length co5, .int .i64 a0_3, .int .i64 a0_4, .int .u8 a0_5, .int .u8 a0_6, .bool a0_7] 111 (0, 0)) (by (with_reducible repeat (first | refine blk_drewN ?_ _ | refine blk_drew ?_ | refine blk_alloc ?_ _)); exact BK138.out) hb); have n2_ := Aside0.mk (Kept.below (S := (fun k_ => P0_2_ k_)) (by repeat (first | (with_reducible first | exact HK.out | apply Kept.alloc | apply Kept.drewN | apply Kept.drew | refine Kept.setCell ?_ (.inr GW138.out) _) | exact HK.out)) hb); have n3_ := Aside0.mk (below_step (by repeat (first | (with_reducible first | exact HB.out | apply below_alloc | apply pw_below_drewN | apply below_drew1 | refine below_set ?_ GE138.out) | exact HB.out)) hb); have n4_ := Aside0.mk (hbox); have n5_ := Aside0.mk ((by rw [hg]; exact (by first | exact HK.out.1 | exact (show Kept w _ (fun k_ => P0_2_ k_) from by repeat (first | (with_reducible first | exact HK.out | apply Kept.alloc | apply Kept.drewN | apply Kept.drew | refine Kept.setCell ?_ (.inr GW138.out) _) | exact HK.out)).1) : w.heap.size ≤ gb139)); have n6_ := Aside0.mk ((by rw [hg]; exact (below_size (by repeat (first | (with_reducible first | exact HB.out | apply below_alloc | apply pw_below_drewN | apply below_drew1 | refine below_set ?_ GE138.out) | exact HB.out))) : w0.heap.size ≤ gb139)); have n7_ := Aside0.mk ((by rw [hg]; exact Nat.ne_of_lt (blk_lt (g := gb138) (o := .cells #[.int .i64 a0_0, .int .i64 a0_1, .slice Ao5 l0_2.length co5, .int .i64 a0_3, .int .i64 a0_4, .int .u8 a0_5, .int .u8 a0_6, .bool a0_7] 111 (0, 0)) (by (with_reducible repeat (first | refine blk_drewN ?_ _ | refine blk_drew ?_ | refine blk_alloc ?_ _)); exact BK138.out)) : gb138 ≠ gb139)); have n8_ := Aside0.mk ((by rw [hg]; exact Nat.ne_of_gt (blk_lt (g := gb138) (o := .cells #[.int .i64 a0_0, .int .i64 a0_1, .slice Ao5 l0_2.length co5, .int .i64 a0_3, .int .i64 a0_4, .int .u8 a0_5, .int .u8 a0_6, .bool a0_7] 111 (0, 0)) (by (with_reducible repeat (first | refine blk_drewN ?_ _ | refine blk_drew ?_ | refine blk_alloc ?_ _)); exact BK138.out)) : gb139 ≠ gb138)); clear HO0_2; clear BK138; clear HK; clear HB; have HO0_2 := n0_; have BK138 := n1_; have HK := n2_; have HB := n3_; have BK139 := n4_; have GW139 := n5_; have GE139 := n6_; have NB138_139 := n7_; have NB139_138 := n8_; clear n0_ n1_ n2_ n3_ n4_ n5_ n6_ n7_ n8_; clear hb hbox hg) | ((with_reducible refine gate_dst (N := 4) rfl ?_); refine box_event ?hg (N := 4) ?hd (cs := #[.int .i64 0, .int .i64 0, .slice none 0 0, .int .i64 0, .int .i64 0, .int .u8 0, .int .u8 0, .bool false]) (t := 111) ?hr ?_; (case hd => rfl); (case hg => rfl); (case hr => first | (go_simp; done) | (go_simp; rfl)); intro gb140 hg w8 hbox hb; have n0_ := Aside0.mk (Kd.R_below (by (with_reducible repeat (first | apply Kd.R_alloc | apply Kd.R_drewN | apply Kd.R_drew)); exact HO0_2.out) hb); have n1_ := Aside0.mk (blk_below (g := gb138) (o := .cells #[.int .i64 a0_0, .int .i64 a0_1, .slice Ao5 l0_2.length co5, .int .i64 a0_3, .int .i64 a0_4, .int .u8 a0_5, .int .u8 a0_6, .bool a0_7] 111 (0, 0)) (by (with_reducible repeat (first | refine blk_drewN ?_ _ | refine blk_drew ?_ | refine blk_alloc ?_ _)); exact BK138.out) hb); have n2_ := Aside0.mk (blk_below (g := gb139) (o := .cells #[.int .u8 a1_0, .bool a1_1, .bool a1_2, .int .u8 a1_3, .int .u8 a1_4] 38 (0, 0)) (by (with_reducible repeat (first | refine blk_drewN ?_ _ | refine blk_drew ?_ | refine blk_alloc ?_ _)); exact BK139.out) hb); have n3_ := Aside0.mk (Kept.below (S := (fun k_ => P0_2_ k_)) (by repeat (first | (with_reducible first | exact HK.out | apply Kept.alloc | apply Kept.drewN | apply Kept.drew | refine Kept.setCell ?_ (.inr GW138.out) _ | refine Kept.setCell ?_ (.inr GW139.out) _) | exact HK.out)) hb); have n4_ := Aside0.mk (below_step (by repeat (first | (with_reducible first | exact HB.out | apply below_alloc | apply pw_below_drewN | apply below_drew1 | refine below_set ?_ GE138.out | refine below_set ?_ GE139.out) | exact HB.out)) hb); have n5_ := Aside0.mk (hbox); have n6_ := Aside0.mk ((by rw [hg]; exact (by first | exact HK.out.1 | exact (show Kept w _ (fun k_ => P0_2_ k_) from by repeat (first | (with_reducible first | exact HK.out | apply Kept.alloc | apply Kept.drewN | apply Kept.drew | refine Kept.setCell ?_ (.inr GW138.out) _ | refine Kept.setCell ?_ (.inr GW139.out) _) | exact HK.out)).1) : w.heap.size ≤ gb140)); have n7_ := Aside0.mk ((by rw [hg]; exact (below_size (by repeat (first | (with_reducible first | exact HB.out | apply below_alloc | apply pw_below_drewN | apply below_drew1 | refine below_set ?_ GE138.out | refine below_set ?_ GE139.out) | exact HB.out))) : w0.heap.size ≤ gb140)); have n8_ := Aside0.mk ((by rw [hg]; exact Nat.ne_of_lt (blk_lt (g := gb138) (o := .cells #[.int .i64 a0_0, .int .i64 a0_1, .slice Ao5 l0_2.length co5, .int .i64 a0_3, .int .i64 a0_4, .int .u8 a0_5, .int .u8 a0_6, .bool a0_7] 111 (0, 0)) (by (with_reducible repeat (first | refine blk_drewN ?_ _ | refine blk_drew ?_ | refine blk_alloc ?_ _)); exact BK138.out)) : gb138 ≠ gb140)); have n9_ := Aside0.mk ((by rw [hg]; exact Nat.ne_of_gt (blk_lt (g := gb138) (o := .cells #[.int .i64 a0_0, .int .i64 a0_1, .slice Ao5 l0_2.length co5, .int .i64 a0_3, .int .i64 a0_4, .int .u8 a0_5, .int .u8 a0_6, .bool a0_7] 111 (0, 0)) (by (with_reducible repeat (first | refine blk_drewN ?_ _ | refine blk_drew ?_ | refine blk_alloc ?_ _)); exact BK138.out)) : gb140 ≠ gb138)); have n10_ := Aside0.mk ((by rw [hg]; exact Nat.ne_of_lt (blk_lt (g := gb139) (o := .cells #[.int .u8 a1_0, .bool a1_1, .bool a1_2, .int .u8 a1_3, .int .u8 a1_4] 38 (0, 0)) (by (with_reducible repeat (first | refine blk_drewN ?_ _ | refine blk_drew ?_ | refine blk_alloc ?_ _)); exact BK139.out)) : gb139 ≠ gb140)); have n11_ := Aside0.mk ((by rw [hg]; exact Nat.ne_of_gt (blk_lt (g := gb139) (o := .cells #[.int .u8 a1_0, .bool a1_1, .bool a1_2, .int .u8 a1_3, .int .u8 a1_4] 38 (0, 0)) (by (with_reducible repeat (first | refine blk_drewN ?_ _ | refine blk_drew ?_ | refine blk_alloc ?_ _)); exact BK139.out)) : gb140 ≠ gb139)); clear HO0_2; clear BK138; clear BK139; clear HK; clear HB; have HO0_2 := n0_; have BK138 := n1_; have BK139 := n2_; have HK := n3_; have HB := n4_; have BK140 := n5_; have GW140 := n6_; have GE140 := n7_; have NB138_140 := n8_; have NB140_138 := n9_; have NB139_140 := n10_; have NB140_139 := n11_; clear n0_ n1_ n2_ n3_ n4_ n5_ n6_ n7_ n8_ n9_ n10_ n11_; clear hb hbox hg; have hnb9 := NB138_139.out; have hnc9 := NB139_138.out; have hnb10 := NB138_140.out; have hnc10 := NB140_138.out; have hcz11_0 : w8.cell? ⟨gb138, 0, none⟩ = some (.int .i64 a0_0) := (blk_cell BK138.out 0).trans rfl; have hcz11_1 : w8.cell? ⟨gb138, 1, none⟩ = some (.int .i64 a0_1) := (blk_cell BK138.out 1).trans rfl; have hcz11_2 : w8.cell? ⟨gb138, 2, none⟩ = some (.slice Ao5 l0_2.length co5) := (blk_cell BK138.out 2).trans rfl; have hcz11_3 : w8.cell? ⟨gb138, 3, none⟩ = some (.int .i64 a0_3) := (blk_cell BK138.out 3).trans rfl; have hcz11_4 : w8.cell? ⟨gb138, 4, none⟩ = some (.int .i64 a0_4) := (blk_cell BK138.out 4).trans rfl; have hcz11_5 : w8.cell? ⟨gb138, 5, none⟩ = some (.int .u8 a0_5) := (blk_cell BK138.out 5).trans rfl; have hcz11_6 : w8.cell? ⟨gb138, 6, none⟩ = some (.int .u8 a0_6) := (blk_cell BK138.out 6).trans rfl; have hcz11_7 : w8.cell? ⟨gb138, 7, none⟩ = some (.bool a0_7) := (blk_cell BK138.out 7).trans rfl; have hfz11_0 := blk_frozen BK138.out 0; have hfz11_1 := blk_frozen BK138.out 1; have hfz11_2 := blk_frozen BK138.out 2; have hfz11_3 := blk_frozen BK138.out 3; have hfz11_4 := blk_frozen BK138.out 4; have hfz11_5 := blk_frozen BK138.out 5; have hfz11_6 := blk_frozen BK138.out 6; have hfz11_7 := blk_frozen BK138.out 7; have hnb12 := NB139_140.out; have hnc12 := NB140_139.out; have hcz13_0 : w8.cell? ⟨gb139, 0, none⟩ = some (.int .u8 a1_0) := (blk_cell BK139.out 0).trans rfl; have hcz13_1 : w8.cell? ⟨gb139, 1, none⟩ = some (.bool a1_1) := (blk_cell BK139.out 1).trans rfl; have hcz13_2 : w8.cell? ⟨gb139, 2, none⟩ = some (.bool a1_2) := (blk_cell BK139.out 2).trans rfl; have hcz13_3 : w8.cell? ⟨gb139, 3, none⟩ = some (.int .u8 a1_3) := (blk_cell BK139.out 3).trans rfl; have hcz13_4 : w8.cell? ⟨gb139, 4, none⟩ = some (.int .u8 a1_4) := (blk_cell BK139.out 4).trans rfl; have hfz13_0 := blk_frozen BK139.out 0; have hfz13_1 := blk_frozen BK139.out 1; have hfz13_2 := blk_frozen BK139.out 2; have hfz13_3 := blk_frozen BK139.out 3; have hfz13_4 := blk_frozen BK139.out 4) | ((with_reducible refine gate_callee (f := 114) rfl ?_); refine goesL_ (some 10) rfl rfl Try.func114 (by kernel_rfl) rfl #[.agg #[.int .i64 a0_0, .int .i64 a0_1, .slice Ao5 l0_2.length co5, .int .i64 a0_3], .int .i64 a0_4, .agg #[.int .u8 a1_0, .bool a1_1, .bool a1_2, .int .u8 a1_3, .int .u8 a1_4]] rfl (by (try simp only [List.map_toArray, List.map_cons, List.map_nil]); first | done | rfl | (simp only [List.length_drop, List.length_take]; rfl)) ?_; (with_reducible refine (greenscreenref14_Set.calls a0_0 a0_1 (fun k_ => some k_ = (.slice Ao5 l0_2.length co5 : Value).ownBlock) (.slice Ao5 l0_2.length co5) l0_2 a0_3 a0_4 a1_0 a1_1 a1_2 a1_3 a1_4 t141 t142 t143 t146 w0 _ ?side1 ?side2 A3.out).mono ?_); (case side1 => repeat (first | (with_reducible first | exact HB.out | apply below_alloc | apply pw_below_drewN | apply below_drew1 | refine below_set ?_ GE138.out | refine below_set ?_ GE139.out | refine below_set ?_ GE140.out) | exact HB.out)); (case side2 => exact Kd.R_tight rfl HO0_2.out); rintro e w14 ⟨v144, rfl, ho0, hb, hkp⟩; refine ⟨_, rfl, ?_⟩; have n0_ := Aside0.mk (blk_kept (by (with_reducible repeat (first | refine blk_drewN ?_ _ | refine blk_drew ?_ | refine blk_alloc ?_ _)); exact BK138.out) hkp (fun hs_ => (fun e_ => (Kd.R_ne HO0_2.out BK138.out (by decide)) e_) hs_)); have n1_ := Aside0.mk (blk_kept (by (with_reducible repeat (first | refine blk_drewN ?_ _ | refine blk_drew ?_ | refine blk_alloc ?_ _)); exact BK139.out) hkp (fun hs_ => (fun e_ => (Kd.R_away HO0_2.out (fun _ hk => hk.2)) e_) hs_)); have n2_ := Aside0.mk (blk_kept (by (with_reducible repeat (first | refine blk_drewN ?_ _ | refine blk_drew ?_ | refine blk_alloc ?_ _)); exact BK140.out) hkp (fun hs_ => (fun e_ => (Kd.R_ne HO0_2.out BK140.out (by decide)) e_) hs_)); have n3_ := Aside0.mk (Kd.R_mono (ok' := fun k_ => (P0_2_ k_ ∨ w.heap.size ≤ k_) ∧ k_ ≠ gb139) ho0 (fun k_ hk_ => ⟨Or.elim hk_ (fun hs_ => (HO0_2.out.1 k_ (hs_).symm).1) (fun hn_ => (.inr (Nat.le_trans (by first | exact HK.out.1 | exact (show Kept w _ (fun k_ => P0_2_ k_) from by repeat (first | (with_reducible first | exact HK.out | apply Kept.alloc | apply Kept.drewN | apply Kept.drew | refine Kept.setCell ?_ (.inr GW138.out) _ | refine Kept.setCell ?_ (.inr GW139.out) _ | refine Kept.setCell ?_ (.inr GW140.out) _) | exact HK.out)).1) hn_))), Or.elim hk_ (fun hs_ => fun e_ => (Kd.R_away HO0_2.out (fun _ hk => hk.2)) (by rw [← e_]; exact hs_)) (fun hn_ => (Kd.freshB (g := gb139) (o := .cells #[.int .u8 a1_0, .bool a1_1, .bool a1_2, .int .u8 a1_3, .int .u8 a1_4] 38 (0, 0)) (by (with_reducible repeat (first | refine blk_drewN ?_ _ | refine blk_drew ?_ | refine blk_alloc ?_ _)); exact BK139.out) k_ hn_))⟩)); have n4_ := Aside0.mk (Kept.then_ (S := (fun k_ => P0_2_ k_)) (by repeat (first | (with_reducible first | exact HK.out | apply Kept.alloc | apply Kept.drewN | apply Kept.drew | refine Kept.setCell ?_ (.inr GW138.out) _ | refine Kept.setCell ?_ (.inr GW139.out) _ | refine Kept.setCell ?_ (.inr GW140.out) _) | exact HK.out)) hkp (fun k_ hs_ => (fun e_ => (HO0_2.out.1 k_ e_.symm).1) hs_)); have n5_ := Aside0.mk (hb); clear BK138; clear BK139; clear BK140; clear HK; clear HB; clear HO0_2; have BK138 := n0_; have BK139 := n1_; have BK140 := n2_; have HO145 := n3_; have HK := n4_; have HB := n5_; clear n0_ n1_ n2_ n3_ n4_ n5_; (try clear hb); (try clear hkp); (try clear ho0); have hcz15_0 : w14.cell? ⟨gb138, 0, none⟩ = some (.int .i64 a0_0) := (blk_cell BK138.out 0).trans rfl; have hcz15_1 : w14.cell? ⟨gb138, 1, none⟩ = some (.int .i64 a0_1) := (blk_cell BK138.out 1).trans rfl; have hcz15_2 : w14.cell? ⟨gb138, 2, none⟩ = some (.slice Ao5 l0_2.length co5) := (blk_cell BK138.out 2).trans rfl; have hcz15_3 : w14.cell? ⟨gb138, 3, none⟩ = some (.int .i64 a0_3) := (blk_cell BK138.out 3).trans rfl; have hcz15_4 : w14.cell? ⟨gb138, 4, none⟩ = some (.int .i64 a0_4) := (blk_cell BK138.out 4).trans rfl; have hcz15_5 : w14.cell? ⟨gb138, 5, none⟩ = some (.int .u8 a0_5) := (blk_cell BK138.out 5).trans rfl; have hcz15_6 : w14.cell? ⟨gb138, 6, none⟩ = some (.int .u8 a0_6) := (blk_cell BK138.out 6).trans rfl; have hcz15_7 : w14.cell? ⟨gb138, 7, none⟩ = some (.bool a0_7) := (blk_cell BK138.out 7).trans rfl; have hfz15_0 := blk_frozen BK138.out 0; have hfz15_1 := blk_frozen BK138.out 1; have hfz15_2 := blk_frozen BK138.out 2; have hfz15_3 := blk_frozen BK138.out 3; have hfz15_4 := blk_frozen BK138.out 4; have hfz15_5 := blk_frozen BK138.out 5; have hfz15_6 := blk_frozen BK138.out 6; have hfz15_7 := blk_frozen BK138.out 7; obtain ⟨Ao16, co16, eo16⟩ := Kd.R_slice HO145.out; subst eo16; have hcz17_0 : w14.cell? ⟨gb140, 0, none⟩ = some (.int .i64 0) := (blk_cell BK140.out 0).trans rfl; have hcz17_1 : w14.cell? ⟨gb140, 1, none⟩ = some (.int .i64 0) := (blk_cell BK140.out 1).trans rfl; have hcz17_2 : w14.cell? ⟨gb140, 2, none⟩ = some (.slice none 0 0) := (blk_cell BK140.out 2).trans rfl; have hcz17_3 : w14.cell? ⟨gb140, 3, none⟩ = some (.int .i64 0) := (blk_cell BK140.out 3).trans rfl; have hcz17_4 : w14.cell? ⟨gb140, 4, none⟩ = some (.int .i64 0) := (blk_cell BK140.out 4).trans rfl; have hcz17_5 : w14.cell? ⟨gb140, 5, none⟩ = some (.int .u8 0) := (blk_cell BK140.out 5).trans rfl; have hcz17_6 : w14.cell? ⟨gb140, 6, none⟩ = some (.int .u8 0) := (blk_cell BK140.out 6).trans rfl; have hcz17_7 : w14.cell? ⟨gb140, 7, none⟩ = some (.bool false) := (blk_cell BK140.out 7).trans rfl; have hfz17_0 := blk_frozen BK140.out 0; have hfz17_1 := blk_frozen BK140.out 1; have hfz17_2 := blk_frozen BK140.out 2; have hfz17_3 := blk_frozen BK140.out 3; have hfz17_4 := blk_frozen BK140.out 4; have hfz17_5 := blk_frozen BK140.out 5; have hfz17_6 := blk_frozen BK140.out 6; have hfz17_7 := blk_frozen BK140.out 7))
    refine bodyPost_ret (results_cell_row rfl _ _ gb140 111 #[.int .i64 t141, .int .i64 t142, .slice Ao16 t143.length co16, .int .i64 t146, .int .i64 (Int.tmod (wrap64 (a0_4 + 1)) (t143.length : Int)), .int .u8 a0_5, .int .u8 a0_6, .bool a0_7] (0, 0) _ rfl (by (with_reducible repeat (first | refine blk_drewN ?_ _ | refine blk_drew ?_ | refine blk_alloc ?_ _)); refine blk_put (cs := #[.int .i64 t141, .int .i64 t142, .slice Ao16 t143.length co16, .int .i64 t146, .int .i64 (Int.tmod (wrap64 (a0_4 + 1)) (t143.length : Int)), .int .u8 a0_5, .int .u8 a0_6, .bool false]) ?_ 7 _ rfl; (with_reducible repeat (first | refine blk_drewN ?_ _ | refine blk_drew ?_ | refine blk_alloc ?_ _)); refine blk_put (cs := #[.int .i64 t141, .int .i64 t142, .slice Ao16 t143.length co16, .int .i64 t146, .int .i64 (Int.tmod (wrap64 (a0_4 + 1)) (t143.length : Int)), .int .u8 a0_5, .int .u8 0, .bool false]) ?_ 6 _ rfl; (with_reducible repeat (first | refine blk_drewN ?_ _ | refine blk_drew ?_ | refine blk_alloc ?_ _)); refine blk_put (cs := #[.int .i64 t141, .int .i64 t142, .slice Ao16 t143.length co16, .int .i64 t146, .int .i64 (Int.tmod (wrap64 (a0_4 + 1)) (t143.length : Int)), .int .u8 0, .int .u8 0, .bool false]) ?_ 5 _ rfl; (with_reducible repeat (first | refine blk_drewN ?_ _ | refine blk_drew ?_ | refine blk_alloc ?_ _)); refine blk_put (cs := #[.int .i64 t141, .int .i64 t142, .slice Ao16 t143.length co16, .int .i64 t146, .int .i64 0, .int .u8 0, .int .u8 0, .bool false]) ?_ 4 _ rfl; (with_reducible repeat (first | refine blk_drewN ?_ _ | refine blk_drew ?_ | refine blk_alloc ?_ _)); refine blk_put (cs := #[.int .i64 t141, .int .i64 t142, .slice Ao16 t143.length co16, .int .i64 0, .int .i64 0, .int .u8 0, .int .u8 0, .bool false]) ?_ 3 _ rfl; (with_reducible repeat (first | refine blk_drewN ?_ _ | refine blk_drew ?_ | refine blk_alloc ?_ _)); refine blk_put (cs := #[.int .i64 t141, .int .i64 t142, .slice none 0 0, .int .i64 0, .int .i64 0, .int .u8 0, .int .u8 0, .bool false]) ?_ 2 _ rfl; (with_reducible repeat (first | refine blk_drewN ?_ _ | refine blk_drew ?_ | refine blk_alloc ?_ _)); refine blk_put (cs := #[.int .i64 t141, .int .i64 0, .slice none 0 0, .int .i64 0, .int .i64 0, .int .u8 0, .int .u8 0, .bool false]) ?_ 1 _ rfl; (with_reducible repeat (first | refine blk_drewN ?_ _ | refine blk_drew ?_ | refine blk_alloc ?_ _)); refine blk_put (cs := #[.int .i64 0, .int .i64 0, .slice none 0 0, .int .i64 0, .int .i64 0, .int .u8 0, .int .u8 0, .bool false]) ?_ 0 _ rfl; (with_reducible repeat (first | refine blk_drewN ?_ _ | refine blk_drew ?_ | refine blk_alloc ?_ _)); refine blk_far ?_ NB140_138.out _; (with_reducible repeat (first | refine blk_drewN ?_ _ | refine blk_drew ?_ | refine blk_alloc ?_ _)); refine blk_far ?_ NB140_138.out _; (with_reducible repeat (first | refine blk_drewN ?_ _ | refine blk_drew ?_ | refine blk_alloc ?_ _)); refine blk_far ?_ NB140_138.out _; (with_reducible repeat (first | refine blk_drewN ?_ _ | refine blk_drew ?_ | refine blk_alloc ?_ _)); refine blk_far ?_ NB140_138.out _; (with_reducible repeat (first | refine blk_drewN ?_ _ | refine blk_drew ?_ | refine blk_alloc ?_ _)); refine blk_far ?_ NB140_138.out _; (with_reducible repeat (first | refine blk_drewN ?_ _ | refine blk_drew ?_ | refine blk_alloc ?_ _)); exact BK140.out) Try.underlying111 rfl (by kernel_rfl)) rfl ?_
    exact ⟨_, by first | rfl | (simp [errW_none, errW_some] <;> rfl) | (simp [*, errW_none, errW_some] <;> rfl), by (with_reducible repeat (first | apply Kd.R_alloc | apply Kd.R_drewN | apply Kd.R_drew)); exact Kd.R_mono (Kd.R_far (p := ⟨gb140, 7, none⟩) (Kd.R_far (p := ⟨gb140, 6, none⟩) (Kd.R_far (p := ⟨gb140, 5, none⟩) (Kd.R_far (p := ⟨gb140, 4, none⟩) (Kd.R_far (p := ⟨gb140, 3, none⟩) (Kd.R_far (p := ⟨gb140, 2, none⟩) (Kd.R_far (p := ⟨gb140, 1, none⟩) (Kd.R_far (p := ⟨gb140, 0, none⟩) (Kd.R_far (p := ⟨gb138, 4, none⟩) (Kd.R_far (p := ⟨gb138, 3, none⟩) (Kd.R_far (p := ⟨gb138, 2, none⟩) (Kd.R_far (p := ⟨gb138, 1, none⟩) (Kd.R_far (p := ⟨gb138, 0, none⟩) (Kd.R_types (Kd.R_types HO145.out BK138.out (by decide)) BK140.out (by decide)) (fun _ hk => hk.1.2) (.int .i64 t141)) (fun _ hk => hk.1.2) (.int .i64 t142)) (fun _ hk => hk.1.2) (.slice Ao16 t143.length co16)) (fun _ hk => hk.1.2) (.int .i64 t146)) (fun _ hk => hk.1.2) (.int .i64 (Int.tmod (wrap64 (a0_4 + 1)) (t143.length : Int)))) (fun _ hk => hk.2) (.int .i64 t141)) (fun _ hk => hk.2) (.int .i64 t142)) (fun _ hk => hk.2) (.slice Ao16 t143.length co16)) (fun _ hk => hk.2) (.int .i64 t146)) (fun _ hk => hk.2) (.int .i64 (Int.tmod (wrap64 (a0_4 + 1)) (t143.length : Int)))) (fun _ hk => hk.2) (.int .u8 a0_5)) (fun _ hk => hk.2) (.int .u8 a0_6)) (fun _ hk => hk.2) (.bool a0_7)) (fun _ hk => hk.1.1.1), by repeat (first | (with_reducible first | exact HB.out | apply below_alloc | apply pw_below_drewN | apply below_drew1 | refine below_set ?_ GE138.out | refine below_set ?_ GE139.out | refine below_set ?_ GE140.out) | exact HB.out), by repeat (first | (with_reducible first | exact HK.out | apply Kept.alloc | apply Kept.drewN | apply Kept.drew | refine Kept.setCell ?_ (.inr GW138.out) _ | refine Kept.setCell ?_ (.inr GW139.out) _ | refine Kept.setCell ?_ (.inr GW140.out) _) | exact HK.out)⟩

/-! ### greenscreenref16_char: function 103 -/
def greenscreenref16_char.f (a0_0 : Int) (a0_1 : Int) (l0_2 : List (S38)) (a0_3 : Int) (a0_4 : Int) (a0_5 : Int) (a0_6 : Int) (a0_7 : Bool) (a1 : Int) (a2 : Bool) : Option (Int × Bool × Bool × Int × Int) := some (a1, a2, false, a0_5, a0_6)
set_option maxHeartbeats 8000000 in
set_option maxRecDepth 100000 in
theorem greenscreenref16_char.calls (a0_0 : Int) (a0_1 : Int) (A0_2 : Option Addr) (c0_2 : Nat) (l0_2 : List (S38)) (a0_3 : Int) (a0_4 : Int) (a0_5 : Int) (a0_6 : Int) (a0_7 : Bool) (a1 : Int) (a2 : Bool) (r1 : Int) (r2 : Bool) (r3 : Bool) (r4 : Int) (r5 : Int) (w : World) (hr0_2 : Kd.C k38 w A0_2 l0_2.length l0_2) (hc0_2 : l0_2.length ≤ c0_2) (h : greenscreenref16_char.f a0_0 a0_1 l0_2 a0_3 a0_4 a0_5 a0_6 a0_7 a1 a2 = some (r1, r2, r3, r4, r5)) :
    Calls Try.prog 103 #[.agg #[.int .i64 a0_0, .int .i64 a0_1, .slice A0_2 l0_2.length c0_2, .int .i64 a0_3, .int .i64 a0_4, .int .u8 a0_5, .int .u8 a0_6, .bool a0_7], .int .u8 a1, .bool a2] w fun e w' => e = .returned (.agg #[.int .u8 r1, .bool r2, .bool r3, .int .u8 r4, .int .u8 r5]) ∧ Below w.heap.size w w' := by
  have hu111 := Try.underlying111
  have hu38 := Try.underlying38
  have HR0_2 := Aside0.mk hr0_2
  have HC0_2 := Aside0.mk hc0_2
  clear hr0_2 hc0_2
  have HB := Aside0.mk (Below.refl w.heap.size w)
  have H : (some (a1, a2, false, a0_5, a0_6)) = some (r1, r2, r3, r4, r5) := h
  clear h
  simp only [Option.some.injEq, Prod.mk.injEq] at H
  obtain ⟨rfl, rfl, rfl, rfl, rfl⟩ := H
  go_enter Try.func103, Try.ntmps103
  go_wp2_with (first | ((with_reducible refine gate_dst (N := 3) rfl ?_); refine box_event ?hg (N := 3) ?hd (cs := #[.int .i64 a0_0, .int .i64 a0_1, .slice A0_2 l0_2.length c0_2, .int .i64 a0_3, .int .i64 a0_4, .int .u8 a0_5, .int .u8 a0_6, .bool a0_7]) (t := 111) ?hr ?_; (case hd => rfl); (case hg => rfl); (case hr => first | (go_simp; done) | (go_simp; rfl)); intro gb147 hg w4 hbox hb; have n0_ := Aside0.mk (below_step (by repeat (first | (with_reducible first | exact HB.out | apply below_alloc | apply pw_below_drewN | apply below_drew1) | exact HB.out)) hb); have n1_ := Aside0.mk (hbox); have n2_ := Aside0.mk ((by rw [hg]; exact (below_size (by repeat (first | (with_reducible first | exact HB.out | apply below_alloc | apply pw_below_drewN | apply below_drew1) | exact HB.out))) : w.heap.size ≤ gb147)); have n3_ := Aside0.mk ((by rw [hg]; exact (below_size (by repeat (first | (with_reducible first | exact HB.out | apply below_alloc | apply pw_below_drewN | apply below_drew1) | exact HB.out))) : w.heap.size ≤ gb147)); clear HB; have HB := n0_; have BK147 := n1_; have GW147 := n2_; have GE147 := n3_; clear n0_ n1_ n2_ n3_; clear hb hbox hg) | ((with_reducible refine gate_dst (N := 6) rfl ?_); refine box_event ?hg (N := 6) ?hd (cs := #[.int .u8 0, .bool false, .bool false, .int .u8 0, .int .u8 0]) (t := 38) ?hr ?_; (case hd => rfl); (case hg => rfl); (case hr => first | (go_simp; done) | (go_simp; rfl)); intro gb148 hg w5 hbox hb; have n0_ := Aside0.mk (blk_below (g := gb147) (o := .cells #[.int .i64 a0_0, .int .i64 a0_1, .slice A0_2 l0_2.length c0_2, .int .i64 a0_3, .int .i64 a0_4, .int .u8 a0_5, .int .u8 a0_6, .bool a0_7] 111 (0, 0)) (by (with_reducible repeat (first | refine blk_drewN ?_ _ | refine blk_drew ?_ | refine blk_alloc ?_ _)); exact BK147.out) hb); have n1_ := Aside0.mk (below_step (by repeat (first | (with_reducible first | exact HB.out | apply below_alloc | apply pw_below_drewN | apply below_drew1 | refine below_set ?_ GE147.out) | exact HB.out)) hb); have n2_ := Aside0.mk (hbox); have n3_ := Aside0.mk ((by rw [hg]; exact (below_size (by repeat (first | (with_reducible first | exact HB.out | apply below_alloc | apply pw_below_drewN | apply below_drew1 | refine below_set ?_ GE147.out) | exact HB.out))) : w.heap.size ≤ gb148)); have n4_ := Aside0.mk ((by rw [hg]; exact (below_size (by repeat (first | (with_reducible first | exact HB.out | apply below_alloc | apply pw_below_drewN | apply below_drew1 | refine below_set ?_ GE147.out) | exact HB.out))) : w.heap.size ≤ gb148)); have n5_ := Aside0.mk ((by rw [hg]; exact Nat.ne_of_lt (blk_lt (g := gb147) (o := .cells #[.int .i64 a0_0, .int .i64 a0_1, .slice A0_2 l0_2.length c0_2, .int .i64 a0_3, .int .i64 a0_4, .int .u8 a0_5, .int .u8 a0_6, .bool a0_7] 111 (0, 0)) (by (with_reducible repeat (first | refine blk_drewN ?_ _ | refine blk_drew ?_ | refine blk_alloc ?_ _)); exact BK147.out)) : gb147 ≠ gb148)); have n6_ := Aside0.mk ((by rw [hg]; exact Nat.ne_of_gt (blk_lt (g := gb147) (o := .cells #[.int .i64 a0_0, .int .i64 a0_1, .slice A0_2 l0_2.length c0_2, .int .i64 a0_3, .int .i64 a0_4, .int .u8 a0_5, .int .u8 a0_6, .bool a0_7] 111 (0, 0)) (by (with_reducible repeat (first | refine blk_drewN ?_ _ | refine blk_drew ?_ | refine blk_alloc ?_ _)); exact BK147.out)) : gb148 ≠ gb147)); clear BK147; clear HB; have BK147 := n0_; have HB := n1_; have BK148 := n2_; have GW148 := n3_; have GE148 := n4_; have NB147_148 := n5_; have NB148_147 := n6_; clear n0_ n1_ n2_ n3_ n4_ n5_ n6_; clear hb hbox hg; have hnb6 := NB147_148.out; have hnc6 := NB148_147.out; have hcz7_0 : w5.cell? ⟨gb147, 0, none⟩ = some (.int .i64 a0_0) := (blk_cell BK147.out 0).trans rfl; have hcz7_1 : w5.cell? ⟨gb147, 1, none⟩ = some (.int .i64 a0_1) := (blk_cell BK147.out 1).trans rfl; have hcz7_2 : w5.cell? ⟨gb147, 2, none⟩ = some (.slice A0_2 l0_2.length c0_2) := (blk_cell BK147.out 2).trans rfl; have hcz7_3 : w5.cell? ⟨gb147, 3, none⟩ = some (.int .i64 a0_3) := (blk_cell BK147.out 3).trans rfl; have hcz7_4 : w5.cell? ⟨gb147, 4, none⟩ = some (.int .i64 a0_4) := (blk_cell BK147.out 4).trans rfl; have hcz7_5 : w5.cell? ⟨gb147, 5, none⟩ = some (.int .u8 a0_5) := (blk_cell BK147.out 5).trans rfl; have hcz7_6 : w5.cell? ⟨gb147, 6, none⟩ = some (.int .u8 a0_6) := (blk_cell BK147.out 6).trans rfl; have hcz7_7 : w5.cell? ⟨gb147, 7, none⟩ = some (.bool a0_7) := (blk_cell BK147.out 7).trans rfl; have hfz7_0 := blk_frozen BK147.out 0; have hfz7_1 := blk_frozen BK147.out 1; have hfz7_2 := blk_frozen BK147.out 2; have hfz7_3 := blk_frozen BK147.out 3; have hfz7_4 := blk_frozen BK147.out 4; have hfz7_5 := blk_frozen BK147.out 5; have hfz7_6 := blk_frozen BK147.out 6; have hfz7_7 := blk_frozen BK147.out 7; have hcz8_0 : w5.cell? ⟨gb148, 0, none⟩ = some (.int .u8 0) := (blk_cell BK148.out 0).trans rfl; have hcz8_1 : w5.cell? ⟨gb148, 1, none⟩ = some (.bool false) := (blk_cell BK148.out 1).trans rfl; have hcz8_2 : w5.cell? ⟨gb148, 2, none⟩ = some (.bool false) := (blk_cell BK148.out 2).trans rfl; have hcz8_3 : w5.cell? ⟨gb148, 3, none⟩ = some (.int .u8 0) := (blk_cell BK148.out 3).trans rfl; have hcz8_4 : w5.cell? ⟨gb148, 4, none⟩ = some (.int .u8 0) := (blk_cell BK148.out 4).trans rfl; have hfz8_0 := blk_frozen BK148.out 0; have hfz8_1 := blk_frozen BK148.out 1; have hfz8_2 := blk_frozen BK148.out 2; have hfz8_3 := blk_frozen BK148.out 3; have hfz8_4 := blk_frozen BK148.out 4))
  refine bodyPost_ret (results_cell_row rfl _ _ gb148 38 #[.int .u8 a1, .bool a2, .bool false, .int .u8 a0_5, .int .u8 a0_6] (0, 0) _ rfl (by (with_reducible repeat (first | refine blk_drewN ?_ _ | refine blk_drew ?_ | refine blk_alloc ?_ _)); refine blk_put (cs := #[.int .u8 a1, .bool a2, .bool false, .int .u8 a0_5, .int .u8 0]) ?_ 4 _ rfl; (with_reducible repeat (first | refine blk_drewN ?_ _ | refine blk_drew ?_ | refine blk_alloc ?_ _)); refine blk_put (cs := #[.int .u8 a1, .bool a2, .bool false, .int .u8 0, .int .u8 0]) ?_ 3 _ rfl; (with_reducible repeat (first | refine blk_drewN ?_ _ | refine blk_drew ?_ | refine blk_alloc ?_ _)); refine blk_put (cs := #[.int .u8 a1, .bool a2, .bool false, .int .u8 0, .int .u8 0]) ?_ 2 _ rfl; (with_reducible repeat (first | refine blk_drewN ?_ _ | refine blk_drew ?_ | refine blk_alloc ?_ _)); refine blk_put (cs := #[.int .u8 a1, .bool false, .bool false, .int .u8 0, .int .u8 0]) ?_ 1 _ rfl; (with_reducible repeat (first | refine blk_drewN ?_ _ | refine blk_drew ?_ | refine blk_alloc ?_ _)); refine blk_put (cs := #[.int .u8 0, .bool false, .bool false, .int .u8 0, .int .u8 0]) ?_ 0 _ rfl; (with_reducible repeat (first | refine blk_drewN ?_ _ | refine blk_drew ?_ | refine blk_alloc ?_ _)); exact BK148.out) Try.underlying38 rfl (by kernel_rfl)) rfl ?_
  exact ⟨by first | rfl | (simp [errW_none, errW_some] <;> rfl) | (simp [*, errW_none, errW_some] <;> rfl), by repeat (first | (with_reducible first | exact HB.out | apply below_alloc | apply pw_below_drewN | apply below_drew1 | refine below_set ?_ GE147.out | refine below_set ?_ GE148.out) | exact HB.out)⟩

end Go.Proofs.Ytmcfckdgolojlaa.PPaintPlays
-- PRINTED BY print.sh 35421559b90ae4d0a3588c463048766b98c2df88dd9212a6774a882060cdf62d: not written by this session
namespace Go.Proofs.Ytmcfckdgolojlaa.PPaintPlays
open Go.RowKit Go.Proofs.YtmcfckdgolojlaaW.PrintWords Go.Proofs.YtmcfckdgolojlaaW.PrintLast Go.Proofs.YtmcfckdgolojlaaW.PrintMore
attribute [local go_sem] max2_int min2_int max_two min_two max_three min_three max_four min_four   -- for this text's walks alone
set_option linter.unusedVariables false
set_option linter.unusedSimpArgs false

/-! ### greenscreenref11_Dress: function 104 -/
mutual
def greenscreenref11_Dress.l0 : Nat → List (S131) → Int → Int → Bool → Bool → Int → Int → Option (Int × Bool × Bool × Int × Int)
  | 0, _, _, _, _, _, _, _ => none
  | k + 1, x1, x5, x150000, x150001, x150002, x150003, x150004 => if x5 < (x1.length : Int) then (if 0 ≤ x5 then (if ((rd_T131 x1 x5).f0) = 192 then (greenscreenref11_Dress.j1 k x1 x5 (Int.tmod ((rd_T131 x1 x5).f1) 64) x150001 x150002 x150003 x150004) else (greenscreenref11_Dress.j1 k x1 x5 x150000 x150001 x150002 x150003 x150004)) else (none)) else (some (x150000, x150001, x150002, x150003, x150004))
def greenscreenref11_Dress.j1 : Nat → List (S131) → Int → Int → Bool → Bool → Int → Int → Option (Int × Bool × Bool × Int × Int)
  | 0, _, _, _, _, _, _, _ => none
  | k + 1, x1, x5, x150000, x150001, x150002, x150003, x150004 => if 0 ≤ x5 then (if x5 < (x1.length : Int) then (if ((rd_T131 x1 x5).f0) = 65 then (greenscreenref11_Dress.j2 k x1 x5 x150000 x150001 x150002 ((rd_T131 x1 x5).f1) x150004) else (greenscreenref11_Dress.j2 k x1 x5 x150000 x150001 x150002 x150003 x150004)) else (none)) else (none)
def greenscreenref11_Dress.j2 : Nat → List (S131) → Int → Int → Bool → Bool → Int → Int → Option (Int × Bool × Bool × Int × Int)
  | 0, _, _, _, _, _, _, _ => none
  | k + 1, x1, x5, x150000, x150001, x150002, x150003, x150004 => if 0 ≤ x5 then (if x5 < (x1.length : Int) then (if ((rd_T131 x1 x5).f0) = 66 then (if ((rd_T131 x1 x5).f0) = 0 then (greenscreenref11_Dress.l0 k x1 (wrap64 (x5 + 1)) x150000 x150001 x150002 0 0) else (greenscreenref11_Dress.l0 k x1 (wrap64 (x5 + 1)) x150000 x150001 x150002 x150003 ((rd_T131 x1 x5).f1))) else (if ((rd_T131 x1 x5).f0) = 0 then (greenscreenref11_Dress.l0 k x1 (wrap64 (x5 + 1)) x150000 x150001 x150002 0 0) else (greenscreenref11_Dress.l0 k x1 (wrap64 (x5 + 1)) x150000 x150001 x150002 x150003 x150004))) else (none)) else (none)
end
def greenscreenref11_Dress.f (k : Nat) (a0_0 : Int) (a0_1 : Bool) (a0_2 : Bool) (a0_3 : Int) (a0_4 : Int) (l1 : List (S131)) : Option (Int × Bool × Bool × Int × Int) := greenscreenref11_Dress.l0 k l1 0 a0_0 a0_1 a0_2 a0_3 a0_4
set_option maxHeartbeats 8000000 in
set_option maxRecDepth 100000 in
theorem greenscreenref11_Dress.calls (k : Nat) (a0_0 : Int) (a0_1 : Bool) (a0_2 : Bool) (a0_3 : Int) (a0_4 : Int) (A1 : Option Addr) (c1 : Nat) (l1 : List (S131)) (r1 : Int) (r2 : Bool) (r3 : Bool) (r4 : Int) (r5 : Int) (w : World) (hr1 : Kd.C k131 w A1 l1.length l1) (hc1 : l1.length ≤ c1) (h : greenscreenref11_Dress.f k a0_0 a0_1 a0_2 a0_3 a0_4 l1 = some (r1, r2, r3, r4, r5)) :
    Calls Try.prog 104 #[.agg #[.int .u8 a0_0, .bool a0_1, .bool a0_2, .int .u8 a0_3, .int .u8 a0_4], .slice A1 l1.length c1] w fun e w' => e = .returned (.agg #[.int .u8 r1, .bool r2, .bool r3, .int .u8 r4, .int .u8 r5]) ∧ Below w.heap.size w w' := by
  have hu38 := Try.underlying38
  have HR1 := Aside0.mk hr1
  have HC1 := Aside0.mk hc1
  clear hr1 hc1
  have HB := Aside0.mk (Below.refl w.heap.size w)
  have H : (greenscreenref11_Dress.l0 k l1 0 a0_0 a0_1 a0_2 a0_3 a0_4) = some (r1, r2, r3, r4, r5) := h
  clear h
  have H' := Aside0.mk H
  clear H
  go_enter Try.func104, Try.ntmps104
  go_wp2_with (first | ((with_reducible refine gate_dst (N := 2) rfl ?_); refine box_event ?hg (N := 2) ?hd (cs := #[.int .u8 a0_0, .bool a0_1, .bool a0_2, .int .u8 a0_3, .int .u8 a0_4]) (t := 38) ?hr ?_; (case hd => rfl); (case hg => rfl); (case hr => first | (go_simp; done) | (go_simp; rfl)); intro gb149 hg w3 hbox hb; have n0_ := Aside0.mk (below_step (by repeat (first | (with_reducible first | exact HB.out | apply below_alloc | apply pw_below_drewN | apply below_drew1) | exact HB.out)) hb); have n1_ := Aside0.mk (hbox); have n2_ := Aside0.mk ((by rw [hg]; exact (below_size (by repeat (first | (with_reducible first | exact HB.out | apply below_alloc | apply pw_below_drewN | apply below_drew1) | exact HB.out))) : w.heap.size ≤ gb149)); have n3_ := Aside0.mk ((by rw [hg]; exact (below_size (by repeat (first | (with_reducible first | exact HB.out | apply below_alloc | apply pw_below_drewN | apply below_drew1) | exact HB.out))) : w.heap.size ≤ gb149)); clear HB; have HB := n0_; have BK149 := n1_; have GW149 := n2_; have GE149 := n3_; clear n0_ n1_ n2_ n3_; clear hb hbox hg) | ((with_reducible refine gate_dst (N := 4) rfl ?_); refine box_event ?hg (N := 4) ?hd (cs := #[.int .u8 0, .bool false, .bool false, .int .u8 0, .int .u8 0]) (t := 38) ?hr ?_; (case hd => rfl); (case hg => rfl); (case hr => first | (go_simp; done) | (go_simp; rfl)); intro gb150 hg w4 hbox hb; have n0_ := Aside0.mk (blk_below (g := gb149) (o := .cells #[.int .u8 a0_0, .bool a0_1, .bool a0_2, .int .u8 a0_3, .int .u8 a0_4] 38 (0, 0)) (by (with_reducible repeat (first | refine blk_drewN ?_ _ | refine blk_drew ?_ | refine blk_alloc ?_ _)); exact BK149.out) hb); have n1_ := Aside0.mk (below_step (by repeat (first | (with_reducible first | exact HB.out | apply below_alloc | apply pw_below_drewN | apply below_drew1 | refine below_set ?_ GE149.out) | exact HB.out)) hb); have n2_ := Aside0.mk (hbox); have n3_ := Aside0.mk ((by rw [hg]; exact (below_size (by repeat (first | (with_reducible first | exact HB.out | apply below_alloc | apply pw_below_drewN | apply below_drew1 | refine below_set ?_ GE149.out) | exact HB.out))) : w.heap.size ≤ gb150)); have n4_ := Aside0.mk ((by rw [hg]; exact (below_size (by repeat (first | (with_reducible first | exact HB.out | apply below_alloc | apply pw_below_drewN | apply below_drew1 | refine below_set ?_ GE149.out) | exact HB.out))) : w.heap.size ≤ gb150)); have n5_ := Aside0.mk ((by rw [hg]; exact Nat.ne_of_lt (blk_lt (g := gb149) (o := .cells #[.int .u8 a0_0, .bool a0_1, .bool a0_2, .int .u8 a0_3, .int .u8 a0_4] 38 (0, 0)) (by (with_reducible repeat (first | refine blk_drewN ?_ _ | refine blk_drew ?_ | refine blk_alloc ?_ _)); exact BK149.out)) : gb149 ≠ gb150)); have n6_ := Aside0.mk ((by rw [hg]; exact Nat.ne_of_gt (blk_lt (g := gb149) (o := .cells #[.int .u8 a0_0, .bool a0_1, .bool a0_2, .int .u8 a0_3, .int .u8 a0_4] 38 (0, 0)) (by (with_reducible repeat (first | refine blk_drewN ?_ _ | refine blk_drew ?_ | refine blk_alloc ?_ _)); exact BK149.out)) : gb150 ≠ gb149)); clear BK149; clear HB; have BK149 := n0_; have HB := n1_; have BK150 := n2_; have GW150 := n3_; have GE150 := n4_; have NB149_150 := n5_; have NB150_149 := n6_; clear n0_ n1_ n2_ n3_ n4_ n5_ n6_; clear hb hbox hg))
  go_loopg [5] k (fun kq v5 w' => ∃ (x5_1 : Int) (x150000_1 : Int) (x150003_1 : Int) (x150004_1 : Int), v5 = .int .i64 x5_1 ∧ Aside0 (greenscreenref11_Dress.l0 kq l1 x5_1 x150000_1 a0_1 a0_2 x150003_1 x150004_1 = some (r1, r2, r3, r4, r5)) ∧ Aside0 (kq ≤ k) ∧ Aside0 (w'.heap[gb149]? = some (.cells #[.int .u8 x150000_1, .bool a0_1, .bool a0_2, .int .u8 x150003_1, .int .u8 x150004_1] 38 (0, 0))) ∧ Aside0 (w'.heap[gb150]? = some (.cells #[.int .u8 0, .bool false, .bool false, .int .u8 0, .int .u8 0] 38 (0, 0))) ∧ Aside0 (Below w.heap.size w w'))
  case atStart => exact ⟨(0), (a0_0), (a0_3), (a0_4), (by first | rfl | (simp; done) | (simp [*]; done)), H', ⟨Nat.le_refl _⟩, ⟨by (with_reducible repeat (first | refine blk_drewN ?_ _ | refine blk_drew ?_ | refine blk_alloc ?_ _)); exact BK149.out⟩, ⟨by (with_reducible repeat (first | refine blk_drewN ?_ _ | refine blk_drew ?_ | refine blk_alloc ?_ _)); exact BK150.out⟩, ⟨by repeat (first | (with_reducible first | exact HB.out | apply below_alloc | apply pw_below_drewN | apply below_drew1 | refine below_set ?_ GE149.out | refine below_set ?_ GE150.out) | exact HB.out)⟩⟩
  case round =>
    clear H'
    try clear c1
    try clear p2
    obtain ⟨x5_1, x150000_1, x150003_1, x150004_1, rfl, HA, HK1, BK149, BK150, HB⟩ := hrel
    cases gk with
    | zero => exact absurd HA.out (by simp [greenscreenref11_Dress.l0])
    | succ k1 =>
      have H := HA.out
      clear HA
      simp only [greenscreenref11_Dress.l0] at H
      by_cases c5 : x5_1 < (l1.length : Int)
      · rw [if_pos c5] at H
        have c5b0 : decide (x5_1 < (l1.length : Int)) = true := decide_eq_true c5
        clear c5
        by_cases c6 : 0 ≤ x5_1
        · rw [if_pos c6] at H
          have c6b0 : decide (0 ≤ x5_1) = true := decide_eq_true c6
          clear c6
          have HC7 := Aside0.mk H
          clear H
          have p151 : 0 ≤ (x5_1 : Int) := of_decide_eq_true (by first | (with_reducible assumption) | assumption)
          have q151 : x5_1 < (l1.length : Int) := of_decide_eq_true (by first | (with_reducible assumption) | assumption)
          obtain ⟨ad151, e151, hx151_0, hx151_1⟩ := at_T131 HR1.out x5_1 p151 q151
          cases e151
          replace hx151_0 := (HB.out.cell (World.block_lt_of_cell? w _ hx151_0)).trans hx151_0
          replace hx151_1 := (HB.out.cell (World.block_lt_of_cell? w _ hx151_1)).trans hx151_1
          replace p151 := eq_true p151
          replace q151 := eq_true q151
          go_upto_if 17 with (fail)
          go_cut [] (fun wc => ∃ (kq : Nat) (x150000_6 : Int), Aside0 (greenscreenref11_Dress.j1 kq l1 x5_1 x150000_6 a0_1 a0_2 x150003_1 x150004_1 = some (r1, r2, r3, r4, r5)) ∧ Aside0 (kq ≤ k1) ∧ Aside0 (wc.heap[gb149]? = some (.cells #[.int .u8 x150000_6, .bool a0_1, .bool a0_2, .int .u8 x150003_1, .int .u8 x150004_1] 38 (0, 0))) ∧ Aside0 (wc.heap[gb150]? = some (.cells #[.int .u8 0, .bool false, .bool false, .int .u8 0, .int .u8 0] 38 (0, 0))) ∧ Aside0 (Below w.heap.size w wc))
          case first =>
            have H := HC7.out
            clear HC7
            by_cases c8 : ((rd_T131 l1 x5_1).f0) = 192
            · rw [if_pos c8] at H
              have c8b0 : (((rd_T131 l1 x5_1).f0) == 192) = true := beq_iff_eq.mpr c8
              have c8b1 : (((rd_T131 l1 x5_1).f0) != 192) = false := bne_eq_false_iff_eq.mpr c8
              clear c8
              (first | rw [c8b0] | (simp only [i64_w, i32_w]; rw [c8b0]) | skip)
              have H' := Aside0.mk H
              clear H
              have p152 : 0 ≤ (x5_1 : Int) := of_decide_eq_true (by first | (with_reducible assumption) | assumption)
              have q152 : x5_1 < (l1.length : Int) := of_decide_eq_true (by first | (with_reducible assumption) | assumption)
              obtain ⟨ad152, e152, hx152_0, hx152_1⟩ := at_T131 HR1.out x5_1 p152 q152
              obtain rfl : ad151 = ad152 := (by injection e152)
              replace hx152_0 := (HB.out.cell (World.block_lt_of_cell? w _ hx152_0)).trans hx152_0
              replace hx152_1 := (HB.out.cell (World.block_lt_of_cell? w _ hx152_1)).trans hx152_1
              replace p152 := eq_true p152
              replace q152 := eq_true q152
              have hnb9 := NB149_150.out
              have hnc9 := NB150_149.out
              have hcz10_0 : wr.cell? ⟨gb149, 0, none⟩ = some (.int .u8 x150000_1) := (blk_cell BK149.out 0).trans rfl
              have hcz10_1 : wr.cell? ⟨gb149, 1, none⟩ = some (.bool a0_1) := (blk_cell BK149.out 1).trans rfl
              have hcz10_2 : wr.cell? ⟨gb149, 2, none⟩ = some (.bool a0_2) := (blk_cell BK149.out 2).trans rfl
              have hcz10_3 : wr.cell? ⟨gb149, 3, none⟩ = some (.int .u8 x150003_1) := (blk_cell BK149.out 3).trans rfl
              have hcz10_4 : wr.cell? ⟨gb149, 4, none⟩ = some (.int .u8 x150004_1) := (blk_cell BK149.out 4).trans rfl
              have hfz10_0 := blk_frozen BK149.out 0
              have hfz10_1 := blk_frozen BK149.out 1
              have hfz10_2 := blk_frozen BK149.out 2
              have hfz10_3 := blk_frozen BK149.out 3
              have hfz10_4 := blk_frozen BK149.out 4
              go_wp2
              go_meet
              case rel => exact ⟨_, (Int.tmod ((rd_T131 l1 x5_1).f1) 64), H', ⟨by have := HK1.out; first | omega | exact Nat.le_refl _⟩, ⟨by (with_reducible repeat (first | refine blk_drewN ?_ _ | refine blk_drew ?_ | refine blk_alloc ?_ _)); refine blk_put (cs := #[.int .u8 x150000_1, .bool a0_1, .bool a0_2, .int .u8 x150003_1, .int .u8 x150004_1]) ?_ 0 _ rfl; (with_reducible repeat (first | refine blk_drewN ?_ _ | refine blk_drew ?_ | refine blk_alloc ?_ _)); exact BK149.out⟩, ⟨by (with_reducible repeat (first | refine blk_drewN ?_ _ | refine blk_drew ?_ | refine blk_alloc ?_ _)); refine blk_far ?_ NB150_149.out _; (with_reducible repeat (first | refine blk_drewN ?_ _ | refine blk_drew ?_ | refine blk_alloc ?_ _)); exact BK150.out⟩, ⟨by repeat (first | (with_reducible first | exact HB.out | apply below_alloc | apply pw_below_drewN | apply below_drew1 | refine below_set ?_ GE149.out | refine below_set ?_ GE150.out) | exact HB.out)⟩⟩
            · rw [if_neg c8] at H
              have c8b0 : (((rd_T131 l1 x5_1).f0) == 192) = false := beq_eq_false_iff_ne.mpr c8
              have c8b1 : (((rd_T131 l1 x5_1).f0) != 192) = true := bne_iff_ne.mpr c8
              (first | rw [c8b0] | (simp only [i64_w, i32_w]; rw [c8b0]) | skip)
              have H' := Aside0.mk H
              clear H
              go_wp2
              go_meet
              case rel => exact ⟨_, (x150000_1), H', ⟨by have := HK1.out; first | omega | exact Nat.le_refl _⟩, ⟨by (with_reducible repeat (first | refine blk_drewN ?_ _ | refine blk_drew ?_ | refine blk_alloc ?_ _)); exact BK149.out⟩, ⟨by (with_reducible repeat (first | refine blk_drewN ?_ _ | refine blk_drew ?_ | refine blk_alloc ?_ _)); exact BK150.out⟩, ⟨by repeat (first | (with_reducible first | exact HB.out | apply below_alloc | apply pw_below_drewN | apply below_drew1 | refine below_set ?_ GE149.out | refine below_set ?_ GE150.out) | exact HB.out)⟩⟩
          case rest =>
            clear HC7
            try clear c1
            try clear p1
            try clear q1
            try clear hx1
            try clear p2
            try clear c5
            try clear c5b0
            try clear c6
            try clear c6b0
            try clear c8
            try clear c8b0
            try clear c8b1
            try clear c9
            try clear c10
            try clear hcz10_0
            try clear hcz10_1
            try clear hcz10_2
            try clear hcz10_3
            try clear hcz10_4
            try clear hfz10_0
            try clear hfz10_1
            try clear hfz10_2
            try clear hfz10_3
            try clear hfz10_4
            try clear hx151_0
            try clear hx151_1
            try clear hx152_0
            try clear hx152_1
            try clear p151
            try clear p152
            try clear p2
            try clear q151
            try clear q152
            obtain ⟨kq, x150000_6, HA, HJ6, BK149, BK150, HB⟩ := hcut
            cases kq with
            | zero => exact absurd HA.out (by simp [greenscreenref11_Dress.j1])
            | succ kj6 =>
              have H := HA.out
              clear HA
              simp only [greenscreenref11_Dress.j1] at H
              by_cases c11 : 0 ≤ x5_1
              · rw [if_pos c11] at H
                have c11b0 : decide (0 ≤ x5_1) = true := decide_eq_true c11
                clear c11
                by_cases c12 : x5_1 < (l1.length : Int)
                · rw [if_pos c12] at H
                  have c12b0 : decide (x5_1 < (l1.length : Int)) = true := decide_eq_true c12
                  clear c12
                  have HC13 := Aside0.mk H
                  clear H
                  have p153 : 0 ≤ (x5_1 : Int) := of_decide_eq_true (by first | (with_reducible assumption) | assumption)
                  have q153 : x5_1 < (l1.length : Int) := of_decide_eq_true (by first | (with_reducible assumption) | assumption)
                  obtain ⟨ad153, e153, hx153_0, hx153_1⟩ := at_T131 HR1.out x5_1 p153 q153
                  obtain rfl : ad151 = ad153 := (by injection e153)
                  replace hx153_0 := (HB.out.cell (World.block_lt_of_cell? w _ hx153_0)).trans hx153_0
                  replace hx153_1 := (HB.out.cell (World.block_lt_of_cell? w _ hx153_1)).trans hx153_1
                  replace p153 := eq_true p153
                  replace q153 := eq_true q153
                  go_upto_if 30 with (fail)
                  go_cut [] (fun wc => ∃ (kq : Nat) (x150003_12 : Int), Aside0 (greenscreenref11_Dress.j2 kq l1 x5_1 x150000_6 a0_1 a0_2 x150003_12 x150004_1 = some (r1, r2, r3, r4, r5)) ∧ Aside0 (kq ≤ kj6) ∧ Aside0 (wc.heap[gb149]? = some (.cells #[.int .u8 x150000_6, .bool a0_1, .bool a0_2, .int .u8 x150003_12, .int .u8 x150004_1] 38 (0, 0))) ∧ Aside0 (wc.heap[gb150]? = some (.cells #[.int .u8 0, .bool false, .bool false, .int .u8 0, .int .u8 0] 38 (0, 0))) ∧ Aside0 (Below w.heap.size w wc))
                  case first =>
                    have H := HC13.out
                    clear HC13
                    by_cases c14 : ((rd_T131 l1 x5_1).f0) = 65
                    · rw [if_pos c14] at H
                      have c14b0 : (((rd_T131 l1 x5_1).f0) == 65) = true := beq_iff_eq.mpr c14
                      have c14b1 : (((rd_T131 l1 x5_1).f0) != 65) = false := bne_eq_false_iff_eq.mpr c14
                      clear c14
                      (first | rw [c14b0] | (simp only [i64_w, i32_w]; rw [c14b0]) | skip)
                      have H' := Aside0.mk H
                      clear H
                      have p154 : 0 ≤ (x5_1 : Int) := of_decide_eq_true (by first | (with_reducible assumption) | assumption)
                      have q154 : x5_1 < (l1.length : Int) := of_decide_eq_true (by first | (with_reducible assumption) | assumption)
                      obtain ⟨ad154, e154, hx154_0, hx154_1⟩ := at_T131 HR1.out x5_1 p154 q154
                      obtain rfl : ad151 = ad154 := (by injection e154)
                      replace hx154_0 := (HB.out.cell (World.block_lt_of_cell? w _ hx154_0)).trans hx154_0
                      replace hx154_1 := (HB.out.cell (World.block_lt_of_cell? w _ hx154_1)).trans hx154_1
                      replace p154 := eq_true p154
                      replace q154 := eq_true q154
                      have hnb15 := NB149_150.out
                      have hnc15 := NB150_149.out
                      have hcz16_0 : wc.cell? ⟨gb149, 0, none⟩ = some (.int .u8 x150000_6) := (blk_cell BK149.out 0).trans rfl
                      have hcz16_1 : wc.cell? ⟨gb149, 1, none⟩ = some (.bool a0_1) := (blk_cell BK149.out 1).trans rfl
                      have hcz16_2 : wc.cell? ⟨gb149, 2, none⟩ = some (.bool a0_2) := (blk_cell BK149.out 2).trans rfl
                      have hcz16_3 : wc.cell? ⟨gb149, 3, none⟩ = some (.int .u8 x150003_1) := (blk_cell BK149.out 3).trans rfl
                      have hcz16_4 : wc.cell? ⟨gb149, 4, none⟩ = some (.int .u8 x150004_1) := (blk_cell BK149.out 4).trans rfl
                      have hfz16_0 := blk_frozen BK149.out 0
                      have hfz16_1 := blk_frozen BK149.out 1
                      have hfz16_2 := blk_frozen BK149.out 2
                      have hfz16_3 := blk_frozen BK149.out 3
                      have hfz16_4 := blk_frozen BK149.out 4
                      go_wp2
                      go_meet
                      case rel => exact ⟨_, ((rd_T131 l1 x5_1).f1), H', ⟨by have := HK1.out; have := HJ6.out; first | omega | exact Nat.le_refl _⟩, ⟨by (with_reducible repeat (first | refine blk_drewN ?_ _ | refine blk_drew ?_ | refine blk_alloc ?_ _)); refine blk_put (cs := #[.int .u8 x150000_6, .bool a0_1, .bool a0_2, .int .u8 x150003_1, .int .u8 x150004_1]) ?_ 3 _ rfl; (with_reducible repeat (first | refine blk_drewN ?_ _ | refine blk_drew ?_ | refine blk_alloc ?_ _)); exact BK149.out⟩, ⟨by (with_reducible repeat (first | refine blk_drewN ?_ _ | refine blk_drew ?_ | refine blk_alloc ?_ _)); refine blk_far ?_ NB150_149.out _; (with_reducible repeat (first | refine blk_drewN ?_ _ | refine blk_drew ?_ | refine blk_alloc ?_ _)); exact BK150.out⟩, ⟨by repeat (first | (with_reducible first | exact HB.out | apply below_alloc | apply pw_below_drewN | apply below_drew1 | refine below_set ?_ GE149.out | refine below_set ?_ GE150.out) | exact HB.out)⟩⟩
                    · rw [if_neg c14] at H
                      have c14b0 : (((rd_T131 l1 x5_1).f0) == 65) = false := beq_eq_false_iff_ne.mpr c14
                      have c14b1 : (((rd_T131 l1 x5_1).f0) != 65) = true := bne_iff_ne.mpr c14
                      (first | rw [c14b0] | (simp only [i64_w, i32_w]; rw [c14b0]) | skip)
                      have H' := Aside0.mk H
                      clear H
                      go_wp2
                      go_meet
                      case rel => exact ⟨_, (x150003_1), H', ⟨by have := HK1.out; have := HJ6.out; first | omega | exact Nat.le_refl _⟩, ⟨by (with_reducible repeat (first | refine blk_drewN ?_ _ | refine blk_drew ?_ | refine blk_alloc ?_ _)); exact BK149.out⟩, ⟨by (with_reducible repeat (first | refine blk_drewN ?_ _ | refine blk_drew ?_ | refine blk_alloc ?_ _)); exact BK150.out⟩, ⟨by repeat (first | (with_reducible first | exact HB.out | apply below_alloc | apply pw_below_drewN | apply below_drew1 | refine below_set ?_ GE149.out | refine below_set ?_ GE150.out) | exact HB.out)⟩⟩
                  case rest =>
                    clear HC13
                    try clear c1
                    try clear p1
                    try clear q1
                    try clear hx1
                    try clear p2
                    try clear c5
                    try clear c5b0
                    try clear c6
                    try clear c6b0
                    try clear c8
                    try clear c8b0
                    try clear c8b1
                    try clear c9
                    try clear c10
                    try clear c11
                    try clear c11b0
                    try clear c12
                    try clear c12b0
                    try clear c14
                    try clear c14b0
                    try clear c14b1
                    try clear c15
                    try clear p15
                    try clear q15
                    try clear hx15
                    try clear hcz10_0
                    try clear hcz10_1
                    try clear hcz10_2
                    try clear hcz10_3
                    try clear hcz10_4
                    try clear hcz16_0
                    try clear hcz16_1
                    try clear hcz16_2
                    try clear hcz16_3
                    try clear hcz16_4
                    try clear hfz10_0
                    try clear hfz10_1
                    try clear hfz10_2
                    try clear hfz10_3
                    try clear hfz10_4
                    try clear hfz16_0
                    try clear hfz16_1
                    try clear hfz16_2
                    try clear hfz16_3
                    try clear hfz16_4
                    try clear hx151_0
                    try clear hx151_1
                    try clear hx152_0
                    try clear hx152_1
                    try clear hx153_0
                    try clear hx153_1
                    try clear hx154_0
                    try clear hx154_1
                    try clear p1
                    try clear p151
                    try clear p152
                    try clear p153
                    try clear p154
                    try clear p2
                    try clear q1
                    try clear q151
                    try clear q152
                    try clear q153
                    try clear q154
                    obtain ⟨kq, x150003_12, HA, HJ12, BK149, BK150, HB⟩ := hcut
                    cases kq with
                    | zero => exact absurd HA.out (by simp [greenscreenref11_Dress.j2])
                    | succ kj12 =>
                      have H := HA.out
                      clear HA
                      simp only [greenscreenref11_Dress.j2] at H
                      by_cases c17 : 0 ≤ x5_1
                      · rw [if_pos c17] at H
                        have c17b0 : decide (0 ≤ x5_1) = true := decide_eq_true c17
                        clear c17
                        by_cases c18 : x5_1 < (l1.length : Int)
                        · rw [if_pos c18] at H
                          have c18b0 : decide (x5_1 < (l1.length : Int)) = true := decide_eq_true c18
                          clear c18
                          by_cases c19 : ((rd_T131 l1 x5_1).f0) = 66
                          · rw [if_pos c19] at H
                            have c19b0 : (((rd_T131 l1 x5_1).f0) == 66) = true := beq_iff_eq.mpr c19
                            have c19b1 : (((rd_T131 l1 x5_1).f0) != 66) = false := bne_eq_false_iff_eq.mpr c19
                            clear c19
                            by_cases c20 : ((rd_T131 l1 x5_1).f0) = 0
                            · rw [if_pos c20] at H
                              have c20b0 : (((rd_T131 l1 x5_1).f0) == 0) = true := beq_iff_eq.mpr c20
                              have c20b1 : (((rd_T131 l1 x5_1).f0) != 0) = false := bne_eq_false_iff_eq.mpr c20
                              clear c20
                              have H' := Aside0.mk H
                              clear H
                              have p155 : 0 ≤ (x5_1 : Int) := of_decide_eq_true (by first | (with_reducible assumption) | assumption)
                              have q155 : x5_1 < (l1.length : Int) := of_decide_eq_true (by first | (with_reducible assumption) | assumption)
                              obtain ⟨ad155, e155, hx155_0, hx155_1⟩ := at_T131 HR1.out x5_1 p155 q155
                              obtain rfl : ad151 = ad155 := (by injection e155)
                              replace hx155_0 := (HB.out.cell (World.block_lt_of_cell? w _ hx155_0)).trans hx155_0
                              replace hx155_1 := (HB.out.cell (World.block_lt_of_cell? w _ hx155_1)).trans hx155_1
                              replace p155 := eq_true p155
                              replace q155 := eq_true q155
                              have p156 : 0 ≤ (x5_1 : Int) := of_decide_eq_true (by first | (with_reducible assumption) | assumption)
                              have q156 : x5_1 < (l1.length : Int) := of_decide_eq_true (by first | (with_reducible assumption) | assumption)
                              obtain ⟨ad156, e156, hx156_0, hx156_1⟩ := at_T131 HR1.out x5_1 p156 q156
                              obtain rfl : ad151 = ad156 := (by injection e156)
                              replace hx156_0 := (HB.out.cell (World.block_lt_of_cell? w _ hx156_0)).trans hx156_0
                              replace hx156_1 := (HB.out.cell (World.block_lt_of_cell? w _ hx156_1)).trans hx156_1
                              replace p156 := eq_true p156
                              replace q156 := eq_true q156
                              have hnb21 := NB149_150.out
                              have hnc21 := NB150_149.out
                              have hcz22_0 : wc.cell? ⟨gb149, 0, none⟩ = some (.int .u8 x150000_6) := (blk_cell BK149.out 0).trans rfl
                              have hcz22_1 : wc.cell? ⟨gb149, 1, none⟩ = some (.bool a0_1) := (blk_cell BK149.out 1).trans rfl
                              have hcz22_2 : wc.cell? ⟨gb149, 2, none⟩ = some (.bool a0_2) := (blk_cell BK149.out 2).trans rfl
                              have hcz22_3 : wc.cell? ⟨gb149, 3, none⟩ = some (.int .u8 x150003_12) := (blk_cell BK149.out 3).trans rfl
                              have hcz22_4 : wc.cell? ⟨gb149, 4, none⟩ = some (.int .u8 x150004_1) := (blk_cell BK149.out 4).trans rfl
                              have hfz22_0 := blk_frozen BK149.out 0
                              have hfz22_1 := blk_frozen BK149.out 1
                              have hfz22_2 := blk_frozen BK149.out 2
                              have hfz22_3 := blk_frozen BK149.out 3
                              have hfz22_4 := blk_frozen BK149.out 4
                              have p157 : 0 ≤ (x5_1 : Int) := of_decide_eq_true (by first | (with_reducible assumption) | assumption)
                              have q157 : x5_1 < (l1.length : Int) := of_decide_eq_true (by first | (with_reducible assumption) | assumption)
                              obtain ⟨ad157, e157, hx157_0, hx157_1⟩ := at_T131 HR1.out x5_1 p157 q157
                              obtain rfl : ad151 = ad157 := (by injection e157)
                              have hn157_0 : ad151.block ≠ gb149 := Nat.ne_of_lt (Nat.lt_of_lt_of_le (by have := World.block_lt_of_cell? _ _ hx157_0; first | rwa [add_block] at this | exact this) GW149.out)
                              replace hx157_0 := (HB.out.cell (World.block_lt_of_cell? w _ hx157_0)).trans hx157_0
                              replace hx157_1 := (HB.out.cell (World.block_lt_of_cell? w _ hx157_1)).trans hx157_1
                              replace hx157_0 := (cell_far (p := ⟨gb149, 4, none⟩) (by first | (rw [add_block]; exact hn157_0) | (show (Addr.add _ _).block ≠ _; rw [add_block]; exact hn157_0) | exact hn157_0) (.int .u8 ((rd_T131 l1 x5_1).f1))).trans hx157_0
                              replace hx157_1 := (cell_far (p := ⟨gb149, 4, none⟩) (by first | (rw [add_block]; exact hn157_0) | (show (Addr.add _ _).block ≠ _; rw [add_block]; exact hn157_0) | exact hn157_0) (.int .u8 ((rd_T131 l1 x5_1).f1))).trans hx157_1
                              clear hn157_0
                              replace p157 := eq_true p157
                              replace q157 := eq_true q157
                              go_wp2
                              go_roundg kj12
                              case measure => have := HK1.out; have := HJ6.out; have := HJ12.out; omega
                              case rel => exact ⟨(wrap64 (x5_1 + 1)), (x150000_6), (0), (0), (by first | rfl | (simp; done) | (simp [*]; done)), H', ⟨by have := HK1.out; have := HJ6.out; have := HJ12.out; omega⟩, ⟨by (with_reducible repeat (first | refine blk_drewN ?_ _ | refine blk_drew ?_ | refine blk_alloc ?_ _)); refine blk_put (cs := #[.int .u8 x150000_6, .bool a0_1, .bool a0_2, .int .u8 0, .int .u8 ((rd_T131 l1 x5_1).f1)]) ?_ 4 _ rfl; (with_reducible repeat (first | refine blk_drewN ?_ _ | refine blk_drew ?_ | refine blk_alloc ?_ _)); refine blk_put (cs := #[.int .u8 x150000_6, .bool a0_1, .bool a0_2, .int .u8 x150003_12, .int .u8 ((rd_T131 l1 x5_1).f1)]) ?_ 3 _ rfl; (with_reducible repeat (first | refine blk_drewN ?_ _ | refine blk_drew ?_ | refine blk_alloc ?_ _)); refine blk_put (cs := #[.int .u8 x150000_6, .bool a0_1, .bool a0_2, .int .u8 x150003_12, .int .u8 x150004_1]) ?_ 4 _ rfl; (with_reducible repeat (first | refine blk_drewN ?_ _ | refine blk_drew ?_ | refine blk_alloc ?_ _)); exact BK149.out⟩, ⟨by (with_reducible repeat (first | refine blk_drewN ?_ _ | refine blk_drew ?_ | refine blk_alloc ?_ _)); refine blk_far ?_ NB150_149.out _; (with_reducible repeat (first | refine blk_drewN ?_ _ | refine blk_drew ?_ | refine blk_alloc ?_ _)); refine blk_far ?_ NB150_149.out _; (with_reducible repeat (first | refine blk_drewN ?_ _ | refine blk_drew ?_ | refine blk_alloc ?_ _)); refine blk_far ?_ NB150_149.out _; (with_reducible repeat (first | refine blk_drewN ?_ _ | refine blk_drew ?_ | refine blk_alloc ?_ _)); exact BK150.out⟩, ⟨by repeat (first | (with_reducible first | exact HB.out | apply below_alloc | apply pw_below_drewN | apply below_drew1 | refine below_set ?_ GE149.out | refine below_set ?_ GE150.out) | exact HB.out)⟩⟩
                            · rw [if_neg c20] at H
                              have c20b0 : (((rd_T131 l1 x5_1).f0) == 0) = false := beq_eq_false_iff_ne.mpr c20
                              have c20b1 : (((rd_T131 l1 x5_1).f0) != 0) = true := bne_iff_ne.mpr c20
                              have H' := Aside0.mk H
                              clear H
                              have p155 : 0 ≤ (x5_1 : Int) := of_decide_eq_true (by first | (with_reducible assumption) | assumption)
                              have q155 : x5_1 < (l1.length : Int) := of_decide_eq_true (by first | (with_reducible assumption) | assumption)
                              obtain ⟨ad155, e155, hx155_0, hx155_1⟩ := at_T131 HR1.out x5_1 p155 q155
                              obtain rfl : ad151 = ad155 := (by injection e155)
                              replace hx155_0 := (HB.out.cell (World.block_lt_of_cell? w _ hx155_0)).trans hx155_0
                              replace hx155_1 := (HB.out.cell (World.block_lt_of_cell? w _ hx155_1)).trans hx155_1
                              replace p155 := eq_true p155
                              replace q155 := eq_true q155
                              have p156 : 0 ≤ (x5_1 : Int) := of_decide_eq_true (by first | (with_reducible assumption) | assumption)
                              have q156 : x5_1 < (l1.length : Int) := of_decide_eq_true (by first | (with_reducible assumption) | assumption)
                              obtain ⟨ad156, e156, hx156_0, hx156_1⟩ := at_T131 HR1.out x5_1 p156 q156
                              obtain rfl : ad151 = ad156 := (by injection e156)
                              replace hx156_0 := (HB.out.cell (World.block_lt_of_cell? w _ hx156_0)).trans hx156_0
                              replace hx156_1 := (HB.out.cell (World.block_lt_of_cell? w _ hx156_1)).trans hx156_1
                              replace p156 := eq_true p156
                              replace q156 := eq_true q156
                              have hnb23 := NB149_150.out
                              have hnc23 := NB150_149.out
                              have hcz24_0 : wc.cell? ⟨gb149, 0, none⟩ = some (.int .u8 x150000_6) := (blk_cell BK149.out 0).trans rfl
                              have hcz24_1 : wc.cell? ⟨gb149, 1, none⟩ = some (.bool a0_1) := (blk_cell BK149.out 1).trans rfl
                              have hcz24_2 : wc.cell? ⟨gb149, 2, none⟩ = some (.bool a0_2) := (blk_cell BK149.out 2).trans rfl
                              have hcz24_3 : wc.cell? ⟨gb149, 3, none⟩ = some (.int .u8 x150003_12) := (blk_cell BK149.out 3).trans rfl
                              have hcz24_4 : wc.cell? ⟨gb149, 4, none⟩ = some (.int .u8 x150004_1) := (blk_cell BK149.out 4).trans rfl
                              have hfz24_0 := blk_frozen BK149.out 0
                              have hfz24_1 := blk_frozen BK149.out 1
                              have hfz24_2 := blk_frozen BK149.out 2
                              have hfz24_3 := blk_frozen BK149.out 3
                              have hfz24_4 := blk_frozen BK149.out 4
                              have p157 : 0 ≤ (x5_1 : Int) := of_decide_eq_true (by first | (with_reducible assumption) | assumption)
                              have q157 : x5_1 < (l1.length : Int) := of_decide_eq_true (by first | (with_reducible assumption) | assumption)
                              obtain ⟨ad157, e157, hx157_0, hx157_1⟩ := at_T131 HR1.out x5_1 p157 q157
                              obtain rfl : ad151 = ad157 := (by injection e157)
                              have hn157_0 : ad151.block ≠ gb149 := Nat.ne_of_lt (Nat.lt_of_lt_of_le (by have := World.block_lt_of_cell? _ _ hx157_0; first | rwa [add_block] at this | exact this) GW149.out)
                              replace hx157_0 := (HB.out.cell (World.block_lt_of_cell? w _ hx157_0)).trans hx157_0
                              replace hx157_1 := (HB.out.cell (World.block_lt_of_cell? w _ hx157_1)).trans hx157_1
                              replace hx157_0 := (cell_far (p := ⟨gb149, 4, none⟩) (by first | (rw [add_block]; exact hn157_0) | (show (Addr.add _ _).block ≠ _; rw [add_block]; exact hn157_0) | exact hn157_0) (.int .u8 ((rd_T131 l1 x5_1).f1))).trans hx157_0
                              replace hx157_1 := (cell_far (p := ⟨gb149, 4, none⟩) (by first | (rw [add_block]; exact hn157_0) | (show (Addr.add _ _).block ≠ _; rw [add_block]; exact hn157_0) | exact hn157_0) (.int .u8 ((rd_T131 l1 x5_1).f1))).trans hx157_1
                              clear hn157_0
                              replace p157 := eq_true p157
                              replace q157 := eq_true q157
                              go_wp2
                              go_roundg kj12
                              case measure => have := HK1.out; have := HJ6.out; have := HJ12.out; omega
                              case rel => exact ⟨(wrap64 (x5_1 + 1)), (x150000_6), (x150003_12), ((rd_T131 l1 x5_1).f1), (by first | rfl | (simp; done) | (simp [*]; done)), H', ⟨by have := HK1.out; have := HJ6.out; have := HJ12.out; omega⟩, ⟨by (with_reducible repeat (first | refine blk_drewN ?_ _ | refine blk_drew ?_ | refine blk_alloc ?_ _)); refine blk_put (cs := #[.int .u8 x150000_6, .bool a0_1, .bool a0_2, .int .u8 x150003_12, .int .u8 x150004_1]) ?_ 4 _ rfl; (with_reducible repeat (first | refine blk_drewN ?_ _ | refine blk_drew ?_ | refine blk_alloc ?_ _)); exact BK149.out⟩, ⟨by (with_reducible repeat (first | refine blk_drewN ?_ _ | refine blk_drew ?_ | refine blk_alloc ?_ _)); refine blk_far ?_ NB150_149.out _; (with_reducible repeat (first | refine blk_drewN ?_ _ | refine blk_drew ?_ | refine blk_alloc ?_ _)); exact BK150.out⟩, ⟨by repeat (first | (with_reducible first | exact HB.out | apply below_alloc | apply pw_below_drewN | apply below_drew1 | refine below_set ?_ GE149.out | refine below_set ?_ GE150.out) | exact HB.out)⟩⟩
                          · rw [if_neg c19] at H
                            have c19b0 : (((rd_T131 l1 x5_1).f0) == 66) = false := beq_eq_false_iff_ne.mpr c19
                            have c19b1 : (((rd_T131 l1 x5_1).f0) != 66) = true := bne_iff_ne.mpr c19
                            by_cases c25 : ((rd_T131 l1 x5_1).f0) = 0
                            · rw [if_pos c25] at H
                              have c25b0 : (((rd_T131 l1 x5_1).f0) == 0) = true := beq_iff_eq.mpr c25
                              have c25b1 : (((rd_T131 l1 x5_1).f0) != 0) = false := bne_eq_false_iff_eq.mpr c25
                              clear c25
                              have H' := Aside0.mk H
                              clear H
                              have p155 : 0 ≤ (x5_1 : Int) := of_decide_eq_true (by first | (with_reducible assumption) | assumption)
                              have q155 : x5_1 < (l1.length : Int) := of_decide_eq_true (by first | (with_reducible assumption) | assumption)
                              obtain ⟨ad155, e155, hx155_0, hx155_1⟩ := at_T131 HR1.out x5_1 p155 q155
                              obtain rfl : ad151 = ad155 := (by injection e155)
                              replace hx155_0 := (HB.out.cell (World.block_lt_of_cell? w _ hx155_0)).trans hx155_0
                              replace hx155_1 := (HB.out.cell (World.block_lt_of_cell? w _ hx155_1)).trans hx155_1
                              replace p155 := eq_true p155
                              replace q155 := eq_true q155
                              have p158 : 0 ≤ (x5_1 : Int) := of_decide_eq_true (by first | (with_reducible assumption) | assumption)
                              have q158 : x5_1 < (l1.length : Int) := of_decide_eq_true (by first | (with_reducible assumption) | assumption)
                              obtain ⟨ad158, e158, hx158_0, hx158_1⟩ := at_T131 HR1.out x5_1 p158 q158
                              obtain rfl : ad151 = ad158 := (by injection e158)
                              replace hx158_0 := (HB.out.cell (World.block_lt_of_cell? w _ hx158_0)).trans hx158_0
                              replace hx158_1 := (HB.out.cell (World.block_lt_of_cell? w _ hx158_1)).trans hx158_1
                              replace p158 := eq_true p158
                              replace q158 := eq_true q158
                              have hnb26 := NB149_150.out
                              have hnc26 := NB150_149.out
                              have hcz27_0 : wc.cell? ⟨gb149, 0, none⟩ = some (.int .u8 x150000_6) := (blk_cell BK149.out 0).trans rfl
                              have hcz27_1 : wc.cell? ⟨gb149, 1, none⟩ = some (.bool a0_1) := (blk_cell BK149.out 1).trans rfl
                              have hcz27_2 : wc.cell? ⟨gb149, 2, none⟩ = some (.bool a0_2) := (blk_cell BK149.out 2).trans rfl
                              have hcz27_3 : wc.cell? ⟨gb149, 3, none⟩ = some (.int .u8 x150003_12) := (blk_cell BK149.out 3).trans rfl
                              have hcz27_4 : wc.cell? ⟨gb149, 4, none⟩ = some (.int .u8 x150004_1) := (blk_cell BK149.out 4).trans rfl
                              have hfz27_0 := blk_frozen BK149.out 0
                              have hfz27_1 := blk_frozen BK149.out 1
                              have hfz27_2 := blk_frozen BK149.out 2
                              have hfz27_3 := blk_frozen BK149.out 3
                              have hfz27_4 := blk_frozen BK149.out 4
                              go_wp2
                              go_roundg kj12
                              case measure => have := HK1.out; have := HJ6.out; have := HJ12.out; omega
                              case rel => exact ⟨(wrap64 (x5_1 + 1)), (x150000_6), (0), (0), (by first | rfl | (simp; done) | (simp [*]; done)), H', ⟨by have := HK1.out; have := HJ6.out; have := HJ12.out; omega⟩, ⟨by (with_reducible repeat (first | refine blk_drewN ?_ _ | refine blk_drew ?_ | refine blk_alloc ?_ _)); refine blk_put (cs := #[.int .u8 x150000_6, .bool a0_1, .bool a0_2, .int .u8 0, .int .u8 x150004_1]) ?_ 4 _ rfl; (with_reducible repeat (first | refine blk_drewN ?_ _ | refine blk_drew ?_ | refine blk_alloc ?_ _)); refine blk_put (cs := #[.int .u8 x150000_6, .bool a0_1, .bool a0_2, .int .u8 x150003_12, .int .u8 x150004_1]) ?_ 3 _ rfl; (with_reducible repeat (first | refine blk_drewN ?_ _ | refine blk_drew ?_ | refine blk_alloc ?_ _)); exact BK149.out⟩, ⟨by (with_reducible repeat (first | refine blk_drewN ?_ _ | refine blk_drew ?_ | refine blk_alloc ?_ _)); refine blk_far ?_ NB150_149.out _; (with_reducible repeat (first | refine blk_drewN ?_ _ | refine blk_drew ?_ | refine blk_alloc ?_ _)); refine blk_far ?_ NB150_149.out _; (with_reducible repeat (first | refine blk_drewN ?_ _ | refine blk_drew ?_ | refine blk_alloc ?_ _)); exact BK150.out⟩, ⟨by repeat (first | (with_reducible first | exact HB.out | apply below_alloc | apply pw_below_drewN | apply below_drew1 | refine below_set ?_ GE149.out | refine below_set ?_ GE150.out) | exact HB.out)⟩⟩
                            · rw [if_neg c25] at H
                              have c25b0 : (((rd_T131 l1 x5_1).f0) == 0) = false := beq_eq_false_iff_ne.mpr c25
                              have c25b1 : (((rd_T131 l1 x5_1).f0) != 0) = true := bne_iff_ne.mpr c25
                              have H' := Aside0.mk H
                              clear H
                              have p155 : 0 ≤ (x5_1 : Int) := of_decide_eq_true (by first | (with_reducible assumption) | assumption)
                              have q155 : x5_1 < (l1.length : Int) := of_decide_eq_true (by first | (with_reducible assumption) | assumption)
                              obtain ⟨ad155, e155, hx155_0, hx155_1⟩ := at_T131 HR1.out x5_1 p155 q155
                              obtain rfl : ad151 = ad155 := (by injection e155)
                              replace hx155_0 := (HB.out.cell (World.block_lt_of_cell? w _ hx155_0)).trans hx155_0
                              replace hx155_1 := (HB.out.cell (World.block_lt_of_cell? w _ hx155_1)).trans hx155_1
                              replace p155 := eq_true p155
                              replace q155 := eq_true q155
                              have p158 : 0 ≤ (x5_1 : Int) := of_decide_eq_true (by first | (with_reducible assumption) | assumption)
                              have q158 : x5_1 < (l1.length : Int) := of_decide_eq_true (by first | (with_reducible assumption) | assumption)
                              obtain ⟨ad158, e158, hx158_0, hx158_1⟩ := at_T131 HR1.out x5_1 p158 q158
                              obtain rfl : ad151 = ad158 := (by injection e158)
                              replace hx158_0 := (HB.out.cell (World.block_lt_of_cell? w _ hx158_0)).trans hx158_0
                              replace hx158_1 := (HB.out.cell (World.block_lt_of_cell? w _ hx158_1)).trans hx158_1
                              replace p158 := eq_true p158
                              replace q158 := eq_true q158
                              go_wp2
                              go_roundg kj12
                              case measure => have := HK1.out; have := HJ6.out; have := HJ12.out; omega
                              case rel => exact ⟨(wrap64 (x5_1 + 1)), (x150000_6), (x150003_12), (x150004_1), (by first | rfl | (simp; done) | (simp [*]; done)), H', ⟨by have := HK1.out; have := HJ6.out; have := HJ12.out; omega⟩, ⟨by (with_reducible repeat (first | refine blk_drewN ?_ _ | refine blk_drew ?_ | refine blk_alloc ?_ _)); exact BK149.out⟩, ⟨by (with_reducible repeat (first | refine blk_drewN ?_ _ | refine blk_drew ?_ | refine blk_alloc ?_ _)); exact BK150.out⟩, ⟨by repeat (first | (with_reducible first | exact HB.out | apply below_alloc | apply pw_below_drewN | apply below_drew1 | refine below_set ?_ GE149.out | refine below_set ?_ GE150.out) | exact HB.out)⟩⟩
                        · rw [if_neg c18] at H
                          exact absurd H (by simp)
                      · rw [if_neg c17] at H
                        exact absurd H (by simp)
                · rw [if_neg c12] at H
                  exact absurd H (by simp)
              · rw [if_neg c11] at H
                exact absurd H (by simp)
        · rw [if_neg c6] at H
          exact absurd H (by simp)
      · rw [if_neg c5] at H
        have c5b0 : decide (x5_1 < (l1.length : Int)) = false := decide_eq_false c5
        clear c5
        simp only [Option.some.injEq, Prod.mk.injEq] at H
        obtain ⟨rfl, rfl, rfl, rfl, rfl⟩ := H
        have hnb28 := NB149_150.out
        have hnc28 := NB150_149.out
        have hcz29_0 : wr.cell? ⟨gb149, 0, none⟩ = some (.int .u8 x150000_1) := (blk_cell BK149.out 0).trans rfl
        have hcz29_1 : wr.cell? ⟨gb149, 1, none⟩ = some (.bool a0_1) := (blk_cell BK149.out 1).trans rfl
        have hcz29_2 : wr.cell? ⟨gb149, 2, none⟩ = some (.bool a0_2) := (blk_cell BK149.out 2).trans rfl
        have hcz29_3 : wr.cell? ⟨gb149, 3, none⟩ = some (.int .u8 x150003_1) := (blk_cell BK149.out 3).trans rfl
        have hcz29_4 : wr.cell? ⟨gb149, 4, none⟩ = some (.int .u8 x150004_1) := (blk_cell BK149.out 4).trans rfl
        have hfz29_0 := blk_frozen BK149.out 0
        have hfz29_1 := blk_frozen BK149.out 1
        have hfz29_2 := blk_frozen BK149.out 2
        have hfz29_3 := blk_frozen BK149.out 3
        have hfz29_4 := blk_frozen BK149.out 4
        have hcz30_0 : wr.cell? ⟨gb150, 0, none⟩ = some (.int .u8 0) := (blk_cell BK150.out 0).trans rfl
        have hcz30_1 : wr.cell? ⟨gb150, 1, none⟩ = some (.bool false) := (blk_cell BK150.out 1).trans rfl
        have hcz30_2 : wr.cell? ⟨gb150, 2, none⟩ = some (.bool false) := (blk_cell BK150.out 2).trans rfl
        have hcz30_3 : wr.cell? ⟨gb150, 3, none⟩ = some (.int .u8 0) := (blk_cell BK150.out 3).trans rfl
        have hcz30_4 : wr.cell? ⟨gb150, 4, none⟩ = some (.int .u8 0) := (blk_cell BK150.out 4).trans rfl
        have hfz30_0 := blk_frozen BK150.out 0
        have hfz30_1 := blk_frozen BK150.out 1
        have hfz30_2 := blk_frozen BK150.out 2
        have hfz30_3 := blk_frozen BK150.out 3
        have hfz30_4 := blk_frozen BK150.out 4
        go_wp2
        refine bodyPost_ret (results_cell_row rfl _ _ gb150 38 #[.int .u8 x150000_1, .bool a0_1, .bool a0_2, .int .u8 x150003_1, .int .u8 x150004_1] (0, 0) _ rfl (by (with_reducible repeat (first | refine blk_drewN ?_ _ | refine blk_drew ?_ | refine blk_alloc ?_ _)); refine blk_put (cs := #[.int .u8 x150000_1, .bool a0_1, .bool a0_2, .int .u8 x150003_1, .int .u8 0]) ?_ 4 _ rfl; (with_reducible repeat (first | refine blk_drewN ?_ _ | refine blk_drew ?_ | refine blk_alloc ?_ _)); refine blk_put (cs := #[.int .u8 x150000_1, .bool a0_1, .bool a0_2, .int .u8 0, .int .u8 0]) ?_ 3 _ rfl; (with_reducible repeat (first | refine blk_drewN ?_ _ | refine blk_drew ?_ | refine blk_alloc ?_ _)); refine blk_put (cs := #[.int .u8 x150000_1, .bool a0_1, .bool false, .int .u8 0, .int .u8 0]) ?_ 2 _ rfl; (with_reducible repeat (first | refine blk_drewN ?_ _ | refine blk_drew ?_ | refine blk_alloc ?_ _)); refine blk_put (cs := #[.int .u8 x150000_1, .bool false, .bool false, .int .u8 0, .int .u8 0]) ?_ 1 _ rfl; (with_reducible repeat (first | refine blk_drewN ?_ _ | refine blk_drew ?_ | refine blk_alloc ?_ _)); refine blk_put (cs := #[.int .u8 0, .bool false, .bool false, .int .u8 0, .int .u8 0]) ?_ 0 _ rfl; (with_reducible repeat (first | refine blk_drewN ?_ _ | refine blk_drew ?_ | refine blk_alloc ?_ _)); exact BK150.out) Try.underlying38 rfl (by kernel_rfl)) rfl ?_
        exact ⟨by first | rfl | (simp [errW_none, errW_some] <;> rfl) | (simp [*, errW_none, errW_some] <;> rfl), by repeat (first | (with_reducible first | exact HB.out | apply below_alloc | apply pw_below_drewN | apply below_drew1 | refine below_set ?_ GE149.out | refine below_set ?_ GE150.out) | exact HB.out)⟩

/-! ### greenscreenref11_Bit: function 53 -/
def greenscreenref11_Bit.f (a0 : Int) (a1 : Int) : Option (Bool) := if a1 = 0 then (none) else (some ((Int.tmod (wrap64 (Int.tdiv (wrap64 (a0)) a1)) 2) == 1))
set_option maxHeartbeats 8000000 in
set_option maxRecDepth 100000 in
theorem greenscreenref11_Bit.calls (a0 : Int) (a1 : Int) (r : Bool) (w : World) (h : greenscreenref11_Bit.f a0 a1 = some r) :
    Calls Try.prog 53 #[.int .u8 a0, .int .i64 a1] w fun e w' => e = .returned (.bool r) ∧ Drawn0 w w' := by
  have H : (if a1 = 0 then (none) else (some ((Int.tmod (wrap64 (Int.tdiv (wrap64 (a0)) a1)) 2) == 1))) = some r := h
  clear h
  by_cases c3 : a1 = 0
  · rw [if_pos c3] at H
    exact absurd H (by simp)
  · rw [if_neg c3] at H
    have c3b0 : (a1 == 0) = false := beq_eq_false_iff_ne.mpr c3
    have c3b1 : (a1 != 0) = true := bne_iff_ne.mpr c3
    obtain rfl := Option.some.inj H
    go_enter Try.func53, Try.ntmps53
    go_wp2
    go_ret
    exact ⟨by first | rfl | (simp; done) | (simp [*]; done), by repeat (first | exact Drawn0.refl _ | apply Drawn0.step)⟩

end Go.Proofs.Ytmcfckdgolojlaa.PPaintPlays
