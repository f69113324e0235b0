/- The range over a plane's fields (All), where the plane stays as it is; Home. -/
import Derived.Test.YtmcfckdgolojlaaP4
import Derived.RangeFuncNested
import Derived.RangeFuncBound
import Derived.RangeFuncCalls
import Derived.RangeFuncLeaves
import Derived.Shelf.Abstract
import Derived.Shelf.RegionOpen
import Derived.TacticsInMore
import Derived.LoopNIn
import Derived.LoopIn
namespace Go.Proofs.Ytmcfckdgolojlaa
set_option linter.unusedVariables false
set_option linter.unusedSimpArgs false
open Go.RowKit Go.Shelf
attribute [local go_sem] Oper.semAt_some

/-- a field: its start, its length, its attribute -/
structure FV where
  s : Int
  l : Int
  a : Int
  deriving DecidableEq
def FV.v (x : FV) : Value := .agg #[.int .i64 x.s, .int .i64 x.l, .int .u8 x.a]
def FV.cells (x : FV) : Array Value := #[.int .i64 x.s, .int .i64 x.l, .int .u8 x.a]
def Pl.fld (p : Pl) (i : Int) : FV := ⟨i, p.lenAt i, p.attrAt i⟩
/-- the fields whose attributes stand among the first k places -/
def Pl.flds (p : Pl) (k : Nat) : List FV := ((List.range k).filter fun i : Nat => p.st (i : Int)).map fun i : Nat => p.fld (i : Int)
theorem flds_succ (p : Pl) (k : Nat) : p.flds (k + 1) = if p.st (k : Int) then p.flds k ++ [p.fld (k : Int)] else p.flds k := by
  unfold Pl.flds
  rw [List.range_succ, List.filter_append, List.map_append]
  cases h : p.st (k : Int) <;> simp [h]
theorem flds_len (p : Pl) : ∀ k, (p.flds k).length ≤ k
  | 0 => by simp [Pl.flds]
  | k + 1 => by
    rw [flds_succ]
    have := flds_len p k
    split <;> simp <;> omega
theorem flds_prefix (p : Pl) (k : Nat) : ∀ m, p.flds k <+: p.flds (k + m)
  | 0 => List.prefix_refl _
  | m + 1 => by
    refine (flds_prefix p k m).trans ?_
    rw [← Nat.add_assoc, flds_succ]
    split
    · exact List.prefix_append _ _
    · exact List.prefix_refl _
theorem PlAt.belowN {n₀ : Nat} {w w' : World} {g c : Nat} {p : Pl} (h : PlAt w g c p) (hb : Below n₀ w w') (hg : g < n₀) (hc : c < n₀) : PlAt w' g c p := let ⟨a, t, h⟩ := h; ⟨a, t, h.obj.below hb hg, h.row.below hb hc, h.ok⟩

theorem FAll_any (g : Nat) (w : World) : Calls Try.prog 76 #[.pointer (some ⟨g, 0, none⟩)] w fun e w' =>
    e = .returned (.func (.func 91) #[] #[.pointer (some ⟨w.heap.size, 0, none⟩)]) ∧ w' = w.alloc (.cells #[.pointer (some ⟨g, 0, none⟩)] 26) := by
  go_enter Try.func76, Try.ntmps76
  go_wp2
  go_ret
  exact ⟨rfl, rfl⟩

set_option maxRecDepth 100000 in
set_option maxHeartbeats 4000000 in
theorem FAll1_in (n : Nat) (hn : 1 ≤ n) (l B1 g c n₀ : Nat) (p : Pl) (J Jx : List FV → World → Prop) (W : World) (hJ : AbidesFrom W.heap.size J)
    (hY : ∀ pre x W, J pre W → pre.length < 4096 → YieldAt Fence.wide (n - 1) Try.prog l #[.agg #[.int .i64 x.s, .int .i64 x.l, .int .u8 x.a]] W fun e W' =>
      (e = .returned (.bool true) ∧ J (pre ++ [x]) W' ∧ Below n₀ W W') ∨ (e = .returned (.bool false) ∧ Jx (pre ++ [x]) W'))
    (h1 : Blk W B1 26 #[.pointer (some ⟨g, 0, none⟩)]) (hP : PlAt W g c p) (hb1 : B1 < n₀) (hg : g < n₀) (hc : c < n₀) (hn0 : n₀ ≤ W.heap.size) (h0 : J [] W) :
    CallsIn Fence.wide n Try.prog 91 #[.func (.yield l) #[] #[], .pointer (some ⟨B1, 0, none⟩)] W fun e W' => (∃ v, e = .returned v) ∧
      ((∃ xs, xs = p.flds p.cells.length ∧ J xs W') ∨ (∃ pre, (pre <+: p.flds p.cells.length) ∧ Jx pre W')) := by
  have HP := Lib.hid hP
  have HX := Lib.hid (Ext_refl W)
  have HJ := Lib.hid hJ
  have HN0 := Lib.hid hn0
  have H1 := Lib.hid h1
  have q1 := h1.cell 0
  have hn1 : p.n ≤ 4096 := hP.ok.sz.n1
  have hn2 : p.n = (p.cells.length : Int) := rfl
  have HN := Lib.hid hn2
  clear hP hJ hn0 hn2 h1
  refine callsIn_of_wp Try.func91 rfl trivial ?_ rfl
  simp only [Try.ntmps91, List.size_toArray, List.length_cons, List.length_nil, Nat.reduceAdd, Nat.reduceSub, Array.replicate_succ, Array.replicate_zero, List.push_toArray, List.append_toArray, List.nil_append, List.cons_append]
  gi_wp2_with (refine ⟨trivial, ?_⟩; gi_at_call 18; refine (callsIn_wide.2 (Len_any g c p _ HP.out)).mono ?_; rintro e wn ⟨rfl, hb⟩; have HX := Lib.hid hb; clear hb)
  gi_loopw [3, 6] (fun _ v wr => ∃ k : Nat, k ≤ p.cells.length ∧ v = .int .i64 k ∧ Hid (J (p.flds k) wr) ∧ Hid (Below n₀ W wr)) (fun _ v _ => p.cells.length - (intOf v).toNat)
  case atStart => exact ⟨0, by omega, rfl, HJ.out _ _ _ none h0 (grown_below HX.out none) (fun _ e => by cases e), HX.out.mono HN0.out⟩
  case round =>
    obtain ⟨k, hk, rfl, HJk, HB⟩ := hrel
    have HPk := Lib.hid (HP.out.belowN HB.out hg hc)
    have HBk := Lib.hid (H1.out.below HB.out hb1)
    have q1 := HBk.out.cell 0
    have hnn := HN.out
    by_cases hlt : k < p.cells.length
    · have hlt' : (k : Int) < p.n := by omega
      have HF := Lib.hid (flds_succ p k)
      cases hst : p.st (k : Int)
      · have HS := Lib.hid hst
        have HN' := Lib.hid (show p.flds (k + 1) = p.flds k by rw [flds_succ, hst]; rfl)
        clear hst hnn
        gi_wp2_with fail
        refine ⟨trivial, ?_⟩
        refine (callsIn_wide.2 (At_any g c p _ _ HPk.out)).mono ?_
        rintro e wn ⟨rfl, hb⟩
        rw [show (p.at (k : Int)).st = _ from HS.out]
        have HB2 := Lib.hid (HB.out.trans (hb.mono (Nat.le_trans HN0.out HB.out.size)))
        have HJ2 := Lib.hid (HJ.out _ _ _ none HJk.out (grown_below hb none) (fun _ e => by cases e))
        clear hb
        have hF := field_st
        gi_wp2
        refine ⟨trivial, ?_⟩
        gi_wp2
        refine ⟨fun _ h => (by cases h), ?_⟩
        gi_wp2
        go_roundw
        case rel => exact ⟨k + 1, by omega, by go_num, by rw [HN'.out]; exact HJ2.out, HB2.out⟩
        case measure => simp [intOf]; omega
      · have HS := Lib.hid hst
        have HN' := Lib.hid (show p.flds (k + 1) = p.flds k ++ [p.fld k] by rw [flds_succ, hst]; rfl)
        clear hst hnn
        gi_wp2_with fail
        refine ⟨trivial, ?_⟩
        refine (callsIn_wide.2 (At_any g c p _ _ HPk.out)).mono ?_
        rintro e wn ⟨rfl, hb⟩
        rw [show (p.at (k : Int)).st = _ from HS.out]
        have HB2 := Lib.hid (HB.out.trans (hb.mono (Nat.le_trans HN0.out HB.out.size)))
        have HJ2 := Lib.hid (HJ.out _ _ _ none HJk.out (grown_below hb none) (fun _ e => by cases e))
        have HP2 := Lib.hid (HP.out.belowN HB2.out hg hc)
        have q2 := (H1.out.below HB2.out hb1).cell 0
        clear hb
        have hF := field_st
        gi_wp2_with fail
        refine ⟨trivial, ?_⟩
        refine (callsIn_wide.2 (at_any g c p _ (by omega) hlt' _ HP2.out)).mono ?_
        rintro e wn3 ⟨rfl, hb⟩
        have HB3 := Lib.hid (HB2.out.trans (hb.mono (Nat.le_trans HN0.out HB2.out.size)))
        have HJ3 := Lib.hid (HJ.out _ _ _ none HJ2.out (grown_below hb none) (fun _ e => by cases e))
        clear hb
        obtain ⟨fn, tmps, assign, body, hy, hR⟩ := hY _ (p.fld k) wn3 HJ3.out (by have := flds_len p k; omega)
        simp only [Pl.fld] at hy
        gi_wp2
        refine hR.mono ?_
        rintro e W3 (⟨rfl, hJ3, hk⟩ | ⟨rfl, hJx3⟩)
        · gi_wp2
          go_roundw
          case rel => exact ⟨k + 1, by omega, by go_num, by rw [HN'.out]; exact hJ3, HB3.out.trans hk⟩
          case measure => simp [intOf]; omega
        · gi_wp2
          refine bodyPost_ret (results_none rfl _ _ _) rfl ?_
          refine ⟨⟨_, rfl⟩, .inr ⟨_, ?_, hJx3⟩⟩
          rw [← HN'.out]
          have := flds_prefix p (k + 1) (p.cells.length - (k + 1))
          rwa [show k + 1 + (p.cells.length - (k + 1)) = p.cells.length from by omega] at this
    · have : k = p.cells.length := by omega
      subst this
      clear hnn
      have hge : ¬ ((p.cells.length : Int) < p.n) := by have := HN.out; omega
      gi_wp2
      go_end0
      exact ⟨⟨_, rfl⟩, .inl HJk.out⟩

theorem FAll_stops (n : Nat) (hn : 1 ≤ n) (B1 g c n₀ : Nat) (p : Pl) (w : World) (h1 : Blk w B1 26 #[.pointer (some ⟨g, 0, none⟩)]) (hP : PlAt w g c p) (hb1 : B1 < n₀) (hg : g < n₀) (hc : c < n₀) (hn0 : n₀ ≤ w.heap.size) :
    SeqStopsK Fence.wide n Try.prog 91 #[.pointer (some ⟨B1, 0, none⟩)] (fun x : FV => #[.agg #[.int .i64 x.s, .int .i64 x.l, .int .u8 x.a]]) (Below n₀) (fun xs => xs = p.flds p.cells.length) (fun pre => pre <+: p.flds p.cells.length) 4096 w :=
  fun l J Jx W hW hJ _ hY h0 =>
    FAll1_in n hn l B1 g c n₀ p J Jx W hJ hY (Blk.below' h1 hW) (hP.ext hW) hb1 hg hc (Nat.le_trans hn0 hW.size) h0
end Go.Proofs.Ytmcfckdgolojlaa
