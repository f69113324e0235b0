/- OptionRests: send. -/
import Derived.Test.YtioaenidkieiiaaT6s
import Derived.Deep.RegionLaw
import Derived.LoopN
namespace Go.Proofs.Ytioaenidkieiiaa
set_option linter.unusedVariables false
set_option linter.unusedSimpArgs false
open Go.RowKit Go.Shelf Go.Proofs.YtioaenidkieiiaaW.PrintWords

theorem info22 : (Try.prog.info? 22).map (fun i => (i.zero, i.size, i.bytes)) = some (some (.slice none 0 0), 1, 24) := by kernel_rfl
/-- other blocks than the line's stay -/
def Kp (lb : Nat) (b : Bool → Nat) (v : Bool → Value) (W W' : World) : Prop := ∀ i, i < W.heap.size → i ≠ lb → (∀ s, i ≠ b s) → (∀ s, some i ≠ (v s).ownBlock) → W'.heap[i]? = W.heap[i]?
def SentP (w W : World) (lb : Nat) (b : Bool → Nat) (L : Ln) (v : Bool → Value) (e : Ending) (W' : World) : Prop := e = .returned (.tuple #[]) ∧ (∃ v' ms', LnAt w W' lb b L v' ms') ∧ Kp lb b v W W'

set_option maxRecDepth 100000 in
set_option maxHeartbeats 4000000 in
theorem send_false (w W : World) (lb : Nat) (b : Bool → Nat) (L : Ln) (v : Bool → Value) (ms : Bool → List Wm) (m : Wm) (h : LnAt w W lb b L v ms) (hn : (ms true).length ≤ 100000) (hn2 : L.n ≤ 100000)
    (hr : Rd W 1 m.A 3 (u8s [255, m.p.1, (m.p.2 : Int)])) (hm : ∀ ad, m.A = some ad → ad.block ≠ lb ∧ (∀ s', ad.block ≠ b s') ∧ ∀ s', some ad.block ≠ (v s').ownBlock) (hc : 3 ≤ m.c) :
    Calls Try.prog 25 #[.pointer (some ⟨lb, 0, none⟩), .int .i64 0, .slice m.A 3 m.c] W (SentP w W lb b ⟨L.o, fun s' => if s' = true then L.q s' ++ [m.p] else L.q s', L.n + 1⟩ v) := by
  obtain ⟨A, n, hv, hA⟩ : ∃ A c, v true = .slice A (ms true).length c ∧ (ms true).length ≤ c := q_slice (h.row true)
  obtain ⟨i0, hi, hz0, hz1, hz2⟩ := info_parts info22
  have H := Lib.hid h
  have HR := Lib.hid hr
  have HM := Lib.hid hm
  have hlt := h.blk.lt
  have a0 := h.blk.cell 3
  have a4 := h.blk.cell 4
  have f0 := h.blk.free 3
  have f4 := h.blk.free 4
  simp at a0 a4
  rw [hv] at a0
  have HV := Lib.hid hv
  have hlne : W.heap.size ≠ lb := Nat.ne_of_gt hlt
  have hlne2 : lb ≠ W.heap.size := Nat.ne_of_lt hlt
  clear h hr hm hv
  have hw1 : IntKind.i64.wrap (1 : Int) = 1 := by decide
  go_enter Try.func25, Try.ntmps25
  go_wp2_with fail
  go_region_law
    ((refine step_append_q rfl (.tmp 18) (.tmp 20) 52 rfl w.heap.size 22 i0 (.slice none 0 0) 1 24 Try.underlying52 hi hz0 hz1 hz2 rfl (by decide) (.slice A (ms true).length n) (ms true).length ((ms true).map Wm.v) (by rfl) (by have := (H.out.step (Ext_alloc (o := .cells #[.slice m.A 3 m.c] 22) (Ext_refl W))).row true; rw [HV.out] at this; exact this) ⟨W.heap.size, 0, none⟩ 1 1 [m.v] (by rfl) rfl (by exact World.news_of_block (heap_alloc_new W _)) (by intro u hu; rw [List.mem_singleton.1 hu]; rfl) (by decide) (by unfold maxLen; omega) (by omega) (by have := H.out.ext.size; simp; omega) ?_
      intro v1 w1 hq hg hv1
      obtain ⟨A1, c1, rfl, hc1⟩ := q_slice hq
      have HB1 := Lib.hid (((H.out.blk.alloc (.cells #[.slice m.A 3 m.c] 22)).drew).grown hg (by have := H.out.vlb true; rw [HV.out] at this; exact fun e => this e.symm))
      have m0 : w1.cell? ⟨lb, 3, none⟩ = some (.slice A (ms true).length n) := by
        rw [HB1.out.cell 3]; simp; exact HV.out
      have m1 := HB1.out.free 3
      have m2 : lb < w1.heap.size := HB1.out.lt
      have m3 : w1.cell? ⟨lb, 4, none⟩ = some (.int .i64 (L.n : Int)) := HB1.out.cell 4
      have m4 := HB1.out.free 4
      have HQ := Lib.hid hq
      have HG := Lib.hid hg
      have HV1 := Lib.hid hv1
      clear hq hg hv1))
  all_goals
    go_wp2_with fail
    go_end0
    have hvv : (Value.slice A1 ((ms true).length + 1) c1).ownBlock = (v true).ownBlock ∨ ∃ g, (Value.slice A1 ((ms true).length + 1) c1).ownBlock = some g ∧ (W.alloc (.cells #[.slice m.A 3 m.c] 22)).drew.heap.size ≤ g := by
      rcases HV1.out with e | e
      · exact .inl (by rw [HV.out]; exact e)
      · exact .inr e
    have hgg := HG.out
    rw [← HV.out] at hgg
    have hst := (H.out.step (Ext_drew (Ext_alloc (o := .cells #[.slice m.A 3 m.c] 22) (Ext_refl W))))
    refine ⟨rfl, ⟨_, _, hst.push true m HQ.out hgg hvv (Rd_alloc HR.out) HM.out hc rfl⟩, ?_⟩
    intro i hi h1 h2 h3
    have hi2 : i < (W.alloc (.cells #[.slice m.A 3 m.c] 22)).drew.heap.size := by simp; omega
    refine (Below.heap_setCell _ _ _ i h1).trans ((Below.heap_setCell _ _ _ i h1).trans ((hgg.block i hi2 (h3 true)).trans (Below.heap_alloc W _ i hi)))


set_option maxRecDepth 100000 in
set_option maxHeartbeats 4000000 in
theorem send_true (w W : World) (lb : Nat) (b : Bool → Nat) (L : Ln) (v : Bool → Value) (ms : Bool → List Wm) (m : Wm) (h : LnAt w W lb b L v ms) (hn : (ms false).length ≤ 100000) (hn2 : L.n ≤ 100000)
    (hr : Rd W 1 m.A 3 (u8s [255, m.p.1, (m.p.2 : Int)])) (hm : ∀ ad, m.A = some ad → ad.block ≠ lb ∧ (∀ s', ad.block ≠ b s') ∧ ∀ s', some ad.block ≠ (v s').ownBlock) (hc : 3 ≤ m.c) :
    Calls Try.prog 25 #[.pointer (some ⟨lb, 0, none⟩), .int .i64 1, .slice m.A 3 m.c] W (SentP w W lb b ⟨L.o, fun s' => if s' = false then L.q s' ++ [m.p] else L.q s', L.n + 1⟩ v) := by
  obtain ⟨A, n, hv, hA⟩ : ∃ A c, v false = .slice A (ms false).length c ∧ (ms false).length ≤ c := q_slice (h.row false)
  obtain ⟨i0, hi, hz0, hz1, hz2⟩ := info_parts info22
  have H := Lib.hid h
  have HR := Lib.hid hr
  have HM := Lib.hid hm
  have hlt := h.blk.lt
  have a0 := h.blk.cell 2
  have a4 := h.blk.cell 4
  have f0 := h.blk.free 2
  have f4 := h.blk.free 4
  simp at a0 a4
  rw [hv] at a0
  have HV := Lib.hid hv
  have hlne : W.heap.size ≠ lb := Nat.ne_of_gt hlt
  have hlne2 : lb ≠ W.heap.size := Nat.ne_of_lt hlt
  clear h hr hm hv
  have hw1 : IntKind.i64.wrap (0 : Int) = 0 := by decide
  go_enter Try.func25, Try.ntmps25
  go_wp2_with fail
  go_region_law
    ((refine step_append_q rfl (.tmp 18) (.tmp 20) 52 rfl w.heap.size 22 i0 (.slice none 0 0) 1 24 Try.underlying52 hi hz0 hz1 hz2 rfl (by decide) (.slice A (ms false).length n) (ms false).length ((ms false).map Wm.v) (by rfl) (by have := (H.out.step (Ext_alloc (o := .cells #[.slice m.A 3 m.c] 22) (Ext_refl W))).row false; rw [HV.out] at this; exact this) ⟨W.heap.size, 0, none⟩ 1 1 [m.v] (by rfl) rfl (by exact World.news_of_block (heap_alloc_new W _)) (by intro u hu; rw [List.mem_singleton.1 hu]; rfl) (by decide) (by unfold maxLen; omega) (by omega) (by have := H.out.ext.size; simp; omega) ?_
      intro v1 w1 hq hg hv1
      obtain ⟨A1, c1, rfl, hc1⟩ := q_slice hq
      have HB1 := Lib.hid (((H.out.blk.alloc (.cells #[.slice m.A 3 m.c] 22)).drew).grown hg (by have := H.out.vlb false; rw [HV.out] at this; exact fun e => this e.symm))
      have m0 : w1.cell? ⟨lb, 2, none⟩ = some (.slice A (ms false).length n) := by
        rw [HB1.out.cell 2]; simp; exact HV.out
      have m1 := HB1.out.free 2
      have m2 : lb < w1.heap.size := HB1.out.lt
      have m3 : w1.cell? ⟨lb, 4, none⟩ = some (.int .i64 (L.n : Int)) := HB1.out.cell 4
      have m4 := HB1.out.free 4
      have HQ := Lib.hid hq
      have HG := Lib.hid hg
      have HV1 := Lib.hid hv1
      clear hq hg hv1))
  all_goals
    go_wp2_with fail
    go_end0
    have hvv : (Value.slice A1 ((ms false).length + 1) c1).ownBlock = (v false).ownBlock ∨ ∃ g, (Value.slice A1 ((ms false).length + 1) c1).ownBlock = some g ∧ (W.alloc (.cells #[.slice m.A 3 m.c] 22)).drew.heap.size ≤ g := by
      rcases HV1.out with e | e
      · exact .inl (by rw [HV.out]; exact e)
      · exact .inr e
    have hgg := HG.out
    rw [← HV.out] at hgg
    have hst := (H.out.step (Ext_drew (Ext_alloc (o := .cells #[.slice m.A 3 m.c] 22) (Ext_refl W))))
    refine ⟨rfl, ⟨_, _, hst.push false m HQ.out hgg hvv (Rd_alloc HR.out) HM.out hc rfl⟩, ?_⟩
    intro i hi h1 h2 h3
    have hi2 : i < (W.alloc (.cells #[.slice m.A 3 m.c] 22)).drew.heap.size := by simp; omega
    refine (Below.heap_setCell _ _ _ i h1).trans ((Below.heap_setCell _ _ _ i h1).trans ((hgg.block i hi2 (h3 false)).trans (Below.heap_alloc W _ i hi)))

end Go.Proofs.Ytioaenidkieiiaa
