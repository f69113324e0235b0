/- Chapter 6's statements: the helpers. -/
import Derived.Test.YtioaenidkieiiaaOpt4
import Derived.Maps.AppendAt
import Derived.Shelf.Abstract
namespace Go.Proofs.Ytioaenidkieiiaa
set_option linter.unusedVariables false
set_option linter.unusedSimpArgs false
open Go.RowKit Go.Shelf
attribute [local go_sem] Oper.semAt_some

theorem info5 : (Try.prog.info? 5).map (fun i => (i.zero, i.size, i.bytes)) = some (some (.int .u8 0), 1, 1) := by kernel_rfl

/-- a box of the loop's own: a row of bytes, in a variable -/
def Coll (n₀ Bo : Nat) (l : List Int) (W : World) : Prop := ∃ v, Boxed W Bo 22 v ∧ W.ownsRow n₀ 5 1 v l.length (u8s l) ∧ True

set_option maxRecDepth 100000 in
set_option maxHeartbeats 2000000 in
theorem all_any (b : Nat) (s : Bool) (m : Nat) (o : Opt) (hm : 1 ≤ m) (w : World) (hO : OptAt w b o) :
    Calls Try.prog 22 #[.pointer (some ⟨b, 0, none⟩), .bool s, .int .i64 m] w fun e w' => ∃ v, e = .returned v ∧ Bts w.heap.size w' v ((ons o s 256).take m) ∧ Below w.heap.size w w' := by
  refine (callsIn_wide (n := 9)).1 ?_
  refine callsIn_of_wp_marks Try.func22 rfl trivial ?_ rfl
  simp only [Try.ntmps22, List.size_toArray, List.length_cons, List.length_nil, Nat.reduceAdd, Nat.reduceSub, Array.replicate_succ, Array.replicate_zero, List.push_toArray, List.append_toArray, List.nil_append, List.cons_append]
  gi_wp2_with (refine ⟨trivial, ?_⟩; gi_at_call 43; refine (callsIn_wide.2 (All_any _ _ _)).mono ?_; rintro e w' ⟨rfl, rfl⟩)
  obtain ⟨i0, hi, hz0, hz1, hz2⟩ := info_parts info5
  obtain ⟨W0, hW0⟩ : ∃ W0, (((((w.alloc (.cells #[.int .i64 m] 3)).alloc (.cells #[] 5)).alloc (.cells #[.slice (some ⟨w.heap.size + 1, 0, none⟩) 0 0] 22)).alloc (.cells #[.pointer (some ⟨b, 0, none⟩)] 25)).alloc (.cells #[.bool s] 4)) = W0 := ⟨_, rfl⟩
  have hsz : W0.heap.size = w.heap.size + 5 := by rw [← hW0]; simp
  have hB0 : Below w.heap.size w W0 := by
    rw [← hW0]
    exact (((((Below.refl w.heap.size w).alloc (Nat.le_refl _) _).alloc (by simp) _).alloc (by simp; omega) _).alloc (by simp; omega) _).alloc (by simp; omega) _
  have bM : Boxed W0 w.heap.size 3 (.int .i64 m) := by
    rw [← hW0]; exact ((((Boxed.new w 3 (.int .i64 m)).alloc _).alloc _).alloc _).alloc _
  have bO : Boxed W0 (w.heap.size + 2) 22 (.slice (some ⟨w.heap.size + 1, 0, none⟩) 0 0) := by
    have := Boxed.new ((w.alloc (.cells #[.int .i64 m] 3)).alloc (.cells #[] 5)) 22 (.slice (some ⟨w.heap.size + 1, 0, none⟩) 0 0)
    rw [World.size_alloc, World.size_alloc] at this
    rw [← hW0]; exact (this.alloc _).alloc _
  have rO : W0.ownsRow w.heap.size 5 1 (.slice (some ⟨w.heap.size + 1, 0, none⟩) 0 0) 0 [] := by
    refine ⟨rfl, .inr ⟨w.heap.size + 1, 0, #[], rfl, by omega, ?_, Nat.le_refl _, Nat.zero_le _, rfl, rfl⟩⟩
    have := World.alloc_heap_new (w.alloc (.cells #[.int .i64 m] 3)) (.cells #[] 5)
    rw [World.size_alloc] at this
    rw [← hW0]
    refine (Below.heap_alloc _ _ _ (by simp)).trans ((Below.heap_alloc _ _ _ (by simp)).trans ((Below.heap_alloc _ _ _ (by simp)).trans ?_))
    exact this
  have c1 : W0.cell? ⟨w.heap.size + 3, 0, none⟩ = some (.pointer (some ⟨b, 0, none⟩)) := by
    have := Boxed.new (((w.alloc (.cells #[.int .i64 m] 3)).alloc (.cells #[] 5)).alloc (.cells #[.slice (some ⟨w.heap.size + 1, 0, none⟩) 0 0] 22)) 25 (.pointer (some ⟨b, 0, none⟩))
    rw [World.size_alloc, World.size_alloc, World.size_alloc] at this
    rw [← hW0]; exact (this.alloc _).cell
  have c2 : W0.cell? ⟨w.heap.size + 4, 0, none⟩ = some (.bool s) := by
    have := Boxed.new ((((w.alloc (.cells #[.int .i64 m] 3)).alloc (.cells #[] 5)).alloc (.cells #[.slice (some ⟨w.heap.size + 1, 0, none⟩) 0 0] 22)).alloc (.cells #[.pointer (some ⟨b, 0, none⟩)] 25)) 4 (.bool s)
    rw [World.size_alloc, World.size_alloc, World.size_alloc, World.size_alloc] at this
    rw [← hW0]; exact this.cell
  have hO0 : OptAt W0 b o := Blk.below' hO hB0
  have hlen : (ons o s 256).length ≤ 256 := ons_length o s 256
  rw [hW0]
  clear hW0 hO
  refine wpIn_rangeFunc_ownG rfl (by omega) (gf := 62) (lb := #[.pointer (some ⟨w.heap.size + 3, 0, none⟩), .pointer (some ⟨w.heap.size + 4, 0, none⟩)]) rfl trivial (enters_of Try.func62 (by kernel_rfl) rfl)
    (All_stops 8 (by omega) (w.heap.size + 3) (w.heap.size + 4) b o s W0 c1 c2 hO0) (fun _ _ => trivial) (fun _ _ _ _ _ _ _ _ => trivial) (Below.refl _ _) (fun _ => rfl)
    (fun pre W => (Coll w.heap.size (w.heap.size + 2) pre W ∧ Boxed W w.heap.size 3 (.int .i64 m) ∧ pre.length < m) ∧ Below w.heap.size w W)
    (fun c pre W => (c = .exit 0 ∧ pre.length = m ∧ Coll w.heap.size (w.heap.size + 2) pre W) ∧ Below w.heap.size w W)
    (OwnFrom.and (Own.from (fun s A B row hs hg hr => ⟨holdsRow_own w.heap.size (w.heap.size + 2) 22 5 1 (fun l : List Int => l.length) (fun l => u8s l) (fun _ _ => True) s A B row hs.1 hg hr, boxed_own (β := List Int) w.heap.size 3 (fun _ => .int .i64 m) s A B row hs.2.1 hg hr, hs.2.2⟩) _) (ownFrom_below (Nat.le_refl _) (by omega)))
    (fun c => OwnFrom.and (Own.from (fun s A B row hs hg hr => ⟨hs.1, hs.2.1, holdsRow_own w.heap.size (w.heap.size + 2) 22 5 1 (fun l : List Int => l.length) (fun l => u8s l) (fun _ _ => True) s A B row hs.2.2 hg hr⟩) _) (ownFrom_below (Nat.le_refl _) (by omega)))
    ⟨⟨⟨_, bO, rO, trivial⟩, bM, by simp; omega⟩, hB0⟩
    (fun x => { tmps := #[.pointer (some ⟨b, 0, none⟩), .bool s, .int .i64 m, undef, undef, .pointer (some ⟨w.heap.size, 0, none⟩), .slice none 0 0, .pointer (some ⟨w.heap.size + 1 + 1, 0, none⟩), .int .u8 x,
        .slice (some ⟨w.heap.size + 1, 0, none⟩) 0 0, .pointer (some ⟨b, 0, none⟩), .bool s, .func (.func 62) #[] #[.pointer (some ⟨w.heap.size + 3, 0, none⟩), .pointer (some ⟨w.heap.size + 4, 0, none⟩)], .int .u8 x,
        undef, undef, undef, undef, undef, undef, undef, undef, undef], defers := [] }) ?assign ?body ?done ?stop
  case assign =>
    intro l x W K hK
    gi_wp2
    exact hK
  case body =>
    rintro l pre x W ⟨⟨⟨v, hv, hrow, _⟩, hbm, hpm⟩, hB⟩ hp
    have hc := hv.cell
    have hpm' : pre.length ≤ 256 := by omega
    obtain ⟨c, Av, hvs⟩ : ∃ A c, v = .slice A pre.length c := by
      rcases hrow.2 with ⟨rfl, h0⟩ | ⟨g, cap, cur, rfl, _⟩
      · exact ⟨none, 0, by rw [h0]⟩
      · exact ⟨_, _, rfl⟩
    subst hvs
    have hsn : u8s pre ++ [.int .u8 x] = u8s (pre ++ [x]) := by simp [u8s]
    by_cases e : pre.length + 1 = m
    · have et : (((pre.length : Int) + 1) == (m : Int)) = true := by rw [beq_iff_eq]; omega
      have HE := Lib.hid e
      clear e
      gi_wp2_with (gi_at_builtin; refine wpListIn_append_own _ rfl (.tmp 14) (.tmp 16) 22 rfl w.heap.size 5 i0 (.int .u8 0) 1 1 Try.underlying22 hi hz0 hz1 hz2 rfl (by decide) _ _ _ rfl (hrow.alloc _) ⟨W.heap.size, 0, none⟩ 1 1 [.int .u8 x] rfl rfl (cell_one_new _ _ _) (by simp [Value.oneCell']) (by unfold maxLen; omega) (by omega) (by have := hB.size; simp; omega) ?_; intro v' w1 hown' hgrow _; obtain ⟨g', cap', rfl⟩ := ownsRow_succ hown'; obtain ⟨hv1, hv2, hr2, hk2, hb2⟩ := hv.appended (by decide) hrow hB.size (by omega) hown' hgrow; have hc1 := hv1.cell; have hf1 := hv1.frozen; have hcm1 := ((hbm.alloc (.cells #[.int .u8 x] 5)).kept hgrow (hbm.not_row (by decide) hrow)).cell)
      exact ⟨hk2.from _, ⟨rfl, by rw [List.length_append]; exact HE.out, ⟨_, hv2, by rw [← hsn, List.length_append]; exact hr2, trivial⟩⟩, hB.trans hb2⟩
    · have et : (((pre.length : Int) + 1) == (m : Int)) = false := by rw [beq_eq_false_iff_ne]; omega
      have HE := Lib.hid e
      clear e
      gi_wp2_with (gi_at_builtin; refine wpListIn_append_own _ rfl (.tmp 14) (.tmp 16) 22 rfl w.heap.size 5 i0 (.int .u8 0) 1 1 Try.underlying22 hi hz0 hz1 hz2 rfl (by decide) _ _ _ rfl (hrow.alloc _) ⟨W.heap.size, 0, none⟩ 1 1 [.int .u8 x] rfl rfl (cell_one_new _ _ _) (by simp [Value.oneCell']) (by unfold maxLen; omega) (by omega) (by have := hB.size; simp; omega) ?_; intro v' w1 hown' hgrow _; obtain ⟨g', cap', rfl⟩ := ownsRow_succ hown'; obtain ⟨hv1, hv2, hr2, hk2, hb2⟩ := hv.appended (by decide) hrow hB.size (by omega) hown' hgrow; have hc1 := hv1.cell; have hf1 := hv1.frozen; have hbm1 := (hbm.alloc (.cells #[.int .u8 x] 5)).kept hgrow (hbm.not_row (by decide) hrow); have hcm1 := hbm1.cell)
      exact ⟨hk2.from _, trivial, ⟨⟨_, hv2, by rw [← hsn, List.length_append]; exact hr2, trivial⟩, hbm1.kept (grownBy_setCell' _ _ _) (by simp; omega), by have := HE.out; rw [List.length_append]; simp; omega⟩, hB.trans hb2⟩
  case done =>
    rintro D ys W hD rfl ⟨⟨⟨v, hv, hrow, _⟩, _, hpm⟩, hB⟩ hK
    have hc := hv.cell
    gi_wp2
    refine ⟨by simp, .inl ⟨_, _, rfl, run_takeDeferred hK, ?_⟩⟩
    refine ⟨_, results_tmp rfl _ _ _, _, rfl, ?_, hB.trans (belowK_b (w := w) (Nat.le_refl _) W D _ _ (by omega) hK rfl rfl)⟩
    rw [List.take_of_length_le (by omega)]
    exact Bts.of_own (ownsRow_putObj hrow _ hK rfl)
  case stop =>
    rintro D c pre W hD hpre ⟨⟨rfl, hpm, ⟨v, hv, hrow, _⟩⟩, hB⟩ hK
    have hc := hv.cell
    gi_wp2
    refine ⟨by simp, .inl ⟨_, _, rfl, run_takeDeferred hK, ?_⟩⟩
    refine ⟨_, results_tmp rfl _ _ _, _, rfl, ?_, hB.trans (belowK_b (w := w) (Nat.le_refl _) W D _ _ (by omega) hK rfl rfl)⟩
    rw [← hpm, ← List.prefix_iff_eq_take.1 hpre]
    exact Bts.of_own (ownsRow_putObj hrow _ hK rfl)
end Go.Proofs.Ytioaenidkieiiaa
