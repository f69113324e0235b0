/- The decoder: data behind what is no data; a subnegotiation ends. -/
import Derived.Test.YtioaenidkieiiaaD5b
import Derived.Deep.DeepMust
namespace Go.Proofs.Ytioaenidkieiiaa
set_option linter.unusedVariables false
set_option linter.unusedSimpArgs false
open Go.RowKit Go.Proofs.YtioaenidkieiiaaW.PrintWords
theorem addD_nil (c : Int) : addD [] c = [⟨1, 0, 0, [c]⟩] := rfl
set_option maxRecDepth 100000 in
set_option maxHeartbeats 4000000 in
theorem data_new {W0 W : World} {own : Nat → Prop} {db : Nat} {d : Dec} {vs vo : Value} {ms : List Em} (h : DecAt W0 own db W d vs vo ms) (c : Int) (hd : addD d.out c = d.out ++ [⟨1, 0, 0, [c]⟩]) (hn : ms.length ≤ 100000) (hk : ∀ ms0 m, ms = ms0 ++ [m] → m.e.kind ≠ 1) :
    Calls Try.prog 75 #[.pointer (some ⟨db, 0, none⟩), .int .u8 c] W (DecP W0 own db (d.data c)) := by
  obtain ⟨A, n, hvo⟩ := Go.Proofs.YtioaenidkieiiaaW.PrintWords.own_slice h.out
  subst hvo
  obtain ⟨i0, hi, hz0, hz1, hz2⟩ := info_parts infoE
  have HD : Hid (d.data c = { d with at_ := 0, out := d.out ++ [⟨1, 0, 0, [c]⟩] }) := Lib.hid (by unfold Dec.data; rw [hd])
  have H1 := Lib.hid (h.put (d' := { d with at_ := 0 }) (Mut_set db 0 (.int .i64 0)) (h.blk.store 0 (.int .i64 0)) (.inl ⟨rfl, rfl⟩) (.inl ⟨rfl, rfl, rfl⟩))
  have hlt := h.blk.lt
  have a0 := h.blk.cell 0
  have f0 := h.blk.free 0
  simp [Dec.cells] at a0
  clear h hd
  have hcases : ms = [] ∨ ∃ ms0 m, ms = ms0 ++ [m] := by
    rcases List.eq_nil_or_concat ms with e | ⟨ms0, m, e⟩
    · exact .inl e
    · exact .inr ⟨ms0, m, by rw [e, List.concat_eq_append]⟩
  rcases hcases with rfl | ⟨ms0, m, rfl⟩
  case inl =>
    go_enter Try.func75, Try.ntmps75
    go_upto_region 1 with (fail)
    clear a0 f0 hlt
    generalize W.setCell ⟨db, 0, none⟩ (.int .i64 0) = W1 at *
    have a5 := H1.out.blk.cell 5
    have f5 := H1.out.blk.free 5
    have hlt := H1.out.blk.lt
    simp [Dec.cells] at a5
    go_upto_region 4 with (fail)
    go_wp2_with
      ((at_builtin; go_must (refine list_append_one rfl (.tmp 51) (.tmp 55) 64 rfl 72 i0 _ 4 40 Try.underlying64 hi hz0 hz1 hz2 rfl (by decide) (.slice A 0 n) (([] : List Em)).length ((([] : List Em)).flatMap Em.enc) (by first | rfl | (rw [hll]; rfl)) (by exact (H1.out.step (Ext_alloc (o := (.cells (Em.mk ⟨1, 0, 0, [c]⟩ (some ⟨W1.heap.size, 0, none⟩) 1).enc.toArray 72)) (Ext_alloc (o := (.cells #[.int .u8 c] 5)) (Ext_refl W1)))).out) ⟨W1.heap.size + 1, 0, none⟩ (Em.mk ⟨1, 0, 0, [c]⟩ (some ⟨W1.heap.size, 0, none⟩) 1).enc (by rfl) rfl (by have hb := World.news_of_block (heap_alloc_new (W1.alloc (.cells #[.int .u8 c] 5)) (.cells (Em.mk ⟨1, 0, 0, [c]⟩ (some ⟨W1.heap.size, 0, none⟩) 1).enc.toArray 72)); rw [show (W1.alloc (.cells #[.int .u8 c] 5)).heap.size = W1.heap.size + 1 from by simp] at hb; exact hb) (by intro u hu; simp [Em.enc, Em.v] at hu; rcases hu with rfl | rfl | rfl | rfl <;> rfl) (by unfold maxLen; omega) (by omega) _ rfl ?_)
        intro A1 c1 w1 hq hg hv
        have HH := Lib.hid (H1.out.step (Ext_alloc (o := (.cells (Em.mk ⟨1, 0, 0, [c]⟩ (some ⟨W1.heap.size, 0, none⟩) 1).enc.toArray 72)) (Ext_alloc (o := (.cells #[.int .u8 c] 5)) (Ext_refl W1))))
        have HB := Lib.hid (HH.out.blk.grown hg (fun e => HH.out.odb e.symm))
        have m5 := HB.out.cell 5
        have m5f := HB.out.free 5
        have mlt : db < w1.heap.size := HB.out.lt
        simp [Dec.cells] at m5
        have HQ := Lib.hid hq
        have HG := Lib.hid hg
        have HV := Lib.hid hv
        clear hq hg hv))
    all_goals
      go_end0
      rw [HD.out]
      refine ⟨rfl, vs, .slice A1 ((([] : List Em)).length + 1) c1, ([] : List Em) ++ [⟨⟨1, 0, 0, [c]⟩, some ⟨W1.heap.size, 0, none⟩, 1⟩], ?_⟩
      have hr0 : W1.heap.size ≤ maxLen → True := fun _ => trivial
      have hrow0 := own_alloc (World.ownsRow_lit (e := 5) (base := 0) (size := 1) W1 #[.int .u8 c] 1 (Nat.zero_le _) (by decide) rfl) (.cells (Em.mk ⟨1, 0, 0, [c]⟩ (some ⟨W1.heap.size, 0, none⟩) 1).enc.toArray 72)
      exact HH.out.emit ⟨⟨1, 0, 0, [c]⟩, some ⟨W1.heap.size, 0, none⟩, 1⟩ HQ.out HG.out HV.out hrow0 (fun g hg' => by
        have e1 : W1.heap.size = g := by simpa [Em.v, Value.ownBlock] using hg'
        refine ⟨fun e2 => ?_, HH.out.nw g (by have := H1.out.fr.size; omega), fun a ha e2 => ?_⟩
        · have := (World.ownsRow.lt H1.out.sub g e2).2; omega
        · have := (World.ownsRow.lt (H1.out.row a ha) g e2).2; omega) (by first | rfl | (rw [hll])) rfl rfl
  case inr =>
    have hmk : (m.e.kind == 1) = false := by simpa using hk ms0 m rfl
    have hvo := World.ownsRow.form H1.out.out (by simp)
    obtain ⟨go, cap, hvo, _, hgl⟩ := hvo
    injection hvo with e1 _ e2
    subst e1 e2
    go_enter Try.func75, Try.ntmps75
    go_upto_region 1 with (fail)
    clear a0 f0 hlt
    generalize W.setCell ⟨db, 0, none⟩ (.int .i64 0) = W1 at *
    have a5 := H1.out.blk.cell 5
    have f5 := H1.out.blk.free 5
    have hlt := H1.out.blk.lt
    simp [Dec.cells] at a5
    have hrow := H1.out.out
    have hll : (ms0 ++ [m]).length = ms0.length + 1 := by simp
    rw [hll] at hrow
    have hfl : (ms0.flatMap Em.enc).length = ms0.length * 4 := flat_length Em.enc 4 (fun _ => rfl) ms0
    have ek : W1.cell? ⟨go, ms0.length * 4, none⟩ = some (.int .i64 m.e.kind) := (add_plain go _) ▸ World.ownsRow.cells hrow rfl (ms0.length * 4) (.int .i64 m.e.kind) (by rw [List.flatMap_append, List.getElem?_append_right (by omega), hfl]; simp [Em.enc])
    have hw : IntKind.i64.wrap (ms0.length : Int) = (ms0.length : Int) := IntWalk.i64_in _ (by omega)
    have hb1 : (ms0.length : Int) < (ms0.length : Int) + 1 := by omega
    clear hrow
    go_upto_region 4 with (fail)
    go_wp2_with
      ((at_builtin; go_must (refine list_append_one rfl (.tmp 51) (.tmp 55) 64 rfl 72 i0 _ 4 40 Try.underlying64 hi hz0 hz1 hz2 rfl (by decide) (.slice (some ⟨go, 0, none⟩) (ms0 ++ [m]).length n) (ms0 ++ [m]).length ((ms0 ++ [m]).flatMap Em.enc) (by first | rfl | (rw [hll]; rfl)) (by exact (H1.out.step (Ext_alloc (o := (.cells (Em.mk ⟨1, 0, 0, [c]⟩ (some ⟨W1.heap.size, 0, none⟩) 1).enc.toArray 72)) (Ext_alloc (o := (.cells #[.int .u8 c] 5)) (Ext_refl W1)))).out) ⟨W1.heap.size + 1, 0, none⟩ (Em.mk ⟨1, 0, 0, [c]⟩ (some ⟨W1.heap.size, 0, none⟩) 1).enc (by rfl) rfl (by have hb := World.news_of_block (heap_alloc_new (W1.alloc (.cells #[.int .u8 c] 5)) (.cells (Em.mk ⟨1, 0, 0, [c]⟩ (some ⟨W1.heap.size, 0, none⟩) 1).enc.toArray 72)); rw [show (W1.alloc (.cells #[.int .u8 c] 5)).heap.size = W1.heap.size + 1 from by simp] at hb; exact hb) (by intro u hu; simp [Em.enc, Em.v] at hu; rcases hu with rfl | rfl | rfl | rfl <;> rfl) (by unfold maxLen; omega) (by omega) _ rfl ?_)
        intro A1 c1 w1 hq hg hv
        have HH := Lib.hid (H1.out.step (Ext_alloc (o := (.cells (Em.mk ⟨1, 0, 0, [c]⟩ (some ⟨W1.heap.size, 0, none⟩) 1).enc.toArray 72)) (Ext_alloc (o := (.cells #[.int .u8 c] 5)) (Ext_refl W1))))
        have HB := Lib.hid (HH.out.blk.grown hg (fun e => HH.out.odb e.symm))
        have m5 := HB.out.cell 5
        have m5f := HB.out.free 5
        have mlt : db < w1.heap.size := HB.out.lt
        simp [Dec.cells] at m5
        have HQ := Lib.hid hq
        have HG := Lib.hid hg
        have HV := Lib.hid hv
        clear hq hg hv))
    all_goals
      go_end0
      rw [HD.out]
      refine ⟨rfl, vs, .slice A1 ((ms0 ++ [m]).length + 1) c1, ms0 ++ [m] ++ [⟨⟨1, 0, 0, [c]⟩, some ⟨W1.heap.size, 0, none⟩, 1⟩], ?_⟩
      have hr0 : W1.heap.size ≤ maxLen → True := fun _ => trivial
      have hrow0 := own_alloc (World.ownsRow_lit (e := 5) (base := 0) (size := 1) W1 #[.int .u8 c] 1 (Nat.zero_le _) (by decide) rfl) (.cells (Em.mk ⟨1, 0, 0, [c]⟩ (some ⟨W1.heap.size, 0, none⟩) 1).enc.toArray 72)
      exact HH.out.emit ⟨⟨1, 0, 0, [c]⟩, some ⟨W1.heap.size, 0, none⟩, 1⟩ HQ.out HG.out HV.out hrow0 (fun g hg' => by
        have e1 : W1.heap.size = g := by simpa [Em.v, Value.ownBlock] using hg'
        refine ⟨fun e2 => ?_, HH.out.nw g (by have := H1.out.fr.size; omega), fun a ha e2 => ?_⟩
        · have := (World.ownsRow.lt H1.out.sub g e2).2; omega
        · have := (World.ownsRow.lt (H1.out.row a ha) g e2).2; omega) (by first | rfl | (rw [hll])) rfl rfl
end Go.Proofs.Ytioaenidkieiiaa
