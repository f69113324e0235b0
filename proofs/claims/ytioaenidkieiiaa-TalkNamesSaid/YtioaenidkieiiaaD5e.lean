/- The decoder: its bytes one by one. -/
import Derived.Test.YtioaenidkieiiaaD5d
namespace Go.Proofs.Ytioaenidkieiiaa
set_option linter.unusedVariables false
set_option linter.unusedSimpArgs false
open Go.RowKit Go.Proofs.YtioaenidkieiiaaW.PrintWords
section
variable {W0 W : World} {own : Nat → Prop} {db : Nat} {d : Dec} {vs vo : Value} {ms : List Em} (h : DecAt W0 own db W d vs vo ms)
include h
set_option maxHeartbeats 1000000 in
theorem outside_any (c : Int) {k : Nat} (hr : d.Room k) (hk : k ≤ 80000) : Calls Try.prog 73 #[.pointer (some ⟨db, 0, none⟩), .int .u8 c] W (DecP W0 own db (d.outside c)) := by
  have hlt := h.blk.lt
  have a0 := h.blk.cell 0
  have f0 := h.blk.free 0
  simp [Dec.cells] at a0
  have H := Lib.hid h
  have HR := Lib.hid hr
  clear h hr
  unfold Dec.outside
  by_cases h1 : c = 255
  · subst h1
    go_enter Try.func73, Try.ntmps73
    go_wp2_with fail
    go_end0
    exact ⟨rfl, _, _, _, H.out.put (d' := { d with at_ := 1 }) (Mut_set db 0 _) (H.out.blk.store 0 (.int .i64 1)) (.inl ⟨rfl, rfl⟩) (.inl ⟨rfl, rfl, rfl⟩)⟩
  · have b1 : (c == 255) = false := by simpa using h1
    rw [if_neg h1]
    clear h1
    go_enter Try.func73, Try.ntmps73
    go_wp2_with fail
    refine (data_any H.out c HR.out (by omega)).mono ?_
    rintro e w1 ⟨rfl, vs1, vo1, ms1, h1⟩
    have H1 := Lib.hid h1
    clear h1
    go_wp2_with fail
    go_end0
    exact ⟨rfl, _, _, _, H1.out⟩

set_option maxHeartbeats 1000000 in
theorem first_any (c : Int) {k : Nat} (hr : d.Room k) (hk : k ≤ 80000) : Calls Try.prog 69 #[.pointer (some ⟨db, 0, none⟩), .int .u8 c] W (DecP W0 own db (d.first c)) := by
  have hlt := h.blk.lt
  have a0 := h.blk.cell 0
  have f0 := h.blk.free 0
  simp [Dec.cells] at a0
  have H := Lib.hid h
  have HR := Lib.hid hr
  clear h hr
  unfold Dec.first
  by_cases h1 : c = 255
  · subst h1
    go_enter Try.func69, Try.ntmps69
    go_wp2_with fail
    go_end0
    exact ⟨rfl, _, _, _, H.out.put (d' := { d with at_ := 4 }) (Mut_set db 0 _) (H.out.blk.store 0 (.int .i64 4)) (.inl ⟨rfl, rfl⟩) (.inl ⟨rfl, rfl, rfl⟩)⟩
  · have b1 : (c == 255) = false := by simpa using h1
    rw [if_neg h1]
    clear h1
    go_enter Try.func69, Try.ntmps69
    go_wp2_with fail
    refine (begin_any H.out c).mono ?_
    rintro e w1 ⟨rfl, vs1, vo1, ms1, h1⟩
    have H1 := Lib.hid h1
    clear h1
    go_wp2_with fail
    go_end0
    exact ⟨rfl, _, _, _, H1.out⟩

set_option maxHeartbeats 1000000 in
theorem second_any (c : Int) {k : Nat} (hr : d.Room k) (hk : k ≤ 80000) : Calls Try.prog 70 #[.pointer (some ⟨db, 0, none⟩), .int .u8 c] W (DecP W0 own db (d.second c)) := by
  have hlt := h.blk.lt
  have a0 := h.blk.cell 0
  have f0 := h.blk.free 0
  simp [Dec.cells] at a0
  have H := Lib.hid h
  have HR := Lib.hid hr
  clear h hr
  unfold Dec.second
  by_cases h1 : c = 255
  · subst h1
    go_enter Try.func70, Try.ntmps70
    go_wp2_with fail
    refine (begin_any H.out 255).mono ?_
    rintro e w1 ⟨rfl, vs1, vo1, ms1, h1⟩
    have H1 := Lib.hid h1
    clear h1
    go_wp2_with fail
    go_end0
    exact ⟨rfl, _, _, _, H1.out⟩
  · have b1 : (c == 255) = false := by simpa using h1
    rw [if_neg h1]
    clear h1
    go_enter Try.func70, Try.ntmps70
    go_wp2_with fail
    refine (fault_any H.out false c HR.out hk).mono ?_
    rintro e w1 ⟨rfl, vs1, vo1, ms1, h1⟩
    have H1 := Lib.hid h1
    clear h1
    go_wp2_with fail
    go_end0
    exact ⟨rfl, _, _, _, H1.out⟩

set_option maxHeartbeats 1000000 in
theorem part_any (c : Int) {k : Nat} (hr : d.Room k) (hk : k ≤ 80000) : Calls Try.prog 71 #[.pointer (some ⟨db, 0, none⟩), .int .u8 c] W (DecP W0 own db (d.part c)) := by
  have hlt := h.blk.lt
  have a0 := h.blk.cell 0
  have f0 := h.blk.free 0
  simp [Dec.cells] at a0
  have H := Lib.hid h
  have HR := Lib.hid hr
  clear h hr
  unfold Dec.part
  by_cases h1 : c = 255
  · subst h1
    go_enter Try.func71, Try.ntmps71
    go_wp2_with fail
    go_end0
    exact ⟨rfl, _, _, _, H.out.put (d' := { d with at_ := 6 }) (Mut_set db 0 _) (H.out.blk.store 0 (.int .i64 6)) (.inl ⟨rfl, rfl⟩) (.inl ⟨rfl, rfl, rfl⟩)⟩
  · have b1 : (c == 255) = false := by simpa using h1
    rw [if_neg h1]
    clear h1
    go_enter Try.func71, Try.ntmps71
    go_wp2_with fail
    refine (keep_any H.out c (by have := HR.out.2.2; omega)).mono ?_
    rintro e w1 ⟨rfl, vs1, vo1, ms1, h1⟩
    have H1 := Lib.hid h1
    clear h1
    go_wp2_with fail
    go_end0
    exact ⟨rfl, _, _, _, H1.out⟩

end
section
variable {W0 W : World} {own : Nat → Prop} {db : Nat} {d : Dec} {vs vo : Value} {ms : List Em} (h : DecAt W0 own db W d vs vo ms)
include h
set_option maxRecDepth 100000 in
set_option maxHeartbeats 4000000 in
theorem end_any {k : Nat} (hr : d.Room k) (hk : k ≤ 80000) : Calls Try.prog 79 #[.pointer (some ⟨db, 0, none⟩)] W (DecP W0 own db d.end) := by
  obtain ⟨A, n, hvs⟩ := Go.Proofs.YtioaenidkieiiaaW.PrintWords.own_slice h.sub
  subst hvs
  have hlt := h.blk.lt
  have a2 := h.blk.cell 2
  have a3 := h.blk.cell 3
  have f3 := h.blk.free 3
  have a4 := h.blk.cell 4
  simp [Dec.cells] at a2 a3 a4
  have H := Lib.hid h
  have HR := Lib.hid hr
  clear h hr
  obtain ⟨lg, hlg⟩ : ∃ lg, d.long = lg := ⟨_, rfl⟩
  rw [hlg] at a4
  have HL := Lib.hid hlg
  clear hlg
  cases lg
  case false =>
    go_enter Try.func79, Try.ntmps79
    go_wp2_with fail
    go_region
    all_goals
      go_wp2_with fail
    refine (emit_any (((H.out.put (d' := { d with sub := [] }) (Mut_set db 3 (.slice none 0 0)) (H.out.blk.store 3 (.slice none 0 0)) (.inr ⟨rfl, rfl⟩) (.inl ⟨rfl, rfl, rfl⟩))).step (Ext_drew (Ext_alloc (Ext_refl _)))) ⟨⟨5, 0, d.opt, d.sub⟩, A, n⟩ (by have := H.out.len; have := HR.out.1; omega) (own_drew (own_alloc (own_setCell H.out.sub (fun e => H.out.sdb e.symm) _) _)) (fun g hg => ⟨fun e => (by cases e), H.out.os g hg, fun a ha e => H.out.ns a ha g e hg⟩)).mono ?_
    rintro e w1 ⟨rfl, vs1, vo1, ms1, h1⟩
    have H1 := Lib.hid h1
    clear h1 a2 a3 a4 f3
    go_wp2_with fail
    go_end0
    refine ⟨rfl, vs1, vo1, ms1, ?_⟩
    have e1 : d.end = ({ d with sub := [] } : Dec).emit ⟨5, 0, d.opt, d.sub⟩ := by unfold Dec.end; rw [HL.out]; rfl
    rw [e1]
    exact H1.out
  case true =>
    go_enter Try.func79, Try.ntmps79
    go_wp2_with fail
    go_region
    all_goals
      go_wp2_with fail
    refine (emit_any (((H.out.put (d' := { d with sub := [] }) (Mut_set db 3 (.slice none 0 0)) (H.out.blk.store 3 (.slice none 0 0)) (.inr ⟨rfl, rfl⟩) (.inl ⟨rfl, rfl, rfl⟩))).step (Ext_drew (Ext_alloc (Ext_refl _)))) ⟨⟨6, 0, d.opt, d.sub⟩, A, n⟩ (by have := H.out.len; have := HR.out.1; omega) (own_drew (own_alloc (own_setCell H.out.sub (fun e => H.out.sdb e.symm) _) _)) (fun g hg => ⟨fun e => (by cases e), H.out.os g hg, fun a ha e => H.out.ns a ha g e hg⟩)).mono ?_
    rintro e w1 ⟨rfl, vs1, vo1, ms1, h1⟩
    have H1 := Lib.hid h1
    clear h1 a2 a3 a4 f3
    go_wp2_with fail
    go_end0
    refine ⟨rfl, vs1, vo1, ms1, ?_⟩
    have e1 : d.end = ({ d with sub := [] } : Dec).emit ⟨6, 0, d.opt, d.sub⟩ := by unfold Dec.end; rw [HL.out]; rfl
    rw [e1]
    exact H1.out
set_option maxHeartbeats 1000000 in
theorem last_any (c : Int) {k : Nat} (hr : d.Room k) (hk : k ≤ 80000) : Calls Try.prog 72 #[.pointer (some ⟨db, 0, none⟩), .int .u8 c] W (DecP W0 own db (d.last c)) := by
  have H := Lib.hid h
  have HR := Lib.hid hr
  clear h hr
  unfold Dec.last
  by_cases h1 : c = 255
  · subst h1
    go_enter Try.func72, Try.ntmps72
    go_wp2_with fail
    refine (keep_any H.out 255 (by have := HR.out.2.2; omega)).mono ?_
    rintro e w1 ⟨rfl, vs1, vo1, ms1, h1⟩
    have H1 := Lib.hid h1
    clear h1
    go_wp2_with fail
    go_end0
    exact ⟨rfl, _, _, _, H1.out⟩
  have b1 : (c == 255) = false := by simpa using h1
  rw [if_neg h1]
  clear h1
  by_cases h2 : c = 240
  · subst h2
    go_enter Try.func72, Try.ntmps72
    go_wp2_with fail
    refine (end_any H.out HR.out hk).mono ?_
    rintro e w1 ⟨rfl, vs1, vo1, ms1, h1⟩
    have H1 := Lib.hid h1
    clear h1
    go_wp2_with fail
    go_end0
    exact ⟨rfl, _, _, _, H1.out⟩
  · have b2 : (c == 240) = false := by simpa using h2
    rw [if_neg h2]
    clear h2
    go_enter Try.func72, Try.ntmps72
    go_wp2_with fail
    refine (fault_any H.out true c HR.out hk).mono ?_
    rintro e w1 ⟨rfl, vs1, vo1, ms1, h1⟩
    have H1 := Lib.hid h1
    clear h1
    go_wp2_with fail
    go_end0
    exact ⟨rfl, _, _, _, H1.out⟩
set_option maxHeartbeats 1000000 in
theorem take_any (c : Int) {k : Nat} (hr : d.Room k) (hk : k ≤ 80000) : Calls Try.prog 61 #[.pointer (some ⟨db, 0, none⟩), .int .u8 c] W (DecP W0 own db (d.take c)) := by
  have hlt := h.blk.lt
  have a0 := h.blk.cell 0
  have a1 := h.blk.cell 1
  simp [Dec.cells] at a0 a1
  have H := Lib.hid h
  have HR := Lib.hid hr
  clear h hr
  unfold Dec.take
  by_cases h1 : d.at_ = 1
  · have b1 : (d.at_ == 1) = true := by simpa using h1
    rw [if_pos h1]
    clear h1
    go_enter Try.func61, Try.ntmps61
    go_wp2_with fail
    refine (command_any H.out c HR.out (by omega)).mono ?_
    rintro e w1 ⟨rfl, vs1, vo1, ms1, h1⟩
    have H1 := Lib.hid h1
    clear h1
    go_wp2_with fail
    go_end0
    exact ⟨rfl, _, _, _, H1.out⟩
  have b1 : (d.at_ == 1) = false := by simpa using h1
  rw [if_neg h1]
  clear h1
  by_cases h2 : d.at_ = 2
  · have b2 : (d.at_ == 2) = true := by simpa using h2
    rw [if_pos h2]
    clear h2
    go_enter Try.func61, Try.ntmps61
    go_wp2_with fail
    refine (emit_nil H.out ⟨4, d.code, c, []⟩ rfl HR.out (by omega)).mono ?_
    rintro e w1 ⟨rfl, vs1, vo1, ms1, h1⟩
    have H1 := Lib.hid h1
    clear h1
    go_wp2_with fail
    go_end0
    exact ⟨rfl, _, _, _, H1.out⟩
  have b2 : (d.at_ == 2) = false := by simpa using h2
  rw [if_neg h2]
  clear h2
  by_cases h3 : d.at_ = 3
  · have b3 : (d.at_ == 3) = true := by simpa using h3
    rw [if_pos h3]
    clear h3
    go_enter Try.func61, Try.ntmps61
    go_wp2_with fail
    refine (first_any H.out c HR.out hk).mono ?_
    rintro e w1 ⟨rfl, vs1, vo1, ms1, h1⟩
    have H1 := Lib.hid h1
    clear h1
    go_wp2_with fail
    go_end0
    exact ⟨rfl, _, _, _, H1.out⟩
  have b3 : (d.at_ == 3) = false := by simpa using h3
  rw [if_neg h3]
  clear h3
  by_cases h4 : d.at_ = 4
  · have b4 : (d.at_ == 4) = true := by simpa using h4
    rw [if_pos h4]
    clear h4
    go_enter Try.func61, Try.ntmps61
    go_wp2_with fail
    refine (second_any H.out c HR.out hk).mono ?_
    rintro e w1 ⟨rfl, vs1, vo1, ms1, h1⟩
    have H1 := Lib.hid h1
    clear h1
    go_wp2_with fail
    go_end0
    exact ⟨rfl, _, _, _, H1.out⟩
  have b4 : (d.at_ == 4) = false := by simpa using h4
  rw [if_neg h4]
  clear h4
  by_cases h5 : d.at_ = 5
  · have b5 : (d.at_ == 5) = true := by simpa using h5
    rw [if_pos h5]
    clear h5
    go_enter Try.func61, Try.ntmps61
    go_wp2_with fail
    refine (part_any H.out c HR.out hk).mono ?_
    rintro e w1 ⟨rfl, vs1, vo1, ms1, h1⟩
    have H1 := Lib.hid h1
    clear h1
    go_wp2_with fail
    go_end0
    exact ⟨rfl, _, _, _, H1.out⟩
  have b5 : (d.at_ == 5) = false := by simpa using h5
  rw [if_neg h5]
  clear h5
  by_cases h6 : d.at_ = 6
  · have b6 : (d.at_ == 6) = true := by simpa using h6
    rw [if_pos h6]
    clear h6
    go_enter Try.func61, Try.ntmps61
    go_wp2_with fail
    refine (last_any H.out c HR.out hk).mono ?_
    rintro e w1 ⟨rfl, vs1, vo1, ms1, h1⟩
    have H1 := Lib.hid h1
    clear h1
    go_wp2_with fail
    go_end0
    exact ⟨rfl, _, _, _, H1.out⟩
  · have b6 : (d.at_ == 6) = false := by simpa using h6
    rw [if_neg h6]
    clear h6
    go_enter Try.func61, Try.ntmps61
    go_wp2_with fail
    refine (outside_any H.out c HR.out hk).mono ?_
    rintro e w1 ⟨rfl, vs1, vo1, ms1, h1⟩
    have H1 := Lib.hid h1
    clear h1
    go_wp2_with fail
    go_end0
    exact ⟨rfl, _, _, _, H1.out⟩
end
end Go.Proofs.Ytioaenidkieiiaa
