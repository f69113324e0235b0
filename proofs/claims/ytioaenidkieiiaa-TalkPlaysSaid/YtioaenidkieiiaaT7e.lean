/- The document's answer of chapter 7: Take of what is no verb. -/
import Derived.Test.YtioaenidkieiiaaT7d
import Derived.Deep.RegionHeld3
namespace Go.Proofs.Ytioaenidkieiiaa
set_option linter.unusedVariables false
set_option linter.unusedSimpArgs false
open Go.RowKit Go.Shelf

def askedR (l : List One) (kind opt : Int) (bytes : List Int) : Bool := (kind == 5) && (opt == 24) && (bytes == [1]) && (stateR l true 24 == 1)
set_option maxRecDepth 100000 in
set_option maxHeartbeats 4000000 in
theorem refTake_none (nm : ByteArray) (l : List One) (A A1 A2 A3 : Option Addr) (c n1 c1 n2 c2 c3 : Nat) (nd : Bool) (kind code x : Int) (bytes : List Int) (hn : l.length ≤ 1000) (hb3 : bytes.length ≤ 1000000)
    (hk : (kind == 4) = false) (ha : askedR l kind x bytes = false) (w : World)
    (hr : Rd w 3 A l.length (l.flatMap One.enc)) (hr3 : Rd w 1 A3 bytes.length (u8s bytes)) :
    Calls Try.prog 32 #[.agg #[.string nm, .slice A l.length c, .slice A1 n1 c1, .slice A2 n2 c2, .bool nd], .agg #[.int .i64 kind, .int .u8 code, .int .u8 x, .slice A3 bytes.length c3]] w
      (TdP w nm A (.slice A1 n1 c1) (.slice A2 n2 c2) l l nd []) := by
  have HR := Lib.hid (fun w' (h : Ext w w') => Rd_ext h hr)
  have HR3 := Lib.hid hr3
  have hN : ∀ W', Ext w W' → TdP w nm A (.slice A1 n1 c1) (.slice A2 n2 c2) l l nd [] (.returned (.tuple #[.agg #[.string nm, .slice A l.length c, .slice A1 n1 c1, .slice A2 n2 c2, .bool nd], .slice none 0 0])) W' :=
    fun W' h => ⟨A, c, _, rfl, HR.out _ h, .inl ⟨rfl, rfl⟩, Bts.nil _ _, h⟩
  have HN := Lib.hid hN
  clear hr hr3 hN
  unfold askedR at ha
  cases h1 : (kind == 5)
  · clear ha
    go_enter Try.func32, Try.ntmps32
    go_wp2_with fail
    refine bodyPost_ret (v := .tuple #[.agg #[.string nm, .slice A l.length c, .slice A1 n1 c1, .slice A2 n2 c2, .bool nd], .slice none 0 0]) (by simp [results, Try.results32, go_sem, *]) rfl ?_
    exact HN.out _ (by repeat' (first | exact Ext_refl _ | (with_reducible exact HN.out) | (apply Ext_alloc) | (refine Ext_set ?_ ?_) | (simp; done) | (simp; omega)))
  cases h2 : (x == 24)
  · clear ha
    go_enter Try.func32, Try.ntmps32
    go_wp2_with fail
    refine bodyPost_ret (v := .tuple #[.agg #[.string nm, .slice A l.length c, .slice A1 n1 c1, .slice A2 n2 c2, .bool nd], .slice none 0 0]) (by simp [results, Try.results32, go_sem, *]) rfl ?_
    exact HN.out _ (by repeat' (first | exact Ext_refl _ | (with_reducible exact HN.out) | (apply Ext_alloc) | (refine Ext_set ?_ ?_) | (simp; done) | (simp; omega)))
  cases h3 : ((bytes.length : Int) == 1)
  · clear ha
    go_enter Try.func32, Try.ntmps32
    go_wp2_with fail
    refine bodyPost_ret (v := .tuple #[.agg #[.string nm, .slice A l.length c, .slice A1 n1 c1, .slice A2 n2 c2, .bool nd], .slice none 0 0]) (by simp [results, Try.results32, go_sem, *]) rfl ?_
    exact HN.out _ (by repeat' (first | exact Ext_refl _ | (with_reducible exact HN.out) | (apply Ext_alloc) | (refine Ext_set ?_ ?_) | (simp; done) | (simp; omega)))
  obtain ⟨y, rfl⟩ : ∃ y, bytes = [y] := by
    rw [beq_iff_eq] at h3
    match bytes, h3 with
    | [y], _ => exact ⟨y, rfl⟩
    | [], h => simp at h
    | a :: b :: l, h => simp at h; omega
  obtain ⟨g, q, u, rfl, hu, hcell⟩ := HR3.out.at1 (i := 0) (Nat.zero_lt_one)
  obtain rfl : Value.int .u8 y = u := by simpa [u8s] using hu
  clear hu h3
  simp only [List.length_singleton, Nat.add_zero] at hcell
  have hgl : g < w.heap.size := World.block_lt_of_cell? w _ hcell
  have hgl1 : g < w.heap.size + 1 := by omega
  have hgl2 : g < w.heap.size + 1 + 1 := by omega
  have hge0 : g ≠ w.heap.size := by omega
  have hge1 : g ≠ w.heap.size + 1 := by omega
  have hge2 : g ≠ w.heap.size + 1 + 1 := by omega
  cases h4 : (y == 1)
  · clear ha
    go_enter Try.func32, Try.ntmps32
    go_wp2_with fail
    refine bodyPost_ret (v := .tuple #[.agg #[.string nm, .slice A l.length c, .slice A1 n1 c1, .slice A2 n2 c2, .bool nd], .slice none 0 0]) (by simp [results, Try.results32, go_sem, *]) rfl ?_
    exact HN.out _ (by repeat' (first | exact Ext_refl _ | (with_reducible exact HN.out) | (apply Ext_alloc) | (refine Ext_set ?_ ?_) | (simp; done) | (simp; omega)))
  have hy : (([y] : List Int) == [1]) = true := by
    rw [beq_iff_eq] at h4 ⊢
    rw [h4]
  rw [h1, h2, hy] at ha
  have HA : Hid ((stateR l true 24 == 1) = false) := Lib.hid (by simpa using ha)
  clear ha hy
  have hE3 : Ext w (((w.alloc (.cells #[.string nm, .slice A l.length c, .slice A1 n1 c1, .slice A2 n2 c2, .bool nd] 69)).alloc (.cells #[.int .i64 kind, .int .u8 code, .int .u8 x, .slice (some ⟨g, q, none⟩) 1 c3] 77)).alloc (.cells #[.string { data := #[] }, .slice none 0 0, .slice none 0 0, .slice none 0 0, .bool false] 69)) := Ext_alloc (Ext_alloc (Ext_alloc (Ext_refl w)))
  have HE3 := Lib.hid hE3
  have BT0 := (((Blk.new w 69 #[.string nm, .slice A l.length c, .slice A1 n1 c1, .slice A2 n2 c2, .bool nd]).alloc (.cells #[.int .i64 kind, .int .u8 code, .int .u8 x, .slice (some ⟨g, q, none⟩) 1 c3] 77)).alloc (.cells #[.string { data := #[] }, .slice none 0 0, .slice none 0 0, .slice none 0 0, .bool false] 69))
  have BR0 := (Blk.new ((w.alloc (.cells #[.string nm, .slice A l.length c, .slice A1 n1 c1, .slice A2 n2 c2, .bool nd] 69)).alloc (.cells #[.int .i64 kind, .int .u8 code, .int .u8 x, .slice (some ⟨g, q, none⟩) 1 c3] 77)) 69 #[.string { data := #[] }, .slice none 0 0, .slice none 0 0, .slice none 0 0, .bool false])
  rw [World.size_alloc, World.size_alloc] at BR0
  have BT := Lib.hid BT0
  have BR := Lib.hid BR0
  clear BT0 BR0 hE3
  go_enter Try.func32, Try.ntmps32
  go_wp2_with fail
  refine (refOn_any nm l A A1 A2 c n1 c1 n2 c2 nd true 24 (by omega) _ (HR.out _ HE3.out)).mono ?_
  rintro e w5 ⟨rfl, hb⟩
  rw [HA.out]
  have BT5 := Lib.hid (Blk.below' BT.out hb)
  have BR5 := Lib.hid (Blk.below' BR.out hb)
  have X5 := Lib.hid (Ext_trans hb HE3.out)
  have hsz5 : w.heap.size + 3 ≤ w5.heap.size := by have := hb.size; simp at this; omega
  clear hb BT BR HE3
  have t0 := BT5.out.cell 0
  have t1 := BT5.out.cell 1
  have t2 := BT5.out.cell 2
  have t3 := BT5.out.cell 3
  have t4 := BT5.out.cell 4
  have ft0 := BT5.out.free 0
  have ft1 := BT5.out.free 1
  have ft2 := BT5.out.free 2
  have ft3 := BT5.out.free 3
  have ft4 := BT5.out.free 4
  simp at t0 t1 t2 t3 t4
  have r0 := BR5.out.cell 0
  have r1 := BR5.out.cell 1
  have r2 := BR5.out.cell 2
  have r3 := BR5.out.cell 3
  have r4 := BR5.out.cell 4
  have fr0 := BR5.out.free 0
  have fr1 := BR5.out.free 1
  have fr2 := BR5.out.free 2
  have fr3 := BR5.out.free 3
  have fr4 := BR5.out.free 4
  simp at r0 r1 r2 r3 r4
  go_wp2_with fail
  refine bodyPost_ret (v := .tuple #[.agg #[.string nm, .slice A l.length c, .slice A1 n1 c1, .slice A2 n2 c2, .bool nd], .slice none 0 0]) (by simp [results, Try.results32, go_sem, *]) rfl ?_
  exact HN.out _ (by repeat' (first | exact Ext_refl _ | (with_reducible exact X5.out) | (apply Ext_alloc) | (refine Ext_set ?_ ?_) | (simp; done) | (simp; omega)))
end Go.Proofs.Ytioaenidkieiiaa
