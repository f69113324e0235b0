/- The document's answer of chapter 7: Take of what asks for the name. -/
import Derived.Test.YtioaenidkieiiaaT7e
import Derived.Deep.RegionHeld
namespace Go.Proofs.Ytioaenidkieiiaa
set_option linter.unusedVariables false
set_option linter.unusedSimpArgs false
open Go.RowKit Go.Shelf

theorem Ext_bytes {w W : World} {e : TypeId} {s : ByteArray} (h : Ext w W) : Ext w (Lib.bytesWorld W e s) :=
  Ext_trans (w1 := Lib.bytesWorld W e s) (show Ext W (Lib.bytesWorld W e s) from ⟨rfl, rfl, rfl, by rw [Lib.bytesWorld_size]; omega, fun i hi => Lib.bytesWorld_at_old W e s i hi⟩) h
theorem Rd_bytes {W : World} {e : TypeId} {s : ByteArray} {sz n : Nat} {A : Option Addr} {cs : List Value} (h : Rd W sz A n cs) : Rd (Lib.bytesWorld W e s) sz A n cs := Rd_ext (Ext_bytes (Ext_refl W)) h
theorem Rd_bytesNew {W : World} {s : ByteArray} {b n : Nat} (hb : W.heap.size = b) (hn : s.size = n) : Rd (Lib.bytesWorld W 5 s) 1 (some ⟨b, 0, none⟩) n (u8s (numsOf s)) := by
  subst hb; subst hn
  refine ⟨by rw [u8s_length, numsOf_length, Nat.mul_one], fun _ => ⟨_, 0, rfl, fun j u hu => ?_⟩⟩
  rw [u8s_get] at hu
  have hj : j < s.size := by
    rw [← numsOf_length]
    cases h : (numsOf s)[j]? with
    | none => rw [h] at hu; cases hu
    | some x => exact (List.getElem?_eq_some_iff.1 h).1
  rw [Nat.zero_add, Lib.bytesWorld_cell W 5 s j hj]
  have h2 : j < s.data.toList.length := by rw [Array.length_toList]; exact hj
  unfold numsOf at hu
  rw [List.getElem?_map, List.getElem?_eq_getElem h2] at hu
  rw [List.getD_eq_getElem?_getD, List.getElem?_eq_getElem h2]
  exact hu
theorem Join3_any {W : World} {b x1 x2 x3 n1 n2 n3 c1 c2 c3 : Nat} {l1 l2 l3 L : List Int} (hb : Rd W 1 (some ⟨b, 0, none⟩) 3 [.slice (some ⟨x1, 0, none⟩) n1 c1, .slice (some ⟨x2, 0, none⟩) n2 c2, .slice (some ⟨x3, 0, none⟩) n3 c3])
    (h1 : Rd W 1 (some ⟨x1, 0, none⟩) n1 (u8s l1)) (h2 : Rd W 1 (some ⟨x2, 0, none⟩) n2 (u8s l2)) (h3 : Rd W 1 (some ⟨x3, 0, none⟩) n3 (u8s l3)) (hc : n1 ≤ c1 ∧ n2 ≤ c2 ∧ n3 ≤ c3) (hn : n1 ≤ 100000 ∧ n2 ≤ 100000 ∧ n3 ≤ 100000) (hL : l1 ++ l2 ++ l3 = L) :
    Calls Try.prog 59 #[.slice (some ⟨b, 0, none⟩) 3 3] W (RetB L W) := by
  have e1 : l1.length = n1 := by have := h1.1; simpa [u8s] using this
  have e2 : l2.length = n2 := by have := h2.1; simpa [u8s] using this
  have e3 : l3.length = n3 := by have := h3.1; simpa [u8s] using this
  subst e1; subst e2; subst e3; subst hL
  have := Join_any (some ⟨b, 0, none⟩) 3 [⟨some ⟨x1, 0, none⟩, c1, l1⟩, ⟨some ⟨x2, 0, none⟩, c2, l2⟩, ⟨some ⟨x3, 0, none⟩, c3, l3⟩] (by simp) (by simp) (by simp; omega) W hb (by
    intro s hs
    simp only [List.mem_cons, List.not_mem_nil, or_false] at hs
    rcases hs with rfl | rfl | rfl
    · exact ⟨hc.1, h1, show l1.length ≤ 1000000000 by omega⟩
    · exact ⟨hc.2.1, h2, show l2.length ≤ 1000000000 by omega⟩
    · exact ⟨hc.2.2, h3, show l3.length ≤ 1000000000 by omega⟩)
  simpa using this
theorem Join3_to {W : World} {b x1 x2 x3 n1 n2 n3 c1 c2 c3 : Nat} {l1 l2 l3 L : List Int} {R : Ending → World → Prop} (hb : Rd W 1 (some ⟨b, 0, none⟩) 3 [.slice (some ⟨x1, 0, none⟩) n1 c1, .slice (some ⟨x2, 0, none⟩) n2 c2, .slice (some ⟨x3, 0, none⟩) n3 c3])
    (h1 : Rd W 1 (some ⟨x1, 0, none⟩) n1 (u8s l1)) (h2 : Rd W 1 (some ⟨x2, 0, none⟩) n2 (u8s l2)) (h3 : Rd W 1 (some ⟨x3, 0, none⟩) n3 (u8s l3)) (hc : n1 ≤ c1 ∧ n2 ≤ c2 ∧ n3 ≤ c3) (hn : n1 ≤ 100000 ∧ n2 ≤ 100000 ∧ n3 ≤ 100000) (hL : l1 ++ l2 ++ l3 = L)
    (hk : ∀ v wq, Bts W.heap.size wq v L → Ext W wq → R (.returned v) wq) : Calls Try.prog 59 #[.slice (some ⟨b, 0, none⟩) 3 3] W R :=
  (Join3_any hb h1 h2 h3 hc hn hL).mono fun _ _ ⟨v, he, hd, hx⟩ => by subst he; exact hk v _ hd hx
theorem ext_size {W6 Wd : World} (h : Ext W6 Wd) : W6.heap.size ≤ Wd.heap.size := h.size
theorem keepT5 {W6 W' : World} {b : Nat} {v0 v1 v2 v3 v4 : Value} (t0 : W6.cell? ⟨b, 0, none⟩ = some v0) (t1 : W6.cell? ⟨b, 1, none⟩ = some v1) (t2 : W6.cell? ⟨b, 2, none⟩ = some v2) (t3 : W6.cell? ⟨b, 3, none⟩ = some v3) (t4 : W6.cell? ⟨b, 4, none⟩ = some v4)
    (hlt : b < W6.heap.size) (hE : Ext W6 W') : W'.cell? ⟨b, 0, none⟩ = some v0 ∧ W'.cell? ⟨b, 1, none⟩ = some v1 ∧ W'.cell? ⟨b, 2, none⟩ = some v2 ∧ W'.cell? ⟨b, 3, none⟩ = some v3 ∧ W'.cell? ⟨b, 4, none⟩ = some v4 :=
  ⟨(cell_ext hE hlt).trans t0, (cell_ext hE hlt).trans t1, (cell_ext hE hlt).trans t2, (cell_ext hE hlt).trans t3, (cell_ext hE hlt).trans t4⟩
theorem Rd_new {W : World} {b n : Nat} {t : TypeId} {l : List Value} (hb : W.heap.size = b) (hn : l.length = n) : Rd (W.alloc (.cells l.toArray t)) 1 (some ⟨b, 0, none⟩) n l := by
  subst hb; subst hn
  exact Rd.blk (Blk.new W t l.toArray) (by simp)

set_option maxRecDepth 100000 in
set_option maxHeartbeats 4000000 in
theorem refTake_asked (nm : ByteArray) (l : List One) (A A1 A2 A3 : Option Addr) (c n1 c1 n2 c2 c3 : Nat) (nd : Bool) (code : Int) (bytes : List Int) (hn : l.length ≤ 1000) (hb3 : bytes.length ≤ 1000000)
    (ha : askedR l 5 24 bytes = true) (hnm : nm.size ≤ 1000) (L : List Int) (hL : [255, 250, 24, 0] ++ numsOf nm ++ [255, 240] = L) (w : World)
    (hr : Rd w 3 A l.length (l.flatMap One.enc)) (hr3 : Rd w 1 A3 bytes.length (u8s bytes)) :
    Calls Try.prog 32 #[.agg #[.string nm, .slice A l.length c, .slice A1 n1 c1, .slice A2 n2 c2, .bool nd], .agg #[.int .i64 5, .int .u8 code, .int .u8 24, .slice A3 bytes.length c3]] w
      (TdP w nm A (.slice A1 n1 c1) (.slice A2 n2 c2) l l true L) := by
  have HR := Lib.hid (fun w' (h : Ext w w') => Rd_ext h hr)
  have HR3 := Lib.hid hr3
  have HL := Lib.hid hL
  clear hL
  clear hr hr3
  unfold askedR at ha
  simp only [Bool.and_eq_true, beq_iff_eq] at ha
  obtain ⟨⟨-, rfl⟩, h4⟩ := ha
  obtain ⟨g, q, u, rfl, hu, hcell⟩ := HR3.out.at1 (i := 0) (Nat.zero_lt_one)
  obtain rfl : Value.int .u8 1 = u := by simpa [u8s] using hu
  clear hu
  simp only [List.length_singleton, Nat.add_zero] at hcell
  have hgl : g < w.heap.size := World.block_lt_of_cell? w _ hcell
  have hgl1 : g < w.heap.size + 1 := by omega
  have hgl2 : g < w.heap.size + 1 + 1 := by omega
  have hge0 : g ≠ w.heap.size := by omega
  have hge1 : g ≠ w.heap.size + 1 := by omega
  have hge2 : g ≠ w.heap.size + 1 + 1 := by omega
  have HA : Hid ((stateR l true 24 == 1) = true) := Lib.hid (by rw [h4]; rfl)
  clear h4
  have hE3 : Ext w (((w.alloc (.cells #[.string nm, .slice A l.length c, .slice A1 n1 c1, .slice A2 n2 c2, .bool nd] 69)).alloc (.cells #[.int .i64 5, .int .u8 code, .int .u8 24, .slice (some ⟨g, q, none⟩) 1 c3] 77)).alloc (.cells #[.string { data := #[] }, .slice none 0 0, .slice none 0 0, .slice none 0 0, .bool false] 69)) := Ext_alloc (Ext_alloc (Ext_alloc (Ext_refl w)))
  have HE3 := Lib.hid hE3
  have BT0 := (((Blk.new w 69 #[.string nm, .slice A l.length c, .slice A1 n1 c1, .slice A2 n2 c2, .bool nd]).alloc (.cells #[.int .i64 5, .int .u8 code, .int .u8 24, .slice (some ⟨g, q, none⟩) 1 c3] 77)).alloc (.cells #[.string { data := #[] }, .slice none 0 0, .slice none 0 0, .slice none 0 0, .bool false] 69))
  have BR0 := (Blk.new ((w.alloc (.cells #[.string nm, .slice A l.length c, .slice A1 n1 c1, .slice A2 n2 c2, .bool nd] 69)).alloc (.cells #[.int .i64 5, .int .u8 code, .int .u8 24, .slice (some ⟨g, q, none⟩) 1 c3] 77)) 69 #[.string { data := #[] }, .slice none 0 0, .slice none 0 0, .slice none 0 0, .bool false])
  rw [World.size_alloc, World.size_alloc] at BR0
  have BT := Lib.hid BT0
  have BR := Lib.hid BR0
  clear BT0 BR0 hE3
  go_enter Try.func32, Try.ntmps32
  go_wp2_with fail
  refine (refOn_any nm l A A1 A2 c n1 c1 n2 c2 nd true 24 (by omega) _ (HR.out _ HE3.out)).mono ?_
  rintro e w5 ⟨rfl, hb⟩
  rw [HA.out]
  have BT5 := Lib.hid (Blk.below' BT.out hb)
  have BR5 := Lib.hid (Blk.below' BR.out hb)
  have X5 := Lib.hid (Ext_trans hb HE3.out)
  have hsz5 : w.heap.size + 3 ≤ w5.heap.size := by have := hb.size; simp at this; omega
  clear hb BT BR HE3
  have t0 := BT5.out.cell 0
  have t1 := BT5.out.cell 1
  have t2 := BT5.out.cell 2
  have t3 := BT5.out.cell 3
  have t4 := BT5.out.cell 4
  have ft0 := BT5.out.free 0
  have ft1 := BT5.out.free 1
  have ft2 := BT5.out.free 2
  have ft3 := BT5.out.free 3
  have ft4 := BT5.out.free 4
  simp at t0 t1 t2 t3 t4
  have kb := fun (u : ByteArray) (W : World) => Lib.run_convert_string_bytes (P := Try.prog) W 9 22 5 u Try.underlying9 Try.underlying22 Try.underlying5
  have hlt5 : w.heap.size < w5.heap.size := by omega
  go_upto_region 9 with (fail)
  have BT6 := Lib.hid (BT5.out.store 4 (.bool true))
  have BR6 := Lib.hid (BR5.out.far (p := ⟨w.heap.size, 4, none⟩) (by show w.heap.size + 1 + 1 ≠ w.heap.size; omega) (.bool true))
  have X6 := Lib.hid (Ext_set (p := ⟨w.heap.size, 4, none⟩) (u := .bool true) X5.out (Nat.le_refl _))
  have hsz6 : w.heap.size + 3 ≤ (w5.setCell ⟨w.heap.size, 4, none⟩ (.bool true)).heap.size := by simp; omega
  clear BT5 BR5 X5 t0 t1 t2 t3 t4 ft0 ft1 ft2 ft3 ft4 hlt5
  generalize w5.setCell ⟨w.heap.size, 4, none⟩ (.bool true) = W6 at *
  have t0 := BT6.out.cell 0
  have t1 := BT6.out.cell 1
  have t2 := BT6.out.cell 2
  have t3 := BT6.out.cell 3
  have t4 := BT6.out.cell 4
  have ft0 := BT6.out.free 0
  have ft1 := BT6.out.free 1
  have ft2 := BT6.out.free 2
  have ft3 := BT6.out.free 3
  have ft4 := BT6.out.free 4
  simp at t0 t1 t2 t3 t4
  have hlt6 : w.heap.size < W6.heap.size := by omega
  go_region_held (fun W' => W'.cell? ⟨w.heap.size, 0, none⟩ = some (.string nm) ∧ W'.cell? ⟨w.heap.size, 1, none⟩ = some (.slice A l.length c) ∧ W'.cell? ⟨w.heap.size, 2, none⟩ = some (.slice A1 n1 c1) ∧ W'.cell? ⟨w.heap.size, 3, none⟩ = some (.slice A2 n2 c2) ∧ W'.cell? ⟨w.heap.size, 4, none⟩ = some (.bool true))
    (first | go_keep | (exact ⟨m0, m1, m2, m3, m4⟩) | (refine keepT5 t0 t1 t2 t3 t4 hlt6 ?_; repeat' (first | exact Ext_refl _ | apply Ext_bytes | apply Ext_alloc | apply Ext_drew)))
    ((first
      | (go_at_call 59
         apply Join3_to (l1 := [255, 250, 24, 0]) (l2 := numsOf nm) (l3 := [255, 240]) (L := L)
         · refine Rd_new ?_ ?_
           · simp
           · rfl
         · show Rd _ 1 _ _ [.int .u8 255, .int .u8 250, .int .u8 24, .int .u8 0]
           repeat' (first | (with_reducible refine Rd_bytesNew ?_ ?_) | (with_reducible refine Rd_new ?_ ?_) | (with_reducible apply Rd_alloc) | (with_reducible apply Rd_drew) | (with_reducible apply Rd_bytes) | (with_reducible rfl) | (simp [Lib.bytesWorld_size]; done))
         · repeat' (first | (with_reducible refine Rd_bytesNew ?_ ?_) | (with_reducible refine Rd_new ?_ ?_) | (with_reducible apply Rd_alloc) | (with_reducible apply Rd_drew) | (with_reducible apply Rd_bytes) | (with_reducible rfl) | (simp [Lib.bytesWorld_size]; done))
         · show Rd _ 1 _ _ [.int .u8 255, .int .u8 240]
           repeat' (first | (with_reducible refine Rd_bytesNew ?_ ?_) | (with_reducible refine Rd_new ?_ ?_) | (with_reducible apply Rd_alloc) | (with_reducible apply Rd_drew) | (with_reducible apply Rd_bytes) | (with_reducible rfl) | (simp [Lib.bytesWorld_size]; done))
         · exact ⟨Nat.le_refl _, grownCap_ge _ _ _ _, Nat.le_refl _⟩
         · refine ⟨?_, ?_, ?_⟩ <;> omega
         · exact HL.out
         intro v wq hd hb
         have hE6 : Ext W6 wq := by
           refine Ext_trans hb ?_
           repeat' (first | exact Ext_refl _ | apply Ext_bytes | apply Ext_alloc | apply Ext_drew)
         obtain ⟨m0, m1, m2, m3, m4⟩ := keepT5 t0 t1 t2 t3 t4 hlt6 hE6
         have D7 : Hid (Bts (w.heap.size + 3) wq v L) := by
           refine Lib.hid (Bts.mono hd (Nat.le_trans hsz6 (ext_size ?_)))
           repeat' (first | exact Ext_refl _ | apply Ext_bytes | apply Ext_alloc | apply Ext_drew)
         have BR7 := Lib.hid (Blk.below' BR6.out hE6)
         have X7 := Lib.hid (Ext_trans hE6 X6.out)
         have hsz7 : w.heap.size + 3 ≤ wq.heap.size := Nat.le_trans hsz6 hE6.size
         clear hd hb hE6
         have r0 := BR7.out.cell 0
         have r1 := BR7.out.cell 1
         have r2 := BR7.out.cell 2
         have r3 := BR7.out.cell 3
         have r4 := BR7.out.cell 4
         have fr0 := BR7.out.free 0
         have fr1 := BR7.out.free 1
         have fr2 := BR7.out.free 2
         have fr3 := BR7.out.free 3
         have fr4 := BR7.out.free 4
         simp at r0 r1 r2 r3 r4
         have hne1 : w.heap.size + 1 + 1 ≠ w.heap.size := by omega
         have hne2 : w.heap.size ≠ w.heap.size + 1 + 1 := by omega
         have hlt7 : w.heap.size + 1 + 1 < wq.heap.size := by omega)))
  all_goals
    have hle : w.heap.size ≤ w.heap.size + 1 + 1 := by omega
    have XF := Lib.hid (show Ext w (((((wq.setCell ⟨w.heap.size + 1 + 1, 0, none⟩ (.string nm)).setCell ⟨w.heap.size + 1 + 1, 1, none⟩ (.slice A l.length c)).setCell ⟨w.heap.size + 1 + 1, 2, none⟩ (.slice A1 n1 c1)).setCell ⟨w.heap.size + 1 + 1, 3, none⟩ (.slice A2 n2 c2)).setCell ⟨w.heap.size + 1 + 1, 4, none⟩ (.bool true)) from Ext_set (Ext_set (Ext_set (Ext_set (Ext_set X7.out hle) hle) hle) hle) hle)
    have DF := Lib.hid (show Bts (w.heap.size + 3) (((((wq.setCell ⟨w.heap.size + 1 + 1, 0, none⟩ (.string nm)).setCell ⟨w.heap.size + 1 + 1, 1, none⟩ (.slice A l.length c)).setCell ⟨w.heap.size + 1 + 1, 2, none⟩ (.slice A1 n1 c1)).setCell ⟨w.heap.size + 1 + 1, 3, none⟩ (.slice A2 n2 c2)).setCell ⟨w.heap.size + 1 + 1, 4, none⟩ (.bool true)) v L from Bts_set (Bts_set (Bts_set (Bts_set (Bts_set D7.out (by omega)) (by omega)) (by omega)) (by omega)) (by omega))
    go_wp2_with fail
    refine bodyPost_ret (v := .tuple #[.agg #[.string nm, .slice A l.length c, .slice A1 n1 c1, .slice A2 n2 c2, .bool true], v]) (by simp [results, Try.results32, go_sem, *]) rfl ?_
    exact ⟨A, c, v, rfl, HR.out _ XF.out, .inl ⟨rfl, rfl⟩, Bts.mono DF.out (by omega), XF.out⟩
end Go.Proofs.Ytioaenidkieiiaa
