/- Chapter 20's statements: do. -/
import Derived.Test.YtmldhgebbgalbaaYB
import Derived.Test.YtmldhgebbgalbaaY7
namespace Go.Proofs.Ytmldhgebbgalbaa
set_option linter.unusedVariables false
set_option linter.unusedSimpArgs false
open Go.RowKit Go.Sort
set_option maxRecDepth 100000 in
set_option maxHeartbeats 4000000 in
theorem do_put0 (g c : Nat) (p : Pl) (o : OpY) (A : Option Addr) (cc : Nat) (hk : o.k = 0) (hb : 0 ≤ o.b ∧ o.b < 256) (hl : o.l.length ≤ maxLen) (hbs : ∀ x ∈ o.l, 0 ≤ x ∧ x < 256) (w : World) (h : PlAt w g c p) (hr : Rd w 1 A o.l.length (u8s o.l)) (hoff : ∀ i, i ∈ [g, c] → 0 < o.l.length → Off i A) :
    Calls Try.prog 9 #[.pointer (some ⟨g, 0, none⟩), .agg #[.int .i64 o.k, .int .i64 o.a, .int .u8 o.b, .slice A o.l.length cc, .bool o.ins]] w (PlTo (.tuple #[.int .i64 0, .int .i64 (p.putM o.b o.ins).2]) g c (p.putM o.b o.ins).1 w) := by
  have HK := Lib.hid hk
  clear hk
  go_enter Try.func9, Try.ntmps9
  go_upto_region 1 with (fail)
  have hB := Blk.new w 34 #[.int .i64 o.k, .int .i64 o.a, .int .u8 o.b, .slice A o.l.length cc, .bool o.ins]
  have hE := Ext_alloc (o := .cells #[.int .i64 o.k, .int .i64 o.a, .int .u8 o.b, .slice A o.l.length cc, .bool o.ins] 34) (Ext_refl w)
  generalize w.alloc (.cells #[.int .i64 o.k, .int .i64 o.a, .int .u8 o.b, .slice A o.l.length cc, .bool o.ins] 34) = W1 at *
  obtain ⟨ob, hob⟩ : ∃ ob, w.heap.size = ob := ⟨_, rfl⟩
  have hon : ob ∉ [g, c] := by have := h.glt; have := h.clt; simp; omega
  rw [hob] at hB ⊢
  clear hob
  have z0 := hB.cell 0
  have z1 := hB.cell 1
  have z2 := hB.cell 2
  have z3 := hB.cell 3
  have z4 := hB.cell 4
  simp at z0 z1 z2 z3 z4
  rw [HK.out] at z0
  have HE := Lib.hid hE
  have HP := Lib.hid (h.ext hE)
  have HR := Lib.hid (Rd_ext hE hr)
  clear hE hB h hr
  
  go_wp2_with fail
  refine (Put_any g c p o.b hb o.ins _ HP.out).mono ?_
  rintro e w2 ⟨rfl, hs, hch⟩
  go_wp2_with fail
  go_ret2
  exact ⟨rfl, hs, (Chg.of_ext HE.out [g, c]).trans hch⟩
set_option maxRecDepth 100000 in
set_option maxHeartbeats 4000000 in
theorem do_put1 (g c : Nat) (p : Pl) (o : OpY) (A : Option Addr) (cc : Nat) (hk : o.k = 1) (hb : 0 ≤ o.b ∧ o.b < 256) (hl : o.l.length ≤ maxLen) (hbs : ∀ x ∈ o.l, 0 ≤ x ∧ x < 256) (w : World) (h : PlAt w g c p) (hr : Rd w 1 A o.l.length (u8s o.l)) (hoff : ∀ i, i ∈ [g, c] → 0 < o.l.length → Off i A) :
    Calls Try.prog 9 #[.pointer (some ⟨g, 0, none⟩), .agg #[.int .i64 o.k, .int .i64 o.a, .int .u8 o.b, .slice A o.l.length cc, .bool o.ins]] w (PlTo (.tuple #[.int .i64 0, .int .i64 (p.putM o.b o.ins).2]) g c (p.putM o.b o.ins).1 w) := by
  have HK := Lib.hid hk
  clear hk
  go_enter Try.func9, Try.ntmps9
  go_upto_region 1 with (fail)
  have hB := Blk.new w 34 #[.int .i64 o.k, .int .i64 o.a, .int .u8 o.b, .slice A o.l.length cc, .bool o.ins]
  have hE := Ext_alloc (o := .cells #[.int .i64 o.k, .int .i64 o.a, .int .u8 o.b, .slice A o.l.length cc, .bool o.ins] 34) (Ext_refl w)
  generalize w.alloc (.cells #[.int .i64 o.k, .int .i64 o.a, .int .u8 o.b, .slice A o.l.length cc, .bool o.ins] 34) = W1 at *
  obtain ⟨ob, hob⟩ : ∃ ob, w.heap.size = ob := ⟨_, rfl⟩
  have hon : ob ∉ [g, c] := by have := h.glt; have := h.clt; simp; omega
  rw [hob] at hB ⊢
  clear hob
  have z0 := hB.cell 0
  have z1 := hB.cell 1
  have z2 := hB.cell 2
  have z3 := hB.cell 3
  have z4 := hB.cell 4
  simp at z0 z1 z2 z3 z4
  rw [HK.out] at z0
  have HE := Lib.hid hE
  have HP := Lib.hid (h.ext hE)
  have HR := Lib.hid (Rd_ext hE hr)
  clear hE hB h hr
  
  go_wp2_with fail
  refine (Put_any g c p o.b hb o.ins _ HP.out).mono ?_
  rintro e w2 ⟨rfl, hs, hch⟩
  go_wp2_with fail
  go_ret2
  exact ⟨rfl, hs, (Chg.of_ext HE.out [g, c]).trans hch⟩
set_option maxRecDepth 100000 in
set_option maxHeartbeats 4000000 in
theorem do_put2 (g c : Nat) (p : Pl) (o : OpY) (A : Option Addr) (cc : Nat) (hk : o.k = 2) (hb : 0 ≤ o.b ∧ o.b < 256) (hl : o.l.length ≤ maxLen) (hbs : ∀ x ∈ o.l, 0 ≤ x ∧ x < 256) (w : World) (h : PlAt w g c p) (hr : Rd w 1 A o.l.length (u8s o.l)) (hoff : ∀ i, i ∈ [g, c] → 0 < o.l.length → Off i A) :
    Calls Try.prog 9 #[.pointer (some ⟨g, 0, none⟩), .agg #[.int .i64 o.k, .int .i64 o.a, .int .u8 o.b, .slice A o.l.length cc, .bool o.ins]] w (PlTo (.tuple #[.int .i64 0, .int .i64 (p.putM o.b o.ins).2]) g c (p.putM o.b o.ins).1 w) := by
  have HK := Lib.hid hk
  clear hk
  go_enter Try.func9, Try.ntmps9
  go_upto_region 1 with (fail)
  have hB := Blk.new w 34 #[.int .i64 o.k, .int .i64 o.a, .int .u8 o.b, .slice A o.l.length cc, .bool o.ins]
  have hE := Ext_alloc (o := .cells #[.int .i64 o.k, .int .i64 o.a, .int .u8 o.b, .slice A o.l.length cc, .bool o.ins] 34) (Ext_refl w)
  generalize w.alloc (.cells #[.int .i64 o.k, .int .i64 o.a, .int .u8 o.b, .slice A o.l.length cc, .bool o.ins] 34) = W1 at *
  obtain ⟨ob, hob⟩ : ∃ ob, w.heap.size = ob := ⟨_, rfl⟩
  have hon : ob ∉ [g, c] := by have := h.glt; have := h.clt; simp; omega
  rw [hob] at hB ⊢
  clear hob
  have z0 := hB.cell 0
  have z1 := hB.cell 1
  have z2 := hB.cell 2
  have z3 := hB.cell 3
  have z4 := hB.cell 4
  simp at z0 z1 z2 z3 z4
  rw [HK.out] at z0
  have HE := Lib.hid hE
  have HP := Lib.hid (h.ext hE)
  have HR := Lib.hid (Rd_ext hE hr)
  clear hE hB h hr
  
  go_wp2_with fail
  refine (Put_any g c p o.b hb o.ins _ HP.out).mono ?_
  rintro e w2 ⟨rfl, hs, hch⟩
  go_wp2_with fail
  go_ret2
  exact ⟨rfl, hs, (Chg.of_ext HE.out [g, c]).trans hch⟩
set_option maxRecDepth 100000 in
set_option maxHeartbeats 4000000 in
theorem do_put3 (g c : Nat) (p : Pl) (o : OpY) (A : Option Addr) (cc : Nat) (hk : o.k = 3) (hb : 0 ≤ o.b ∧ o.b < 256) (hl : o.l.length ≤ maxLen) (hbs : ∀ x ∈ o.l, 0 ≤ x ∧ x < 256) (w : World) (h : PlAt w g c p) (hr : Rd w 1 A o.l.length (u8s o.l)) (hoff : ∀ i, i ∈ [g, c] → 0 < o.l.length → Off i A) :
    Calls Try.prog 9 #[.pointer (some ⟨g, 0, none⟩), .agg #[.int .i64 o.k, .int .i64 o.a, .int .u8 o.b, .slice A o.l.length cc, .bool o.ins]] w (PlTo (.tuple #[.int .i64 0, .int .i64 (p.putM o.b o.ins).2]) g c (p.putM o.b o.ins).1 w) := by
  have HK := Lib.hid hk
  clear hk
  go_enter Try.func9, Try.ntmps9
  go_upto_region 1 with (fail)
  have hB := Blk.new w 34 #[.int .i64 o.k, .int .i64 o.a, .int .u8 o.b, .slice A o.l.length cc, .bool o.ins]
  have hE := Ext_alloc (o := .cells #[.int .i64 o.k, .int .i64 o.a, .int .u8 o.b, .slice A o.l.length cc, .bool o.ins] 34) (Ext_refl w)
  generalize w.alloc (.cells #[.int .i64 o.k, .int .i64 o.a, .int .u8 o.b, .slice A o.l.length cc, .bool o.ins] 34) = W1 at *
  obtain ⟨ob, hob⟩ : ∃ ob, w.heap.size = ob := ⟨_, rfl⟩
  have hon : ob ∉ [g, c] := by have := h.glt; have := h.clt; simp; omega
  rw [hob] at hB ⊢
  clear hob
  have z0 := hB.cell 0
  have z1 := hB.cell 1
  have z2 := hB.cell 2
  have z3 := hB.cell 3
  have z4 := hB.cell 4
  simp at z0 z1 z2 z3 z4
  rw [HK.out] at z0
  have HE := Lib.hid hE
  have HP := Lib.hid (h.ext hE)
  have HR := Lib.hid (Rd_ext hE hr)
  clear hE hB h hr
  
  go_wp2_with fail
  refine (Put_any g c p o.b hb o.ins _ HP.out).mono ?_
  rintro e w2 ⟨rfl, hs, hch⟩
  go_wp2_with fail
  go_ret2
  exact ⟨rfl, hs, (Chg.of_ext HE.out [g, c]).trans hch⟩
set_option maxRecDepth 100000 in
set_option maxHeartbeats 4000000 in
theorem do_str (g c : Nat) (p : Pl) (o : OpY) (A : Option Addr) (cc : Nat) (hk : o.k = 4) (hb : 0 ≤ o.b ∧ o.b < 256) (hl : o.l.length ≤ maxLen) (hbs : ∀ x ∈ o.l, 0 ≤ x ∧ x < 256) (w : World) (h : PlAt w g c p) (hr : Rd w 1 A o.l.length (u8s o.l)) (hoff : ∀ i, i ∈ [g, c] → 0 < o.l.length → Off i A) :
    Calls Try.prog 9 #[.pointer (some ⟨g, 0, none⟩), .agg #[.int .i64 o.k, .int .i64 o.a, .int .u8 o.b, .slice A o.l.length cc, .bool o.ins]] w (PlTo (.tuple #[.int .i64 (p.strM o.ins o.l).2.1, .int .i64 (p.strM o.ins o.l).2.2]) g c (p.strM o.ins o.l).1 w) := by
  have HK := Lib.hid hk
  clear hk
  go_enter Try.func9, Try.ntmps9
  go_upto_region 1 with (fail)
  have hB := Blk.new w 34 #[.int .i64 o.k, .int .i64 o.a, .int .u8 o.b, .slice A o.l.length cc, .bool o.ins]
  have hE := Ext_alloc (o := .cells #[.int .i64 o.k, .int .i64 o.a, .int .u8 o.b, .slice A o.l.length cc, .bool o.ins] 34) (Ext_refl w)
  generalize w.alloc (.cells #[.int .i64 o.k, .int .i64 o.a, .int .u8 o.b, .slice A o.l.length cc, .bool o.ins] 34) = W1 at *
  obtain ⟨ob, hob⟩ : ∃ ob, w.heap.size = ob := ⟨_, rfl⟩
  have hon : ob ∉ [g, c] := by have := h.glt; have := h.clt; simp; omega
  rw [hob] at hB ⊢
  clear hob
  have z0 := hB.cell 0
  have z1 := hB.cell 1
  have z2 := hB.cell 2
  have z3 := hB.cell 3
  have z4 := hB.cell 4
  simp at z0 z1 z2 z3 z4
  rw [HK.out] at z0
  have HE := Lib.hid hE
  have HP := Lib.hid (h.ext hE)
  have HR := Lib.hid (Rd_ext hE hr)
  clear hE hB h hr
  
  go_wp2_with fail
  refine (String_any g c p o.ins A cc o.l hl hbs _ HP.out HR.out hoff).mono ?_
  rintro e w2 ⟨rfl, hs, hch⟩
  go_wp2_with fail
  go_ret2
  exact ⟨rfl, hs, (Chg.of_ext HE.out [g, c]).trans hch⟩
set_option maxRecDepth 100000 in
set_option maxHeartbeats 4000000 in
theorem do_del (g c : Nat) (p : Pl) (o : OpY) (A : Option Addr) (cc : Nat) (hk : o.k = 5) (hb : 0 ≤ o.b ∧ o.b < 256) (hl : o.l.length ≤ maxLen) (hbs : ∀ x ∈ o.l, 0 ≤ x ∧ x < 256) (w : World) (h : PlAt w g c p) (hr : Rd w 1 A o.l.length (u8s o.l)) (hoff : ∀ i, i ∈ [g, c] → 0 < o.l.length → Off i A) :
    Calls Try.prog 9 #[.pointer (some ⟨g, 0, none⟩), .agg #[.int .i64 o.k, .int .i64 o.a, .int .u8 o.b, .slice A o.l.length cc, .bool o.ins]] w (PlTo (.tuple #[.int .i64 0, .int .i64 p.delM.2]) g c p.delM.1 w) := by
  have HK := Lib.hid hk
  clear hk
  go_enter Try.func9, Try.ntmps9
  go_upto_region 1 with (fail)
  have hB := Blk.new w 34 #[.int .i64 o.k, .int .i64 o.a, .int .u8 o.b, .slice A o.l.length cc, .bool o.ins]
  have hE := Ext_alloc (o := .cells #[.int .i64 o.k, .int .i64 o.a, .int .u8 o.b, .slice A o.l.length cc, .bool o.ins] 34) (Ext_refl w)
  generalize w.alloc (.cells #[.int .i64 o.k, .int .i64 o.a, .int .u8 o.b, .slice A o.l.length cc, .bool o.ins] 34) = W1 at *
  obtain ⟨ob, hob⟩ : ∃ ob, w.heap.size = ob := ⟨_, rfl⟩
  have hon : ob ∉ [g, c] := by have := h.glt; have := h.clt; simp; omega
  rw [hob] at hB ⊢
  clear hob
  have z0 := hB.cell 0
  have z1 := hB.cell 1
  have z2 := hB.cell 2
  have z3 := hB.cell 3
  have z4 := hB.cell 4
  simp at z0 z1 z2 z3 z4
  rw [HK.out] at z0
  have HE := Lib.hid hE
  have HP := Lib.hid (h.ext hE)
  have HR := Lib.hid (Rd_ext hE hr)
  clear hE hB h hr
  
  go_wp2_with fail
  refine (Delete_any g c p _ HP.out).mono ?_
  rintro e w2 ⟨rfl, hs, hch⟩
  go_wp2_with fail
  go_ret2
  exact ⟨rfl, hs, (Chg.of_ext HE.out [g, c]).trans hch⟩
set_option maxRecDepth 100000 in
set_option maxHeartbeats 4000000 in
theorem do_end (g c : Nat) (p : Pl) (o : OpY) (A : Option Addr) (cc : Nat) (hk : o.k = 6) (hb : 0 ≤ o.b ∧ o.b < 256) (hl : o.l.length ≤ maxLen) (hbs : ∀ x ∈ o.l, 0 ≤ x ∧ x < 256) (w : World) (h : PlAt w g c p) (hr : Rd w 1 A o.l.length (u8s o.l)) (hoff : ∀ i, i ∈ [g, c] → 0 < o.l.length → Off i A) :
    Calls Try.prog 9 #[.pointer (some ⟨g, 0, none⟩), .agg #[.int .i64 o.k, .int .i64 o.a, .int .u8 o.b, .slice A o.l.length cc, .bool o.ins]] w (PlTo (.tuple #[.int .i64 0, .int .i64 p.endM.2]) g c p.endM.1 w) := by
  have HK := Lib.hid hk
  clear hk
  go_enter Try.func9, Try.ntmps9
  go_upto_region 1 with (fail)
  have hB := Blk.new w 34 #[.int .i64 o.k, .int .i64 o.a, .int .u8 o.b, .slice A o.l.length cc, .bool o.ins]
  have hE := Ext_alloc (o := .cells #[.int .i64 o.k, .int .i64 o.a, .int .u8 o.b, .slice A o.l.length cc, .bool o.ins] 34) (Ext_refl w)
  generalize w.alloc (.cells #[.int .i64 o.k, .int .i64 o.a, .int .u8 o.b, .slice A o.l.length cc, .bool o.ins] 34) = W1 at *
  obtain ⟨ob, hob⟩ : ∃ ob, w.heap.size = ob := ⟨_, rfl⟩
  have hon : ob ∉ [g, c] := by have := h.glt; have := h.clt; simp; omega
  rw [hob] at hB ⊢
  clear hob
  have z0 := hB.cell 0
  have z1 := hB.cell 1
  have z2 := hB.cell 2
  have z3 := hB.cell 3
  have z4 := hB.cell 4
  simp at z0 z1 z2 z3 z4
  rw [HK.out] at z0
  have HE := Lib.hid hE
  have HP := Lib.hid (h.ext hE)
  have HR := Lib.hid (Rd_ext hE hr)
  clear hE hB h hr
  
  go_wp2_with fail
  refine (End_any g c p _ HP.out).mono ?_
  rintro e w2 ⟨rfl, hs, hch⟩
  go_wp2_with fail
  go_ret2
  exact ⟨rfl, hs, (Chg.of_ext HE.out [g, c]).trans hch⟩
set_option maxRecDepth 100000 in
set_option maxHeartbeats 4000000 in
theorem do_dup (g c : Nat) (p : Pl) (o : OpY) (A : Option Addr) (cc : Nat) (hk : o.k = 7) (hb : 0 ≤ o.b ∧ o.b < 256) (hl : o.l.length ≤ maxLen) (hbs : ∀ x ∈ o.l, 0 ≤ x ∧ x < 256) (w : World) (h : PlAt w g c p) (hr : Rd w 1 A o.l.length (u8s o.l)) (hoff : ∀ i, i ∈ [g, c] → 0 < o.l.length → Off i A) :
    Calls Try.prog 9 #[.pointer (some ⟨g, 0, none⟩), .agg #[.int .i64 o.k, .int .i64 o.a, .int .u8 o.b, .slice A o.l.length cc, .bool o.ins]] w (PlTo (.tuple #[.int .i64 0, .int .i64 (p.dupM o.ins).2]) g c (p.dupM o.ins).1 w) := by
  have HK := Lib.hid hk
  clear hk
  go_enter Try.func9, Try.ntmps9
  go_upto_region 1 with (fail)
  have hB := Blk.new w 34 #[.int .i64 o.k, .int .i64 o.a, .int .u8 o.b, .slice A o.l.length cc, .bool o.ins]
  have hE := Ext_alloc (o := .cells #[.int .i64 o.k, .int .i64 o.a, .int .u8 o.b, .slice A o.l.length cc, .bool o.ins] 34) (Ext_refl w)
  generalize w.alloc (.cells #[.int .i64 o.k, .int .i64 o.a, .int .u8 o.b, .slice A o.l.length cc, .bool o.ins] 34) = W1 at *
  obtain ⟨ob, hob⟩ : ∃ ob, w.heap.size = ob := ⟨_, rfl⟩
  have hon : ob ∉ [g, c] := by have := h.glt; have := h.clt; simp; omega
  rw [hob] at hB ⊢
  clear hob
  have z0 := hB.cell 0
  have z1 := hB.cell 1
  have z2 := hB.cell 2
  have z3 := hB.cell 3
  have z4 := hB.cell 4
  simp at z0 z1 z2 z3 z4
  rw [HK.out] at z0
  have HE := Lib.hid hE
  have HP := Lib.hid (h.ext hE)
  have HR := Lib.hid (Rd_ext hE hr)
  clear hE hB h hr
  
  go_wp2_with fail
  refine (Dup_any g c p o.ins _ HP.out).mono ?_
  rintro e w2 ⟨rfl, hs, hch⟩
  go_wp2_with fail
  go_ret2
  exact ⟨rfl, hs, (Chg.of_ext HE.out [g, c]).trans hch⟩
set_option maxRecDepth 100000 in
set_option maxHeartbeats 4000000 in
theorem do_mrk (g c : Nat) (p : Pl) (o : OpY) (A : Option Addr) (cc : Nat) (hk : o.k = 8) (hb : 0 ≤ o.b ∧ o.b < 256) (hl : o.l.length ≤ maxLen) (hbs : ∀ x ∈ o.l, 0 ≤ x ∧ x < 256) (w : World) (h : PlAt w g c p) (hr : Rd w 1 A o.l.length (u8s o.l)) (hoff : ∀ i, i ∈ [g, c] → 0 < o.l.length → Off i A) :
    Calls Try.prog 9 #[.pointer (some ⟨g, 0, none⟩), .agg #[.int .i64 o.k, .int .i64 o.a, .int .u8 o.b, .slice A o.l.length cc, .bool o.ins]] w (PlTo (.tuple #[.int .i64 0, .int .i64 (p.putM 30 o.ins).2]) g c (p.putM 30 o.ins).1 w) := by
  have HK := Lib.hid hk
  clear hk
  go_enter Try.func9, Try.ntmps9
  go_upto_region 1 with (fail)
  have hB := Blk.new w 34 #[.int .i64 o.k, .int .i64 o.a, .int .u8 o.b, .slice A o.l.length cc, .bool o.ins]
  have hE := Ext_alloc (o := .cells #[.int .i64 o.k, .int .i64 o.a, .int .u8 o.b, .slice A o.l.length cc, .bool o.ins] 34) (Ext_refl w)
  generalize w.alloc (.cells #[.int .i64 o.k, .int .i64 o.a, .int .u8 o.b, .slice A o.l.length cc, .bool o.ins] 34) = W1 at *
  obtain ⟨ob, hob⟩ : ∃ ob, w.heap.size = ob := ⟨_, rfl⟩
  have hon : ob ∉ [g, c] := by have := h.glt; have := h.clt; simp; omega
  rw [hob] at hB ⊢
  clear hob
  have z0 := hB.cell 0
  have z1 := hB.cell 1
  have z2 := hB.cell 2
  have z3 := hB.cell 3
  have z4 := hB.cell 4
  simp at z0 z1 z2 z3 z4
  rw [HK.out] at z0
  have HE := Lib.hid hE
  have HP := Lib.hid (h.ext hE)
  have HR := Lib.hid (Rd_ext hE hr)
  clear hE hB h hr
  
  go_wp2_with fail
  refine (TMark_any g c p o.ins _ HP.out).mono ?_
  rintro e w2 ⟨rfl, hs, hch⟩
  go_wp2_with fail
  go_ret2
  exact ⟨rfl, hs, (Chg.of_ext HE.out [g, c]).trans hch⟩
set_option maxRecDepth 100000 in
set_option maxHeartbeats 4000000 in
theorem do_at (g c : Nat) (p : Pl) (o : OpY) (A : Option Addr) (cc : Nat) (hk : o.k = 9) (hb : 0 ≤ o.b ∧ o.b < 256) (hl : o.l.length ≤ maxLen) (hbs : ∀ x ∈ o.l, 0 ≤ x ∧ x < 256) (w : World) (h : PlAt w g c p) (hr : Rd w 1 A o.l.length (u8s o.l)) (hoff : ∀ i, i ∈ [g, c] → 0 < o.l.length → Off i A) :
    Calls Try.prog 9 #[.pointer (some ⟨g, 0, none⟩), .agg #[.int .i64 o.k, .int .i64 o.a, .int .u8 o.b, .slice A o.l.length cc, .bool o.ins]] w (PlTo (.tuple #[.int .i64 0, .int .i64 0]) g c (p.point (Int.tmod (Go.bits .and .i64 o.a 255) p.n)) w) := by
  have HK := Lib.hid hk
  clear hk
  go_enter Try.func9, Try.ntmps9
  go_upto_region 1 with (fail)
  have hB := Blk.new w 34 #[.int .i64 o.k, .int .i64 o.a, .int .u8 o.b, .slice A o.l.length cc, .bool o.ins]
  have hE := Ext_alloc (o := .cells #[.int .i64 o.k, .int .i64 o.a, .int .u8 o.b, .slice A o.l.length cc, .bool o.ins] 34) (Ext_refl w)
  generalize w.alloc (.cells #[.int .i64 o.k, .int .i64 o.a, .int .u8 o.b, .slice A o.l.length cc, .bool o.ins] 34) = W1 at *
  obtain ⟨ob, hob⟩ : ∃ ob, w.heap.size = ob := ⟨_, rfl⟩
  have hon : ob ∉ [g, c] := by have := h.glt; have := h.clt; simp; omega
  rw [hob] at hB ⊢
  clear hob
  have z0 := hB.cell 0
  have z1 := hB.cell 1
  have z2 := hB.cell 2
  have z3 := hB.cell 3
  have z4 := hB.cell 4
  simp at z0 z1 z2 z3 z4
  rw [HK.out] at z0
  have HE := Lib.hid hE
  have HP := Lib.hid (h.ext hE)
  have hn0 := h.ok.sz.n0
  have hn1 : p.n ≠ 0 := by omega
  clear hE hB h hr
  go_upto_region 18 with (fail)
  have q1 := fun d os => cell_regrown z1 d os
  refine wp_region_chain_below 7 (by kernel_rfl) (by kernel_rfl) ?_
  simp only [List.take_succ_cons, List.take_zero, List.drop_succ_cons, List.drop_zero]
  repeat (go_big_quiet_step ((go_at_call 22; exact Calls.regrown_of (Len_any g c p _ (HP.out.ext (below_regrown _ _ _))))))
  refine wpQuiet_nil ?_
  intro _ hw'
  obtain ⟨⟨dq, osq⟩, hw''⟩ := hw'
  subst hw''
  have hb2 : Ext W1 (grow (redrawn W1 dq) osq) := below_regrown W1 dq osq
  generalize grow (redrawn W1 dq) osq = W2 at *
  clear q1
  go_wp2_with fail
  refine (Point_any g c p _ _ (HP.out.ext hb2)).mono ?_
  rintro e w3 ⟨rfl, hs, hch⟩
  go_wp2_with fail
  go_ret2
  exact ⟨rfl, hs, (Chg.of_ext (Ext_trans hb2 HE.out) [g, c]).trans hch⟩
set_option maxRecDepth 100000 in
set_option maxHeartbeats 4000000 in
theorem do_none (g c : Nat) (p : Pl) (o : OpY) (A : Option Addr) (cc : Nat) (hk : o.k ≠ 0 ∧ o.k ≠ 1 ∧ o.k ≠ 2 ∧ o.k ≠ 3 ∧ o.k ≠ 4 ∧ o.k ≠ 5 ∧ o.k ≠ 6 ∧ o.k ≠ 7 ∧ o.k ≠ 8 ∧ o.k ≠ 9) (hb : 0 ≤ o.b ∧ o.b < 256) (hl : o.l.length ≤ maxLen) (hbs : ∀ x ∈ o.l, 0 ≤ x ∧ x < 256) (w : World) (h : PlAt w g c p) (hr : Rd w 1 A o.l.length (u8s o.l)) (hoff : ∀ i, i ∈ [g, c] → 0 < o.l.length → Off i A) :
    Calls Try.prog 9 #[.pointer (some ⟨g, 0, none⟩), .agg #[.int .i64 o.k, .int .i64 o.a, .int .u8 o.b, .slice A o.l.length cc, .bool o.ins]] w (PlTo (.tuple #[.int .i64 0, .int .i64 0]) g c p w) := by
  go_enter Try.func9, Try.ntmps9
  go_upto_region 1 with (fail)
  have hB := Blk.new w 34 #[.int .i64 o.k, .int .i64 o.a, .int .u8 o.b, .slice A o.l.length cc, .bool o.ins]
  have hE := Ext_alloc (o := .cells #[.int .i64 o.k, .int .i64 o.a, .int .u8 o.b, .slice A o.l.length cc, .bool o.ins] 34) (Ext_refl w)
  generalize w.alloc (.cells #[.int .i64 o.k, .int .i64 o.a, .int .u8 o.b, .slice A o.l.length cc, .bool o.ins] 34) = W1 at *
  obtain ⟨ob, hob⟩ : ∃ ob, w.heap.size = ob := ⟨_, rfl⟩
  have hon : ob ∉ [g, c] := by have := h.glt; have := h.clt; simp; omega
  rw [hob] at hB ⊢
  clear hob
  have z0 := hB.cell 0
  have z1 := hB.cell 1
  have z2 := hB.cell 2
  have z3 := hB.cell 3
  have z4 := hB.cell 4
  simp at z0 z1 z2 z3 z4
  have HE := Lib.hid hE
  have HP := Lib.hid (h.ext hE)
  clear hE hB h hr z1 z2 z3 z4
  have g0 : (o.k == 0) = false := by simpa using hk.1
  have g1 : (o.k == 1) = false := by simpa using hk.2.1
  have g2 : (o.k == 2) = false := by simpa using hk.2.2.1
  have g3 : (o.k == 3) = false := by simpa using hk.2.2.2.1
  have g4 : (o.k == 4) = false := by simpa using hk.2.2.2.2.1
  have g5 : (o.k == 5) = false := by simpa using hk.2.2.2.2.2.1
  have g6 : (o.k == 6) = false := by simpa using hk.2.2.2.2.2.2.1
  have g7 : (o.k == 7) = false := by simpa using hk.2.2.2.2.2.2.2.1
  have g8 : (o.k == 8) = false := by simpa using hk.2.2.2.2.2.2.2.2.1
  have g9 : (o.k == 9) = false := by simpa using hk.2.2.2.2.2.2.2.2.2
  clear hk
  go_wp2_with fail
  go_ret2
  exact ⟨rfl, HP.out, Chg.of_ext HE.out [g, c]⟩
theorem do_any20 (g c : Nat) (p : Pl) (o : OpY) (A : Option Addr) (cc : Nat) (hb : 0 ≤ o.b ∧ o.b < 256) (hl : o.l.length ≤ maxLen) (hbs : ∀ x ∈ o.l, 0 ≤ x ∧ x < 256) (w : World) (h : PlAt w g c p) (hr : Rd w 1 A o.l.length (u8s o.l)) (hoff : ∀ i, i ∈ [g, c] → 0 < o.l.length → Off i A) :
    Calls Try.prog 9 #[.pointer (some ⟨g, 0, none⟩), .agg #[.int .i64 o.k, .int .i64 o.a, .int .u8 o.b, .slice A o.l.length cc, .bool o.ins]] w (PlTo (.tuple #[.int .i64 (p.doM o).2.1, .int .i64 (p.doM o).2.2]) g c (p.doM o).1 w) := by
  unfold Pl.doM
  by_cases h0 : o.k = 0
  · rw [if_pos (.inl h0)]; exact do_put0 g c p o A cc h0 hb hl hbs w h hr hoff
  by_cases h1 : o.k = 1
  · rw [if_pos (.inr (.inl h1))]; exact do_put1 g c p o A cc h1 hb hl hbs w h hr hoff
  by_cases h2 : o.k = 2
  · rw [if_pos (.inr (.inr (.inl h2)))]; exact do_put2 g c p o A cc h2 hb hl hbs w h hr hoff
  by_cases h3 : o.k = 3
  · rw [if_pos (.inr (.inr (.inr h3)))]; exact do_put3 g c p o A cc h3 hb hl hbs w h hr hoff
  rw [if_neg (by omega)]
  by_cases h4 : o.k = 4
  · rw [if_pos h4]; exact do_str g c p o A cc h4 hb hl hbs w h hr hoff
  rw [if_neg h4]
  by_cases h5 : o.k = 5
  · rw [if_pos h5]; exact do_del g c p o A cc h5 hb hl hbs w h hr hoff
  rw [if_neg h5]
  by_cases h6 : o.k = 6
  · rw [if_pos h6]; exact do_end g c p o A cc h6 hb hl hbs w h hr hoff
  rw [if_neg h6]
  by_cases h7 : o.k = 7
  · rw [if_pos h7]; exact do_dup g c p o A cc h7 hb hl hbs w h hr hoff
  rw [if_neg h7]
  by_cases h8 : o.k = 8
  · rw [if_pos h8]; exact do_mrk g c p o A cc h8 hb hl hbs w h hr hoff
  rw [if_neg h8]
  by_cases h9 : o.k = 9
  · rw [if_pos h9]; exact do_at g c p o A cc h9 hb hl hbs w h hr hoff
  rw [if_neg h9]
  exact do_none g c p o A cc ⟨h0, h1, h2, h3, h4, h5, h6, h7, h8, h9⟩ hb hl hbs w h hr hoff
end Go.Proofs.Ytmldhgebbgalbaa
