import Derived.Test.YtmcfckdgolojlaaZGB
import Derived.Test.YtmcfckdgolojlaaZGC
/- Chapter 16's example. -/
namespace Go.Proofs.Ytmcfckdgolojlaa
set_option linter.unusedVariables false
set_option linter.unusedSimpArgs false
open Go.RowKit
def ordN (k a b : Int) : OrdV := ⟨⟨k, a, b, false, [], []⟩, none, 0, none, 0⟩
def ordD (l : List Int) (db : Nat) : OrdV := ⟨⟨0, 0, 0, false, [], l⟩, none, 0, some ⟨db, 0, none⟩, l.length⟩
theorem OrAt_nil (l : List Nat) (w : World) (k a b : Int) (hb : 0 ≤ b ∧ b < 256) (ge : Bool) : OrAt l w none none ⟨k, a, b, ge, [], []⟩ :=
  ⟨Rd.nil _ _ _, Rd.nil _ _ _, by simp, by simp, hb, by simp, by simp, fun _ _ h => absurd h (by simp), fun _ _ h => absurd h (by simp)⟩
theorem OrAt_data (l : List Nat) (w : World) (m : List Int) (db : Nat) (hB : Blk w db 5 (u8s m).toArray) (hl : db ∉ l) (hm : m.length ≤ maxLen) (hb : ∀ x ∈ m, 0 ≤ x ∧ x < 256) : OrAt l w none (some ⟨db, 0, none⟩) ⟨0, 0, 0, false, [], m⟩ :=
  ⟨Rd.nil _ _ _, Rd.blk hB (by simp [u8s]), by simp, hm, ⟨by simp, by simp⟩, by simp, hb, fun _ _ h => absurd h (by simp), fun i hi _ ad e => by cases e; exact fun h => hl (by rw [show db = i from h]; exact hi)⟩
def pp0 : Pl := ⟨1, 5, List.replicate 5 Cel.zero, 0⟩
def pp1 : Pl := ⟨1, 5, [Cel.zero, Cel.zero, Cel.zero, ⟨32, false, true, 0, 0⟩, ⟨193, false, false, 0, 0⟩], 0⟩
def pp2 : Pl := ⟨1, 5, [Cel.zero, Cel.zero, Cel.zero, ⟨32, false, true, 0, 0⟩, ⟨193, false, false, 0, 0⟩], 2⟩
def oo1 (db : Nat) : List OrdV := [ordN 17 3 0, ordN 29 0 32, ordD [193] db]
def oo2 (db : Nat) : List OrdV := [ordN 19 0 0, ordN 17 5 0, ordD [194] db]
theorem run1 (db : Nat) : ((Br.at0 pp0 0).run ((oo1 db).map OrdV.o)).1.p = pp1 ∧ ((Br.at0 pp0 0).run ((oo1 db).map OrdV.o)).1.at_ = 0 ∧ ((Br.at0 pp0 0).run ((oo1 db).map OrdV.o)).2.1 = 3 ∧ ((Br.at0 pp0 0).run ((oo1 db).map OrdV.o)).2.2 = 0 :=
  ⟨by rw [show (oo1 db).map OrdV.o = (oo1 0).map OrdV.o from rfl]; decide +kernel, by rw [show (oo1 db).map OrdV.o = (oo1 0).map OrdV.o from rfl]; decide +kernel, by rw [show (oo1 db).map OrdV.o = (oo1 0).map OrdV.o from rfl]; decide +kernel, by rw [show (oo1 db).map OrdV.o = (oo1 0).map OrdV.o from rfl]; decide +kernel⟩
theorem run2 (db : Nat) : ((Br.at0 pp1 2).run ((oo2 db).map OrdV.o)).1.p = pp2 ∧ ((Br.at0 pp1 2).run ((oo2 db).map OrdV.o)).1.at_ = 2 ∧ ((Br.at0 pp1 2).run ((oo2 db).map OrdV.o)).2.1 = 1 ∧ ((Br.at0 pp1 2).run ((oo2 db).map OrdV.o)).2.2 = 32 :=
  ⟨by rw [show (oo2 db).map OrdV.o = (oo2 0).map OrdV.o from rfl]; decide +kernel, by rw [show (oo2 db).map OrdV.o = (oo2 0).map OrdV.o from rfl]; decide +kernel, by rw [show (oo2 db).map OrdV.o = (oo2 0).map OrdV.o from rfl]; decide +kernel, by rw [show (oo2 db).map OrdV.o = (oo2 0).map OrdV.o from rfl]; decide +kernel⟩
theorem Paint_row (g c : Nat) (p : Pl) (b : Nat) (d : Nat) (xs : List OrdV) (db : Nat) (m : List Int) (from_ : Int) (hf : 0 ≤ from_ ∧ from_ < p.n) (w : World) (h : PlAt w g c p) (hr : Blk w b 71 (xs.flatMap OrdV.enc).toArray) (hb : b ∉ [g, c]) (hx : ∀ x ∈ xs, OrAt [g, c] w x.A x.B x.o) (hl : xs.length ≤ maxLen)
    {q : Pl} {at_ : Int} {n : Nat} {e : Int} (hq : ((Br.at0 p from_).run (xs.map OrdV.o)).1.p = q ∧ ((Br.at0 p from_).run (xs.map OrdV.o)).1.at_ = at_ ∧ ((Br.at0 p from_).run (xs.map OrdV.o)).2.1 = n ∧ ((Br.at0 p from_).run (xs.map OrdV.o)).2.2 = e) :
    Calls Try.prog 46 #[.pointer (some ⟨g, 0, none⟩), .slice (some ⟨b, 0, none⟩) xs.length d, .int .i64 from_] w (PlTo (.tuple #[.int .i64 at_, .int .i64 n, .int .i64 e]) g c q w) := by
  refine (Paint_any g c p (some ⟨b, 0, none⟩) d xs from_ hf w h ⟨Rd.blk hr (flat_length OrdV.enc 6 OrdV.len xs), hl, fun i hi _ ad e => (by cases e; exact fun h => hb (by rw [show b = i from h]; exact hi)), hx⟩).mono ?_
  rintro e' w' ⟨rfl, h1, h2, _, _⟩
  obtain ⟨q1, q2, q3, q4⟩ := hq
  unfold Paint3
  rw [q1] at h1
  rw [q2, q3, q4]
  exact ⟨rfl, h1, h2⟩
set_option maxRecDepth 100000 in
set_option maxHeartbeats 4000000 in
theorem alive16_any (w : World) : Calls Try.prog 43 #[] w (Ret (.bool true) w) := by
  have HZ := Lib.hid (show SzOk 1 5 5 from ⟨by decide, by decide, by decide, by decide, by decide, by decide, by decide⟩)
  go_enter Try.func43, Try.ntmps43
  go_wp2_with fail
  refine (New_yes 1 5 5 HZ.out _).mono ?_
  rintro e w2 ⟨g, b, rfl, hP, hb2, hg, hbb⟩
  have P0 : Hid (PlAt w2 g b pp0) := Lib.hid hP
  have E2 := Lib.hid hb2
  have C2 := Lib.hid (Chg.refl [g, b] w2)
  clear hP hb2
  go_wp2_with fail
  have hgl : g < w2.heap.size := P0.out.glt
  have hcl : b < w2.heap.size := P0.out.clt
  have hD := (Blk.new w2 5 #[.int .u8 193]).alloc (.cells #[.int .u8 17, .int .i64 3, .int .u8 0, .bool false, .slice none 0 0, .slice none 0 0, .int .u8 29, .int .i64 0, .int .u8 32, .bool false, .slice none 0 0, .slice none 0 0, .int .u8 0, .int .i64 0, .int .u8 0, .bool false, .slice none 0 0, .slice (some ⟨w2.heap.size, 0, none⟩) 1 1] 71)
  have hR := Blk.new (w2.alloc (.cells #[.int .u8 193] 5)) 71 #[.int .u8 17, .int .i64 3, .int .u8 0, .bool false, .slice none 0 0, .slice none 0 0, .int .u8 29, .int .i64 0, .int .u8 32, .bool false, .slice none 0 0, .slice none 0 0, .int .u8 0, .int .i64 0, .int .u8 0, .bool false, .slice none 0 0, .slice (some ⟨w2.heap.size, 0, none⟩) 1 1]
  rw [World.size_alloc] at hR
  have hE : Ext w2 ((w2.alloc (.cells #[.int .u8 193] 5)).alloc (.cells #[.int .u8 17, .int .i64 3, .int .u8 0, .bool false, .slice none 0 0, .slice none 0 0, .int .u8 29, .int .i64 0, .int .u8 32, .bool false, .slice none 0 0, .slice none 0 0, .int .u8 0, .int .i64 0, .int .u8 0, .bool false, .slice none 0 0, .slice (some ⟨w2.heap.size, 0, none⟩) 1 1] 71)) := Ext_alloc (Ext_alloc (Ext_refl w2))
  obtain ⟨W3, hW⟩ : ∃ W3, (w2.alloc (.cells #[.int .u8 193] 5)).alloc (.cells #[.int .u8 17, .int .i64 3, .int .u8 0, .bool false, .slice none 0 0, .slice none 0 0, .int .u8 29, .int .i64 0, .int .u8 32, .bool false, .slice none 0 0, .slice none 0 0, .int .u8 0, .int .i64 0, .int .u8 0, .bool false, .slice none 0 0, .slice (some ⟨w2.heap.size, 0, none⟩) 1 1] 71) = W3 := ⟨_, rfl⟩
  rw [hW] at hD hR hE ⊢
  clear hW
  refine (Paint_row g b pp0 (w2.heap.size + 1) 3 (oo1 w2.heap.size) w2.heap.size [193] 0 ⟨by decide, by decide⟩ _ (P0.out.ext hE) hR (by simp; omega) ?hx (by show 3 ≤ maxLen; unfold maxLen; omega) (run1 _)).mono ?_
  case hx =>
    intro x hx
    simp only [oo1, List.mem_cons, List.not_mem_nil, or_false] at hx
    rcases hx with rfl | rfl | rfl
    · exact OrAt_nil _ _ _ _ _ (by decide) _
    · exact OrAt_nil _ _ _ _ _ (by decide) _
    · exact OrAt_data _ _ [193] w2.heap.size hD (by simp; omega) (by show 1 ≤ maxLen; unfold maxLen; omega) (by simp)
  rintro e w4 ⟨rfl, hs, hch⟩
  have P4 := Lib.hid hs
  have C4 := Lib.hid (C2.out.trans ((Chg.of_ext hE [g, b]).trans hch))
  clear hs hch hE hD hR P0 C2 hgl hcl
  go_wp2_with fail
  have hgl : g < w4.heap.size := P4.out.glt
  have hcl : b < w4.heap.size := P4.out.clt
  have hD := (Blk.new w4 5 #[.int .u8 194]).alloc (.cells #[.int .u8 19, .int .i64 0, .int .u8 0, .bool false, .slice none 0 0, .slice none 0 0, .int .u8 17, .int .i64 5, .int .u8 0, .bool false, .slice none 0 0, .slice none 0 0, .int .u8 0, .int .i64 0, .int .u8 0, .bool false, .slice none 0 0, .slice (some ⟨w4.heap.size, 0, none⟩) 1 1] 71)
  have hR := Blk.new (w4.alloc (.cells #[.int .u8 194] 5)) 71 #[.int .u8 19, .int .i64 0, .int .u8 0, .bool false, .slice none 0 0, .slice none 0 0, .int .u8 17, .int .i64 5, .int .u8 0, .bool false, .slice none 0 0, .slice none 0 0, .int .u8 0, .int .i64 0, .int .u8 0, .bool false, .slice none 0 0, .slice (some ⟨w4.heap.size, 0, none⟩) 1 1]
  rw [World.size_alloc] at hR
  have hE : Ext w4 ((w4.alloc (.cells #[.int .u8 194] 5)).alloc (.cells #[.int .u8 19, .int .i64 0, .int .u8 0, .bool false, .slice none 0 0, .slice none 0 0, .int .u8 17, .int .i64 5, .int .u8 0, .bool false, .slice none 0 0, .slice none 0 0, .int .u8 0, .int .i64 0, .int .u8 0, .bool false, .slice none 0 0, .slice (some ⟨w4.heap.size, 0, none⟩) 1 1] 71)) := Ext_alloc (Ext_alloc (Ext_refl w4))
  obtain ⟨W3, hW⟩ : ∃ W3, (w4.alloc (.cells #[.int .u8 194] 5)).alloc (.cells #[.int .u8 19, .int .i64 0, .int .u8 0, .bool false, .slice none 0 0, .slice none 0 0, .int .u8 17, .int .i64 5, .int .u8 0, .bool false, .slice none 0 0, .slice none 0 0, .int .u8 0, .int .i64 0, .int .u8 0, .bool false, .slice none 0 0, .slice (some ⟨w4.heap.size, 0, none⟩) 1 1] 71) = W3 := ⟨_, rfl⟩
  rw [hW] at hD hR hE ⊢
  clear hW
  refine (Paint_row g b pp1 (w4.heap.size + 1) 3 (oo2 w4.heap.size) w4.heap.size [194] 2 ⟨by decide, by decide⟩ _ (P4.out.ext hE) hR (by simp; omega) ?hx (by show 3 ≤ maxLen; unfold maxLen; omega) (run2 _)).mono ?_
  case hx =>
    intro x hx
    simp only [oo2, List.mem_cons, List.not_mem_nil, or_false] at hx
    rcases hx with rfl | rfl | rfl
    · exact OrAt_nil _ _ _ _ _ (by decide) _
    · exact OrAt_nil _ _ _ _ _ (by decide) _
    · exact OrAt_data _ _ [194] w4.heap.size hD (by simp; omega) (by show 1 ≤ maxLen; unfold maxLen; omega) (by simp)
  rintro e w6 ⟨rfl, hs, hch⟩
  have P6 := Lib.hid hs
  have C6 := Lib.hid (C4.out.trans ((Chg.of_ext hE [g, b]).trans hch))
  clear hs hch hE hD hR P4 C4 hgl hcl
  go_wp2_with fail
  refine (Paint_bad g b pp2 none 0 0 5 (by decide) _ P6.out).mono ?_
  rintro e w7 ⟨rfl, hb⟩
  have P7 := Lib.hid (P6.out.ext hb)
  have C7 := Lib.hid (C6.out.trans (Chg.of_ext hb _))
  clear hb P6 C6
  have hfb := field_b
  go_wp2_with fail
  refine (At_eqB (show pp2.at 3 = ⟨32, false, true, 0, 0⟩ by decide +kernel) _ P7.out).mono ?_
  rintro e w8 ⟨rfl, hb⟩
  have P8 := Lib.hid (P7.out.ext hb)
  have C8 := Lib.hid (C7.out.trans (Chg.of_ext hb _))
  clear hb P7 C7
  go_wp2_with fail
  refine (At_eqB (show pp2.at 4 = ⟨193, false, false, 0, 0⟩ by decide +kernel) _ P8.out).mono ?_
  rintro e w9 ⟨rfl, hb⟩
  have P9 := Lib.hid (P8.out.ext hb)
  have C9 := Lib.hid (C8.out.trans (Chg.of_ext hb _))
  clear hb P8 C8
  go_wp2_with fail
  refine (Cursor_any g b pp2 _ P9.out).mono ?_
  rintro e wa ⟨rfl, hb⟩
  rw [show pp2.cur = 2 from rfl]
  have Pa := Lib.hid (P9.out.ext hb)
  have Ca := Lib.hid (C9.out.trans (Chg.of_ext hb _))
  clear hb P9 C9
  go_wp2_with fail
  refine (At_eqB (show pp2.at 2 = ⟨0, false, false, 0, 0⟩ by decide +kernel) _ Pa.out).mono ?_
  rintro e wb ⟨rfl, hb⟩
  have Cb := Lib.hid (Ca.out.trans (Chg.of_ext hb _))
  go_wp2_with fail
  go_ret
  exact ⟨rfl, Cb.out.ext E2.out (by simp; omega)⟩
end Go.Proofs.Ytmcfckdgolojlaa
