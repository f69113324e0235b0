/- Chapter 5's example. -/
import Derived.Test.YthkioahpnbahhaaD5q
namespace Go.Proofs.Ythkioahpnbahhaa
set_option linter.unusedVariables false
set_option linter.unusedSimpArgs false
open Go.RowKit Go.Proofs.YthkioahpnbahhaaW.PrintWords
theorem DecR.ext {W W1 : World} {db : Nat} {d : Dec} {vs : Value} (h : DecR W db d vs) (hx : Ext W W1) : DecR W1 db d vs := ⟨Blk.below' h.blk hx, own_ext5 h.sub hx, h.out, h.len⟩
/-- what was told stays while the decoder goes on -/
theorem EvsAt.turn {own : Nat → Prop} {W W2 : World} {vo v : Value} {ms : List Em} {db : Nat} {d : Dec} (h : EvsAt own W vo ms v) (hd : DecR W db d v) (ht : Turn (Own W v) db W W2) : EvR W2 vo ms := by
  have mv : ∀ {u : Value} {e : TypeId} {s n : Nat} {xs : List Value}, W.ownsRow 0 e s u n xs → 57 ≠ e → (∀ g, u.ownBlock = some g → v.ownBlock ≠ some g) → W2.ownsRow 0 e s u n xs := fun h1 h2 h3 => own_move h1 (fun k hk => ht.block k (World.ownsRow.lt h1 k hk).2 (fun e => own_blk_ne h1 hd.blk h2 (by rw [hk, e])) (by
    rintro (h4 | h4)
    · have := (World.ownsRow.lt h1 k hk).2; omega
    · exact h3 k hk h4))
  exact EvR.of_own (mv h.out (by decide) (own_same h.out hd.sub (by decide))) (fun m hm => by
    have := mv (h.row m hm) (by decide) (h.ns m hm)
    exact ⟨Rd.own this, own_len_cap this⟩)
theorem Turn.ext {own : Nat → Prop} {db : Nat} {w W0 W : World} (ht : Turn own db W0 W) (hx : Ext w W0) (hdb : w.heap.size ≤ db) (ho : ∀ g, own g → w.heap.size ≤ g) : Ext w W :=
  ⟨ht.os.trans hx.os, ht.tape.trans hx.tape, ht.output.trans hx.output, Nat.le_trans hx.size ht.size, fun i hi => (ht.block i (Nat.lt_of_lt_of_le hi hx.size) (fun e => by omega) (fun h => absurd (ho i h) (by omega))).trans (hx.block i hi)⟩
set_option maxRecDepth 100000 in
set_option maxHeartbeats 2000000 in
theorem DOpen_any {W : World} {db : Nat} {d : Dec} {vs : Value} (h : DecR W db d vs) : Calls Try.prog 30 #[.pointer (some ⟨db, 0, none⟩)] W (fun e w' => e = .returned (.bool (d.at_ != 0)) ∧ w' = W) := by
  have a0 := h.blk.cell 0
  simp [Dec.cells] at a0
  have hlt := h.blk.lt
  clear h
  go_enter Try.func30, Try.ntmps30
  go_wp2_with fail
  go_ret
  exact ⟨rfl, rfl⟩

def AB : List Int := [255, 253, 25, 1, 255, 255, 255, 239]
theorem AB_out : (Dec.zero.takes AB).out = [⟨4, 253, 25, []⟩, ⟨1, 0, 0, [1, 255]⟩, ⟨2, 0, 0, []⟩] := by kernel_rfl
theorem AB_at : ((Dec.zero.takes AB).at_ != 0) = false := by kernel_rfl
theorem AB_at2 : ((({ Dec.zero.takes AB with out := [] } : Dec).takes [255]).at_ != 0) = true := by kernel_rfl
theorem EvsAt.ext {own : Nat → Prop} {W W1 : World} {vo v : Value} {ms : List Em} (h : EvsAt own W vo ms v) (hx : Ext W W1) : EvsAt own W1 vo ms v := ⟨own_ext5 h.out hx, fun m hm => own_ext5 (h.row m hm) hx, h.ns, h.nd, h.oo, h.om⟩
theorem Own.ge {w W : World} {v : Value} (hs : w.heap.size ≤ W.heap.size) (hv : ∀ g, v.ownBlock = some g → w.heap.size ≤ g) : ∀ g, Own W v g → w.heap.size ≤ g := fun g h => by
  rcases h with h | h
  · omega
  · exact hv g h
theorem map_three {ms : List Em} {a b c : Ev} (h : ms.map Em.e = [a, b, c]) : ∃ x y z, ms = [x, y, z] ∧ x.e = a ∧ y.e = b ∧ z.e = c := by
  match ms, h with
  | [x, y, z], h =>
    simp only [List.map_cons, List.map_nil, List.cons.injEq, and_true] at h
    exact ⟨x, y, z, rfl, h⟩
/-- bytes that come back, as a string -/
theorem RetB.str {f : Nat} {args : Array Value} {W : World} {l : List Int} {n : Nat} {s : ByteArray} (h : Calls Try.prog f args W (RetB l W)) (hn : l.length = n) (hs : strOfNums l = s) :
    Calls Try.prog f args W (fun e w' => ∃ A c, e = .returned (.slice A n c) ∧ (convert 24 9 (.slice A n c)).run Try.prog w' = .ok (.string s) w' ∧ Ext W w') := by
  subst hn
  subst hs
  exact h.mono fun e w' ⟨v, he, ⟨A, c, hv, _, hr, _⟩, hx⟩ => ⟨A, c, by rw [he, hv], conv_str Try.underlying24 Try.underlying5 Try.underlying9 hr c, hx⟩
theorem WriteA {W : World} {vo : Value} {Ax Ay Az : Option Addr} {cx cy cz : Nat} (h : EvR W vo [⟨⟨4, 253, 25, []⟩, Ax, cx⟩, ⟨⟨1, 0, 0, [1, 255]⟩, Ay, cy⟩, ⟨⟨2, 0, 0, []⟩, Az, cz⟩]) :
    Calls Try.prog 33 #[vo] W (fun e w' => ∃ A c, e = .returned (.slice A 8 c) ∧ (convert 24 9 (.slice A 8 c)).run Try.prog w' = .ok (.string ⟨#[255, 253, 25, 1, 255, 255, 255, 239]⟩) w' ∧ Ext W w') :=
  RetB.str (Write_any h (by simp) (by
    intro m hm
    simp only [List.mem_cons, List.not_mem_nil, or_false] at hm
    rcases hm with rfl | rfl | rfl <;> simp) (by show (8 : Nat) < _; decide)) rfl rfl
theorem lit_rd (W : World) (l : List Int) : Rd (W.alloc (.cells (u8s l).toArray 5)) 1 (some ⟨W.heap.size, 0, none⟩) l.length (u8s l) := Rd.blk (Blk.new W 5 (u8s l).toArray) (by simp [u8s])
theorem TellA (W : World) : Calls Try.prog 36 #[.int .u8 24, .slice (some ⟨W.heap.size, 0, none⟩) 1 1] (W.alloc (.cells #[.int .u8 0] 5)) (fun e w' => ∃ A c, e = .returned (.slice A 6 c) ∧ (convert 24 9 (.slice A 6 c)).run Try.prog w' = .ok (.string ⟨#[255, 250, 24, 0, 255, 240]⟩) w' ∧ Ext (W.alloc (.cells #[.int .u8 0] 5)) w') :=
  RetB.str (Tell_any 24 (some ⟨W.heap.size, 0, none⟩) 1 [0] (by simp) (by simp) _ (lit_rd W [0])) rfl rfl
theorem RecordA (W : World) : Calls Try.prog 35 #[.slice (some ⟨W.heap.size, 0, none⟩) 1 1] (W.alloc (.cells #[.int .u8 255] 5)) (fun e w' => ∃ A c, e = .returned (.slice A 4 c) ∧ (convert 24 9 (.slice A 4 c)).run Try.prog w' = .ok (.string ⟨#[255, 255, 255, 239]⟩) w' ∧ Ext (W.alloc (.cells #[.int .u8 255] 5)) w') :=
  RetB.str (Record_any (some ⟨W.heap.size, 0, none⟩) 1 [255] (by simp) (by simp) _ (lit_rd W [255])) rfl rfl
theorem SayA (W : World) : Calls Try.prog 39 #[.int .u8 251, .int .u8 25] W (fun e w' => ∃ A c, e = .returned (.slice A 3 c) ∧ (convert 24 9 (.slice A 3 c)).run Try.prog w' = .ok (.string ⟨#[255, 251, 25]⟩) w' ∧ Ext W w') :=
  RetB.str (Say_any 251 25 W) rfl rfl
theorem EscapeA (W : World) : Calls Try.prog 34 #[.slice (some ⟨W.heap.size, 0, none⟩) 2 2] (W.alloc (.cells #[.int .u8 255, .int .u8 1] 5)) (fun e w' => ∃ A c, e = .returned (.slice A 3 c) ∧ (convert 24 9 (.slice A 3 c)).run Try.prog w' = .ok (.string ⟨#[255, 255, 1]⟩) w' ∧ Ext (W.alloc (.cells #[.int .u8 255, .int .u8 1] 5)) w') :=
  RetB.str (Escape_any (some ⟨W.heap.size, 0, none⟩) 2 [255, 1] (by simp) (by simp) _ (lit_rd W [255, 1])) rfl rfl
theorem JoinA (W : World) : Calls Try.prog 31 #[.slice (some ⟨W.heap.size, 0, none⟩) 2 2] (W.alloc (.cells #[.int .i64 1, .int .u8 0, .int .u8 0, .slice none 0 0, .int .i64 2, .int .u8 0, .int .u8 0, .slice none 0 0] 28)) (fun e w' => ∃ A c, e = .returned (.slice A 1 c) ∧ Ext (W.alloc (.cells #[.int .i64 1, .int .u8 0, .int .u8 0, .slice none 0 0, .int .i64 2, .int .u8 0, .int .u8 0, .slice none 0 0] 28)) w') := by
  have hR : EvR (W.alloc (.cells #[.int .i64 1, .int .u8 0, .int .u8 0, .slice none 0 0, .int .i64 2, .int .u8 0, .int .u8 0, .slice none 0 0] 28)) (.slice (some ⟨W.heap.size, 0, none⟩) 2 2) [⟨⟨1, 0, 0, []⟩, none, 0⟩, ⟨⟨2, 0, 0, []⟩, none, 0⟩] :=
    ⟨_, _, rfl, by simp, Rd.blk (l := [.int .i64 1, .int .u8 0, .int .u8 0, .slice none 0 0, .int .i64 2, .int .u8 0, .int .u8 0, .slice none 0 0]) (Blk.new W 28 _) rfl, by
      intro m hm
      simp only [List.mem_cons, List.not_mem_nil, or_false] at hm
      rcases hm with rfl | rfl <;> exact ⟨Rd.nil _ _ _, Nat.le_refl _⟩⟩
  refine (IJoin_any hR (by simp) (by
    intro m hm
    simp only [List.mem_cons, List.not_mem_nil, or_false] at hm
    rcases hm with rfl | rfl <;> simp)).mono ?_
  rintro e w' ⟨v, ms', rfl, h1, h2, _, _, h3⟩
  have hl : ms'.length = 1 := by
    have := congrArg List.length h2
    rw [List.length_map] at this
    exact this
  obtain ⟨A, c, hv⟩ := Go.Proofs.YthkioahpnbahhaaW.PrintWords.own_slice h1.out
  rw [hl] at hv
  exact ⟨A, c, by rw [hv], h3⟩
end Go.Proofs.Ythkioahpnbahhaa
