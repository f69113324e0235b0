/- The decoder: Feed. -/
import Derived.Test.YtioaenidkieiiaaD5e
namespace Go.Proofs.Ytioaenidkieiiaa
set_option linter.unusedVariables false
set_option linter.unusedSimpArgs false
open Go.RowKit Go.Proofs.YtioaenidkieiiaaW.PrintWords
def Dec.takes (d : Dec) (b : List Int) : Dec := b.foldl Dec.take d
theorem Dec.takes_append (d : Dec) (b c : List Int) : d.takes (b ++ c) = (d.takes b).takes c := List.foldl_append
theorem Dec.Room.takes {d : Dec} {k : Nat} (h : d.Room k) (b : List Int) : (d.takes b).Room (k + 2 * b.length) := by
  induction b generalizing d k with
  | nil => exact h
  | cons c b ih => exact (ih (h.take c)).le (by rw [List.length_cons]; omega)
/-- a decoder between two calls -/
structure DecR (W : World) (db : Nat) (d : Dec) (vs : Value) : Prop where
  blk : Blk W db 89 (d.cells vs (.slice none 0 0))
  sub : W.ownsRow 0 5 1 vs d.sub.length (u8s d.sub)
  out : d.out = []
  len : d.sub.length ≤ 256
def Own (W : World) (vs : Value) (g : Nat) : Prop := W.heap.size ≤ g ∨ vs.ownBlock = some g
/-- events in memory, of blocks that own lets be theirs, apart from the block of v -/
structure EvsAt (own : Nat → Prop) (W : World) (vo : Value) (ms : List Em) (v : Value) : Prop where
  out : W.ownsRow 0 72 4 vo ms.length (ms.flatMap Em.enc)
  row : ∀ m ∈ ms, W.ownsRow 0 5 1 m.v m.e.bytes.length (u8s m.e.bytes)
  ns : ∀ m ∈ ms, ∀ g, m.v.ownBlock = some g → v.ownBlock ≠ some g
  nd : ms.Pairwise (fun a b => ∀ g, a.v.ownBlock = some g → b.v.ownBlock ≠ some g)
  oo : ∀ g, vo.ownBlock = some g → own g
  om : ∀ m ∈ ms, ∀ g, m.v.ownBlock = some g → own g
theorem DecAt.evsAt {W0 W : World} {own : Nat → Prop} {db : Nat} {d : Dec} {vs vo : Value} {ms : List Em} (h : DecAt W0 own db W d vs vo ms) : EvsAt own W vo ms vs := ⟨h.out, h.row, h.ns, h.nd, h.oo, h.om⟩
theorem DecR.at_ {W : World} {db : Nat} {d : Dec} {vs : Value} (h : DecR W db d vs) : DecAt W (Own W vs) db W d vs (.slice none 0 0) [] :=
  ⟨h.blk, h.sub, own_nil _ _ _ _, by rw [h.out]; rfl, fun m hm => (by cases hm), fun m hm => (by cases hm), List.Pairwise.nil, fun g hg => .inr hg, fun g hg => (by cases hg), fun m hm => (by cases hm), fun g hg => .inl hg, Turn.refl _ _ _⟩
theorem DecR.fresh (W : World) : DecR (W.alloc (.cells #[.int .i64 0, .int .u8 0, .int .u8 0, .slice none 0 0, .bool false, .slice none 0 0] 89)) W.heap.size ⟨0, 0, 0, [], false, []⟩ (.slice none 0 0) :=
  ⟨Blk.new _ _ _, own_nil _ _ _ _, rfl, by simp⟩
def FeedP (W : World) (db : Nat) (d : Dec) (vs : Value) (b : List Int) (e : Ending) (w : World) : Prop :=
  ∃ vo ms vs', e = .returned vo ∧ DecR w db { d.takes b with out := [] } vs' ∧ EvsAt (Own W vs) w vo ms vs' ∧ ms.map Em.e = (d.takes b).out ∧ (∀ g, vs'.ownBlock = some g → Own W vs g) ∧ Turn (Own W vs) db W w
theorem Rd.turn {own : Nat → Prop} {db : Nat} {W0 W : World} {sz n : Nat} {A : Option Addr} {cs : List Value} (h : Rd W0 sz A n cs) (ht : Turn own db W0 W) (h1 : Off db A) (h2 : ∀ ad, A = some ad → ¬ own ad.block) : Rd W sz A n cs :=
  h.keep fun b _ _ e hlt _ => ht.block b hlt (fun he => h1 _ e he) (h2 _ e)
theorem DecAt.done {W0 W : World} {own : Nat → Prop} {db : Nat} {d : Dec} {vs vo : Value} {ms : List Em} (h : DecAt W0 own db W d vs vo ms) (hl : d.sub.length ≤ 256) {W2 : World} (hW : W2 = W.setCell ⟨db, 5, none⟩ (.slice none 0 0)) :
    DecR W2 db { d with out := [] } vs ∧ EvsAt own W2 vo ms vs ∧ Turn own db W0 W2 := by
  have hM : Mut db W W2 := by rw [hW]; exact Mut_set db _ _
  have h2 := h.put (d' := { d with out := [] }) (vo' := .slice none 0 0) (ms' := []) hM (by rw [hW]; exact h.blk.store 5 (.slice none 0 0)) (.inl ⟨rfl, rfl⟩) (.inr ⟨rfl, rfl, rfl⟩)
  have mv : ∀ {v : Value} {e : TypeId} {s n : Nat} {xs : List Value}, W.ownsRow 0 e s v n xs → v.ownBlock ≠ some db → W2.ownsRow 0 e s v n xs := fun h1 h2 => own_move h1 (fun k hk => hM.block k (World.ownsRow.lt h1 k hk).2 (fun e => h2 (by rw [hk]; exact e)))
  exact ⟨⟨h2.blk, h2.sub, rfl, hl⟩, ⟨mv h.out h.odb, fun m hm => mv (h.row m hm) (h.mdb hm), h.ns, h.nd, h.oo, h.om⟩, h2.fr⟩
set_option maxRecDepth 100000 in
set_option maxHeartbeats 4000000 in
theorem Feed_any {W : World} {db : Nat} {d : Dec} {vs : Value} (h : DecR W db d vs) (A : Option Addr) (c : Nat) (b : List Int) (hb : b.length ≤ 40000) (hc : b.length ≤ c) (hr : Rd W 1 A b.length (u8s b)) (ho : 0 < b.length → Off db A) (hv : 0 < b.length → ∀ ad, A = some ad → ad.block < W.heap.size ∧ vs.ownBlock ≠ some ad.block) :
    Calls Try.prog 42 #[.pointer (some ⟨db, 0, none⟩), .slice A b.length c] W (FeedP W db d vs b) := by
  have hlt := h.blk.lt
  have a5 := h.blk.cell 5
  have f5 := h.blk.free 5
  simp [Dec.cells] at a5
  have hD : DecAt W (Own W vs) db (W.setCell ⟨db, 5, none⟩ (.slice none 0 0)) d vs (.slice none 0 0) [] := h.at_.put (Mut_set db 5 _) (h.blk.store 5 (.slice none 0 0)) (.inl ⟨rfl, rfl⟩) (.inl ⟨rfl, rfl, rfl⟩)
  have hRo : d.Room 0 := ⟨by rw [h.out]; simp, by rw [h.out]; simp, h.len⟩
  have HRo := Lib.hid hRo
  have HV := Lib.hid hv
  have HR := Lib.hid hr
  have HO := Lib.hid ho
  have HD := Lib.hid hD
  clear hr ho h hD hv hRo
  have hin : ∀ Wi, Turn (Own W vs) db W Wi → Rd Wi 1 A b.length (u8s b) := fun Wi ht => by
    rcases Nat.eq_zero_or_pos b.length with h0 | h0
    · exact ⟨HR.out.1, fun h => absurd h (by omega)⟩
    · exact HR.out.turn ht (HO.out h0) (fun ad e => by
        rintro (h1 | h1)
        · have := (HV.out h0 ad e).1; omega
        · exact (HV.out h0 ad e).2 h1)
  have HIN := Lib.hid hin
  clear hin
  go_enter Try.func42, Try.ntmps42
  go_wp2_with fail
  clear a5 f5 hlt
  generalize W.setCell ⟨db, 5, none⟩ (.slice none 0 0) = W1 at *
  go_loopw [6, 13] (fun _ v wr => ∃ (k : Nat) (vs1 vo1 : Value) (ms1 : List Em), k ≤ b.length ∧ v = .int .i64 k ∧ Hid (DecAt W (Own W vs) db wr (d.takes (b.take k)) vs1 vo1 ms1)) (fun _ v _ => b.length - (intOf v).toNat)
  case atStart => exact ⟨0, vs, _, [], Nat.zero_le _, rfl, by simpa [Dec.takes] using HD⟩
  case round =>
    clear HD
    obtain ⟨k, vs1, vo1, ms1, hk, rfl, H⟩ := hrel
    by_cases hlt : k < b.length
    · obtain ⟨x, hx⟩ : ∃ x, b[k]? = some x := ⟨_, List.getElem?_eq_getElem hlt⟩
      obtain ⟨bb, o, hA, hcell⟩ := (HIN.out _ H.out.fr).2 (by omega)
      have hcx := hcell k (.int .u8 x) (by rw [u8s_get, hx]; rfl)
      subst hA
      have HX := Lib.hid (show b.take (k + 1) = b.take k ++ [x] by rw [List.take_add_one, hx]; rfl)
      clear hcell hx
      go_wp2_with fail
      refine (take_any H.out x ((HRo.out.takes (b.take k)).le (j := 80000) (by rw [List.length_take]; omega)) (by omega)).mono ?_
      rintro e w1 ⟨rfl, vs2, vo2, ms2, h2⟩
      have H2 := Lib.hid h2
      clear h2
      go_wp2_with fail
      go_roundw
      case rel =>
        refine ⟨k + 1, vs2, vo2, ms2, by omega, by go_num, ?_⟩
        rw [HX.out, Dec.takes_append]
        exact H2.out
      case measure => simp [intOf]; omega
    · have : k = b.length := by omega
      subst this
      rw [List.take_length] at H
      have hlt2 := H.out.blk.lt
      have a5 := H.out.blk.cell 5
      have f5 := H.out.blk.free 5
      simp [Dec.cells] at a5
      clear hlt
      go_wp2_with fail
      go_ret
      have hl := (HRo.out.takes b).2.2
      obtain ⟨h1, h2, h3⟩ := H.out.done hl rfl
      exact ⟨vo1, ms1, vs1, rfl, h1, h2, H.out.evs, H.out.os, h3⟩
end Go.Proofs.Ytioaenidkieiiaa
