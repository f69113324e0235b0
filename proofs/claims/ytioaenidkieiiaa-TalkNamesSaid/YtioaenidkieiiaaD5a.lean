/- A decoder of telnet in memory: its model, what it owns, what stays. -/
import Derived.Test.YtioaenidkieiiaaKW
import Derived.Laws.OwnMore
namespace Go.Proofs.Ytioaenidkieiiaa
set_option linter.unusedVariables false
set_option linter.unusedSimpArgs false
open Go.RowKit Go.Proofs.YtioaenidkieiiaaW.PrintWords

structure Eo where
  kind : Int
  code : Int
  opt : Int
  bytes : List Int
structure Dec where
  at_ : Int
  code : Int
  opt : Int
  sub : List Int
  long : Bool
  out : List Eo
/-- an event in memory: where its bytes lie -/
structure Em where
  e : Eo
  A : Option Addr
  c : Nat
def Em.v (m : Em) : Value := .slice m.A m.e.bytes.length m.c
def Em.enc (m : Em) : List Value := [.int .i64 m.e.kind, .int .u8 m.e.code, .int .u8 m.e.opt, m.v]
def Dec.cells (d : Dec) (vs vo : Value) : Array Value := #[.int .i64 d.at_, .int .u8 d.code, .int .u8 d.opt, vs, .bool d.long, vo]
/-- other blocks than these stay -/
structure Turn (own : Nat → Prop) (db : Nat) (W0 W : World) : Prop where
  os : W.os = W0.os
  tape : W.tape = W0.tape
  output : W.output = W0.output
  size : W0.heap.size ≤ W.heap.size
  block : ∀ i, i < W0.heap.size → i ≠ db → ¬ own i → W.heap[i]? = W0.heap[i]?
theorem Turn.refl (own : Nat → Prop) (db : Nat) (W : World) : Turn own db W W := ⟨rfl, rfl, rfl, Nat.le_refl _, fun _ _ _ _ => rfl⟩
theorem Turn.grown {own : Nat → Prop} {db : Nat} {W0 W W1 : World} {row : Option Nat} (h : Turn own db W0 W) (hg : W.grownBy W1 row) (hr : ∀ g, row = some g → g = db ∨ own g) : Turn own db W0 W1 :=
  ⟨hg.os.trans h.os, hg.tape.trans h.tape, hg.output.trans h.output, Nat.le_trans h.size hg.size, fun i hi h1 h2 => (hg.block i (Nat.lt_of_lt_of_le hi h.size) (fun e => by
    rcases hr i e.symm with h3 | h3
    · exact h1 h3
    · exact h2 h3)).trans (h.block i hi h1 h2)⟩
/-- the decoder at db, with d.out's events at ms; own: the blocks that may be its own -/
structure DecAt (W0 : World) (own : Nat → Prop) (db : Nat) (W : World) (d : Dec) (vs vo : Value) (ms : List Em) : Prop where
  blk : Blk W db 89 (d.cells vs vo)
  sub : W.ownsRow 0 5 1 vs d.sub.length (u8s d.sub)
  out : W.ownsRow 0 72 4 vo ms.length (ms.flatMap Em.enc)
  evs : ms.map Em.e = d.out
  row : ∀ m ∈ ms, W.ownsRow 0 5 1 m.v m.e.bytes.length (u8s m.e.bytes)
  ns : ∀ m ∈ ms, ∀ g, m.v.ownBlock = some g → vs.ownBlock ≠ some g
  nd : ms.Pairwise (fun a b => ∀ g, a.v.ownBlock = some g → b.v.ownBlock ≠ some g)
  os : ∀ g, vs.ownBlock = some g → own g
  oo : ∀ g, vo.ownBlock = some g → own g
  om : ∀ m ∈ ms, ∀ g, m.v.ownBlock = some g → own g
  nw : ∀ g, W0.heap.size ≤ g → own g
  fr : Turn own db W0 W
theorem own_same {W : World} {b b' : Nat} {e e' : TypeId} {s s' n n' : Nat} {v v' : Value} {xs xs' : List Value} (h : W.ownsRow b e s v n xs) (h' : W.ownsRow b' e' s' v' n' xs') (hne : e ≠ e') : ∀ g, v.ownBlock = some g → v'.ownBlock ≠ some g := by
  intro g h1 h2
  obtain ⟨c1, hc1⟩ := own_typed h g h1
  obtain ⟨c2, hc2⟩ := own_typed h' g h2
  exact hne (Blk.same hc1 hc2).1
theorem own_blk_ne {W : World} {b s n db : Nat} {e t : TypeId} {v : Value} {xs : List Value} {cs : Array Value} (h : W.ownsRow b e s v n xs) (hb : Blk W db t cs) (hne : t ≠ e) : v.ownBlock ≠ some db := by
  intro h1
  obtain ⟨c1, hc1⟩ := own_typed h db h1
  exact hne (Blk.same hb hc1).1
section
variable {W0 W W1 : World} {own : Nat → Prop} {db : Nat} {d d' : Dec} {vs vo : Value} {ms : List Em}
theorem DecAt.sdb (h : DecAt W0 own db W d vs vo ms) : vs.ownBlock ≠ some db := own_blk_ne h.sub h.blk (by decide)
theorem DecAt.odb (h : DecAt W0 own db W d vs vo ms) : vo.ownBlock ≠ some db := own_blk_ne h.out h.blk (by decide)
theorem DecAt.mdb (h : DecAt W0 own db W d vs vo ms) {m : Em} (hm : m ∈ ms) : m.v.ownBlock ≠ some db := own_blk_ne (h.row m hm) h.blk (by decide)
theorem DecAt.mo (h : DecAt W0 own db W d vs vo ms) {m : Em} (hm : m ∈ ms) : ∀ g, m.v.ownBlock = some g → vo.ownBlock ≠ some g := own_same (h.row m hm) h.out (by decide)
theorem DecAt.so (h : DecAt W0 own db W d vs vo ms) : ∀ g, vs.ownBlock = some g → vo.ownBlock ≠ some g := own_same h.sub h.out (by decide)
/-- the decoder's own block turns, and what it says of its rows fits -/
theorem DecAt.put (h : DecAt W0 own db W d vs vo ms) (hm : Mut db W W1) {vs' : Value} {vo' : Value} {ms' : List Em} (hb : Blk W1 db 89 (d'.cells vs' vo')) (hs : (vs' = vs ∧ d'.sub = d.sub) ∨ (vs' = .slice none 0 0 ∧ d'.sub = []))
    (ho : (vo' = vo ∧ ms' = ms ∧ d'.out = d.out) ∨ (vo' = .slice none 0 0 ∧ ms' = [] ∧ d'.out = [])) : DecAt W0 own db W1 d' vs' vo' ms' := by
  have mv : ∀ {v : Value} {e : TypeId} {s n : Nat} {xs : List Value}, W.ownsRow 0 e s v n xs → v.ownBlock ≠ some db → W1.ownsRow 0 e s v n xs := fun h1 h2 => own_move h1 (fun k hk => hm.block k (World.ownsRow.lt h1 k hk).2 (fun e => h2 (by rw [hk]; exact e)))
  have hS : W1.ownsRow 0 5 1 vs' d'.sub.length (u8s d'.sub) := by
    rcases hs with ⟨rfl, e⟩ | ⟨rfl, e⟩
    · rw [e]; exact mv h.sub h.sdb
    · rw [e]; exact own_nil _ _ _ _
  have hF : Turn own db W0 W1 := h.fr.grown hm (fun g e => by cases e; exact .inl rfl)
  have hsn : ∀ g, vs'.ownBlock = some g → vs.ownBlock = some g := by
    rcases hs with ⟨rfl, _⟩ | ⟨rfl, _⟩
    · exact fun g e => e
    · intro g e; cases e
  rcases ho with ⟨rfl, rfl, e⟩ | ⟨rfl, rfl, e⟩
  · exact ⟨hb, hS, mv h.out h.odb, by rw [e]; exact h.evs, fun m hm' => mv (h.row m hm') (h.mdb hm'), fun m hm' g e1 e2 => h.ns m hm' g e1 (hsn g e2), h.nd, fun g e => h.os g (hsn g e), h.oo, h.om, h.nw, hF⟩
  · exact ⟨hb, hS, own_nil _ _ _ _, by rw [e]; rfl, fun m hm' => (by cases hm'), fun m hm' => (by cases hm'), List.Pairwise.nil, fun g e => h.os g (hsn g e), fun g e => (by cases e), fun m hm' => (by cases hm'), h.nw, hF⟩
theorem DecAt.step (h : DecAt W0 own db W d vs vo ms) (hx : Ext W W1) : DecAt W0 own db W1 d vs vo ms := by
  have mv : ∀ {v : Value} {e : TypeId} {s n : Nat} {xs : List Value}, W.ownsRow 0 e s v n xs → W1.ownsRow 0 e s v n xs := fun h1 => own_move h1 (fun k hk => hx.block k (World.ownsRow.lt h1 k hk).2)
  exact ⟨Blk.below' h.blk hx, mv h.sub, mv h.out, h.evs, fun m hm => mv (h.row m hm), h.ns, h.nd, h.os, h.oo, h.om, h.nw, h.fr.grown (grown_below hx none) (fun g e => (by cases e))⟩
/-- an event is told: the row of events has grown, then the decoder's block is turned -/
theorem DecAt.emit (h : DecAt W0 own db W d vs vo ms) (m : Em) {vo' : Value} (hq : W1.ownsRow 0 72 4 vo' (ms.length + 1) (ms.flatMap Em.enc ++ m.enc)) (hg : W.grownBy W1 vo.ownBlock) (hv : vo'.ownBlock = vo.ownBlock ∨ vo'.ownBlock = some W.heap.size)
    (hr : W.ownsRow 0 5 1 m.v m.e.bytes.length (u8s m.e.bytes)) (hns : ∀ g, m.v.ownBlock = some g → vs.ownBlock ≠ some g ∧ own g ∧ ∀ a ∈ ms, a.v.ownBlock ≠ some g) {W2 : World} (hW2 : W2 = W1.setCell ⟨db, 5, none⟩ vo') (hd : d'.out = d.out ++ [m.e]) (he : d' = { d with out := d'.out }) :
    DecAt W0 own db W2 d' vs vo' (ms ++ [m]) := by
  have hmo : ∀ g, m.v.ownBlock = some g → vo.ownBlock ≠ some g := own_same hr h.out (by decide)
  have hmdb : m.v.ownBlock ≠ some db := own_blk_ne hr h.blk (by decide)
  have hvdb : vo'.ownBlock ≠ some db := by
    rcases hv with e | e
    · rw [e]; exact h.odb
    · rw [e]; intro e2; injection e2 with e2; have := h.blk.lt; omega
  have hM : Mut db W1 W2 := by rw [hW2]; exact Mut_set db _ _
  have hsz : W.heap.size ≤ W1.heap.size := hg.size
  have mv : ∀ {v : Value} {e : TypeId} {s n : Nat} {xs : List Value}, W.ownsRow 0 e s v n xs → (∀ g, v.ownBlock = some g → vo.ownBlock ≠ some g) → v.ownBlock ≠ some db → W2.ownsRow 0 e s v n xs := fun h1 h2 h3 => own_move h1 (fun k hk => by
    have hk1 := (World.ownsRow.lt h1 k hk).2
    exact (hM.block k (Nat.lt_of_lt_of_le hk1 hsz) (fun e => h3 (by rw [hk]; exact e))).trans (hg.block k hk1 (fun e => h2 k hk e.symm)))
  have e1 : d'.sub = d.sub := by rw [he]
  refine ⟨?_, ?_, ?_, ?_, ?_, ?_, ?_, h.os, ?_, ?_, h.nw, ?_⟩
  · rw [hW2]
    have hb := (h.blk.grown hg (fun e => h.odb e.symm)).store 5 vo'
    have e2 : d'.cells vs vo' = (d.cells vs vo).setIfInBounds 5 vo' := by rw [he]; rfl
    rw [e2]; exact hb
  · rw [e1]; exact mv h.sub h.so h.sdb
  · rw [List.length_append, List.flatMap_append]
    have h1 : W1.ownsRow 0 72 4 vo' (ms.length + [m].length) (ms.flatMap Em.enc ++ [m].flatMap Em.enc) := by simpa using hq
    exact own_move h1 (fun k hk => hM.block k (World.ownsRow.lt h1 k hk).2 (fun e => hvdb (by rw [hk]; exact e)))
  · rw [List.map_append, h.evs, hd]; rfl
  · intro m' hm'
    rcases List.mem_append.1 hm' with hm' | hm'
    · exact mv (h.row m' hm') (h.mo hm') (h.mdb hm')
    · rw [List.mem_singleton.1 hm']; exact mv hr hmo hmdb
  · intro m' hm' g e
    rcases List.mem_append.1 hm' with hm' | hm'
    · exact h.ns m' hm' g e
    · rw [List.mem_singleton.1 hm'] at e; exact (hns g e).1
  · rw [List.pairwise_append]
    refine ⟨h.nd, List.pairwise_singleton _ _, fun a ha b hb g e1 e2 => ?_⟩
    rw [List.mem_singleton.1 hb] at e2
    exact (hns g e2).2.2 a ha e1
  · intro g e
    rcases hv with e' | e'
    · exact h.oo g (e'.symm.trans e)
    · rw [e'] at e; injection e with e; exact h.nw g (by have := h.fr.size; omega)
  · intro m' hm' g e
    rcases List.mem_append.1 hm' with hm' | hm'
    · exact h.om m' hm' g e
    · rw [List.mem_singleton.1 hm'] at e; exact (hns g e).2.1
  · exact (h.fr.grown hg (fun g e => .inr (h.oo g e))).grown hM (fun g e => by cases e; exact .inl rfl)
/-- a byte of a subnegotiation is kept -/
theorem DecAt.keep (h : DecAt W0 own db W d vs vo ms) {c : Int} {vs' : Value} (hq : W1.ownsRow 0 5 1 vs' (d.sub.length + 1) (u8s (d.sub ++ [c]))) (hg : W.grownBy W1 vs.ownBlock) (hv : vs'.ownBlock = vs.ownBlock ∨ vs'.ownBlock = some W.heap.size)
    {W2 : World} (hW2 : W2 = W1.setCell ⟨db, 3, none⟩ vs') : DecAt W0 own db W2 { d with sub := d.sub ++ [c] } vs' vo ms := by
  have hvdb : vs'.ownBlock ≠ some db := by
    rcases hv with e | e
    · rw [e]; exact h.sdb
    · rw [e]; intro e2; injection e2 with e2; have := h.blk.lt; omega
  have hM : Mut db W1 W2 := by rw [hW2]; exact Mut_set db _ _
  have hsz : W.heap.size ≤ W1.heap.size := hg.size
  have mv : ∀ {v : Value} {e : TypeId} {s n : Nat} {xs : List Value}, W.ownsRow 0 e s v n xs → (∀ g, v.ownBlock = some g → vs.ownBlock ≠ some g) → v.ownBlock ≠ some db → W2.ownsRow 0 e s v n xs := fun h1 h2 h3 => own_move h1 (fun k hk => by
    have hk1 := (World.ownsRow.lt h1 k hk).2
    exact (hM.block k (Nat.lt_of_lt_of_le hk1 hsz) (fun e => h3 (by rw [hk]; exact e))).trans (hg.block k hk1 (fun e => h2 k hk e.symm)))
  refine ⟨?_, ?_, mv h.out (fun g e1 e2 => h.so g e2 e1) h.odb, h.evs, fun m hm => mv (h.row m hm) (h.ns m hm) (h.mdb hm), ?_, h.nd, ?_, h.oo, h.om, h.nw, (h.fr.grown hg (fun g e => .inr (h.os g e))).grown hM (fun g e => by cases e; exact .inl rfl)⟩
  · rw [hW2]
    exact (h.blk.grown hg (fun e => h.sdb e.symm)).store 3 vs'
  · rw [List.length_append]
    exact own_move hq (fun k hk => hM.block k (World.ownsRow.lt hq k hk).2 (fun e => hvdb (by rw [hk]; exact e)))
  · intro m hm g e1 e2
    rcases hv with e | e
    · exact h.ns m hm g e1 (e ▸ e2)
    · rw [e] at e2; injection e2 with e2
      have := (World.ownsRow.lt (h.row m hm) g e1).2
      omega
  · intro g e
    rcases hv with e' | e'
    · exact h.os g (e'.symm.trans e)
    · rw [e'] at e; injection e with e; exact h.nw g (by have := h.fr.size; omega)
/-- a byte is laid to the last event's -/
theorem DecAt.last {ms0 : List Em} {m : Em} (h : DecAt W0 own db W d vs vo (ms0 ++ [m])) {c : Int} {A' : Option Addr} {c' : Nat} (hq : W1.ownsRow 0 5 1 (.slice A' (m.e.bytes.length + 1) c') (m.e.bytes.length + 1) (u8s (m.e.bytes ++ [c]))) (hg : W.grownBy W1 m.v.ownBlock)
    (hv : (Value.slice A' (m.e.bytes.length + 1) c').ownBlock = m.v.ownBlock ∨ (Value.slice A' (m.e.bytes.length + 1) c').ownBlock = some W.heap.size) {go cap : Nat} (hvo : vo = .slice (some ⟨go, 0, none⟩) (ms0.length + 1) cap) {W2 : World} (hW2 : W2 = W1.setCell ⟨go, ms0.length * 4 + 3, none⟩ (.slice A' (m.e.bytes.length + 1) c'))
    {out0 : List Eo} (hout : d.out = out0 ++ [m.e]) : DecAt W0 own db W2 { d with out := out0 ++ [{ m.e with bytes := m.e.bytes ++ [c] }] } vs vo (ms0 ++ [⟨{ m.e with bytes := m.e.bytes ++ [c] }, A', c'⟩]) := by
  have hin : m ∈ ms0 ++ [m] := List.mem_append_right _ List.mem_cons_self
  have hin0 : ∀ a ∈ ms0, a ∈ ms0 ++ [m] := fun a ha => List.mem_append_left _ ha
  have hgo : vo.ownBlock = some go := by rw [hvo]; rfl
  have hM : Mut go W1 W2 := by rw [hW2]; exact Mut_set go _ _
  have hsz : W.heap.size ≤ W1.heap.size := hg.size
  have hnd := List.pairwise_append.1 h.nd
  have hndm : ∀ a ∈ ms0, ∀ g, a.v.ownBlock = some g → m.v.ownBlock ≠ some g := fun a ha g e => hnd.2.2 a ha m List.mem_cons_self g e
  have hnew : ∀ {v : Value} {e : TypeId} {s n : Nat} {xs : List Value}, W.ownsRow 0 e s v n xs → (∀ g, v.ownBlock = some g → m.v.ownBlock ≠ some g) → ∀ g, (Value.slice A' (m.e.bytes.length + 1) c').ownBlock = some g → v.ownBlock ≠ some g := by
    intro v e s n xs h1 h2 g e1 e2
    rcases hv with e' | e'
    · exact h2 g e2 (e'.symm.trans e1)
    · rw [e'] at e1; injection e1 with e1
      have := (World.ownsRow.lt h1 g e2).2
      omega
  have mv : ∀ {v : Value} {e : TypeId} {s n : Nat} {xs : List Value}, W.ownsRow 0 e s v n xs → (∀ g, v.ownBlock = some g → m.v.ownBlock ≠ some g) → (∀ g, v.ownBlock = some g → vo.ownBlock ≠ some g) → W2.ownsRow 0 e s v n xs := fun h1 h2 h3 => own_move h1 (fun k hk => by
    have hk1 := (World.ownsRow.lt h1 k hk).2
    exact (hM.block k (Nat.lt_of_lt_of_le hk1 hsz) (fun e => h3 k hk (by rw [hgo]; exact e.symm))).trans (hg.block k hk1 (fun e => h2 k hk e.symm)))
  have hqgo : (Value.slice A' (m.e.bytes.length + 1) c').ownBlock ≠ some go := fun e => hnew h.out (fun g e1 e2 => h.mo hin g e2 e1) go e hgo
  have hout1 : W1.ownsRow 0 72 4 vo (ms0 ++ [m]).length ((ms0 ++ [m]).flatMap Em.enc) := own_move h.out (fun k hk => hg.block k (World.ownsRow.lt h.out k hk).2 (fun e => h.mo hin k e.symm hk))
  have hfl : (ms0.flatMap Em.enc).length = ms0.length * 4 := flat_length Em.enc 4 (fun _ => rfl) ms0
  refine ⟨?_, mv h.sub (fun g e1 e2 => h.ns m hin g e2 e1) h.so, ?_, ?_, ?_, ?_, ?_, h.os, h.oo, ?_, h.nw, (h.fr.grown hg (fun g e => .inr (h.om m hin g e))).grown hM (fun g e => by cases e; exact .inr (h.oo go hgo))⟩
  · have hb := h.blk.grown hg (fun e => h.mdb hin e.symm)
    exact Blk.grown hb hM (fun e => h.odb (by rw [hgo, e]))
  · rw [List.length_append] at hout1
    rw [hvo] at hout1 ⊢
    have := (World.ownsRow.stored hout1 (ms0.length * 4 + 3) (.slice A' (m.e.bytes.length + 1) c')).1
    rw [hW2]
    have e1 : ((ms0 ++ [m]).flatMap Em.enc).set (ms0.length * 4 + 3) (.slice A' (m.e.bytes.length + 1) c') = (ms0 ++ [(⟨{ m.e with bytes := m.e.bytes ++ [c] }, A', c'⟩ : Em)]).flatMap Em.enc := by
      rw [List.flatMap_append, List.flatMap_append, List.set_append, if_neg (by rw [hfl]; omega), hfl, show ms0.length * 4 + 3 - ms0.length * 4 = 3 from by omega]
      congr 1
      simp [Em.enc, Em.v]
    rw [e1] at this
    rw [List.length_append]
    exact this
  · have := h.evs
    rw [hout, List.map_append] at this
    have h1 := List.append_inj' this (by simp)
    rw [List.map_append, h1.1]; rfl
  · intro a ha
    rcases List.mem_append.1 ha with ha | ha
    · exact mv (h.row a (hin0 a ha)) (hndm a ha) (h.mo (hin0 a ha))
    · rw [List.mem_singleton.1 ha]
      have e1 : (m.e.bytes ++ [c]).length = m.e.bytes.length + 1 := by simp
      show W2.ownsRow 0 5 1 (.slice A' (m.e.bytes ++ [c]).length c') (m.e.bytes ++ [c]).length (u8s (m.e.bytes ++ [c]))
      rw [e1]
      exact own_move hq (fun k hk => hM.block k (World.ownsRow.lt hq k hk).2 (fun e => hqgo (by rw [hk]; exact e)))
  · intro a ha g e1
    rcases List.mem_append.1 ha with ha | ha
    · exact h.ns a (hin0 a ha) g e1
    · rw [List.mem_singleton.1 ha] at e1
      have e1' : (Value.slice A' (m.e.bytes.length + 1) c').ownBlock = some g := by
        rw [← e1]; show _ = (Value.slice A' (m.e.bytes ++ [c]).length c').ownBlock
        cases A' <;> rfl
      exact hnew h.sub (fun g e1 e2 => h.ns m hin g e2 e1) g e1'
  · rw [List.pairwise_append]
    refine ⟨hnd.1, List.pairwise_singleton _ _, fun a ha b hb g e1 e2 => ?_⟩
    rw [List.mem_singleton.1 hb] at e2
    have e2' : (Value.slice A' (m.e.bytes.length + 1) c').ownBlock = some g := by
      rw [← e2]; show _ = (Value.slice A' (m.e.bytes ++ [c]).length c').ownBlock
      cases A' <;> rfl
    exact hnew (h.row a (hin0 a ha)) (hndm a ha) g e2' e1
  · intro a ha g e1
    rcases List.mem_append.1 ha with ha | ha
    · exact h.om a (hin0 a ha) g e1
    · rw [List.mem_singleton.1 ha] at e1
      have e1' : (Value.slice A' (m.e.bytes.length + 1) c').ownBlock = some g := by
        rw [← e1]; show _ = (Value.slice A' (m.e.bytes ++ [c]).length c').ownBlock
        cases A' <;> rfl
      rcases hv with e' | e'
      · exact h.om m hin g (e'.symm.trans e1')
      · rw [e'] at e1'; injection e1' with e1'; exact h.nw g (by have := h.fr.size; omega)
end
end Go.Proofs.Ytioaenidkieiiaa
