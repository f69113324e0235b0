/- Parts of a decoder's events, one behind the other. -/
import Derived.Test.YthkioahpnbahhaaD5t
namespace Go.Proofs.Ythkioahpnbahhaa
set_option linter.unusedVariables false
set_option linter.unusedSimpArgs false
open Go.RowKit Go.Proofs.YthkioahpnbahhaaW.PrintWords
section
variable {P : Program}
theorem run_append_none (w : World) (t ty e : TypeId) (i : TypeInfo) (ht : P.underlying t = some (.slice e)) (hi : P.info? e = some i) (b : Option Addr) (n cap c : Nat) (hn : n ≤ cap) :
    (Builtin.append_ #[t, t] ty #[.slice b n cap, .slice none 0 c]).run P w = .ok (.slice b n cap) w := by
  cases b with
  | none => simp [Builtin.append_, run_underlying ht, sizeOf, typeInfo, hi, Builtin.lenOf, hn, run_firstCells_none]
  | some a => simp [Builtin.append_, run_underlying ht, sizeOf, typeInfo, hi, Builtin.lenOf, hn, run_firstCells_none, storeCells]
theorem list_append_rd {w : World} {ops : Array Oper} {o : Oper} {a : Act} {rest : List Oper} {Q : Exit → Act → World → Prop} (base : Nat) (hgd : o.guard = none) (s x : Operand) (t : TypeId)
    (ho : o.op = .call { callee := .builtin .append, args := #[s, x], argTypes := #[t, t] })
    (e : TypeId) (i : TypeInfo) (z : Value) (size bytes : Nat) (ht : P.underlying t = some (.slice e)) (hi : P.info? e = some i) (hz : i.zero = some z)
    (hsize : i.size = size) (hby : i.bytes = bytes) (hzs : z.cells.size = size) (hsz : 0 < size)
    (v : Value) (n : Nat) (xs : List Value) (hs : a.eval s = v) (hown : w.ownsRow base e size v n xs)
    (A : Option Addr) (m c0 : Nat) (news : List Value) (hx : a.eval x = .slice A m c0) (hr : Rd w size A m news) (h1 : ∀ u ∈ news, u.oneCell' = true)
    (h63 : n + m ≤ maxLen) (hbytes : (n + m) * bytes ≤ 140737488355328) (hb : base ≤ w.heap.size)
    (h : ∀ A c w', w'.ownsRow base e size (.slice A (n + m) c) (n + m) (xs ++ news) → w.grownBy w' v.ownBlock → wpList P ops Q rest (a.put o.dst (.slice A (n + m) c)) w') :
    wpList P ops Q (o :: rest) a w := by
  have hm0 : news = [] → A = none → m = 0 := fun h0 hA => by
    rcases Nat.eq_zero_or_pos m with h | h
    · exact h
    · obtain ⟨_, _, h2, _⟩ := hr.2 h
      rw [hA] at h2; cases h2
  cases A with
  | none =>
    have hm : m = 0 := by
      rcases Nat.eq_zero_or_pos m with h | h
      · exact h
      · obtain ⟨_, _, h2, _⟩ := hr.2 h
        cases h2
    subst hm
    have hn : news = [] := List.eq_nil_of_length_eq_zero (by have := hr.1; omega)
    subst hn
    obtain ⟨B, cap, rfl⟩ := Go.Proofs.YthkioahpnbahhaaW.PrintWords.own_slice hown
    refine wpList_plain hgd fun K hK => ?_
    unfold Oper.wp execOp
    simp only [ho, resolve, invoke, builtin, Sem.run_bind, Sem.run_pure, Result.andThen_ok, List.map_toArray, List.map_cons, List.map_nil, hs, hx, run_append_none w t o.type e i ht hi B n cap c0 (own_len_cap hown)]
    exact hK _ _ (h B cap w (by rw [List.append_nil]; exact hown) (World.grownBy.refl _ _))
  | some ad =>
    refine list_append_at base hgd s x t ho e i z size bytes ht hi hz hsize hby hzs hsz v n xs hs hown ad m c0 news hx hr.1 (fun j u hu => ?_) h1 h63 hbytes hb h
    have hlt : j < m * size := by rw [← hr.1]; exact (List.getElem?_eq_some_iff.1 hu).1
    have hm : 0 < m := by
      rcases Nat.eq_zero_or_pos m with h | h
      · rw [h, Nat.zero_mul] at hlt; omega
      · exact h
    obtain ⟨b, o, h2, h3⟩ := hr.2 hm
    cases h2
    rw [add_at]
    exact h3 j u hu
end
/-- the parts' events, apart from what the decoder keeps -/
structure PAt (B : Nat) (W : World) (v : Value) (ms : List Em) (vs : Value) : Prop where
  out : W.ownsRow B 28 4 v ms.length (ms.flatMap Em.enc)
  row : ∀ m ∈ ms, W.ownsRow 0 5 1 m.v m.e.bytes.length (u8s m.e.bytes)
  ns : ∀ m ∈ ms, ∀ g, m.v.ownBlock = some g → vs.ownBlock ≠ some g
section
variable {B db : Nat} {W W1 : World} {v v' vo vs vs' : Value} {ms ms2 : List Em} {d : Dec} {own : Nat → Prop}
theorem PAt.rd (h : PAt B W v ms vs) : EvR W v ms := EvR.of_own h.out (fun m hm => ⟨Rd.own (h.row m hm), own_len_cap (h.row m hm)⟩)
theorem PAt.ext (h : PAt B W v ms vs) (hx : Ext W W1) : PAt B W1 v ms vs := ⟨own_ext5 h.out hx, fun m hm => own_ext5 (h.row m hm) hx, h.ns⟩
/-- the decoder goes on -/
theorem PAt.feed (h : PAt B W v ms vs) (hd : DecR W db d vs) (ht : Turn (Own W vs) db W W1) (hv : ∀ g, vs'.ownBlock = some g → Own W vs g) : PAt B W1 v ms vs' := by
  have mv : ∀ {b : Nat} {u : Value} {e : TypeId} {s n : Nat} {xs : List Value}, W.ownsRow b e s u n xs → 57 ≠ e → (∀ g, u.ownBlock = some g → vs.ownBlock ≠ some g) → W1.ownsRow b e s u n xs := fun h1 h2 h3 => own_move h1 (fun k hk => ht.block k (World.ownsRow.lt h1 k hk).2 (fun e => own_blk_ne h1 hd.blk h2 (by rw [hk, e])) (by
    rintro (h4 | h4)
    · have := (World.ownsRow.lt h1 k hk).2; omega
    · exact h3 k hk h4))
  refine ⟨mv h.out (by decide) (own_same h.out hd.sub (by decide)), fun m hm => mv (h.row m hm) (by decide) (h.ns m hm), fun m hm g h1 h2 => ?_⟩
  rcases hv g h2 with h3 | h3
  · have := (World.ownsRow.lt (h.row m hm) g h1).2; omega
  · exact h.ns m hm g h1 h3
/-- what it told is laid behind -/
theorem PAt.add (h : PAt B W v ms vs) (he : EvsAt own W vo ms2 vs) (hq : W1.ownsRow B 28 4 v' (ms.length + ms2.length) (ms.flatMap Em.enc ++ ms2.flatMap Em.enc)) (hg : W.grownBy W1 v.ownBlock) : PAt B W1 v' (ms ++ ms2) vs := by
  have mv : ∀ a : Em, W.ownsRow 0 5 1 a.v a.e.bytes.length (u8s a.e.bytes) → W1.ownsRow 0 5 1 a.v a.e.bytes.length (u8s a.e.bytes) := fun a ha =>
    own_move ha (fun k hk => hg.block k (World.ownsRow.lt ha k hk).2 (fun e => own_same ha h.out (by decide) k hk e.symm))
  refine ⟨?_, fun a ha => ?_, fun a ha => ?_⟩
  · rw [List.length_append, List.flatMap_append]; exact hq
  · rcases List.mem_append.1 ha with ha | ha
    · exact mv a (h.row a ha)
    · exact mv a (he.row a ha)
  · rcases List.mem_append.1 ha with ha | ha
    · exact h.ns a ha
    · exact he.ns a ha
theorem DecR.grown (h : DecR W db d vs) {row : Option Nat} (hg : W.grownBy W1 row) (h1 : some db ≠ row) (h2 : ∀ g, vs.ownBlock = some g → row ≠ some g) : DecR W1 db d vs :=
  ⟨h.blk.grown hg h1, own_move h.sub (fun k hk => hg.block k (World.ownsRow.lt h.sub k hk).2 (fun e => h2 k hk e.symm)), h.out, h.len⟩
/-- the parts' row grows: the decoder stays -/
theorem DecR.aside (h : DecR W db d vs) (hp : PAt B W v ms vs) (hg : W.grownBy W1 v.ownBlock) : DecR W1 db d vs :=
  h.grown hg (fun e => own_blk_ne hp.out h.blk (by decide) e.symm) (fun g hv e => own_same hp.out h.sub (by decide) g e hv)
theorem Mut.turn {wB : World} (h : Mut db wB W) (ht : Turn (Own W vs) db W W1) (hv : ∀ g, vs.ownBlock = some g → wB.heap.size ≤ g) : Mut db wB W1 :=
  ⟨ht.os.trans h.os, ht.tape.trans h.tape, ht.output.trans h.output, Nat.le_trans h.size ht.size, fun i hi hne => (ht.block i (Nat.lt_of_lt_of_le hi h.size) (fun e => hne (by rw [e])) (by
    have hz := h.size
    rintro (h1 | h1)
    · omega
    · have := hv i h1; omega)).trans (h.block i hi hne)⟩
theorem Mut.ownd {wB : World} (h : Mut db wB W) (hg : W.grownBy W1 v.ownBlock) (hv : ∀ g, v.ownBlock = some g → wB.heap.size ≤ g) : Mut db wB W1 :=
  ⟨hg.os.trans h.os, hg.tape.trans h.tape, hg.output.trans h.output, Nat.le_trans h.size hg.size, fun i hi hne => (hg.block i (Nat.lt_of_lt_of_le hi h.size) (fun e => by have := hv i e.symm; omega)).trans (h.block i hi hne)⟩
theorem JAt.mut {b : Nat} (h : JAt b W v ms) (hm : Mut db W W1) (hdb : db < b) : JAt b W1 v ms := by
  have mv : ∀ {u : Value} {e : TypeId} {s n : Nat} {xs : List Value}, W.ownsRow b e s u n xs → W1.ownsRow b e s u n xs := fun h1 => own_move h1 (fun k hk => hm.block k (World.ownsRow.lt h1 k hk).2 (fun e => by
    injection e with e
    have := (World.ownsRow.lt h1 k hk).1
    omega))
  exact ⟨mv h.out, fun m hm => mv (h.row m hm), h.nd⟩
end
theorem Rd.drop {w : World} {ad : Addr} {n : Nat} {l : List Int} (h : Rd w 1 (some ad) n (u8s l)) (k : Nat) (hk : k ≤ n) : Rd w 1 (some (ad.add k)) (n - k) (u8s (l.drop k)) := by
  have hl : l.length = n := by have := h.1; simpa [u8s] using this
  refine ⟨by simp [u8s]; omega, fun h0 => ?_⟩
  obtain ⟨b, o, h2, h3⟩ := h.2 (by omega)
  cases h2
  refine ⟨b, o + k, by rw [add_at], fun j u hu => ?_⟩
  have := h3 (k + j) u (by rw [u8s_get] at hu ⊢; rwa [List.getElem?_drop] at hu)
  rwa [show o + k + j = o + (k + j) by omega]
end Go.Proofs.Ythkioahpnbahhaa
