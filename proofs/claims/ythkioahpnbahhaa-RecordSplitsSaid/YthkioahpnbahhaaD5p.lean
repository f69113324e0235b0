/- A copy of a row of bytes; events laid together, in memory. -/
import Derived.Test.YthkioahpnbahhaaD5o
import Derived.Lib.LazyBuf
namespace Go.Proofs.Ythkioahpnbahhaa
set_option linter.unusedVariables false
set_option linter.unusedSimpArgs false
open Go.RowKit Go.Proofs.YthkioahpnbahhaaW.PrintWords
set_option maxRecDepth 100000 in
set_option maxHeartbeats 2000000 in
theorem Clone_any (A : Option Addr) (c : Nat) (l : List Int) (hl : l.length ≤ 1000000000) (hc : l.length ≤ c) (w : World) (hr : Rd w 1 A l.length (u8s l)) :
    Calls Try.prog 43 #[.slice A l.length c] w (fun e w' => ∃ v, e = .returned v ∧ w'.ownsRow w.heap.size 5 1 v l.length (u8s l) ∧ Ext w w') := by
  obtain ⟨i0, hi, hz0, hz1, hz2⟩ := info_parts info5'
  have hu : (u8s l).length = l.length := by simp [u8s]
  have HR := Lib.hid hr
  have HU := Lib.hid hu
  have HC := Lib.hid hc
  clear hr hu hc
  have heq := fun (W : World) (a : Option Addr) (l c : Nat) => Go.run_eql_slice_nil (P := Try.prog) W 24 5 a l c Try.underlying24
  cases A with
  | none =>
    have h0 : l.length = 0 := by
      rcases Nat.eq_zero_or_pos l.length with h | h
      · exact h
      · obtain ⟨_, _, h2, _⟩ := HR.out.2 h
        cases h2
    obtain rfl : l = [] := List.eq_nil_of_length_eq_zero h0
    go_enter Try.func43, Try.ntmps43
    go_wp2_with fail
    go_ret
    exact ⟨_, rfl, own_nil _ _ _ _, Ext_refl w⟩
  | some a =>
    have HN : Hid (∀ W, Ext w W → ∀ j u, (u8s l)[j]? = some u → W.cell? (a.add j) = some u) := Lib.hid (fun W hW j u hu => by
      have hj : j < l.length := by rw [← HU.out]; exact (List.getElem?_eq_some_iff.1 hu).1
      obtain ⟨b, o, h2, h3⟩ := (Rd_ext hW HR.out).2 (by omega)
      cases h2
      rw [add_at]
      exact h3 j u hu)
    go_enter Try.func43, Try.ntmps43
    go_wp2_with
      ((at_builtin; go_must (refine list_append_at w.heap.size rfl (.tmp 5) (.tmp 6) 24 rfl 5 i0 _ 1 1 Try.underlying24 hi hz0 hz1 hz2 rfl (by decide) (.slice (some ⟨w.heap.size, 0, none⟩) 0 0) 0 [] (by rfl) (World.ownsRow_lit w #[] 0 (Nat.le_refl _) (by decide) rfl) a l.length c (u8s l) (by rfl) (by rw [HU.out, Nat.mul_one]) (HN.out _ (Ext_alloc (Ext_refl w))) (by intro u hu; obtain ⟨x, _, rfl⟩ := List.mem_map.1 hu; rfl) (by unfold maxLen; omega) (by omega) (by simp) ?_)
        intro A1 c1 w1 hq hg
        rw [List.nil_append, Nat.zero_add] at hq
        have HQ := Lib.hid hq
        have HX : Hid (Ext w w1) := Lib.hid ((Ext_alloc (o := .cells #[] 5) (Ext_refl w)).grown hg (by simp) (fun g hg => by cases hg; simp))
        clear hq hg))
    go_ret
    exact ⟨_, rfl, HQ.out, HX.out⟩
/-- events in memory, each with bytes of its own, from block b on -/
structure JAt (b : Nat) (W : World) (vo : Value) (ms : List Em) : Prop where
  out : W.ownsRow b 28 4 vo ms.length (ms.flatMap Em.enc)
  row : ∀ m ∈ ms, W.ownsRow b 5 1 m.v m.e.bytes.length (u8s m.e.bytes)
  nd : ms.Pairwise (fun a b => ∀ g, a.v.ownBlock = some g → b.v.ownBlock ≠ some g)
section
variable {b : Nat} {W W1 : World} {vo vo' : Value} {ms ms0 : List Em} {m : Em}
theorem JAt.rd (h : JAt b W vo ms) : EvR W vo ms := EvR.of_own h.out (fun m hm => ⟨Rd.own (h.row m hm), own_len_cap (h.row m hm)⟩)
theorem JAt.ext (h : JAt b W vo ms) (hx : Ext W W1) : JAt b W1 vo ms := ⟨own_ext5 h.out hx, fun m hm => own_ext5 (h.row m hm) hx, h.nd⟩
theorem JAt.mo (h : JAt b W vo ms) {m : Em} (hm : m ∈ ms) : ∀ g, m.v.ownBlock = some g → vo.ownBlock ≠ some g := own_same (h.row m hm) h.out (by decide)
theorem JAt.add (h : JAt b W vo ms) (m : Em) (hm : W.ownsRow b 5 1 m.v m.e.bytes.length (u8s m.e.bytes)) (hn : ∀ g, m.v.ownBlock = some g → ∀ a ∈ ms, a.v.ownBlock ≠ some g) (hq : W1.ownsRow b 28 4 vo' (ms.length + 1) (ms.flatMap Em.enc ++ m.enc)) (hg : W.grownBy W1 vo.ownBlock) : JAt b W1 vo' (ms ++ [m]) := by
  have mv : ∀ a : Em, W.ownsRow b 5 1 a.v a.e.bytes.length (u8s a.e.bytes) → W1.ownsRow b 5 1 a.v a.e.bytes.length (u8s a.e.bytes) := fun a ha =>
    own_move ha (fun k hk => hg.block k (World.ownsRow.lt ha k hk).2 (fun e => own_same ha h.out (by decide) k hk e.symm))
  refine ⟨?_, fun a ha => ?_, ?_⟩
  · have e1 : [m].flatMap Em.enc = m.enc := by simp
    rw [List.length_append, List.flatMap_append, e1]
    exact hq
  · rcases List.mem_append.1 ha with ha | ha
    · exact mv a (h.row a ha)
    · rw [List.mem_singleton.1 ha]; exact mv m hm
  · rw [List.pairwise_append]
    refine ⟨h.nd, List.pairwise_singleton _ _, fun a ha b hb g e1 e2 => ?_⟩
    rw [List.mem_singleton.1 hb] at e2
    exact hn g e2 a ha e1
theorem JAt.last (h : JAt b W vo (ms0 ++ [m])) {l : List Int} {v' : Value} {A' : Option Addr} {c' : Nat} (hv' : v' = .slice A' (m.e.bytes ++ l).length c') (hq : W1.ownsRow b 5 1 v' (m.e.bytes ++ l).length (u8s (m.e.bytes ++ l))) (hg : W.grownBy W1 m.v.ownBlock)
    (hv : v'.ownBlock = m.v.ownBlock ∨ v'.ownBlock = some W.heap.size) {go cap : Nat} (hvo : vo = .slice (some ⟨go, 0, none⟩) (ms0.length + 1) cap) {W2 : World} (hW2 : W2 = W1.setCell ⟨go, ms0.length * 4 + 3, none⟩ v') :
    JAt b W2 vo (ms0 ++ [⟨{ m.e with bytes := m.e.bytes ++ l }, A', c'⟩]) := by
  have hin : m ∈ ms0 ++ [m] := List.mem_append_right _ List.mem_cons_self
  have hin0 : ∀ a ∈ ms0, a ∈ ms0 ++ [m] := fun a ha => List.mem_append_left _ ha
  have hgo : vo.ownBlock = some go := by rw [hvo]; rfl
  have hM : Mut go W1 W2 := by rw [hW2]; exact Mut_set go _ _
  have hsz : W.heap.size ≤ W1.heap.size := hg.size
  have hnd := List.pairwise_append.1 h.nd
  have hndm : ∀ a ∈ ms0, ∀ g, a.v.ownBlock = some g → m.v.ownBlock ≠ some g := fun a ha g e => hnd.2.2 a ha m List.mem_cons_self g e
  have hnew : ∀ {v : Value} {e : TypeId} {s n : Nat} {xs : List Value}, W.ownsRow b e s v n xs → (∀ g, v.ownBlock = some g → m.v.ownBlock ≠ some g) → ∀ g, v'.ownBlock = some g → v.ownBlock ≠ some g := by
    intro v e s n xs h1 h2 g e1 e2
    rcases hv with e' | e'
    · exact h2 g e2 (e'.symm.trans e1)
    · rw [e'] at e1; injection e1 with e1
      have := (World.ownsRow.lt h1 g e2).2
      omega
  have mv : ∀ {v : Value} {e : TypeId} {s n : Nat} {xs : List Value}, W.ownsRow b e s v n xs → (∀ g, v.ownBlock = some g → m.v.ownBlock ≠ some g) → (∀ g, v.ownBlock = some g → vo.ownBlock ≠ some g) → W2.ownsRow b e s v n xs := fun h1 h2 h3 => own_move h1 (fun k hk => by
    have hk1 := (World.ownsRow.lt h1 k hk).2
    exact (hM.block k (Nat.lt_of_lt_of_le hk1 hsz) (fun e => h3 k hk (by rw [hgo]; exact e.symm))).trans (hg.block k hk1 (fun e => h2 k hk e.symm)))
  have hqgo : v'.ownBlock ≠ some go := fun e => hnew h.out (fun g e1 e2 => h.mo hin g e2 e1) go e hgo
  have hout1 : W1.ownsRow b 28 4 vo (ms0 ++ [m]).length ((ms0 ++ [m]).flatMap Em.enc) := own_move h.out (fun k hk => hg.block k (World.ownsRow.lt h.out k hk).2 (fun e => h.mo hin k e.symm hk))
  have hfl : (ms0.flatMap Em.enc).length = ms0.length * 4 := flat_length Em.enc 4 (fun _ => rfl) ms0
  refine ⟨?_, ?_, ?_⟩
  · rw [List.length_append] at hout1
    rw [hvo] at hout1 ⊢
    have := (World.ownsRow.stored hout1 (ms0.length * 4 + 3) v').1
    rw [hW2]
    have e1 : ((ms0 ++ [m]).flatMap Em.enc).set (ms0.length * 4 + 3) v' = (ms0 ++ [(⟨{ m.e with bytes := m.e.bytes ++ l }, A', c'⟩ : Em)]).flatMap Em.enc := by
      rw [List.flatMap_append, List.flatMap_append, List.set_append, if_neg (by rw [hfl]; omega), hfl, show ms0.length * 4 + 3 - ms0.length * 4 = 3 from by omega, hv']
      congr 1
      first | done | simp [Em.enc, Em.v]
    rw [e1] at this
    rw [List.length_append]
    exact this
  · intro a ha
    rcases List.mem_append.1 ha with ha | ha
    · exact mv (h.row a (hin0 a ha)) (hndm a ha) (h.mo (hin0 a ha))
    · rw [List.mem_singleton.1 ha]
      show W2.ownsRow b 5 1 (.slice A' (m.e.bytes ++ l).length c') (m.e.bytes ++ l).length (u8s (m.e.bytes ++ l))
      rw [← hv']
      exact own_move hq (fun k hk => hM.block k (World.ownsRow.lt hq k hk).2 (fun e => hqgo (by rw [hk]; exact e)))
  · rw [List.pairwise_append]
    refine ⟨hnd.1, List.pairwise_singleton _ _, fun a ha x hx g e1 e2 => ?_⟩
    rw [List.mem_singleton.1 hx] at e2
    have e3 : v'.ownBlock = some g := by rw [hv']; exact e2
    exact hnew (h.row a (hin0 a ha)) (hndm a ha) g e3 e1
end
end Go.Proofs.Ythkioahpnbahhaa
