/- A plane let go: plane.Clear, wipe.All. -/
import Derived.Test.YtmcfckdgolojlaaV5
import Derived.Lib.SliceRun
namespace Go.Proofs.Ytmcfckdgolojlaa
set_option linter.unusedVariables false
set_option linter.unusedSimpArgs false
open Go.RowKit Go.Shelf
theorem flat_len {α : Type} (enc : α → List Value) (k : Nat) (hk : ∀ x, (enc x).length = k) : ∀ l : List α, (l.flatMap enc).length = l.length * k
  | [] => by simp
  | x :: l => by rw [List.flatMap_cons, List.length_append, hk, flat_len enc k hk l, List.length_cons, Nat.succ_mul]; omega
/-- the cells of a row, some of them turned -/
def setL : List Value → Nat → Array Value → Array Value
  | [], _, cs => cs
  | v :: r, o, cs => setL r (o + 1) (cs.setIfInBounds o v)
theorem Blk.setCells {b : Nat} {t : TypeId} : ∀ (vs : List Value) (o : Nat) (w : World) (cs : Array Value), Blk w b t cs → Blk (w.setCells b o vs) b t (setL vs o cs)
  | [], _, _, _, h => h
  | v :: r, o, w, cs, h => Blk.setCells r (o + 1) _ _ (h.store o v)
theorem Blk.setCells_far {b d : Nat} {t : TypeId} (hd : b ≠ d) : ∀ (vs : List Value) (o : Nat) (w : World) (cs : Array Value), Blk w b t cs → Blk (w.setCells d o vs) b t cs
  | [], _, _, _, h => h
  | v :: r, o, w, cs, h => Blk.setCells_far hd r (o + 1) _ _ (h.far (p := ⟨d, o, none⟩) hd v)
theorem Chg.setCells {l : List Nat} {w0 : World} {b : Nat} (hb : b ∈ l ∨ w0.heap.size ≤ b) : ∀ (vs : List Value) (o : Nat) (w : World), Chg l w0 w → Chg l w0 (w.setCells b o vs)
  | [], _, _, h => h
  | v :: r, o, w, h => Chg.setCells hb r (o + 1) _ (h.set b o v hb)
theorem setL_all : ∀ (vs A P T : List Value), vs.length = A.length → setL vs P.length (P ++ (A ++ T)).toArray = (P ++ (vs ++ T)).toArray
  | [], A, P, T, h => by
    rw [List.eq_nil_of_length_eq_zero h.symm]
    rfl
  | v :: r, [], P, T, h => by simp at h
  | v :: r, a :: A, P, T, h => by
    unfold setL
    have := setL_all r A (P ++ [v]) T (by simpa using h)
    rw [List.length_append, List.length_singleton, List.append_assoc, List.append_assoc, List.singleton_append, List.singleton_append] at this
    rw [List.cons_append, List.cons_append, ← this]
    congr 1
    simp
theorem zeroCel (w : World) : (zeroValue 38).run Try.prog w = .ok (.agg #[.int .u8 0, .bool false, .bool false, .int .u8 0, .int .u8 0]) w := by kernel_rfl
theorem zeroCells_row (m : Nat) : (Builtin.zeroCells (#[.int .u8 0, .bool false, .bool false, .int .u8 0, .int .u8 0] : Array Value) m).toList = (List.replicate m Cel.zero).flatMap Cel.enc := by
  apply List.ext_getElem?
  intro i
  obtain ⟨q, r, hr5, rfl⟩ : ∃ q r, r < 5 ∧ i = q * 5 + r := ⟨i / 5, i % 5, by omega, by omega⟩
  rw [flat_get Cel.enc 5 Cel.len _ q r hr5, List.getElem?_replicate]
  unfold Builtin.zeroCells
  simp only [List.size_toArray, List.length_cons, List.length_nil, Array.getElem?_toList, Array.getElem?_map, Array.getElem?_range]
  by_cases h : q < m
  · rw [if_pos h, if_pos (by omega)]
    have hc : r = 0 ∨ r = 1 ∨ r = 2 ∨ r = 3 ∨ r = 4 := by omega
    rcases hc with rfl | rfl | rfl | rfl | rfl <;> simp [Cel.enc, Cel.zero]
  · rw [if_neg h, if_neg (by omega)]
    rfl
/-- all let go -/
def Pl.clr (p : Pl) : Pl := ⟨p.rows, p.cols, List.replicate p.cells.length Cel.zero, 0⟩
theorem PlAt.clr {w : World} {g c : Nat} {p : Pl} (h : PlAt w g c p) : PlAt ((w.setCells c 0 ((List.replicate p.cells.length Cel.zero).flatMap Cel.enc)).setCell ⟨g, 3, none⟩ (.int .i64 0)) g c p.clr := by
  have hne := h.ne
  obtain ⟨kap, tl, h⟩ := h
  refine ⟨kap, tl, ?_, ?_, ⟨?_, Int.le_refl _, ?_, ?_⟩⟩
  · have := (Blk.setCells_far hne ((List.replicate p.cells.length Cel.zero).flatMap Cel.enc) 0 _ _ h.obj).store 3 (.int .i64 0)
    simp only [Pl.clr, List.length_replicate]
    exact this
  · have h1 := Blk.setCells ((List.replicate p.cells.length Cel.zero).flatMap Cel.enc) 0 _ _ h.row
    have h2 := setL_all ((List.replicate p.cells.length Cel.zero).flatMap Cel.enc) (p.cells.flatMap Cel.enc) [] tl (by rw [flat_len Cel.enc 5 Cel.len, flat_len Cel.enc 5 Cel.len, List.length_replicate])
    simp only [List.length_nil, List.nil_append] at h2
    rw [h2] at h1
    exact h1.far (fun e => hne e.symm) _
  · have := h.ok.sz
    unfold Pl.clr Pl.n at *
    simp only [List.length_replicate]
    exact this
  · have h0 := h.ok.k0
    have h1 := h.ok.k1
    unfold Pl.clr Pl.n at *
    simp only [List.length_replicate]
    omega
  · intro x hx
    unfold Pl.clr at hx
    rw [List.eq_of_mem_replicate hx]
    decide
set_option maxRecDepth 100000 in
set_option maxHeartbeats 2000000 in
theorem Clear_any (g c : Nat) (p : Pl) (w : World) (h : PlAt w g c p) : Calls Try.prog 86 #[.pointer (some ⟨g, 0, none⟩)] w (PlTo (.tuple #[]) g c p.clr w) := by
  have HP := Lib.hid h
  have hne := h.ne
  have n1 := h.ok.sz.n1
  have n0 := h.ok.k1
  have n00 := h.ok.k0
  unfold Pl.n at n1 n0
  obtain ⟨kap, tl, h⟩ := h
  have c2 := h.obj.cell 2
  have c3 := h.obj.cell 3
  have f3 := h.obj.free 3
  simp at c2 c3
  obtain ⟨m, hm⟩ : ∃ m, p.cells.length = m + 1 := ⟨p.cells.length - 1, by omega⟩
  have hst := run_storeCells_cells (P := Try.prog) c 0 ((List.replicate p.cells.length Cel.zero).flatMap Cel.enc) 0 w
    (by
      intro j hj
      rw [flat_len Cel.enc 5 Cel.len, List.length_replicate] at hj
      rw [h.row.cell]
      simp only [List.getElem?_toArray]
      rw [List.getElem?_append_left (by rw [flat_len Cel.enc 5 Cel.len]; omega)]
      rw [List.getElem?_eq_getElem (by rw [flat_len Cel.enc 5 Cel.len]; omega)]
      rfl) (by intro j hj; exact h.row.free _)
    (by
      intro v hv
      obtain ⟨x, hx, hv⟩ := List.mem_flatMap.1 hv
      rw [List.eq_of_mem_replicate hx] at hv
      simp [Cel.enc, Cel.zero] at hv
      rcases hv with rfl | rfl | rfl <;> rfl)
  have hcl : ∀ ty, (Builtin.clear_ #[24] ty #[.slice (some ⟨c, 0, none⟩) p.cells.length kap]).run Try.prog w = .ok (.tuple #[]) (w.setCells c 0 ((List.replicate p.cells.length Cel.zero).flatMap Cel.enc)) := fun ty => by
    rw [hm] at hst ⊢
    have hz := zeroCells_row (m + 1)
    simp [Builtin.clear_, run_underlying Try.underlying24, zeroCel, Value.cells, hz, hst]
  clear hst
  obtain ⟨W1, hW1⟩ : ∃ W1, w.setCells c 0 ((List.replicate p.cells.length Cel.zero).flatMap Cel.enc) = W1 := ⟨_, rfl⟩
  have hb := Blk.setCells_far hne ((List.replicate p.cells.length Cel.zero).flatMap Cel.enc) 0 _ _ h.obj
  have hch := Chg.setCells (l := [g, c]) (b := c) (.inl (by simp)) ((List.replicate p.cells.length Cel.zero).flatMap Cel.enc) 0 w (Chg.refl _ _)
  have hpl := HP.out.clr
  rw [hW1] at hcl hb hch hpl
  have d3 := hb.cell 3
  have e3 := hb.free 3
  simp at d3
  have HB := Lib.hid hch
  have HPL := Lib.hid hpl
  clear hch hpl hb hW1 h c3 f3 HP n1 n0 n00 hm
  go_enter Try.func86, Try.ntmps86
  go_wp2_with (simp only [hcl])
  go_end0
  exact ⟨rfl, HPL.out, HB.out.set _ _ _ (.inl (by simp))⟩
theorem All17_any (g c : Nat) (p : Pl) (w : World) (h : PlAt w g c p) : Calls Try.prog 70 #[.pointer (some ⟨g, 0, none⟩)] w (PlTo (.tuple #[]) g c p.clr w) := by
  have HP := Lib.hid h
  clear h
  go_enter Try.func70, Try.ntmps70
  go_wp2_with (go_at_call 86; refine (Clear_any g c p _ HP.out).mono ?_; rintro e w' ⟨rfl, h1, h2⟩; have H1 := Lib.hid h1; have H2 := Lib.hid h2; clear h1 h2)
  go_end0
  exact ⟨rfl, H1.out, H2.out⟩
end Go.Proofs.Ytmcfckdgolojlaa
