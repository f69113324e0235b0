/- U1 U2: the texts of these, one behind the other. -/
import Derived.Test.YtmldhgebbgalbaaQ4
import Derived.Maps.AppendAt
import Derived.Lib.LazyBuf
import Derived.Deep.DeepCutAuto
import Derived.Deep.QuietTactic
import Derived.BigQuiet
namespace Go.Proofs.Ytmldhgebbgalbaa
set_option linter.unusedVariables false
set_option linter.unusedSimpArgs false
open Go.RowKit
open Go.RowKit
section
variable {P : Program}
theorem list_append_at {w : World} {ops : Array Oper} {o : Oper} {a : Act} {rest : List Oper} {Q : Exit → Act → World → Prop} (base : Nat) (hgd : o.guard = none) (s x : Operand) (t : TypeId)
    (ho : o.op = .call { callee := .builtin .append, args := #[s, x], argTypes := #[t, t] })
    (e : TypeId) (i : TypeInfo) (z : Value) (size bytes : Nat) (ht : P.underlying t = some (.slice e)) (hi : P.info? e = some i) (hz : i.zero = some z)
    (hsize : i.size = size) (hby : i.bytes = bytes) (hzs : z.cells.size = size) (hsz : 0 < size)
    (v : Value) (n : Nat) (xs : List Value) (hs : a.eval s = v) (hown : w.ownsRow base e size v n xs)
    (ad : Addr) (m c0 : Nat) (news : List Value) (hx : a.eval x = .slice (some ad) m c0) (hl : news.length = m * size) (hnews : ∀ j u, news[j]? = some u → w.cell? (ad.add j) = some u) (h1 : ∀ u ∈ news, u.oneCell' = true)
    (h63 : n + m ≤ maxLen) (hbytes : (n + m) * bytes ≤ 140737488355328) (hb : base ≤ w.heap.size)
    (h : ∀ A c w', w'.ownsRow base e size (.slice A (n + m) c) (n + m) (xs ++ news) → w.grownBy w' v.ownBlock → wpList P ops Q rest (a.put o.dst (.slice A (n + m) c)) w') :
    wpList P ops Q (o :: rest) a w := by
  refine wpList_plain hgd fun K hK => ?_
  obtain ⟨v', w', hr, h2, h3, _, h5⟩ := run_append_own_at (P := P) w base t o.type e i z size bytes ht hi hz hsize hby hzs hsz v n xs hown ad m c0 news hl hnews h1 h63 hbytes hb
  unfold Oper.wp execOp
  simp only [ho, resolve, invoke, builtin, Sem.run_bind, Sem.run_pure, Result.andThen_ok, List.map_toArray, List.map_cons, List.map_nil, hs, hx, hr]
  obtain ⟨A, c, rfl⟩ := own_slice h2
  exact hK _ _ (h A c w' h2 h3)
end
theorem cells_one (l : List Cel) : ∀ u ∈ l.flatMap Cel.enc, u.oneCell' = true := by
  intro u hu
  obtain ⟨x, _, hx⟩ := List.mem_flatMap.1 hu
  simp [Cel.enc] at hx
  rcases hx with rfl | rfl | rfl | rfl | rfl <;> rfl
theorem flat_cells (l : List Cel) : (l.flatMap Cel.enc).length = l.length * 5 := flat_length Cel.enc 5 Cel.len l
set_option maxRecDepth 100000 in
set_option maxHeartbeats 2000000 in
theorem CloneC_any (a : Addr) (c : Nat) (l : List Cel) (hl : l.length ≤ 4096) (hl0 : 0 < l.length) (w : World) (hr : Rd w 5 (some a) l.length (l.flatMap Cel.enc)) :
    Calls Try.prog 49 #[.slice (some a) l.length c] w (fun e w' => ∃ v, e = .returned v ∧ w'.ownsRow w.heap.size 46 5 v l.length (l.flatMap Cel.enc) ∧ Ext w w') := by
  obtain ⟨i0, hi, hz0, hz1, hz2⟩ := info_parts infoCell
  have hu := flat_cells l
  have HR := Lib.hid hr
  have HU := Lib.hid hu
  clear hr hu
  have heq := fun (W : World) (a : Option Addr) (l c : Nat) => Go.run_eql_slice_nil (P := Try.prog) W 24 46 a l c Try.underlying24
  have HN : Hid (∀ W, Ext w W → ∀ j u, (l.flatMap Cel.enc)[j]? = some u → W.cell? (a.add j) = some u) := Lib.hid (fun W hW j u hu => by
    obtain ⟨b, o, h2, h3⟩ := (Rd_ext hW HR.out).2 hl0
    cases h2
    have e : (⟨b, o, none⟩ : Addr).add j = ⟨b, o + j, none⟩ := by
      unfold Addr.add
      split <;> simp_all
    rw [e]
    exact h3 j u hu)
  go_enter Try.func49, Try.ntmps49
  go_wp2_with
    ((at_builtin; go_must (refine list_append_at w.heap.size rfl (.tmp 5) (.tmp 6) 24 rfl 46 i0 _ 5 5 Try.underlying24 hi hz0 hz1 hz2 rfl (by decide) (.slice (some ⟨w.heap.size, 0, none⟩) 0 0) 0 [] (by rfl) (World.ownsRow_lit w #[] 0 (Nat.le_refl _) (by decide) rfl) a l.length c (l.flatMap Cel.enc) (by rfl) HU.out (HN.out _ (Ext_alloc (Ext_refl w))) (cells_one l) (by unfold maxLen; omega) (by omega) (by simp) ?_)
      intro A1 c1 w1 hq hg
      rw [List.nil_append, Nat.zero_add] at hq
      have HQ := Lib.hid hq
      have HX : Hid (Ext w w1) := Lib.hid ((Ext_alloc (o := .cells #[] 46) (Ext_refl w)).grown hg (by simp) (fun g hg => by cases hg; simp))
      clear hq hg))
  go_ret
  exact ⟨_, rfl, HQ.out, HX.out⟩
theorem PlAt.of_own {W : World} {B g n : Nat} {v : Value} {p : Pl} (hq : W.ownsRow B 46 5 v n (p.cells.flatMap Cel.enc)) (hn : n = p.cells.length) (ok : p.Ok) (ho : Blk W g 82 #[.int .i64 p.rows, .int .i64 p.cols, v, .int .i64 p.cur]) : ∃ c, PlAt W g c p ∧ B ≤ c := by
  have n0 := ok.sz.n0
  unfold Pl.n at n0
  subst hn
  rcases hq.2 with ⟨_, h0⟩ | ⟨c, cap, cur, hv, hb, hblk, hcap, _, hcs, htake⟩
  · omega
  · subst hv
    refine ⟨c, ⟨cap, cur.toList.drop (p.cells.length * 5), ho, ?_, ok⟩, hb⟩
    rw [← htake, List.take_append_drop, Array.toArray_toList]
    exact hblk
def PCloneP (w : World) (p : Pl) (e : Ending) (w' : World) : Prop := ∃ g c, e = .returned (.pointer (some ⟨g, 0, none⟩)) ∧ PlAt w' g c p ∧ Ext w w' ∧ w.heap.size ≤ g ∧ w.heap.size ≤ c
set_option maxRecDepth 100000 in
set_option maxHeartbeats 2000000 in
theorem PClone_any (g c : Nat) (p : Pl) (w : World) (h : PlAt w g c p) : Calls Try.prog 20 #[.pointer (some ⟨g, 0, none⟩)] w (PCloneP w p) := by
  have HK := Lib.hid h.ok
  obtain ⟨kap, tl, hk⟩ := h
  have hn := hk.ok.sz.n1
  have hn0 := hk.ok.sz.n0
  unfold Pl.n at hn hn0
  have HR := Lib.hid (show Rd w 5 (some ⟨c, 0, none⟩) p.cells.length (p.cells.flatMap Cel.enc) from Rd.blk_head hk.row (flat_cells _))
  have q0 := hk.obj.cell 0
  have q1 := hk.obj.cell 1
  have q2 := hk.obj.cell 2
  have q3 := hk.obj.cell 3
  have hlt := hk.obj.lt
  simp at q0 q1 q2 q3
  have HX := Lib.hid (Ext_refl w)
  clear hk
  go_enter Try.func20, Try.ntmps20
  go_upto_region 1 with (fail)
  have HN : Hid (0 < p.cells.length ∧ p.cells.length ≤ 4096) := Lib.hid (by omega)
  go_region_held3 (fun w' => w'.cell? ⟨g, 0, none⟩ = some (.int .i64 p.rows) ∧ w'.cell? ⟨g, 1, none⟩ = some (.int .i64 p.cols) ∧ w'.cell? ⟨g, 2, none⟩ = some (.slice (some ⟨c, 0, none⟩) p.cells.length kap) ∧ w'.cell? ⟨g, 3, none⟩ = some (.int .i64 p.cur)) (first | exact ⟨q0, q1, q2, q3⟩ | exact ⟨j0, j1, j2, j3⟩ | exact ⟨(cell_In hln).trans j0, (cell_In hln).trans j1, (cell_In hln).trans j2, (cell_In hln).trans j3⟩)
    ((go_at_call 49; refine (CloneC_any _ kap p.cells HN.out.2 HN.out.1 _ (Rd_ext (by repeat' (first | (with_reducible first | exact HX.out | apply Ext_alloc | apply Ext_drewN | apply Ext_drew | (refine Ext_set ?_ ?_) | exact Ext_refl _) | (simp only [World.size_alloc, World.size_setCell, World.size_drew, size_drewN]; omega) | (simp; done) | (simp; omega))) HR.out)).mono ?_; rintro e wn ⟨v, rfl, hq, hb⟩; obtain ⟨A1, c1, rfl⟩ := own_slice hq; have HXn := Lib.hid (Ext_trans hb (by repeat' (first | (with_reducible first | exact HX.out | apply Ext_alloc | apply Ext_drewN | apply Ext_drew | (refine Ext_set ?_ ?_) | exact Ext_refl _) | (simp only [World.size_alloc, World.size_setCell, World.size_drew, size_drewN]; omega) | (simp; done) | (simp; omega)))); clear hb HX; have HX := HXn; clear HXn; have j0 := (cell_ext HX.out hlt).trans q0; have j1 := (cell_ext HX.out hlt).trans q1; have j2 := (cell_ext HX.out hlt).trans q2; have j3 := (cell_ext HX.out hlt).trans q3; have HQ := Lib.hid hq; have hln : In g wn := In_ext HX.out hlt; clear hq))
  all_goals (go_wp2; go_ret)
  all_goals
    have hw : w.heap.size ≤ wn.heap.size := HX.out.size
    have ho := Blk.new wn 82 #[.int .i64 p.rows, .int .i64 p.cols, .slice A1 p.cells.length c1, .int .i64 p.cur]
    obtain ⟨cc, h1, h2⟩ := PlAt.of_own (own_ext HQ.out (Ext_alloc (Ext_refl _))) rfl HK.out ho
    exact ⟨wn.heap.size, cc, rfl, h1, Ext_alloc HX.out, hw, h2⟩
open Go.RowKit
set_option maxRecDepth 100000 in
set_option maxHeartbeats 2000000 in
theorem EqualC_any (A1 A2 : Option Addr) (c1 c2 : Nat) (l : List Cel) (hl : l.length ≤ 4096) (w : World) (h1 : Rd w 5 A1 l.length (l.flatMap Cel.enc)) (h2 : Rd w 5 A2 l.length (l.flatMap Cel.enc)) :
    Calls Try.prog 50 #[.slice A1 l.length c1, .slice A2 l.length c2] w (fun e w' => e = .returned (.bool true) ∧ ∃ m, w' = w.drewN m) := by
  have HR1 := Lib.hid h1
  have HR2 := Lib.hid h2
  clear h1 h2
  go_enter Try.func50, Try.ntmps50
  go_wp2_with fail
  go_loopw [5, 13] (fun _ v wr => ∃ k m : Nat, k ≤ l.length ∧ v = .int .i64 k ∧ Hid (wr = w.drewN m)) (fun _ v _ => l.length - (intOf v).toNat)
  case atStart => exact ⟨0, 0, Nat.zero_le _, rfl, Lib.hid rfl⟩
  case round =>
    obtain ⟨k, m, hk, rfl, HW⟩ := hrel
    have HX := Lib.hid (show Ext w wr by rw [HW.out]; exact Ext_drewN (Ext_refl w))
    by_cases hlt : k < l.length
    · obtain ⟨x, hx⟩ : ∃ x, l[k]? = some x := ⟨_, List.getElem?_eq_getElem hlt⟩
      obtain ⟨b1, o1, hA1, hc1⟩ := (Rd_ext HX.out HR1.out).elem Cel.enc Cel.len hlt hx
      obtain ⟨b2, o2, hA2, hc2⟩ := (Rd_ext HX.out HR2.out).elem Cel.enc Cel.len hlt hx
      have x0 := hc1 0 _ rfl
      have x1 := hc1 1 _ rfl
      have x2 := hc1 2 _ rfl
      have x3 := hc1 3 _ rfl
      have x4 := hc1 4 _ rfl
      have y0 := hc2 0 _ rfl
      have y1 := hc2 1 _ rfl
      have y2 := hc2 2 _ rfl
      have y3 := hc2 3 _ rfl
      have y4 := hc2 4 _ rfl
      simp only [Nat.add_zero] at x0 y0
      subst hA1
      subst hA2
      obtain ⟨b, ge, st, li, co⟩ := x
      dsimp only at x0 x1 x2 x3 x4 y0 y1 y2 y3 y4
      have hwk : IntKind.i64.wrap ((k : Int) + 1) = ((k + 1 : Nat) : Int) := IntWalk.i64_in _ (by omega)
      have hli : (k : Int) < (l.length : Int) := by omega
      clear hc1 hc2 hx
      go_upto_region 6 with (fail)
      go_quiet (fail)
      go_wp2_with fail
      refine ⟨⟨k + 1, m + nq, by omega, by go_num, Lib.hid (by rw [HW.out, World.drewN_drewN])⟩, by simp [intOf]; omega⟩
    · have : k = l.length := by omega
      subst this
      go_wp2_with fail
      go_ret
      exact ⟨rfl, m, HW.out⟩
theorem PlAt.rd {w : World} {g c : Nat} {p : Pl} (h : PlAt w g c p) : ∃ kap, Rd w 5 (some ⟨c, 0, none⟩) p.cells.length (p.cells.flatMap Cel.enc) ∧ w.cell? ⟨g, 0, none⟩ = some (.int .i64 p.rows) ∧ w.cell? ⟨g, 1, none⟩ = some (.int .i64 p.cols) ∧ w.cell? ⟨g, 2, none⟩ = some (.slice (some ⟨c, 0, none⟩) p.cells.length kap) ∧ w.cell? ⟨g, 3, none⟩ = some (.int .i64 p.cur) := by
  obtain ⟨kap, tl, hk⟩ := h
  exact ⟨kap, Rd.blk_head hk.row (flat_cells _), hk.obj.cell 0, hk.obj.cell 1, hk.obj.cell 2, hk.obj.cell 3⟩
set_option maxRecDepth 100000 in
set_option maxHeartbeats 2000000 in
theorem PSame_any (g c g2 c2 : Nat) (p : Pl) (w : World) (h : PlAt w g c p) (h2 : PlAt w g2 c2 p) : Calls Try.prog 21 #[.pointer (some ⟨g, 0, none⟩), .pointer (some ⟨g2, 0, none⟩)] w (fun e w' => e = .returned (.bool true) ∧ ∃ m, w' = w.drewN m) := by
  have hn := h.ok.sz.n1
  unfold Pl.n at hn
  have hlt := h.glt
  have hlt2 := h2.glt
  obtain ⟨kap, hr, q0, q1, q2, q3⟩ := h.rd
  obtain ⟨kap2, hr2, z0, z1, z2, z3⟩ := h2.rd
  have HR := Lib.hid hr
  have HR2 := Lib.hid hr2
  have HL := Lib.hid (show p.cells.length ≤ 4096 by omega)
  clear h h2 hr hr2
  go_enter Try.func21, Try.ntmps21
  go_upto_region 1 with (fail)
  go_quiet ((go_at_call 50; exact Calls.quiet_of (EqualC_any _ _ kap kap2 p.cells HL.out _ HR.out HR2.out)))
  go_wp2_with fail
  go_ret
  exact ⟨rfl, _, rfl⟩
end Go.Proofs.Ytmldhgebbgalbaa
