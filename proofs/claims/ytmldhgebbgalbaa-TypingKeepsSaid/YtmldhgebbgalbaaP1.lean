/- Planes: what they are in memory, and the small functions of the packages addr, attr and plane that only ask. -/
import Derived.Test.YtmldhgebbgalbaaE
import Derived.IntWalk
namespace Go.Proofs.Ytmldhgebbgalbaa
set_option linter.unusedVariables false
set_option linter.unusedSimpArgs false
open Go.RowKit

/-- a cell, as it lies in memory -/
structure Cel where
  b : Int
  ge : Bool
  st : Bool
  li : Int
  co : Int
  deriving DecidableEq
def Cel.enc (x : Cel) : List Value := [.int .u8 x.b, .bool x.ge, .bool x.st, .int .u8 x.li, .int .u8 x.co]
def Cel.agg (x : Cel) : Value := .agg #[.int .u8 x.b, .bool x.ge, .bool x.st, .int .u8 x.li, .int .u8 x.co]
def Cel.zero : Cel := ⟨0, false, false, 0, 0⟩
theorem Cel.len (x : Cel) : x.enc.length = 5 := rfl
/-- a plane -/
structure Pl where
  rows : Int
  cols : Int
  cells : List Cel
  cur : Int
  deriving DecidableEq
def Pl.n (p : Pl) : Int := (p.cells.length : Int)
/-- a size that a screen may have, of n cells -/
structure SzOk (r c : Int) (n : Int) : Prop where
  r0 : 1 ≤ r
  r1 : r ≤ 43
  c0 : 1 ≤ c
  c1 : c ≤ 132
  n0 : 1 ≤ n
  n1 : n ≤ 4096
  mul : r * c = n
structure Pl.Ok (p : Pl) : Prop where
  sz : SzOk p.rows p.cols p.n
  k0 : 0 ≤ p.cur
  k1 : p.cur < p.n
  by_ : ∀ x ∈ p.cells, 0 ≤ x.b ∧ x.b < 256
/-- the plane p: its struct is block g, its cells are block c (the slice's capacity kap, behind its end tl) -/
structure PlAtK (kap : Nat) (tl : List Value) (w : World) (g c : Nat) (p : Pl) : Prop where
  obj : Blk w g 82 #[.int .i64 p.rows, .int .i64 p.cols, .slice (some ⟨c, 0, none⟩) p.cells.length kap, .int .i64 p.cur]
  row : Blk w c 46 (p.cells.flatMap Cel.enc ++ tl).toArray
  ok : p.Ok
def PlAt (w : World) (g c : Nat) (p : Pl) : Prop := ∃ kap tl, PlAtK kap tl w g c p
theorem PlAt.ok {w : World} {g c : Nat} {p : Pl} (h : PlAt w g c p) : p.Ok := let ⟨_, _, h⟩ := h; h.ok
theorem PlAt.glt {w : World} {g c : Nat} {p : Pl} (h : PlAt w g c p) : g < w.heap.size := let ⟨_, _, h⟩ := h; h.obj.lt
theorem PlAt.clt {w : World} {g c : Nat} {p : Pl} (h : PlAt w g c p) : c < w.heap.size := let ⟨_, _, h⟩ := h; h.row.lt
theorem PlAt.ext {w w' : World} {g c : Nat} {p : Pl} (h : PlAt w g c p) (hx : Ext w w') : PlAt w' g c p := let ⟨k, t, h⟩ := h; ⟨k, t, Blk.below' h.obj hx, Blk.below' h.row hx, h.ok⟩
/-- a row's head, read -/
theorem Rd.blk_head {w : World} {n sz b : Nat} {t : TypeId} {l tl : List Value} (h : Blk w b t (l ++ tl).toArray) (hl : l.length = n * sz) : Rd w sz (some ⟨b, 0, none⟩) n l :=
  ⟨hl, fun _ => ⟨b, 0, rfl, fun j u hu => by
    rw [h.cell, Nat.zero_add]
    have hj : j < l.length := (List.getElem?_eq_some_iff.1 hu).1
    simp only [List.getElem?_toArray]
    rw [List.getElem?_append_left hj]
    exact hu⟩⟩
theorem PlAt.ne {w : World} {g c : Nat} {p : Pl} (h : PlAt w g c p) : g ≠ c := by
  rintro rfl
  obtain ⟨_, _, h⟩ := h
  have := (Blk.same h.obj h.row).1
  exact absurd this (by decide)
theorem PlAt.cell {w : World} {g c : Nat} {p : Pl} (h : PlAt w g c p) {i : Nat} (hi : i < p.cells.length) (j : Nat) (u : Value) (hj : (p.cells[i]).enc[j]? = some u) : w.cell? ⟨c, 0 + i * 5 + j, none⟩ = some u := by
  obtain ⟨_, _, h⟩ := h
  have hr : Rd w 5 (some ⟨c, 0, none⟩) p.cells.length (p.cells.flatMap Cel.enc) := Rd.blk_head h.row (flat_length Cel.enc 5 Cel.len _)
  obtain ⟨b, o, e, hc⟩ := hr.elem Cel.enc Cel.len hi (List.getElem?_eq_getElem hi)
  cases e
  exact hc j u hj
/-- the cell of a place; of no place the zero cell -/
def Pl.at (p : Pl) (i : Int) : Cel := if 0 ≤ i ∧ i < p.n then p.cells.getD i.toNat Cel.zero else Cel.zero

/-! ### addr -/
def cellsM (r c : Int) : Int := if r < 1 ∨ 43 < r ∨ c < 1 ∨ 132 < c ∨ 4096 < r * c then 0 else r * c
theorem mul_bound {r c : Int} (a : 1 ≤ r) (b : r ≤ 43) (d : 1 ≤ c) (e : c ≤ 132) : 1 ≤ r * c ∧ r * c ≤ 5676 := by
  constructor
  · have := Int.mul_le_mul a d (by omega) (by omega); simpa using this
  · have := Int.mul_le_mul b e (by omega) (by omega); simpa using this

set_option maxHeartbeats 1000000 in
theorem Cells_any (r c : Int) (w : World) : Calls Try.prog 54 #[.agg #[.int .i64 r, .int .i64 c]] w (Ret (.int .i64 (cellsM r c)) w) := by
  unfold cellsM
  by_cases h : 1 ≤ r ∧ r ≤ 43 ∧ 1 ≤ c ∧ c ≤ 132
  · obtain ⟨a, b, d, e⟩ := h
    have hm := mul_bound a b d e
    obtain ⟨m0, m1⟩ := hm
    by_cases h4 : 4096 < r * c
    · rw [if_pos (by omega)]
      go_enter Try.func54, Try.ntmps54
      go_wp2
      go_ret
      exact ⟨rfl, (by repeat' (first | exact Ext_refl _ | apply Ext_alloc))⟩
    · rw [if_neg (by omega)]
      go_enter Try.func54, Try.ntmps54
      go_wp2
      go_ret
      exact ⟨rfl, (by repeat' (first | exact Ext_refl _ | apply Ext_alloc))⟩
  · rw [if_pos (by omega)]
    by_cases h1 : r < 1
    · go_enter Try.func54, Try.ntmps54
      go_wp2
      go_ret
      exact ⟨rfl, (by repeat' (first | exact Ext_refl _ | apply Ext_alloc))⟩
    by_cases h2 : 43 < r
    · go_enter Try.func54, Try.ntmps54
      go_wp2
      go_ret
      exact ⟨rfl, (by repeat' (first | exact Ext_refl _ | apply Ext_alloc))⟩
    by_cases h3 : c < 1
    · go_enter Try.func54, Try.ntmps54
      go_wp2
      go_ret
      exact ⟨rfl, (by repeat' (first | exact Ext_refl _ | apply Ext_alloc))⟩
    by_cases h5 : 132 < c
    · go_enter Try.func54, Try.ntmps54
      go_wp2
      go_ret
      exact ⟨rfl, (by repeat' (first | exact Ext_refl _ | apply Ext_alloc))⟩
    · omega
theorem cellsM_ok {r c n : Int} (h : SzOk r c n) : cellsM r c = n := by
  unfold cellsM
  have := h.mul; have := h.n1; have := h.r0; have := h.r1; have := h.c0; have := h.c1
  rw [if_neg (by omega), h.mul]

/-- the remainder, as Go reckons it twice, and ours -/
theorem tmod_bd (a n : Int) (hn : 1 ≤ n) : -n < Int.tmod a n ∧ Int.tmod a n < n := by
  constructor
  · have := Int.lt_tmod_of_pos a (b := n) (by omega); omega
  · exact Int.tmod_lt_of_pos a (by omega)
theorem tmod_tmod (a b n : Int) (hn : 1 ≤ n) : (Int.tmod (Int.tmod a n + Int.tmod b n) n + n) % n = (a + b) % n := by
  have h1 : ∀ x : Int, (Int.tmod x n) % n = x % n := by
    intro x
    rw [Int.tmod_eq_emod]
    split
    · simp
    · rename_i h
      rw [Int.sub_emod, Int.emod_emod]
      have : ((n.natAbs : Int)) % n = 0 := by
        rw [Int.natAbs_of_nonneg (by omega)]; simp
      rw [this]; simp
  rw [Int.add_emod_right, h1, Int.add_emod, h1, h1, ← Int.add_emod]

set_option maxHeartbeats 1000000 in
theorem Move_any (r c at_ by_ n : Int) (h : SzOk r c n) (w : World) :
    Calls Try.prog 78 #[.agg #[.int .i64 r, .int .i64 c], .int .i64 at_, .int .i64 by_] w (Ret (.int .i64 ((at_ + by_) % n)) w) := by
  have e := tmod_tmod at_ by_ n h.n0
  obtain ⟨a0, a1⟩ := tmod_bd at_ n h.n0
  obtain ⟨b0, b1⟩ := tmod_bd by_ n h.n0
  obtain ⟨d0, d1⟩ := tmod_bd (Int.tmod at_ n + Int.tmod by_ n) n h.n0
  have n0 := h.n0
  have n1 := h.n1
  have hc := cellsM_ok h
  have HC := Lib.hid hc
  have HE := Lib.hid e
  clear hc e h
  have hn0 : (n == 0) = false := by rw [beq_eq_false_iff_ne]; omega
  have HX := Lib.hid (Ext_refl w)
  go_enter Try.func78, Try.ntmps78
  go_wp2_with (go_at_call 54; refine (Cells_any _ _ _).mono ?_; rintro e wn ⟨rfl, hb⟩; rw [HC.out]; have HXn := Lib.hid (Ext_trans hb (by repeat' (first | (with_reducible first | exact HX.out | apply Ext_alloc | apply Ext_drewN | apply Ext_drew | (refine Ext_set ?_ ?_) | exact Ext_refl _) | (simp only [World.size_alloc, World.size_setCell, World.size_drew, size_drewN]; omega) | (simp; done) | (simp; omega)))); clear hb HX; have HX := HXn; clear HXn)
  go_quiet (fail)
  all_goals (go_wp2; go_ret)
  exact ⟨by show Ending.returned (Value.int .i64 _) = _; rw [HE.out], (by repeat' (first | (with_reducible first | exact HX.out | apply Ext_alloc | apply Ext_drewN | apply Ext_drew | (refine Ext_set ?_ ?_) | exact Ext_refl _) | (simp only [World.size_alloc, World.size_setCell, World.size_drew, size_drewN]; omega) | (simp; done) | (simp; omega)))⟩

/-! ### attr: bits of a byte -/
def bitB (b : Int) (m : Int) : Bool := Go.bits .and .u8 b m != 0
theorem Protected_any (b : Int) (w : World) : Calls Try.prog 51 #[.int .u8 b] w (Ret (.bool (bitB b 32)) w) := by
  go_enter Try.func51, Try.ntmps51
  go_wp2
  go_ret
  exact ⟨rfl, Ext_refl _⟩
theorem Numeric_any (b : Int) (w : World) : Calls Try.prog 67 #[.int .u8 b] w (Ret (.bool (bitB b 16)) w) := by
  go_enter Try.func67, Try.ntmps67
  go_wp2
  go_ret
  exact ⟨rfl, Ext_refl _⟩
theorem Skip_any (b : Int) (w : World) : Calls Try.prog 74 #[.int .u8 b] w (Ret (.bool (bitB b 32 && bitB b 16)) w) := by
  have HX := Lib.hid (Ext_refl w)
  cases h : bitB b 32
  all_goals
    have H := Lib.hid h
    clear h
    go_enter Try.func74, Try.ntmps74
    go_wp2_with (first | (go_at_call 51; refine (Protected_any _ _).mono ?_; rintro e wn ⟨rfl, hb⟩; rw [H.out]; have HXn := Lib.hid (Ext_trans hb (by repeat' (first | (with_reducible first | exact HX.out | apply Ext_alloc | apply Ext_drewN | apply Ext_drew | (refine Ext_set ?_ ?_) | exact Ext_refl _) | (simp only [World.size_alloc, World.size_setCell, World.size_drew, size_drewN]; omega) | (simp; done) | (simp; omega)))); clear hb HX; have HX := HXn; clear HXn) | (go_at_call 67; refine (Numeric_any _ _).mono ?_; rintro e wn ⟨rfl, hb⟩; have HXn := Lib.hid (Ext_trans hb (by repeat' (first | (with_reducible first | exact HX.out | apply Ext_alloc | apply Ext_drewN | apply Ext_drew | (refine Ext_set ?_ ?_) | exact Ext_refl _) | (simp only [World.size_alloc, World.size_setCell, World.size_drew, size_drewN]; omega) | (simp; done) | (simp; omega)))); clear hb HX; have HX := HXn; clear HXn))
    go_ret
    exact ⟨by simp, (by repeat' (first | (with_reducible first | exact HX.out | apply Ext_alloc | apply Ext_drewN | apply Ext_drew | (refine Ext_set ?_ ?_) | exact Ext_refl _) | (simp only [World.size_alloc, World.size_setCell, World.size_drew, size_drewN]; omega) | (simp; done) | (simp; omega)))⟩

/-! ### plane: what only asks -/
section
variable {g c : Nat} {p : Pl}
theorem Len_any (g c : Nat) (p : Pl) (w : World) (h : PlAt w g c p) : Calls Try.prog 22 #[.pointer (some ⟨g, 0, none⟩)] w (Ret (.int .i64 p.n) w) := by
  obtain ⟨kap, tl, h⟩ := h
  have c2 := h.obj.cell 2
  have hn := h.ok.sz.n1
  unfold Pl.n at hn
  clear h
  go_enter Try.func22, Try.ntmps22
  go_wp2
  go_ret
  exact ⟨rfl, Ext_refl _⟩
theorem Size_any (g c : Nat) (p : Pl) (w : World) (h : PlAt w g c p) : Calls Try.prog 79 #[.pointer (some ⟨g, 0, none⟩)] w (Ret (.agg #[.int .i64 p.rows, .int .i64 p.cols]) w) := by
  obtain ⟨kap, tl, h⟩ := h
  have c0 := h.obj.cell 0
  have c1 := h.obj.cell 1
  have c2 := h.obj.lt
  clear h
  go_enter Try.func79, Try.ntmps79
  go_wp2
  refine bodyPost_ret (v := .agg #[.int .i64 p.rows, .int .i64 p.cols]) (by simp [results, Try.results79, go_sem]) rfl ?_
  exact ⟨rfl, Ext_alloc (Ext_refl _)⟩
theorem Cursor_any (g c : Nat) (p : Pl) (w : World) (h : PlAt w g c p) : Calls Try.prog 26 #[.pointer (some ⟨g, 0, none⟩)] w (Ret (.int .i64 p.cur) w) := by
  obtain ⟨kap, tl, h⟩ := h
  have c0 := h.obj.cell 3
  clear h
  go_enter Try.func26, Try.ntmps26
  go_wp2
  go_ret
  exact ⟨rfl, Ext_refl _⟩
def Pl.has (p : Pl) (i : Int) : Bool := decide (0 ≤ i ∧ i < p.n)
theorem has_any (g c : Nat) (p : Pl) (i : Int) (w : World) (h : PlAt w g c p) : Calls Try.prog 45 #[.pointer (some ⟨g, 0, none⟩), .int .i64 i] w (Ret (.bool (p.has i)) w) := by
  obtain ⟨kap, tl, h⟩ := h
  have c2 := h.obj.cell 2
  have hn := h.ok.sz.n1
  unfold Pl.n at hn
  clear h
  by_cases h0 : 0 ≤ i
  · go_enter Try.func45, Try.ntmps45
    go_wp2
    go_ret
    exact ⟨by simp [Pl.has, Pl.n, h0], Ext_refl _⟩
  · go_enter Try.func45, Try.ntmps45
    go_wp2
    go_ret
    exact ⟨by rw [show p.has i = false from by unfold Pl.has; rw [decide_eq_false]; omega]; rfl, Ext_refl _⟩
theorem PlAt.at_ {w : World} {g c : Nat} {p : Pl} (h : PlAt w g c p) {i : Nat} (hi : i < p.cells.length) : ∃ x, p.at (i : Int) = x ∧ w.cell? ⟨c, i * 5, none⟩ = some (.int .u8 x.b) ∧ w.cell? ⟨c, i * 5 + 1, none⟩ = some (.bool x.ge) ∧ w.cell? ⟨c, i * 5 + 2, none⟩ = some (.bool x.st) ∧
    w.cell? ⟨c, i * 5 + 3, none⟩ = some (.int .u8 x.li) ∧ w.cell? ⟨c, i * 5 + 4, none⟩ = some (.int .u8 x.co) := by
  have hc := h.cell hi
  simp only [Nat.zero_add] at hc
  refine ⟨p.cells[i], ?_, hc 0 _ rfl, hc 1 _ rfl, hc 2 _ rfl, hc 3 _ rfl, hc 4 _ rfl⟩
  unfold Pl.at Pl.n
  rw [if_pos ⟨by omega, by omega⟩]
  simp [hi]
set_option maxHeartbeats 2000000 in
theorem At_yes (g c : Nat) (p : Pl) (k : Nat) (hk : k < p.cells.length) (w : World) (h : PlAt w g c p) : Calls Try.prog 15 #[.pointer (some ⟨g, 0, none⟩), .int .i64 k] w (Ret (p.at k).agg w) := by
  have HP := Lib.hid h
  have HX := Lib.hid (Ext_refl w)
  have hn := h.ok.sz.n1
  unfold Pl.n at hn
  have HH := Lib.hid (show p.has k = true by simp [Pl.has, Pl.n, hk])
  obtain ⟨x, hx, k0, k1, k2, k3, k4⟩ := h.at_ hk
  rw [hx]
  obtain ⟨kap, tl, h⟩ := h
  have c2 := h.obj.cell 2
  simp at c2
  have hg : In g w := h.obj.lt
  have hcc : In c w := h.row.lt
  clear h hx
  go_enter Try.func15, Try.ntmps15
  go_wp2_with fail
  refine (has_any g c p _ _ (HP.out.ext (Ext_alloc (Ext_refl _)))).mono ?_
  rintro e wn ⟨rfl, hb⟩
  rw [HH.out]
  have d2 := (cell_ext hb (In_old hg)).trans ((cell_In hg).trans c2)
  have e0 := (cell_ext hb (In_old hcc)).trans ((cell_In hcc).trans k0)
  have e1 := (cell_ext hb (In_old hcc)).trans ((cell_In hcc).trans k1)
  have e2 := (cell_ext hb (In_old hcc)).trans ((cell_In hcc).trans k2)
  have e3 := (cell_ext hb (In_old hcc)).trans ((cell_In hcc).trans k3)
  have e4 := (cell_ext hb (In_old hcc)).trans ((cell_In hcc).trans k4)
  clear k0 k1 k2 k3 k4 c2 hg hcc
  have hz0 : w.heap.size < wn.heap.size := (by have := hb.size; (try simp only [World.size_alloc, World.size_setCell, World.size_drew, size_drewN] at this); omega); have hc0_0 : wn.cell? ⟨w.heap.size, 0, none⟩ = some (.int .u8 0) := (cell_ext hb (by unfold In; first | omega | (simp; done) | (simp; omega))).trans (by go_simp); have hf0_0 : wn.frozen? ⟨w.heap.size, 0, none⟩ = false := (frozen_ext hb (by unfold In; first | omega | (simp; done) | (simp; omega))).trans (by go_simp); have hc0_1 : wn.cell? ⟨w.heap.size, 1, none⟩ = some (.bool false) := (cell_ext hb (by unfold In; first | omega | (simp; done) | (simp; omega))).trans (by go_simp); have hf0_1 : wn.frozen? ⟨w.heap.size, 1, none⟩ = false := (frozen_ext hb (by unfold In; first | omega | (simp; done) | (simp; omega))).trans (by go_simp); have hc0_2 : wn.cell? ⟨w.heap.size, 2, none⟩ = some (.bool false) := (cell_ext hb (by unfold In; first | omega | (simp; done) | (simp; omega))).trans (by go_simp); have hf0_2 : wn.frozen? ⟨w.heap.size, 2, none⟩ = false := (frozen_ext hb (by unfold In; first | omega | (simp; done) | (simp; omega))).trans (by go_simp); have hc0_3 : wn.cell? ⟨w.heap.size, 3, none⟩ = some (.int .u8 0) := (cell_ext hb (by unfold In; first | omega | (simp; done) | (simp; omega))).trans (by go_simp); have hf0_3 : wn.frozen? ⟨w.heap.size, 3, none⟩ = false := (frozen_ext hb (by unfold In; first | omega | (simp; done) | (simp; omega))).trans (by go_simp); have hc0_4 : wn.cell? ⟨w.heap.size, 4, none⟩ = some (.int .u8 0) := (cell_ext hb (by unfold In; first | omega | (simp; done) | (simp; omega))).trans (by go_simp); have hf0_4 : wn.frozen? ⟨w.heap.size, 4, none⟩ = false := (frozen_ext hb (by unfold In; first | omega | (simp; done) | (simp; omega))).trans (by go_simp); have HXn := Lib.hid (Ext_trans hb (by repeat' (first | (with_reducible first | exact HX.out | apply Ext_alloc | apply Ext_drewN | apply Ext_drew | (refine Ext_set ?_ ?_) | exact Ext_refl _) | (simp only [World.size_alloc, World.size_setCell, World.size_drew, size_drewN]; omega) | (simp; done) | (simp; omega))))
  clear hb HX
  have HX := HXn
  clear HXn
  go_wp2
  clear d2 e0 e1 e2 e3 e4
  refine bodyPost_ret (v := .agg #[.int .u8 x.b, .bool x.ge, .bool x.st, .int .u8 x.li, .int .u8 x.co]) (by simp [results, Try.results15, go_sem, hc0_0, hc0_1, hc0_2, hc0_3, hc0_4]) rfl ?_
  exact ⟨rfl, (by repeat' (first | (with_reducible first | exact HX.out | apply Ext_alloc | apply Ext_drewN | apply Ext_drew | (refine Ext_set ?_ ?_) | exact Ext_refl _) | (simp only [World.size_alloc, World.size_setCell, World.size_drew, size_drewN]; omega) | (simp; done) | (simp; omega)))⟩
set_option maxHeartbeats 2000000 in
theorem At_no (g c : Nat) (p : Pl) (i : Int) (hi : ¬ (0 ≤ i ∧ i < p.n)) (w : World) (h : PlAt w g c p) : Calls Try.prog 15 #[.pointer (some ⟨g, 0, none⟩), .int .i64 i] w (Ret Cel.zero.agg w) := by
  have HP := Lib.hid h
  have HX := Lib.hid (Ext_refl w)
  have HH := Lib.hid (show p.has i = false by simpa [Pl.has] using hi)
  clear h hi
  go_enter Try.func15, Try.ntmps15
  go_wp2_with (go_at_call 45; refine (has_any g c p _ _ (HP.out.ext (Ext_alloc (Ext_refl _)))).mono ?_; rintro e wn ⟨rfl, hb⟩; rw [HH.out]; have hz0 : w.heap.size < wn.heap.size := (by have := hb.size; (try simp only [World.size_alloc, World.size_setCell, World.size_drew, size_drewN] at this); omega); have hc0_0 : wn.cell? ⟨w.heap.size, 0, none⟩ = some (.int .u8 0) := (cell_ext hb (by unfold In; first | omega | (simp; done) | (simp; omega))).trans (by go_simp); have hf0_0 : wn.frozen? ⟨w.heap.size, 0, none⟩ = false := (frozen_ext hb (by unfold In; first | omega | (simp; done) | (simp; omega))).trans (by go_simp); have hc0_1 : wn.cell? ⟨w.heap.size, 1, none⟩ = some (.bool false) := (cell_ext hb (by unfold In; first | omega | (simp; done) | (simp; omega))).trans (by go_simp); have hf0_1 : wn.frozen? ⟨w.heap.size, 1, none⟩ = false := (frozen_ext hb (by unfold In; first | omega | (simp; done) | (simp; omega))).trans (by go_simp); have hc0_2 : wn.cell? ⟨w.heap.size, 2, none⟩ = some (.bool false) := (cell_ext hb (by unfold In; first | omega | (simp; done) | (simp; omega))).trans (by go_simp); have hf0_2 : wn.frozen? ⟨w.heap.size, 2, none⟩ = false := (frozen_ext hb (by unfold In; first | omega | (simp; done) | (simp; omega))).trans (by go_simp); have hc0_3 : wn.cell? ⟨w.heap.size, 3, none⟩ = some (.int .u8 0) := (cell_ext hb (by unfold In; first | omega | (simp; done) | (simp; omega))).trans (by go_simp); have hf0_3 : wn.frozen? ⟨w.heap.size, 3, none⟩ = false := (frozen_ext hb (by unfold In; first | omega | (simp; done) | (simp; omega))).trans (by go_simp); have hc0_4 : wn.cell? ⟨w.heap.size, 4, none⟩ = some (.int .u8 0) := (cell_ext hb (by unfold In; first | omega | (simp; done) | (simp; omega))).trans (by go_simp); have hf0_4 : wn.frozen? ⟨w.heap.size, 4, none⟩ = false := (frozen_ext hb (by unfold In; first | omega | (simp; done) | (simp; omega))).trans (by go_simp); have HXn := Lib.hid (Ext_trans hb (by repeat' (first | (with_reducible first | exact HX.out | apply Ext_alloc | apply Ext_drewN | apply Ext_drew | (refine Ext_set ?_ ?_) | exact Ext_refl _) | (simp only [World.size_alloc, World.size_setCell, World.size_drew, size_drewN]; omega) | (simp; done) | (simp; omega)))); clear hb HX; have HX := HXn; clear HXn)
  refine bodyPost_ret (v := Cel.zero.agg) (by simp [results, Try.results15, go_sem, Cel.agg, Cel.zero, *]) rfl ?_
  exact ⟨rfl, (by repeat' (first | (with_reducible first | exact HX.out | apply Ext_alloc | apply Ext_drewN | apply Ext_drew | (refine Ext_set ?_ ?_) | exact Ext_refl _) | (simp only [World.size_alloc, World.size_setCell, World.size_drew, size_drewN]; omega) | (simp; done) | (simp; omega)))⟩
theorem At_any (g c : Nat) (p : Pl) (i : Int) (w : World) (h : PlAt w g c p) : Calls Try.prog 15 #[.pointer (some ⟨g, 0, none⟩), .int .i64 i] w (Ret (.agg #[.int .u8 (p.at i).b, .bool (p.at i).ge, .bool (p.at i).st, .int .u8 (p.at i).li, .int .u8 (p.at i).co]) w) := by
  show Calls _ _ _ _ (Ret (p.at i).agg w)
  by_cases hi : 0 ≤ i ∧ i < p.n
  · obtain ⟨k, rfl⟩ := Int.eq_ofNat_of_zero_le hi.1
    exact At_yes g c p k (by have := hi.2; unfold Pl.n at this; omega) w h
  · rw [show p.at i = Cel.zero by unfold Pl.at; rw [if_neg hi]]
    exact At_no g c p i hi w h
end
theorem field_b (b : Int) (ge st : Bool) (li co : Int) (W : World) : (Instr.field 46 (.agg #[.int .u8 b, .bool ge, .bool st, .int .u8 li, .int .u8 co]) 0).run Try.prog W = .ok (.int .u8 b) W := by kernel_rfl
theorem field_st (b : Int) (ge st : Bool) (li co : Int) (W : World) : (Instr.field 46 (.agg #[.int .u8 b, .bool ge, .bool st, .int .u8 li, .int .u8 co]) 2).run Try.prog W = .ok (.bool st) W := by kernel_rfl
end Go.Proofs.Ytmldhgebbgalbaa
