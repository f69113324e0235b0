import Derived.Test.YtmcfckdgolojlaaZGM
import Derived.Test.YtmcfckdgolojlaaZGE
/- The document's plane as a value: what its functions do to it. -/
namespace Go.Proofs.Ytmcfckdgolojlaa
set_option linter.unusedVariables false
set_option linter.unusedSimpArgs false
open Go.RowKit
open Go.Proofs.YtmcfckdgolojlaaW.PrintWords Go.Proofs.YtmcfckdgolojlaaW.PrintLast Go.Proofs.YtmcfckdgolojlaaW.PrintMore
open PPaintPlays
/-- v is the cells' slice of the document's plane q; its row lies behind w0, and is not block c -/
def DP (w0 w : World) (c : Nat) (v : Value) (q : Pl) : Prop :=
  Ext w0 w ∧ ∃ P : Nat → Prop, Kd.R k38 38 w w0.heap.size P v q.sl ∧ ¬ P c ∧ ∀ k, P k → ∃ cells, w.heap[k]? = some (.cells cells 38 (0, 0))
/-- block c, and whatever is no row of cells, is as it was -/
def Holds (c : Nat) (w w' : World) : Prop := w.heap.size ≤ w'.heap.size ∧ ∀ i, i < w.heap.size → (i = c ∨ ∀ cells, w.heap[i]? ≠ some (.cells cells 38 (0, 0))) → w'.heap[i]? = w.heap[i]?
theorem Holds.of_ext {c : Nat} {w w' : World} (h : Ext w w') : Holds c w w' := ⟨h.size, fun i hi _ => h.block i hi⟩
theorem Holds.trans {c : Nat} {w w1 w2 : World} (h : Holds c w w1) (k : Holds c w1 w2) : Holds c w w2 :=
  ⟨Nat.le_trans h.1 k.1, fun i hi hc => by
    have h1 := h.2 i hi hc
    rw [k.2 i (Nat.lt_of_lt_of_le hi h.1) (hc.imp id (fun x cells => by rw [h1]; exact x cells)), h1]⟩
theorem DP.ext {w0 w w' : World} {c : Nat} {v : Value} {q : Pl} (h : DP w0 w c v q) (hx : Ext w w') : DP w0 w' c v q := by
  obtain ⟨h1, P, h2, h3, h4⟩ := h
  exact ⟨Ext_trans hx h1, P, Kd.R_below h2 hx, h3, fun k hk => by
    obtain ⟨cells, e⟩ := h4 k hk
    exact ⟨cells, (hx.block k (Array.getElem?_eq_some_iff.1 e).1).trans e⟩⟩
theorem DP.reads {w0 w : World} {c : Nat} {v : Value} {q : Pl} (h : DP w0 w c v q) : ∃ A n, v = .slice A q.sl.length n ∧ q.sl.length ≤ n ∧ Kd.C k38 w A q.sl.length q.sl := by
  obtain ⟨_, P, h2, _⟩ := h
  exact Kd.R_reads h2
theorem DP.of {w0 w w' : World} {c : Nat} {P : Nat → Prop} {v : Value} {q : Pl} (hP : ¬ P c) (hc : c < w.heap.size) (h : Kd.R k38 38 w' w0.heap.size (fun k => P k ∨ w.heap.size ≤ k) v q.sl) (hb : Ext w0 w') : DP w0 w' c v q := by
  refine ⟨hb, _, Kd.R_bound h, fun hk => hk.1.elim hP (fun x => by omega), fun k hk => ?_⟩
  obtain ⟨_, _, _, t, ht, cells, e⟩ := hk
  have : t = 38 := by
    rcases List.mem_cons.1 ht with x | x
    · exact x
    · exact absurd x (by simp [k38, Kd.iso, Kd.pair, Kd.int, Kd.bool, Kd.scalar])
  subst this
  exact ⟨cells, e⟩
theorem Holds.of_kept {w w' : World} {c : Nat} {P : Nat → Prop} (hP : ¬ P c) (h4 : ∀ k, P k → ∃ cells, w.heap[k]? = some (.cells cells 38 (0, 0))) (h : Kept w w' P) : Holds c w w' :=
  ⟨h.1, fun i hi hc => h.2 i hi (fun hp => by
    rcases hc with rfl | hc
    · exact hP hp
    · obtain ⟨cells, e⟩ := h4 i hp
      exact hc cells e)⟩
def stV (q : Pl) (v : Value) (at_ li co : Int) (ld : Bool) : Value := .agg #[.int .i64 q.rows, .int .i64 q.cols, v, .int .i64 q.cur, .int .i64 at_, .int .u8 li, .int .u8 co, .bool ld]
def dplV (q : Pl) (v : Value) : Value := .agg #[.int .i64 q.rows, .int .i64 q.cols, v, .int .i64 q.cur]
def DTo (w0 : World) (c : Nat) (f : Value → Value) (q : Pl) (w : World) (e : Ending) (w' : World) : Prop := ∃ v2, e = .returned (f v2) ∧ DP w0 w' c v2 q ∧ Holds c w w'
theorem set_same3 (p : Pl) (i : Int) (x : Cel) : (p.set i x).rows = p.rows ∧ (p.set i x).cols = p.cols ∧ (p.set i x).cur = p.cur := by
  unfold Pl.set
  split <;> exact ⟨rfl, rfl, rfl⟩
set_option maxRecDepth 100000 in
theorem rSet {w0 w : World} {c : Nat} {v : Value} {p : Pl} (hn : p.cells.length ≤ 4096) (hc : c < w.heap.size) (h : DP w0 w c v p) (i : Int) (x : Cel) :
    Calls Try.prog 114 #[dplV p v, .int .i64 i, .agg #[.int .u8 x.b, .bool x.ge, .bool x.st, .int .u8 x.li, .int .u8 x.co]] w (DTo w0 c (dplV (p.set i x)) (p.set i x) w) := by
  obtain ⟨h1, P, h2, h3, h4⟩ := h
  refine (greenscreenref14_Set.calls p.rows p.cols P v p.sl p.cur i x.b x.ge x.st x.li x.co _ _ _ _ w0 w h1 h2 (rset_f hn i x)).mono ?_
  rintro e w' ⟨v2, rfl, k1, k2, k3⟩
  exact ⟨v2, rfl, DP.of h3 hc k1 k2, Holds.of_kept h3 h4 k3⟩
set_option maxRecDepth 100000 in
theorem rLay {w0 w : World} {c : Nat} {v : Value} {p : Pl} (hn : p.cells.length ≤ 4096) (hc : c < w.heap.size) (h : DP w0 w c v p) (i li co : Int) (ld : Bool) (i0 : 0 ≤ i) (i1 : i < p.n) (x : Cel) :
    Calls Try.prog 102 #[stV p v i li co ld, .agg #[.int .u8 x.b, .bool x.ge, .bool x.st, .int .u8 x.li, .int .u8 x.co]] w (DTo w0 c (fun v2 => stV (p.set i x) v2 ((i + 1) % p.n) li co ld) (p.set i x) w) := by
  obtain ⟨h1, P, h2, h3, h4⟩ := h
  refine (greenscreenref16_lay.calls p.rows p.cols P v p.sl p.cur i li co ld x.b x.ge x.st x.li x.co _ _ _ _ _ _ _ _ w0 w h1 h2 (rlay_f hn i li co ld i0 i1 x)).mono ?_
  rintro e w' ⟨v2, rfl, k1, k2, k3⟩
  exact ⟨v2, rfl, DP.of h3 hc k1 k2, Holds.of_kept h3 h4 k3⟩
set_option maxRecDepth 100000 in
theorem rChar {w0 w : World} {c : Nat} {v : Value} {p : Pl} (h : DP w0 w c v p) (i li co : Int) (ld : Bool) (b : Int) (ge : Bool) :
    Calls Try.prog 103 #[stV p v i li co ld, .int .u8 b, .bool ge] w (Ret (.agg #[.int .u8 b, .bool ge, .bool false, .int .u8 li, .int .u8 co]) w) := by
  obtain ⟨A, n, rfl, k1, k2⟩ := h.reads
  exact greenscreenref16_char.calls p.rows p.cols A n p.sl p.cur i li co ld b ge _ _ _ _ _ w k2 k1 rfl
set_option maxRecDepth 100000 in
theorem rHas {w0 w : World} {c : Nat} {v : Value} {p : Pl} (h : DP w0 w c v p) (i : Int) : Calls Try.prog 78 #[dplV p v, .int .i64 i] w (Ret (.bool (p.has i)) w) := by
  obtain ⟨A, n, rfl, k1, k2⟩ := h.reads
  exact greenscreenref14_Has.calls p.rows p.cols A n p.sl p.cur i _ w k2 k1 (rhas_f _ _ _ _)
set_option maxRecDepth 100000 in
theorem rWipe {w0 w : World} {c : Nat} {v : Value} {p : Pl} (hok : p.Ok) (hc : c < w.heap.size) (h : DP w0 w c v p) (i li co t : Int) (ld : Bool) (i0 : 0 ≤ i) (i1 : i < p.n) (t0 : 0 ≤ t) (t1 : t < p.n) :
    Calls Try.prog 107 #[stV p v i li co ld, .int .i64 t] w (DTo w0 c (fun v2 => stV (p.wipes (btwN p.n i (btwM p.n i t))) v2 t li co ld) (p.wipes (btwN p.n i (btwM p.n i t))) w) := by
  obtain ⟨h1, P, h2, h3, h4⟩ := h
  obtain ⟨k, hk⟩ := (rwipe_f hok i0 i1 t0 t1 li co ld).get
  obtain ⟨e1, e2, _, e4⟩ := wipes_dims (btwN p.n i (btwM p.n i t)) p
  refine (greenscreenref16_wipe.calls k p.rows p.cols P v p.sl p.cur i li co ld t _ _ _ _ _ _ _ _ w0 w h1 h2 hk).mono ?_
  rintro e w' ⟨v2, rfl, k1, k2, k3⟩
  exact ⟨v2, by unfold stV; rw [e1, e2, e4], DP.of h3 hc k1 k2, Holds.of_kept h3 h4 k3⟩
set_option maxRecDepth 100000 in
theorem rFill {w0 w : World} {c : Nat} {v : Value} {p : Pl} (hok : p.Ok) (hc : c < w.heap.size) (h : DP w0 w c v p) (i t : Int) (i0 : 0 ≤ i) (i1 : i < p.n) (t0 : 0 ≤ t) (t1 : t < p.n) (x : Cel) :
    Calls Try.prog 106 #[dplV p v, .int .i64 i, .int .i64 t, .agg #[.int .u8 x.b, .bool x.ge, .bool x.st, .int .u8 x.li, .int .u8 x.co]] w (fun e w' => ∃ m : Int, DTo w0 c (fun v2 => .tuple #[dplV (p.puts (btwN p.n i (btwM p.n i t)) x) v2, .int .i64 m]) (p.puts (btwN p.n i (btwM p.n i t)) x) w e w') := by
  obtain ⟨A, n, rfl, q1, q2⟩ := h.reads
  obtain ⟨h1, P, h2, h3, h4⟩ := h
  obtain ⟨k, hk⟩ := (rfill_f hok i0 i1 t0 t1 x).get
  obtain ⟨e1, e2, _, e4⟩ := puts_dims x (btwN p.n i (btwM p.n i t)) p
  refine (greenscreenref14_Fill.calls k p.rows p.cols A n p.sl p.cur i t x.b x.ge x.st x.li x.co _ _ _ _ _ w q2 q1 hk).mono ?_
  rintro e w' ⟨v2, rfl, k1, k2⟩
  refine ⟨_, v2, by unfold dplV; rw [e1, e2, e4], ?_, Holds.of_ext k2⟩
  have k3 := Kd.R_bound k1
  have k4 := Kd.R_mono k3 (ok' := fun k => P k ∨ w.heap.size ≤ k) (fun k hk => .inr hk.2.1)
  exact DP.of h3 hc (Kd.R_lower k4 h1.size) (Ext_trans k2 h1)
set_option maxRecDepth 100000 in
theorem rDress (c : Cel) (A : Option Addr) (n : Nat) (ps : List Pr) (hp : ∀ x ∈ ps, 0 ≤ x.v ∧ x.v < 256) (hl : ps.length ≤ 1000) (hn : ps.length ≤ n) (w : World) (hr : Rd w 2 A ps.length (ps.flatMap Pr.enc)) :
    Calls Try.prog 104 #[.agg #[.int .u8 c.b, .bool c.ge, .bool c.st, .int .u8 c.li, .int .u8 c.co], .slice A ps.length n] w (Ret (.agg #[.int .u8 (c.dress ps).b, .bool (c.dress ps).ge, .bool (c.dress ps).st, .int .u8 (c.dress ps).li, .int .u8 (c.dress ps).co]) w) := by
  obtain ⟨k, hk⟩ := (rdress_f c ps hp hl).get
  have hlen : (ps.map toP).length = ps.length := List.length_map ..
  have hC : Kd.C k131 w A (ps.map toP).length (ps.map toP) := by
    refine ⟨rfl, by rw [hlen]; omega, fun hpos => ?_⟩
    rw [hlen] at hpos
    obtain ⟨b, o, eA, _⟩ := hr.2 hpos
    refine ⟨_, eA, fun j q hj => ?_⟩
    rw [List.getElem?_map] at hj
    obtain ⟨x, hx, rfl⟩ : ∃ x, ps[j]? = some x ∧ toP x = q := by simpa [Option.map_eq_some_iff] using hj
    have hjl : j < ps.length := (List.getElem?_eq_some_iff.1 hx).1
    refine ⟨x.enc, rfl, k131_mk w (toP x), fun i u hu => ?_⟩
    obtain ⟨b2, o2, e2, hcc⟩ := hr.elem Pr.enc Pr.len hjl hx
    rw [eA] at e2
    cases e2
    have h := hcc i u hu
    have e : (⟨b, o, none⟩ : Addr).add (j * 2 + i) = ⟨b, o + j * 2 + i, none⟩ := by
      unfold Addr.add
      split <;> simp_all [Nat.add_assoc]
    exact e ▸ h
  have := greenscreenref11_Dress.calls k c.b c.ge c.st c.li c.co A n (ps.map toP) _ _ _ _ _ w hC (by rw [hlen]; exact hn) hk
  rw [hlen] at this
  exact this
/-- the cells, as they are read through the slice -/
theorem DP.cells {w0 w : World} {c : Nat} {v : Value} {q : Pl} (h : DP w0 w c v q) (hn : 0 < q.cells.length) : ∃ vb cap, v = .slice (some ⟨vb, 0, none⟩) q.cells.length cap ∧
    ∀ i (hi : i < q.cells.length) (j : Nat) (u : Value), (q.cells[i]).enc[j]? = some u → w.cell? ⟨vb, i * 5 + j, none⟩ = some u := by
  obtain ⟨A, n, e, _, hC⟩ := h.reads
  obtain ⟨_, P, h2, _⟩ := h
  obtain ⟨inner, ho⟩ := Kd.R_own h2
  have hl : q.sl.length = q.cells.length := sl_len
  rcases ho.2 with ⟨e1, _⟩ | ⟨g, cap, cur, e1, _⟩
  · rw [e1] at e
    injection e with _ e2 _
    omega
  · rw [e1] at e
    injection e with e2 _ _
    refine ⟨g, cap, by rw [e1, hl], fun i hi j u hu => ?_⟩
    obtain ⟨ad, eA, hc⟩ := hC.2.2 (by omega)
    rw [← e2] at eA
    cases eA
    have hx : q.sl[i]? = some (toS q.cells[i]) := by
      unfold Pl.sl
      rw [List.getElem?_map, List.getElem?_eq_getElem hi]
      rfl
    obtain ⟨cs, _, hK, hcell⟩ := hc i _ hx
    have hcs := k38_open hK
    subst hcs
    have := hcell j u hu
    have e3 : (⟨g, 0, none⟩ : Addr).add (i * 5 + j) = ⟨g, i * 5 + j, none⟩ := by
      unfold Addr.add
      split <;> simp_all
    exact e3 ▸ this
end Go.Proofs.Ytmcfckdgolojlaa
