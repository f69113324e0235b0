/- OptionRests: the line in memory; send and come. -/
import Derived.Test.YtioaenidkieiiaaT6q
import Derived.Test.YtioaenidkieiiaaE
import Derived.Test.YtioaenidkieiiaaWWords
import Derived.Deep.RegionHeld3
namespace Go.Proofs.Ytioaenidkieiiaa
set_option linter.unusedVariables false
set_option linter.unusedSimpArgs false
open Go.RowKit Go.Shelf Go.Proofs.YtioaenidkieiiaaW.PrintWords

section
variable {P : Program}
/-- append to a row of one's own that may begin inside its block: at a step of a region that draws -/
theorem step_append_q {w : World} {ops : Array Oper} {o : Oper} {a : Act} {K : Act → World → Prop} {Q : Exit → Act → World → Prop} {E : Prop} (hgd : o.guard = none) (s x : Operand) (t : TypeId)
    (ho : o.op = .call { callee := .builtin .append, args := #[s, x], argTypes := #[t, t] })
    (base : Nat) (e : TypeId) (i : TypeInfo) (z : Value) (size bytes : Nat) (ht : P.underlying t = some (.slice e)) (hi : P.info? e = some i) (hz : i.zero = some z)
    (hsize : i.size = size) (hby : i.bytes = bytes) (hzs : z.cells.size = size) (hsz : 0 < size)
    (v : Value) (n : Nat) (xs : List Value) (hs : a.eval s = v) (hown : QRow w base e size v n xs)
    (ad : Addr) (m c : Nat) (news : List Value) (hx : a.eval x = .slice (some ad) m c) (hl : news.length = m * size) (hnews : ∀ j u, news[j]? = some u → w.cell? (ad.add j) = some u) (h1 : ∀ u ∈ news, u.oneCell' = true)
    (hm : 0 < m) (h63 : n + m ≤ maxLen) (hbytes : (n + m) * bytes ≤ 140737488355328) (hbase : base ≤ w.heap.size)
    (h : ∀ v' w', QRow w' base e size v' (n + m) (xs ++ news) → w.grownBy w' v.ownBlock → (v'.ownBlock = v.ownBlock ∨ ∃ b, v'.ownBlock = some b ∧ w.heap.size ≤ b) → K (a.put o.dst v') w') :
    if Region.wanted o (yielded ops a.tmps) = true then Oper.wp P o a w K Q else E := by
  rw [if_pos (by simp [Region.wanted, hgd])]
  obtain ⟨v', w', hr, h2, h3, h4⟩ := q_append (P := P) w base t o.type e i z size bytes ht hi hz hsize hby hzs hsz v n xs hown ad m c news hl hnews h1 hm h63 hbytes hbase
  unfold Oper.wp execOp
  simp only [ho, resolve, invoke, builtin, Sem.run_bind, Sem.run_pure, Result.andThen_ok, List.map_toArray, List.map_cons, List.map_nil, hs, hx, hr]
  exact h v' w' h2 h3 h4
end
/-- a word on its way, as it lies -/
structure Wm where
  p : Int × Nat
  A : Option Addr
  c : Nat
def Wm.v (m : Wm) : Value := .slice m.A 3 m.c
/-- the line at lb, its sides at b, what is on its way to each of them -/
structure LnAt (w W : World) (lb : Nat) (b : Bool → Nat) (L : Ln) (v : Bool → Value) (ms : Bool → List Wm) : Prop where
  blk : Blk W lb 55 #[.pointer (some ⟨b false, 0, none⟩), .pointer (some ⟨b true, 0, none⟩), v false, v true, .int .i64 (L.n : Int)]
  obj : ∀ s, OptAt W (b s) (L.o s)
  row : ∀ s, QRow W w.heap.size 22 1 (v s) (ms s).length ((ms s).map Wm.v)
  q : ∀ s, (ms s).map Wm.p = L.q s
  wd : ∀ s, ∀ m ∈ ms s, Rd W 1 m.A 3 (u8s [255, m.p.1, (m.p.2 : Int)]) ∧ (∀ ad, m.A = some ad → ad.block ≠ lb ∧ (∀ s', ad.block ≠ b s') ∧ ∀ s', some ad.block ≠ (v s').ownBlock) ∧ 3 ≤ m.c
  apart : ∀ g, (v false).ownBlock = some g → (v true).ownBlock ≠ some g
  nb : b false ≠ b true
  nl : ∀ s, b s ≠ lb
  hl : w.heap.size ≤ lb
  hb : ∀ s, w.heap.size ≤ b s
  ext : Ext w W
section
variable {w W W' : World} {lb : Nat} {b : Bool → Nat} {L : Ln} {v : Bool → Value} {ms : Bool → List Wm}
theorem q_ext {base : Nat} {e : TypeId} {size n : Nat} {u : Value} {xs : List Value} (h : QRow W base e size u n xs) (hx : Ext W W') : QRow W' base e size u n xs := q_move h (fun k hk => hx.block k (q_lt h k hk))
theorem LnAt.step (h : LnAt w W lb b L v ms) (hx : Ext W W') : LnAt w W' lb b L v ms :=
  ⟨Blk.below' h.blk hx, fun s => Blk.below' (h.obj s) hx, fun s => q_ext (h.row s) hx, h.q, fun s m hm => ⟨Rd_ext hx (h.wd s m hm).1, (h.wd s m hm).2⟩, h.apart, h.nb, h.nl, h.hl, h.hb, Ext_trans hx h.ext⟩
theorem LnAt.vlb (h : LnAt w W lb b L v ms) (s : Bool) : (v s).ownBlock ≠ some lb := by
  intro e
  obtain ⟨_, cs, hc⟩ := q_typed (h.row s) lb e
  have := Blk.same (t' := 22) (cs' := cs) h.blk hc
  exact absurd this.1 (by decide)
theorem LnAt.vb (h : LnAt w W lb b L v ms) (s s' : Bool) : (v s).ownBlock ≠ some (b s') := by
  intro e
  obtain ⟨_, cs, hc⟩ := q_typed (h.row s) (b s') e
  have := Blk.same (t' := 22) (cs' := cs) (h.obj s') hc
  exact absurd this.1 (by decide)
/-- one side has turned -/
theorem LnAt.side (h : LnAt w W lb b L v ms) (s : Bool) {o' : Opt} (hm : Mut (b s) W W') (ho : OptAt W' (b s) o') : LnAt w W' lb b ⟨fun s' => if s' = s then o' else L.o s', L.q, L.n⟩ v ms := by
  have hbb : ∀ s', s' ≠ s → b s' ≠ b s := by
    intro s' hs
    have := h.nb
    cases s <;> cases s' <;> simp_all
    exact fun e => this e.symm
  refine ⟨h.blk.grown hm (fun e => h.nl s (by injection e with e; exact e.symm)), fun s' => ?_, fun s' => q_move (h.row s') (fun k hk => hm.block k (q_lt (h.row s') k hk) (fun e => h.vb s' s (by rw [hk]; exact e))), h.q, fun s' m hm' => ⟨(h.wd s' m hm').1.grown hm (fun g e => by cases e; exact fun ad ea => ((h.wd s' m hm').2.1 ad ea).2.1 s), (h.wd s' m hm').2⟩,
    h.apart, h.nb, h.nl, h.hl, h.hb, Mut_trans hm h.ext (h.hb s)⟩
  simp only
  split
  · rename_i e; rw [e]; exact ho
  · rename_i e
    exact Blk.grown (h.obj s') hm (fun e' => hbb s' e (by injection e'))
/-- a word is on its way to a side -/
theorem LnAt.push (h : LnAt w W lb b L v ms) (s : Bool) (m : Wm) {v' : Value} (hq : QRow W' w.heap.size 22 1 v' ((ms s).length + 1) ((ms s).map Wm.v ++ [m.v])) (hg : W.grownBy W' (v s).ownBlock) (hv : v'.ownBlock = (v s).ownBlock ∨ ∃ g, v'.ownBlock = some g ∧ W.heap.size ≤ g)
    (hr : Rd W 1 m.A 3 (u8s [255, m.p.1, (m.p.2 : Int)])) (hm : ∀ ad, m.A = some ad → ad.block ≠ lb ∧ (∀ s', ad.block ≠ b s') ∧ ∀ s', some ad.block ≠ (v s').ownBlock) (hc : 3 ≤ m.c) {W2 : World}
    (hW2 : W2 = (W'.setCell ⟨lb, if s then 3 else 2, none⟩ v').setCell ⟨lb, 4, none⟩ (.int .i64 ((L.n : Int) + 1))) :
    LnAt w W2 lb b ⟨L.o, fun s' => if s' = s then L.q s' ++ [m.p] else L.q s', L.n + 1⟩ (fun s' => if s' = s then v' else v s') (fun s' => if s' = s then ms s' ++ [m] else ms s') := by
  have hsz : W.heap.size ≤ W'.heap.size := hg.size
  have hM : Mut lb W' W2 := by rw [hW2]; exact (Mut_set lb _ _).trans (Mut_set lb 4 _)
  have hvl : v'.ownBlock ≠ some lb := by
    rcases hv with e | ⟨g, e, hg'⟩
    · rw [e]; exact h.vlb s
    · rw [e]; intro e2; injection e2 with e2; have := h.blk.lt; omega
  have hb1 : Blk W' lb 55 #[.pointer (some ⟨b false, 0, none⟩), .pointer (some ⟨b true, 0, none⟩), v false, v true, .int .i64 (L.n : Int)] := h.blk.grown hg (fun e => h.vlb s e.symm)
  have hnew : ∀ ad : Addr, ad.block < W.heap.size → some ad.block ≠ (v s).ownBlock → some ad.block ≠ v'.ownBlock := by
    intro ad h1 h2 e
    rcases hv with e' | ⟨g, e', hg'⟩
    · exact h2 (e.trans e')
    · rw [e'] at e; injection e with e; omega
  have hwr : ∀ (m' : Wm), Rd W 1 m'.A 3 (u8s [255, m'.p.1, (m'.p.2 : Int)]) → (∀ ad, m'.A = some ad → ad.block ≠ lb ∧ (∀ s', ad.block ≠ b s') ∧ ∀ s', some ad.block ≠ (v s').ownBlock) →
      Rd W2 1 m'.A 3 (u8s [255, m'.p.1, (m'.p.2 : Int)]) ∧ (∀ ad, m'.A = some ad → ad.block ≠ lb ∧ (∀ s', ad.block ≠ b s') ∧ ∀ s', some ad.block ≠ (if s' = s then v' else v s').ownBlock) := by
    intro m' h1 h2
    have h3 : Rd W' 1 m'.A 3 (u8s [255, m'.p.1, (m'.p.2 : Int)]) := h1.grown hg (fun g e ad ea e2 => (h2 ad ea).2.2 s (by rw [e, e2]))
    refine ⟨h3.grown hM (fun g e => by cases e; exact fun ad ea => (h2 ad ea).1), fun ad ea => ⟨(h2 ad ea).1, (h2 ad ea).2.1, fun s' => ?_⟩⟩
    split
    · have hlt : ad.block < W.heap.size := by
        obtain ⟨g, o, e, hc⟩ := h1.2 (by decide)
        rw [ea] at e
        cases e
        exact World.block_lt_of_cell? W _ (hc 0 _ rfl)
      exact hnew ad hlt ((h2 ad ea).2.2 s)
    · exact (h2 ad ea).2.2 s'
  refine ⟨?_, fun s' => ?_, fun s' => ?_, fun s' => ?_, fun s' m' hm' => ?_, ?_, h.nb, h.nl, h.hl, h.hb, ?_⟩
  · rw [hW2]
    have h1 := (hb1.store (if s then 3 else 2) v').store 4 (.int .i64 ((L.n : Int) + 1))
    have e : ((L.n + 1 : Nat) : Int) = (L.n : Int) + 1 := by omega
    cases s <;> simpa [e] using h1
  · exact Blk.grown (Blk.grown (h.obj s') hg (fun e => h.vb s s' e.symm)) hM (fun e => h.nl s' (by injection e))
  · try simp only
    split
    · rename_i e
      subst e
      rw [List.length_append, List.map_append]
      exact q_move hq (fun k hk => hM.block k (q_lt hq k hk) (fun e => hvl (by rw [hk]; exact e)))
    · rename_i e
      have h1 : QRow W' w.heap.size 22 1 (v s') (ms s').length ((ms s').map Wm.v) := q_move (h.row s') (fun k hk => hg.block k (q_lt (h.row s') k hk) (fun e' => by
        have ha := h.apart k
        cases s <;> cases s' <;> simp_all))
      exact q_move h1 (fun k hk => hM.block k (q_lt h1 k hk) (fun e' => h.vlb s' (by rw [hk]; exact e')))
  · try simp only
    split
    · rw [List.map_append, h.q]; rfl
    · exact h.q s'
  · try simp only at hm'
    split at hm'
    · rcases List.mem_append.1 hm' with hm' | hm'
      · have := hwr m' (h.wd s' m' hm').1 (h.wd s' m' hm').2.1
        exact ⟨this.1, this.2, (h.wd s' m' hm').2.2⟩
      · rw [List.mem_singleton.1 hm']
        have := hwr m hr hm
        exact ⟨this.1, this.2, hc⟩
    · have := hwr m' (h.wd s' m' hm').1 (h.wd s' m' hm').2.1
      exact ⟨this.1, this.2, (h.wd s' m' hm').2.2⟩
  · have hlt : ∀ s' g, (v s').ownBlock = some g → g < W.heap.size := fun s' g e => q_lt (h.row s') g e
    intro g h1 h2
    cases s
    · simp only [if_true, Bool.true_eq_false, if_false] at h1 h2
      rcases hv with e | ⟨g', e, hg'⟩
      · exact h.apart g (e ▸ h1) h2
      · rw [e] at h1; injection h1 with h1; have := hlt true g h2; omega
    · simp only [if_true, Bool.false_eq_true, if_false] at h1 h2
      rcases hv with e | ⟨g', e, hg'⟩
      · exact h.apart g h1 (e ▸ h2)
      · rw [e] at h2; injection h2 with h2; have := hlt false g h1; omega
  · exact Mut_trans hM (Below.grown h.ext hg h.ext.size (fun g e => (q_typed (h.row s) g e).1)) h.hl
end
end Go.Proofs.Ytioaenidkieiiaa
