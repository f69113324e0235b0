import Derived.Test.YtmcfckdgolojlaaZGL
import Derived.Test.YtmcfckdgolojlaaK5
/- The document's Between, Fill and wipe, as the print has them: what they come to. -/
namespace Go.Proofs.Ytmcfckdgolojlaa
set_option linter.unusedVariables false
set_option linter.unusedSimpArgs false
open Go.RowKit
open Go.Proofs.YtmcfckdgolojlaaW.PrintWords (rd)
open PPaintPlays
theorem btwM_many {n f t : Int} (f0 : 0 ≤ f) (f1 : f < n) (t0 : 0 ≤ t) (t1 : t < n) : (btwM n f t : Int) = if t - f ≤ 0 then t - f + n else t - f := by
  unfold btwM
  split
  · next h =>
    have : (t - f - 1) % n = t - f - 1 + n := by
      rw [← Int.add_emod_right, Int.emod_eq_of_lt (by omega) (by omega)]
    rw [this]; omega
  · next h =>
    rw [Int.emod_eq_of_lt (by omega) (by omega)]; omega
theorem rbtw_l {n f : Int} (n1 : 1 ≤ n) (n2 : n ≤ 4096) (f0 : 0 ≤ f) (f1 : f < n) (M : Nat) (hM : M ≤ 8192) : ∀ (d i : Nat), i + d = M → Ev (fun k => greenscreenref02_Between.l0 k f (btwN n f i) n (M : Int) (i : Int)) (btwN n f M)
  | 0, i, h => Ev.step (G := fun _ => some (btwN n f M)) (fun k => by
      show greenscreenref02_Between.l0 (k + 1) _ _ _ _ _ = _
      rw [greenscreenref02_Between.l0, if_neg (by omega), show i = M by omega]) (Ev.const fun _ => rfl)
  | d + 1, i, h => by
    refine Ev.step (fun k => ?_) (rbtw_l n1 n2 f0 f1 M hM d (i + 1) (by omega))
    show greenscreenref02_Between.l0 (k + 1) _ _ _ _ _ = _
    rw [greenscreenref02_Between.l0, if_pos (by omega), if_neg (by omega), if_pos (by rw [btwN_len]; omega), w64 (x := f + (i : Int)) (by omega), Int.tmod_eq_emod_of_nonneg (by omega), btwN_succ, w64 (by omega)]
    rfl
theorem rbtw_f {r c n f t : Int} (hz : SzOk r c n) (f0 : 0 ≤ f) (f1 : f < n) (t0 : 0 ≤ t) (t1 : t < n) : Ev (fun k => greenscreenref02_Between.f k r c f t) (btwN n f (btwM n f t)) := by
  have n1 := hz.n0
  have n2 := hz.n1
  have hm := btwM_many f0 f1 t0 t1
  obtain ⟨M, hM⟩ : ∃ M, btwM n f t = M := ⟨_, rfl⟩
  rw [hM] at hm ⊢
  have hb : M ≤ 8192 := by split at hm <;> omega
  have hl := rbtw_l n1 n2 f0 f1 M hb M 0 (by omega)
  refine Ev.step (G := fun k => greenscreenref02_Between.j1 k f [] n (M : Int)) (fun k => ?_) (Ev.step (G := fun k => greenscreenref02_Between.l0 k f [] n (M : Int) 0) (fun k => by
    show greenscreenref02_Between.j1 (k + 1) _ _ _ _ = _
    rw [greenscreenref02_Between.j1]) hl)
  show greenscreenref02_Between.f (k + 1) r c f t = _
  unfold greenscreenref02_Between.f
  rw [Option.bind_some, rcells_f hz, Option.bind_some, if_neg (by omega), if_neg (by omega), if_neg (by omega), show decide (t ≥ n) = false from decide_eq_false (by omega), greenscreenref02_Between.j0, if_neg (by decide), w64 (x := t - f) (by omega)]
  by_cases h : t - f ≤ 0
  · rw [if_pos h] at hm
    rw [if_pos h, w64 (by omega), hm]
  · rw [if_neg h] at hm
    rw [if_neg h, hm]
theorem set_sl (q : Pl) (i : Int) (x : Cel) (h : q.has i = true) : (q.set i x).sl = q.sl.set i.toNat (toS x) := by
  unfold Pl.set
  rw [if_pos h]
  unfold Pl.sl
  rw [List.map_set]
theorem puts_dims (x : Cel) (l : List Int) : ∀ p : Pl, (p.puts l x).rows = p.rows ∧ (p.puts l x).cols = p.cols ∧ (p.puts l x).cells.length = p.cells.length ∧ (p.puts l x).cur = p.cur := by
  induction l with
  | nil => exact fun p => ⟨rfl, rfl, rfl, rfl⟩
  | cons i l ih =>
    intro p
    obtain ⟨h1, h2, h3, h4⟩ := ih (p.set i x)
    obtain ⟨k1, k2, k3⟩ := set_dims p i x
    exact ⟨h1.trans k1, h2.trans k2, h3.trans k3, h4.trans (by unfold Pl.set; split <;> rfl)⟩
theorem rfill_l (p : Pl) (x : Cel) (L : List Int) (hL : L.length ≤ 8192) (hin : ∀ i ∈ L, p.has i = true) : ∀ (d i : Nat), i + d = L.length →
    Ev (fun k => greenscreenref14_Fill.l0 k L (p.puts (L.take i) x).sl (i : Int) p.rows p.cols p.sl p.cur x.b x.ge x.st x.li x.co) (p.rows, p.cols, (p.puts L x).sl, p.cur, (L.length : Int))
  | 0, i, h => Ev.step (G := fun _ => some (p.rows, p.cols, (p.puts L x).sl, p.cur, (L.length : Int))) (fun k => by
      show greenscreenref14_Fill.l0 (k + 1) _ _ _ _ _ _ _ _ _ _ _ _ = _
      rw [greenscreenref14_Fill.l0, if_neg (by omega), List.take_of_length_le (by omega)]) (Ev.const fun _ => rfl)
  | d + 1, i, h => by
    have hi : i < L.length := by omega
    have hx : rd L (i : Int) = L[i] := by rw [rd_getD]; simp [List.getD_eq_getElem?_getD, List.getElem?_eq_getElem hi]
    have hh := hin _ (List.getElem_mem hi)
    have hb := has_ltB hh
    have hd := puts_dims x (L.take i) p
    have hh2 : (p.puts (L.take i) x).has L[i] = true := by
      unfold Pl.has Pl.n at hh ⊢
      rw [hd.2.2.1]
      exact hh
    refine Ev.step (fun k => ?_) (rfill_l p x L hL hin d (i + 1) (by omega))
    show greenscreenref14_Fill.l0 (k + 1) _ _ _ _ _ _ _ _ _ _ _ _ = _
    rw [greenscreenref14_Fill.l0, if_pos (by omega), if_pos (by omega), hx, if_pos hb.1, if_pos (by rw [sl_len, hd.2.2.1]; exact hb.2), List.take_succ_eq_append_getElem hi, puts_snoc, set_sl _ _ _ hh2, w64 (by omega)]
    rfl
theorem btw_has (p : Pl) (hn : 1 ≤ p.n) (f : Int) (M : Nat) : ∀ i ∈ btwN p.n f M, p.has i = true := fun i hi => by
  obtain ⟨j, _, rfl⟩ := List.mem_map.1 hi
  exact has_mod hn _
theorem rfill_f {p : Pl} (hok : p.Ok) {f t : Int} (f0 : 0 ≤ f) (f1 : f < p.n) (t0 : 0 ≤ t) (t1 : t < p.n) (x : Cel) :
    Ev (fun k => greenscreenref14_Fill.f k p.rows p.cols p.sl p.cur f t x.b x.ge x.st x.li x.co) (p.rows, p.cols, (p.puts (btwN p.n f (btwM p.n f t)) x).sl, p.cur, ((btwN p.n f (btwM p.n f t)).length : Int)) := by
  have hz := hok.sz
  have n2 : p.cells.length ≤ 4096 := by have := hz.n1; unfold Pl.n at this; omega
  have hM : (btwN p.n f (btwM p.n f t)).length ≤ 8192 := by
    rw [btwN_len]
    have := btwM_many f0 f1 t0 t1
    have := hz.n1
    split at * <;> omega
  refine Ev.congr (Ev.bind (rbtw_f hz f0 f1 t0 t1) (G := fun k l => greenscreenref14_Fill.l0 k l p.sl 0 p.rows p.cols p.sl p.cur x.b x.ge x.st x.li x.co) (rfill_l p x _ hM (btw_has p hz.n0 f _) (btwN p.n f (btwM p.n f t)).length 0 (by omega))) (fun k => ?_)
  unfold greenscreenref14_Fill.f
  congr 1
  funext l
  rw [Option.bind_some, if_pos (by rw [sl_len]; simp; omega), List.nil_append]
theorem ok_set {p : Pl} (hok : p.Ok) (i : Int) (x : Cel) (hx : 0 ≤ x.b ∧ x.b < 256) : (p.set i x).Ok := by
  obtain ⟨d1, d2, d3⟩ := set_dims p i x
  have hn := set_n p i x
  have hc : (p.set i x).cur = p.cur := by unfold Pl.set; split <;> rfl
  refine ⟨by rw [d1, d2, hn]; exact hok.sz, by rw [hc]; exact hok.k0, by rw [hc, hn]; exact hok.k1, ?_⟩
  unfold Pl.set
  split
  · intro y hy
    rcases List.mem_or_eq_of_mem_set hy with h | h
    · exact hok.by_ y h
    · rw [h]; exact hx
  · exact hok.by_
theorem ok_wipes (l : List Int) : ∀ {p : Pl}, p.Ok → (p.wipes l).Ok := by
  induction l with
  | nil => exact fun h => h
  | cons i l ih =>
    intro p h
    show (Pl.wipes (if p.open_ i then p.set i Cel.zero else p) l).Ok
    split
    · exact ih (ok_set h i Cel.zero (by decide))
    · exact ih h
theorem wipes_dims (l : List Int) : ∀ p : Pl, (p.wipes l).rows = p.rows ∧ (p.wipes l).cols = p.cols ∧ (p.wipes l).cells.length = p.cells.length ∧ (p.wipes l).cur = p.cur := by
  induction l with
  | nil => exact fun p => ⟨rfl, rfl, rfl, rfl⟩
  | cons i l ih =>
    intro p
    show (Pl.wipes (if p.open_ i then p.set i Cel.zero else p) l).rows = _ ∧ (Pl.wipes (if p.open_ i then p.set i Cel.zero else p) l).cols = _ ∧ (Pl.wipes (if p.open_ i then p.set i Cel.zero else p) l).cells.length = _ ∧ (Pl.wipes (if p.open_ i then p.set i Cel.zero else p) l).cur = _
    split
    · obtain ⟨h1, h2, h3, h4⟩ := ih (p.set i Cel.zero)
      obtain ⟨k1, k2, k3⟩ := set_dims p i Cel.zero
      exact ⟨h1.trans k1, h2.trans k2, h3.trans k3, h4.trans (by unfold Pl.set; split <;> rfl)⟩
    · exact ih p
theorem Ev.bind1 {α β : Type} {F : Nat → Option α} {H : Nat → Option β} {G : α → Nat → Option β} {a : α} {r : β} (hf : Ev F a) (hg : Ev (G a) r) (h : ∀ k, H (k + 1) = (F k).bind (fun x => G x k)) : Ev H r := by
  obtain ⟨K, hK⟩ := hf
  obtain ⟨L, hL⟩ := hg
  refine ⟨K + L + 1, fun k hk => ?_⟩
  obtain ⟨j, rfl⟩ : ∃ j, k = j + 1 := ⟨k - 1, by omega⟩
  rw [h, hK j (by omega), Option.bind_some, hL j (by omega)]
theorem rwipe_l {p : Pl} (hok : p.Ok) (L : List Int) (hL : L.length ≤ 8192) (hin : ∀ i ∈ L, p.has i = true) (t at_ li co : Int) (ld : Bool) : ∀ (d i : Nat), i + d = L.length →
    Ev (fun k => greenscreenref16_wipe.l0 k t L (i : Int) p.rows p.cols (p.wipes (L.take i)).sl p.cur at_ li co ld) (p.rows, p.cols, (p.wipes L).sl, p.cur, t, li, co, ld)
  | 0, i, h => Ev.step (G := fun _ => some (p.rows, p.cols, (p.wipes L).sl, p.cur, t, li, co, ld)) (fun k => by
      show greenscreenref16_wipe.l0 (k + 1) _ _ _ _ _ _ _ _ _ _ _ = _
      rw [greenscreenref16_wipe.l0, if_neg (by omega), List.take_of_length_le (by omega)]) (Ev.const fun _ => rfl)
  | d + 1, i, h => by
    have hi : i < L.length := by omega
    have hx : rd L (i : Int) = L[i] := by rw [rd_getD]; simp [List.getD_eq_getElem?_getD, List.getElem?_eq_getElem hi]
    have hh := hin _ (List.getElem_mem hi)
    have hb := has_ltB hh
    obtain ⟨e1, e2, e3, e4⟩ := wipes_dims (L.take i) p
    have hq := ok_wipes (L.take i) hok
    have hqn : (p.wipes (L.take i)).n = p.n := by unfold Pl.n; rw [e3]
    have ho := ropen_f hq (a := L[i]) hb.1 (by rw [hqn]; exact hb.2)
    have ih := rwipe_l hok L hL hin t at_ li co ld d (i + 1) (by omega)
    rw [List.take_succ_eq_append_getElem hi, wipes_snoc] at ih
    have hc4 : (p.wipes (L.take i)).cells.length ≤ 4096 := by have := hq.sz.n1; unfold Pl.n at this; omega
    generalize p.wipes (L.take i) = q at *
    rw [e1, e2, e4] at ho
    refine Ev.bind1 ho (G := fun o k => if o = true then ((greenscreenref14_Set.f p.rows p.cols q.sl p.cur L[i] 0 false false 0 0).bind fun b => greenscreenref16_wipe.l0 k t L ((i + 1 : Nat) : Int) b.1 b.2.1 b.2.2.1 b.2.2.2 at_ li co ld) else greenscreenref16_wipe.l0 k t L ((i + 1 : Nat) : Int) p.rows p.cols q.sl p.cur at_ li co ld) ?_ (fun k => ?_)
    · by_cases hop : q.open_ L[i] = true
      · rw [if_pos hop] at ih
        have hs := rset_f (p := q) hc4 L[i] Cel.zero
        rw [e1, e2, e4] at hs
        have hd := set_dims q L[i] Cel.zero
        have hcu : (q.set L[i] Cel.zero).cur = q.cur := by unfold Pl.set; split <;> rfl
        rw [hd.1, hd.2.1, hcu, e1, e2, e4] at hs
        refine Ev.congr ih (fun k => ?_)
        rw [if_pos hop]
        show (greenscreenref14_Set.f p.rows p.cols q.sl p.cur L[i] Cel.zero.b Cel.zero.ge Cel.zero.st Cel.zero.li Cel.zero.co).bind _ = _
        rw [hs, Option.bind_some]
      · rw [if_neg hop] at ih
        exact Ev.congr ih (fun k => by rw [if_neg hop])
    · show greenscreenref16_wipe.l0 (k + 1) _ _ _ _ _ _ _ _ _ _ _ = _
      rw [greenscreenref16_wipe.l0, if_pos (by omega), if_pos (by omega), hx, w64 (by omega)]
      rfl
theorem rwipe_f {p : Pl} (hok : p.Ok) {f t : Int} (f0 : 0 ≤ f) (f1 : f < p.n) (t0 : 0 ≤ t) (t1 : t < p.n) (li co : Int) (ld : Bool) :
    Ev (fun k => greenscreenref16_wipe.f k p.rows p.cols p.sl p.cur f li co ld t) (p.rows, p.cols, (p.wipes (btwN p.n f (btwM p.n f t))).sl, p.cur, t, li, co, ld) := by
  have hM : (btwN p.n f (btwM p.n f t)).length ≤ 8192 := by
    rw [btwN_len]
    have := btwM_many f0 f1 t0 t1
    have := hok.sz.n1
    split at * <;> omega
  refine Ev.congr (Ev.bind (rbtw_f hok.sz f0 f1 t0 t1) (G := fun k l => greenscreenref16_wipe.l0 k t l 0 p.rows p.cols p.sl p.cur f li co ld) (rwipe_l hok _ hM (btw_has p hok.sz.n0 f _) t f li co ld (btwN p.n f (btwM p.n f t)).length 0 (by omega))) (fun k => ?_)
  unfold greenscreenref16_wipe.f
  rfl
end Go.Proofs.Ytmcfckdgolojlaa
