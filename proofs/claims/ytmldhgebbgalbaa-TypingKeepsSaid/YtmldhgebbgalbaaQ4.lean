/- The document's fields: Starts, All, Opens. -/
import Derived.Test.YtmldhgebbgalbaaQ3
import Derived.Maps.AppendAt
import Derived.Deep.AppendLies
import Derived.StillTailTactics
import Derived.Deep.RegionHeld3
namespace Go.Proofs.Ytmldhgebbgalbaa
set_option linter.unusedVariables false
set_option linter.unusedSimpArgs false
open Go.RowKit

theorem own_ext {W w1 : World} {base : Nat} {e : TypeId} {size n : Nat} {v : Value} {xs : List Value} (h : W.ownsRow base e size v n xs) (hx : Ext W w1) : w1.ownsRow base e size v n xs := by
  refine ⟨h.1, ?_⟩
  rcases h.2 with h1 | ⟨g, cap, cur, h1, h2, h3, h4⟩
  · exact .inl h1
  · exact .inr ⟨g, cap, cur, h1, h2, (hx.block g (lt_of_block h3)).trans h3, h4⟩
theorem infoInt : (Try.prog.info? 3).map (fun i => (i.zero, i.size, i.bytes)) = some (some (.int .i64 0), 1, 8) := by kernel_rfl
theorem infoFld : (Try.prog.info? 75).map (fun i => (i.zero, i.size, i.bytes)) = some (some (.agg #[.int .i64 0, .int .i64 0, .int .u8 0]), 3, 24) := by kernel_rfl
def i64s (l : List Int) : List Value := l.map (Value.int .i64)
theorem i64s_append (l m : List Int) : i64s (l ++ m) = i64s l ++ i64s m := by simp [i64s]
theorem i64s_len (l : List Int) : (i64s l).length = l.length := by simp [i64s]
/-- a slice of whole numbers of new memory -/
def RetI (l : List Int) (w : World) (e : Ending) (w' : World) : Prop := ∃ A c, e = .returned (.slice A l.length c) ∧ w'.ownsRow w.heap.size 3 1 (.slice A l.length c) l.length (i64s l) ∧ Ext w w'

theorem own_new {W : World} {b B : Nat} {t : TypeId} {sz : Nat} (h : Blk W b t #[]) (hb : B ≤ b) : W.ownsRow B t sz (.slice (some ⟨b, 0, none⟩) 0 0) 0 [] :=
  ⟨by simp, .inr ⟨b, 0, #[], rfl, hb, h, Nat.le_refl _, Nat.zero_le _, by simp, by simp⟩⟩

/-- the places of the attributes among the first k -/
def Pl.starts (p : Pl) (k : Nat) : List Int := ((List.range k).filter fun i : Nat => p.st (i : Int)).map fun i : Nat => (i : Int)
theorem starts_succ (p : Pl) (k : Nat) : p.starts (k + 1) = if p.st (k : Int) then p.starts k ++ [(k : Int)] else p.starts k := by
  unfold Pl.starts
  rw [List.range_succ, List.filter_append, List.map_append]
  cases h : p.st (k : Int) <;> simp [h]
theorem starts_len (p : Pl) : ∀ k, (p.starts k).length ≤ k
  | 0 => by simp [Pl.starts]
  | k + 1 => by
    rw [starts_succ]
    have := starts_len p k
    split <;> simp <;> omega

def plV (p : Pl) (x : Nat) : Array Value := #[.int .i64 p.rows, .int .i64 p.cols, .slice (some ⟨x, 0, none⟩) p.cells.length p.cells.length, .int .i64 p.cur]
set_option maxRecDepth 100000 in
set_option maxHeartbeats 4000000 in
theorem Starts_any (x : Nat) (p : Pl) (hn : p.cells.length ≤ 4096) (w : World) (hr : Blk w x 46 (cellRow p.cells)) :
    Calls Try.prog 83 #[.agg #[.int .i64 p.rows, .int .i64 p.cols, .slice (some ⟨x, 0, none⟩) p.cells.length p.cells.length, .int .i64 p.cur]] w (RetI (p.starts p.cells.length) w) := by
  have HR := Lib.hid (fun w' (h : Ext w w') => Blk.below' hr h)
  have HX := Lib.hid (Ext_refl w)
  clear hr
  go_enter Try.func83, Try.ntmps83
  go_wp2
  have q1 := (Blk.new w 29 #[.int .i64 p.rows, .int .i64 p.cols, .slice (some ⟨x, 0, none⟩) p.cells.length p.cells.length, .int .i64 p.cur]).alloc (.cells #[] 3)
  have q2 := Blk.new (w.alloc (.cells #[.int .i64 p.rows, .int .i64 p.cols, .slice (some ⟨x, 0, none⟩) p.cells.length p.cells.length, .int .i64 p.cur] 29)) 3 #[]
  rw [World.size_alloc] at q2
  have HX1 := Lib.hid (show Ext w ((w.alloc (.cells #[.int .i64 p.rows, .int .i64 p.cols, .slice (some ⟨x, 0, none⟩) p.cells.length p.cells.length, .int .i64 p.cur] 29)).alloc (.cells #[] 3)) from Ext_alloc (Ext_alloc (Ext_refl _)))
  have B1 := Lib.hid q1
  have B2 := Lib.hid q2
  clear q1 q2
  go_loopw [3, 4] (fun v3 v4 wr => ∃ k : Nat, k ≤ p.cells.length ∧ v4 = .int .i64 k ∧ Hid (wr.ownsRow w.heap.size 3 1 v3 (p.starts k).length (i64s (p.starts k))) ∧
      Hid (Blk wr w.heap.size 29 #[.int .i64 p.rows, .int .i64 p.cols, .slice (some ⟨x, 0, none⟩) p.cells.length p.cells.length, .int .i64 p.cur]) ∧ Hid (Ext w wr)) (fun _ v _ => p.cells.length - (intOf v).toNat)
  case atStart => exact ⟨0, Nat.zero_le _, rfl, own_new B2.out (by omega), B1.out, HX1.out⟩
  case round =>
    obtain ⟨k, hk, rfl, HO, H1, H2⟩ := hrel
    obtain ⟨A9, c9, rfl⟩ := own_slice HO.out
    have hlk := starts_len p k
    have u2 := H1.out.cell 2
    simp at u2
    by_cases hlt : k < p.cells.length
    · have s2 := row_cell (HR.out _ H2.out) hlt 2 _ rfl
      have HP := Lib.hid (show p.st (k : Int) = (p.cells[k]).st by simp [Pl.st, Pl.at, Pl.n, hlt])
      generalize (p.cells[k]).st = s at *
      have HS := Lib.hid (starts_succ p k)
      cases s
      · go_wp2
        go_roundw
        case rel => exact ⟨k + 1, by omega, by go_num, by rw [HS.out, HP.out]; exact HO.out, H1.out, H2.out⟩
        case measure => simp [intOf]; omega
      · go_wp2_with (at_builtin; refine append_one w.heap.size rfl (.tmp 19) (.tmp 21) 42 3 (.int .i64 0) 1 8 rfl Try.underlying42 infoInt rfl (by decide) (.slice A9 _ c9) _ _ [.int .i64 (k : Int)] HO.out (by rfl) (by rfl) rfl rfl (by rfl) (by omega) (by unfold maxLen; omega) H2.out.size ?_; intro g9 c9 w1 hown hg hge; have HO1 := Lib.hid hown; have HG1 := Lib.hid hg; clear hown hg)
        go_roundw
        case rel => exact ⟨k + 1, by omega, by go_num, by rw [HS.out, HP.out]; simp only [if_true, List.length_append, List.length_singleton, i64s_append]; exact HO1.out, H1.out.grown HG1.out (H1.out.not_row (by decide) HO.out), Below.grown H2.out HG1.out H2.out.size (fun g hg => (own_base HO.out g hg).1)⟩
        case measure => simp [intOf]; omega
    · have : k = p.cells.length := by omega
      subst this
      go_wp2
      go_ret
      exact ⟨_, _, rfl, HO.out, H2.out⟩

theorem own_ne {w : World} {b b' : Nat} {e e' : TypeId} {s s' n n' : Nat} {v v' : Value} {xs xs' : List Value} (h : w.ownsRow b e s v n xs) (h' : w.ownsRow b' e' s' v' n' xs') (hne : e ≠ e') : v.ownBlock = none ∨ v.ownBlock ≠ v'.ownBlock := by
  rcases h.2 with ⟨rfl, _⟩ | ⟨g, cap, cur, rfl, _, hh, _⟩
  · exact .inl rfl
  · refine .inr fun hk => ?_
    rcases h'.2 with ⟨rfl, _⟩ | ⟨g', cap', cur', rfl, _, hh', _⟩
    · simp [Value.ownBlock] at hk
    · have : g = g' := by simpa [Value.ownBlock] using hk
      subst this
      exact hne (Blk.same hh hh').1
/-- the document's fields -/
def Pl.rfld (p : Pl) (i : Nat) : FV :=
  let s := p.starts p.cells.length
  ⟨s.getD i 0, (if i + 1 < s.length then s.getD (i + 1) 0 else s.getD 0 0 + p.n) - s.getD i 0 - 1, (p.at (s.getD i 0)).b % 64⟩
def Pl.rflds (p : Pl) (k : Nat) : List FV := (List.range k).map p.rfld
def FV.enc (x : FV) : List Value := [.int .i64 x.s, .int .i64 x.l, .int .u8 x.a]
def fvs (l : List FV) : List Value := l.flatMap FV.enc
theorem fvs_append (l m : List FV) : fvs (l ++ m) = fvs l ++ fvs m := by simp [fvs]
theorem rflds_succ (p : Pl) (k : Nat) : p.rflds (k + 1) = p.rflds k ++ [p.rfld k] := by unfold Pl.rflds; rw [List.range_succ, List.map_append]; rfl
theorem rflds_len (p : Pl) (k : Nat) : (p.rflds k).length = k := by simp [Pl.rflds]
def RetF (l : List FV) (w : World) (e : Ending) (w' : World) : Prop := ∃ A c, e = .returned (.slice A l.length c) ∧ w'.ownsRow w.heap.size 75 3 (.slice A l.length c) l.length (fvs l) ∧ Ext w w'
theorem starts_bd (p : Pl) (k : Nat) : ∀ x ∈ p.starts k, 0 ≤ x ∧ x < k ∧ p.st x = true := by
  intro x hx
  unfold Pl.starts at hx
  obtain ⟨i, hi, rfl⟩ := List.mem_map.1 hx
  obtain ⟨hi1, hi2⟩ := List.mem_filter.1 hi
  have := List.mem_range.1 hi1
  exact ⟨by omega, by omega, hi2⟩

theorem get_i64s {s : List Int} {k : Nat} (h : k < s.length) : (i64s s)[k]? = some (.int .i64 (s.getD k 0)) := by simp [i64s, h]
theorem getD_mem {s : List Int} {k : Nat} (h : k < s.length) : s.getD k 0 ∈ s := by simp [h]
theorem own_weak {w : World} {B B' : Nat} {e : TypeId} {size n : Nat} {v : Value} {xs : List Value} (h : w.ownsRow B e size v n xs) (hb : B' ≤ B) : w.ownsRow B' e size v n xs := by
  refine ⟨h.1, ?_⟩
  rcases h.2 with h1 | ⟨g, cap, cur, h1, h2, h3⟩
  · exact .inl h1
  · exact .inr ⟨g, cap, cur, h1, Nat.le_trans hb h2, h3⟩
theorem lt_of_cell {W : World} {a : Addr} {v : Value} (h : W.cell? a = some v) : a.block < W.heap.size := by
  by_cases hh : a.block < W.heap.size
  · exact hh
  · exfalso
    unfold World.cell? at h
    rw [Array.getElem?_eq_none (by omega)] at h
    simp at h
theorem grow_cell {W w2 : World} {o : Obj} {row : Option Nat} (hg : (W.alloc o).drew.grownBy w2 row) {a : Addr} {v : Value} (h : W.cell? a = some v) (hne : some a.block ≠ row) : w2.cell? a = some v := by
  refine hg.cell (?_ : (W.alloc o).cell? a = some v) hne
  rw [← h]
  exact World.cell?_alloc_lt W o a (lt_of_cell h)
set_option maxRecDepth 100000 in
set_option maxHeartbeats 4000000 in
theorem All_any (x : Nat) (p : Pl) (hn : p.cells.length ≤ 4096) (hby : ∀ y ∈ p.cells, 0 ≤ y.b ∧ y.b < 256) (w : World) (hr : Blk w x 46 (cellRow p.cells)) :
    Calls Try.prog 64 #[.agg #[.int .i64 p.rows, .int .i64 p.cols, .slice (some ⟨x, 0, none⟩) p.cells.length p.cells.length, .int .i64 p.cur]] w (RetF (p.rflds (p.starts p.cells.length).length) w) := by
  have HR := Lib.hid (fun w' (h : Ext w w') => Blk.below' hr h)
  have HBY := Lib.hid hby
  clear hr hby
  go_enter Try.func64, Try.ntmps64
  go_wp2_with fail
  have q1 := (Blk.new w 29 #[.int .i64 p.rows, .int .i64 p.cols, .slice (some ⟨x, 0, none⟩) p.cells.length p.cells.length, .int .i64 p.cur]).alloc (.cells #[] 75)
  have q2 := Blk.new (w.alloc (.cells #[.int .i64 p.rows, .int .i64 p.cols, .slice (some ⟨x, 0, none⟩) p.cells.length p.cells.length, .int .i64 p.cur] 29)) 75 #[]
  rw [World.size_alloc] at q2
  have hE := (show Ext w ((w.alloc (.cells #[.int .i64 p.rows, .int .i64 p.cols, .slice (some ⟨x, 0, none⟩) p.cells.length p.cells.length, .int .i64 p.cur] 29)).alloc (.cells #[] 75)) from Ext_alloc (Ext_alloc (Ext_refl _)))
  refine (Starts_any x p hn _ (HR.out _ hE)).mono ?_
  rintro e w1 ⟨A, c, rfl, ho, hb⟩
  have HS := Lib.hid ho
  have B1 := Lib.hid (Blk.below' q1 hb)
  have B2 := Lib.hid (Blk.below' q2 hb)
  have HX := Lib.hid (Ext_trans hb hE)
  have hls := starts_len p p.cells.length
  have HBD := Lib.hid (starts_bd p p.cells.length)
  have hbs : w.heap.size + 2 ≤ w1.heap.size := by have := hb.size; simp at this; omega
  clear ho q1 q2 hb hE
  generalize hs : p.starts p.cells.length = s at *
  have HSS := Lib.hid hs
  clear hs
  go_wp2
  go_loopw [3, 5, 6] (fun v3 v5 _ wr => ∃ k : Nat, k ≤ s.length ∧ v5 = .int .i64 k ∧ Hid (wr.ownsRow w.heap.size 75 3 v3 k (fvs (p.rflds k))) ∧
      Hid (Blk wr w.heap.size 29 #[.int .i64 p.rows, .int .i64 p.cols, .slice (some ⟨x, 0, none⟩) p.cells.length p.cells.length, .int .i64 p.cur]) ∧
      Hid (wr.ownsRow w.heap.size 3 1 (.slice A s.length c) s.length (i64s s)) ∧ Hid (Ext w wr)) (fun _ v _ _ => s.length - (intOf v).toNat)
  case atStart => exact ⟨0, Nat.zero_le _, rfl, own_new B2.out (by omega), B1.out, own_weak HS.out (by simp; omega), HX.out⟩
  case round =>
    obtain ⟨k, hk, rfl, HO, H1, H3, H2⟩ := hrel
    obtain ⟨A9, c9, rfl⟩ := own_slice HO.out
    have u2 := H1.out.cell 2
    simp at u2
    by_cases hlt : k < s.length
    · have hF : p.rfld k = ⟨s.getD k 0, (if k + 1 < s.length then s.getD (k + 1) 0 else s.getD 0 0 + p.n) - s.getD k 0 - 1, (p.at (s.getD k 0)).b % 64⟩ := by unfold Pl.rfld; rw [HSS.out]
      obtain ⟨ga, oa, eA, hc⟩ := (Rd.own H3.out).2 (by omega)
      subst eA
      have a0 := hc 0 (.int .i64 (s.getD 0 0)) (get_i64s (by omega))
      have ak := hc k (.int .i64 (s.getD k 0)) (get_i64s hlt)
      have b0 := HBD.out (s.getD 0 0) (getD_mem (by omega))
      have bk := HBD.out (s.getD k 0) (getD_mem hlt)
      by_cases hk1 : k + 1 < s.length
      · have ak1 := hc (k + 1) (.int .i64 (s.getD (k + 1) 0)) (get_i64s hk1)
        have bk1 := HBD.out (s.getD (k + 1) 0) (getD_mem hk1)
        rw [if_pos hk1] at hF
        generalize s.getD 0 0 = s0 at *
        generalize s.getD (k + 1) 0 = sn at *
        generalize s.getD k 0 = sk at *
        obtain ⟨n0, n1, n2⟩ := bk
        obtain ⟨j, rfl⟩ := Int.eq_ofNat_of_zero_le n0
        have hj : j < p.cells.length := by omega
        have r0 := row_cell (HR.out _ H2.out) hj 0 _ rfl
        have hby := HBY.out p.cells[j] (List.getElem_mem hj)
        rw [show p.at (j : Int) = p.cells[j] by simp [Pl.at, Pl.n, hj]] at hF
        generalize (p.cells[j]).b = bb at *
        simp only [Nat.add_zero] at r0 a0
        have HF := Lib.hid hF
        have hs0 := b0.1
        have hs1 := b0.2.1
        have ht0 := bk1.1
        have ht1 := bk1.2.1
        have hk0 : (0 : Int) ≤ k := by omega
        have hk2 : (k : Int) < s.length := by omega
        have hk3 : (k : Int) + 1 < s.length := by omega
        have hk4 : (0 : Int) ≤ (k : Int) + 1 := by omega
        have hj0 : (0 : Int) ≤ (j : Int) := by omega
        have hj1 : (j : Int) < p.cells.length := by omega
        have hl0 : (0 : Int) < s.length := by omega
        have HC := Lib.hid hc
        clear hF b0 bk1 n0 n1 n2 hc
        go_wp2
        go_quiet (fail)
        go_wp2
        have hw1 : IntKind.i64.wrap (sn - (j : Int)) = sn - j := IntWalk.i64_in _ (by omega)
        have hw2 : IntKind.i64.wrap (sn - (j : Int) - 1) = sn - j - 1 := IntWalk.i64_in _ (by omega)
        have W1o : (wr.drewN nq).ownsRow w.heap.size 75 3 (.slice A9 k c9) k (fvs (p.rflds k)) := HO.out
        have W1s : (wr.drewN nq).ownsRow w.heap.size 3 1 (.slice (some ⟨ga, oa, none⟩) s.length c) s.length (i64s s) := H3.out
        have W1b : Blk (wr.drewN nq) w.heap.size 29 #[.int .i64 p.rows, .int .i64 p.cols, .slice (some ⟨x, 0, none⟩) p.cells.length p.cells.length, .int .i64 p.cur] := H1.out
        have W1x : Blk (wr.drewN nq) x 46 (cellRow p.cells) := (show Blk wr x 46 (cellRow p.cells) from HR.out wr H2.out)
        have W1e : Ext w (wr.drewN nq) := Ext_drewN H2.out
        have W1k : (wr.drewN nq).cell? ⟨ga, oa + k, none⟩ = some (.int .i64 (j : Int)) := ak
        have W1r : (wr.drewN nq).cell? ⟨x, j * 5, none⟩ = some (.int .u8 bb) := r0
        have W1u : (wr.drewN nq).cell? ⟨w.heap.size, 2, none⟩ = some (.slice (some ⟨x, 0, none⟩) p.cells.length p.cells.length) := u2
        have hbr : some w.heap.size ≠ (Value.slice A9 k c9).ownBlock := W1b.not_row (by decide) W1o
        have hxr : some x ≠ (Value.slice A9 k c9).ownBlock := W1x.not_row (by decide) W1o
        have hsr := own_ne W1s W1o (by decide)
        have hgs : (Value.slice (some ⟨ga, oa, none⟩) s.length c).ownBlock = some ga := rfl
        have hgr : some ga ≠ (Value.slice A9 k c9).ownBlock := by
          rcases hsr with h | h
          · rw [hgs] at h; cases h
          · rw [hgs] at h; exact h
        clear hsr hgs a0 ak r0 u2 H1 H2 H3 HO
        generalize wr.drewN nq = W1 at *
        have HWO := Lib.hid W1o
        have HWS := Lib.hid W1s
        have HWB := Lib.hid W1b
        have HWX := Lib.hid W1x
        have HWE := Lib.hid W1e
        have HBR := Lib.hid hbr
        have HXR := Lib.hid hxr
        have HGR := Lib.hid hgr
        obtain ⟨i0, hi0, hz0, hz1, hz2⟩ := info_parts infoFld
        clear W1o W1s W1b W1x W1e hbr hxr hgr
        go_region_held3 (fun w' => w'.cell? ⟨w.heap.size, 2, none⟩ = some (.slice (some ⟨x, 0, none⟩) p.cells.length p.cells.length) ∧ w'.cell? ⟨ga, oa + k, none⟩ = some (.int .i64 (j : Int)) ∧ w'.cell? ⟨x, j * 5, none⟩ = some (.int .u8 bb))
          (first | go_keep | exact ⟨m1, m2, m3⟩)
          ((refine step_append_lies _ (by rfl) _ _ _ (by rfl) w.heap.size 75 i0 _ 3 24 Try.underlying100 hi0 hz0 hz1 hz2 rfl (by omega) (.slice A9 k c9) k (fvs (p.rflds k)) (by rfl) ((HWO.out.alloc _).drew)
              ⟨W1.heap.size, 0, none⟩ 1 1 [.int .i64 (j : Int), .int .i64 (sn - j - 1), .int .u8 (bb.tmod 64)] (by rfl) (by rfl) (World.news_of_block (cs := #[.int .i64 (j : Int), .int .i64 (sn - j - 1), .int .u8 (bb.tmod 64)]) (t := 75) (fr := (0, 0)) (heap_alloc_new W1 _)) (by simp [Value.oneCell'])
              (by omega) (by unfold maxLen; omega) (by omega) (by have := HWE.out.size; simp; omega) (W1.heap.size + 1) (by simp) ?_; intro g9 cap w2 hown1 hgrow hat hlt2
            have M1 := Blk.grown (Blk.drew (HWB.out.alloc _)) hgrow HBR.out
            have M2 := Blk.grown (Blk.drew (HWX.out.alloc _)) hgrow HXR.out
            have M3 := World.ownsRow.kept ((HWS.out.alloc _).drew) hgrow (.inr HGR.out)
            have m1 := (M1.cell 2).trans rfl
            have m2 := grow_cell hgrow W1k HGR.out
            have m3 := grow_cell hgrow W1r HXR.out))
        have hmod : bb.tmod 64 = bb % 64 := Int.tmod_eq_emod_of_nonneg (by omega)
        have hfin : w2.ownsRow w.heap.size 75 3 (.slice (some ⟨g9, 0, none⟩) (k + 1) cap) (k + 1) (fvs (p.rflds (k + 1))) := by
          rw [rflds_succ, fvs_append, HF.out]
          have h := hown1
          rw [hmod] at h
          exact h
        have hex : Ext w w2 := Below.grown (Ext_drewN (n := 1) (Ext_alloc HWE.out)) hgrow (by simp; have := HWE.out.size; omega) (fun g hg => (own_base HWO.out g hg).1)
        have HFI := Lib.hid hfin
        have HEX := Lib.hid hex
        have HM1 := Lib.hid M1
        have HM3 := Lib.hid M3
        clear hfin hex M1 M2 M3 hown1 hgrow
        go_wp2
        go_roundw
        case rel => exact ⟨k + 1, by omega, by go_num, HFI.out, HM1.out, HM3.out, HEX.out⟩
        case measure => simp [intOf]; omega
      · rw [if_neg hk1] at hF
        generalize s.getD 0 0 = s0 at *
        generalize s.getD k 0 = sk at *
        obtain ⟨n0, n1, n2⟩ := bk
        obtain ⟨j, rfl⟩ := Int.eq_ofNat_of_zero_le n0
        have hj : j < p.cells.length := by omega
        have r0 := row_cell (HR.out _ H2.out) hj 0 _ rfl
        have hby := HBY.out p.cells[j] (List.getElem_mem hj)
        rw [show p.at (j : Int) = p.cells[j] by simp [Pl.at, Pl.n, hj]] at hF
        generalize (p.cells[j]).b = bb at *
        simp only [Nat.add_zero] at r0 a0
        have HF := Lib.hid hF
        have hs0 := b0.1
        have hs1 := b0.2.1
        have hk0 : (0 : Int) ≤ k := by omega
        have hk2 : (k : Int) < s.length := by omega
        have hk3 : ¬ (k : Int) + 1 < s.length := by omega
        have hw0 : IntKind.i64.wrap (s0 + p.cells.length) = s0 + p.cells.length := IntWalk.i64_in _ (by omega)
        have hk4 : (0 : Int) ≤ (k : Int) + 1 := by omega
        have hj0 : (0 : Int) ≤ (j : Int) := by omega
        have hj1 : (j : Int) < p.cells.length := by omega
        have hl0 : (0 : Int) < s.length := by omega
        have HC := Lib.hid hc
        clear hF b0 n0 n1 n2 hc
        go_wp2
        go_quiet (fail)
        go_wp2
        have hw1 : IntKind.i64.wrap (s0 + p.cells.length - (j : Int)) = s0 + p.cells.length - j := IntWalk.i64_in _ (by omega)
        have hw2 : IntKind.i64.wrap (s0 + p.cells.length - (j : Int) - 1) = s0 + p.cells.length - j - 1 := IntWalk.i64_in _ (by omega)
        have W1o : (wr.drewN nq).ownsRow w.heap.size 75 3 (.slice A9 k c9) k (fvs (p.rflds k)) := HO.out
        have W1s : (wr.drewN nq).ownsRow w.heap.size 3 1 (.slice (some ⟨ga, oa, none⟩) s.length c) s.length (i64s s) := H3.out
        have W1b : Blk (wr.drewN nq) w.heap.size 29 #[.int .i64 p.rows, .int .i64 p.cols, .slice (some ⟨x, 0, none⟩) p.cells.length p.cells.length, .int .i64 p.cur] := H1.out
        have W1x : Blk (wr.drewN nq) x 46 (cellRow p.cells) := (show Blk wr x 46 (cellRow p.cells) from HR.out wr H2.out)
        have W1e : Ext w (wr.drewN nq) := Ext_drewN H2.out
        have W1a : (wr.drewN nq).cell? ⟨ga, oa, none⟩ = some (.int .i64 s0) := a0
        have W1k : (wr.drewN nq).cell? ⟨ga, oa + k, none⟩ = some (.int .i64 (j : Int)) := ak
        have W1r : (wr.drewN nq).cell? ⟨x, j * 5, none⟩ = some (.int .u8 bb) := r0
        have W1u : (wr.drewN nq).cell? ⟨w.heap.size, 2, none⟩ = some (.slice (some ⟨x, 0, none⟩) p.cells.length p.cells.length) := u2
        have hbr : some w.heap.size ≠ (Value.slice A9 k c9).ownBlock := W1b.not_row (by decide) W1o
        have hxr : some x ≠ (Value.slice A9 k c9).ownBlock := W1x.not_row (by decide) W1o
        have hsr := own_ne W1s W1o (by decide)
        have hgs : (Value.slice (some ⟨ga, oa, none⟩) s.length c).ownBlock = some ga := rfl
        have hgr : some ga ≠ (Value.slice A9 k c9).ownBlock := by
          rcases hsr with h | h
          · rw [hgs] at h; cases h
          · rw [hgs] at h; exact h
        clear hsr hgs a0 ak r0 u2 H1 H2 H3 HO
        generalize wr.drewN nq = W1 at *
        have HWO := Lib.hid W1o
        have HWS := Lib.hid W1s
        have HWB := Lib.hid W1b
        have HWX := Lib.hid W1x
        have HWE := Lib.hid W1e
        have HBR := Lib.hid hbr
        have HXR := Lib.hid hxr
        have HGR := Lib.hid hgr
        obtain ⟨i0, hi0, hz0, hz1, hz2⟩ := info_parts infoFld
        clear W1o W1s W1b W1x W1e hbr hxr hgr
        go_region_held3 (fun w' => w'.cell? ⟨w.heap.size, 2, none⟩ = some (.slice (some ⟨x, 0, none⟩) p.cells.length p.cells.length) ∧ w'.cell? ⟨ga, oa + k, none⟩ = some (.int .i64 (j : Int)) ∧ w'.cell? ⟨x, j * 5, none⟩ = some (.int .u8 bb))
          (first | go_keep | exact ⟨m1, m2, m3⟩)
          ((refine step_append_lies _ (by rfl) _ _ _ (by rfl) w.heap.size 75 i0 _ 3 24 Try.underlying100 hi0 hz0 hz1 hz2 rfl (by omega) (.slice A9 k c9) k (fvs (p.rflds k)) (by rfl) ((HWO.out.alloc _).drew)
              ⟨W1.heap.size, 0, none⟩ 1 1 [.int .i64 (j : Int), .int .i64 (s0 + p.cells.length - j - 1), .int .u8 (bb.tmod 64)] (by rfl) (by rfl) (World.news_of_block (cs := #[.int .i64 (j : Int), .int .i64 (s0 + p.cells.length - j - 1), .int .u8 (bb.tmod 64)]) (t := 75) (fr := (0, 0)) (heap_alloc_new W1 _)) (by simp [Value.oneCell'])
              (by omega) (by unfold maxLen; omega) (by omega) (by have := HWE.out.size; simp; omega) (W1.heap.size + 1) (by simp) ?_; intro g9 cap w2 hown1 hgrow hat hlt2
            have M1 := Blk.grown (Blk.drew (HWB.out.alloc _)) hgrow HBR.out
            have M2 := Blk.grown (Blk.drew (HWX.out.alloc _)) hgrow HXR.out
            have M3 := World.ownsRow.kept ((HWS.out.alloc _).drew) hgrow (.inr HGR.out)
            have m1 := (M1.cell 2).trans rfl
            have m2 := grow_cell hgrow W1k HGR.out
            have m3 := grow_cell hgrow W1r HXR.out))
        have hmod : bb.tmod 64 = bb % 64 := Int.tmod_eq_emod_of_nonneg (by omega)
        have hfin : w2.ownsRow w.heap.size 75 3 (.slice (some ⟨g9, 0, none⟩) (k + 1) cap) (k + 1) (fvs (p.rflds (k + 1))) := by
          rw [rflds_succ, fvs_append, HF.out]
          have h := hown1
          rw [hmod] at h
          exact h
        have hex : Ext w w2 := Below.grown (Ext_drewN (n := 1) (Ext_alloc HWE.out)) hgrow (by simp; have := HWE.out.size; omega) (fun g hg => (own_base HWO.out g hg).1)
        have HFI := Lib.hid hfin
        have HEX := Lib.hid hex
        have HM1 := Lib.hid M1
        have HM3 := Lib.hid M3
        clear hfin hex M1 M2 M3 hown1 hgrow
        go_wp2
        go_roundw
        case rel => exact ⟨k + 1, by omega, by go_num, HFI.out, HM1.out, HM3.out, HEX.out⟩
        case measure => simp [intOf]; omega
    · have : k = s.length := by omega
      subst this
      go_wp2
      go_ret
      refine ⟨A9, c9, by rw [rflds_len]; rfl, ?_, H2.out⟩
      rw [rflds_len]; exact HO.out
end Go.Proofs.Ytmldhgebbgalbaa
