/- OptionRests: come. -/
import Derived.Test.YtioaenidkieiiaaT6u
import Derived.Deep.RegionHeldLaw
namespace Go.Proofs.Ytioaenidkieiiaa
set_option linter.unusedVariables false
set_option linter.unusedSimpArgs false
open Go.RowKit Go.Shelf Go.Proofs.YtioaenidkieiiaaW.PrintWords

def ComeP (w W : World) (lb : Nat) (b : Bool → Nat) (L : Ln) (v : Bool → Value) (e : Ending) (W' : World) : Prop := e = .returned (.bool true) ∧ (∃ v' ms', LnAt w W' lb b L v' ms') ∧ Kp lb b v W W'
def optW : Option (Int × Nat) → List Int
  | none => []
  | some p => [255, p.1, (p.2 : Int)]
theorem q_form {w : World} {base : Nat} {e : TypeId} {u : Value} {n : Nat} {xs : List Value} (h : QRow w base e 1 u n xs) (hn : 0 < n) : ∃ g off c, u = .slice (some ⟨g, off, none⟩) n c ∧ base ≤ g ∧ n ≤ c ∧ ∀ j x, xs[j]? = some x → w.cell? ⟨g, off + j, none⟩ = some x := by
  rcases h.2 with ⟨h0, _⟩ | ⟨g, off, cap, cur, rfl, hg, hh, hc, _, _, ht⟩
  · omega
  · refine ⟨g, off * 1, cap, rfl, hg, hc, fun j x hx => ?_⟩
    rw [Blk.cell (t := e) (cs := cur) hh]
    rw [← ht, List.getElem?_take] at hx
    split at hx
    · rw [List.getElem?_drop] at hx
      simpa using hx
    · cases hx
set_option maxHeartbeats 1000000 in
theorem send_none (lb : Nat) (k : Int) (A : Option Addr) (c : Nat) (W : World) : Calls Try.prog 25 #[.pointer (some ⟨lb, 0, none⟩), .int .i64 k, .slice A 0 c] W fun e w' => e = .returned (.tuple #[]) ∧ w' = W := by
  go_enter Try.func25, Try.ntmps25
  go_wp2_with fail
  go_end0
  exact ⟨rfl, rfl⟩
section
variable {w W W' : World} {lb : Nat} {b : Bool → Nat} {L : Ln} {v : Bool → Value} {ms : Bool → List Wm}
/-- the first word is off its way -/
theorem LnAt.cut (h : LnAt w W lb b L v ms) (s : Bool) {m : Wm} {rest : List Wm} (hms : ms s = m :: rest) {A : Option Addr} {c : Nat} (hv : v s = .slice A (rest.length + 1) c) {v' : Value} (hv' : v' = .slice (if c = 1 then A else A.map (·.add 1)) rest.length (c - 1)) {W2 : World} (hW2 : W2 = W.setCell ⟨lb, if s then 3 else 2, none⟩ v') :
    LnAt w W2 lb b ⟨L.o, fun s' => if s' = s then rest.map Wm.p else L.q s', L.n⟩ (fun s' => if s' = s then v' else v s') (fun s' => if s' = s then rest else ms s') := by
  have hM : Mut lb W W2 := by rw [hW2]; exact Mut_set lb _ _
  have ho : v'.ownBlock = (v s).ownBlock := by
    rw [hv, hv']
    cases A with
    | none => split <;> rfl
    | some a =>
      split
      · rfl
      · show some (a.add 1).block = some a.block
        rw [add_block]
  have hq := h.row s
  rw [hv, hms] at hq
  have hq' : QRow W w.heap.size 22 1 v' rest.length (rest.map Wm.v) := by
    have := q_drop (k := 1) hq (by simp)
    rw [hv']
    simpa using this
  have hlen : ∀ s', (if s' = s then v' else v s').ownBlock = (v s').ownBlock := by
    intro s'
    split
    · rename_i e; rw [e, ho]
    · rfl
  refine ⟨?_, fun s' => Blk.grown (h.obj s') hM (fun e => h.nl s' (by injection e)), fun s' => ?_, fun s' => ?_, fun s' m' hm' => ?_, ?_, h.nb, h.nl, h.hl, h.hb, Mut_trans hM h.ext h.hl⟩
  · rw [hW2]
    have h1 := h.blk.store (if s then 3 else 2) v'
    cases s <;> simpa using h1
  · try simp only
    split
    · exact q_move hq' (fun k hk => hM.block k (q_lt hq' k hk) (fun e => h.vlb s (by rw [← ho, hk]; exact e)))
    · exact q_move (h.row s') (fun k hk => hM.block k (q_lt (h.row s') k hk) (fun e => h.vlb s' (by rw [hk]; exact e)))
  · try simp only
    split
    · rfl
    · exact h.q s'
  · have hin : m' ∈ ms s' := by
      try simp only at hm'
      split at hm'
      · rename_i e; rw [e, hms]; exact List.mem_cons_of_mem _ hm'
      · exact hm'
    obtain ⟨h1, h2, h3⟩ := h.wd s' m' hin
    exact ⟨h1.grown hM (fun g e => by cases e; exact fun ad ea => (h2 ad ea).1), fun ad ea => ⟨(h2 ad ea).1, (h2 ad ea).2.1, fun s'' => by rw [hlen]; exact (h2 ad ea).2.2 s''⟩, h3⟩
  · intro g
    rw [hlen, hlen]
    exact h.apart g
end

set_option maxRecDepth 100000 in
set_option maxHeartbeats 1000000 in
theorem come_none_false (w W : World) (lb : Nat) (b : Bool → Nat) (L : Ln) (v : Bool → Value) (ms : Bool → List Wm) (h : LnAt w W lb b L v ms) (h0 : L.q false = []) :
    Calls Try.prog 24 #[.pointer (some ⟨lb, 0, none⟩), .int .i64 0] W fun e w' => e = .returned (.bool false) ∧ w' = W := by
  obtain ⟨A, n, hv, hA⟩ : ∃ A c, v false = .slice A (ms false).length c ∧ (ms false).length ≤ c := q_slice (h.row false)
  have hl : (ms false).length = 0 := by rw [← List.length_map (f := Wm.p), h.q, h0]; rfl
  have hlt := h.blk.lt
  have a0 := h.blk.cell 2
  simp at a0
  rw [hv, hl] at a0
  clear h hv hA hl h0
  go_enter Try.func24, Try.ntmps24
  go_wp2_with fail
  go_ret
  exact ⟨rfl, rfl⟩
set_option maxRecDepth 100000 in
set_option maxHeartbeats 4000000 in
theorem come_word_false (w W : World) (lb : Nat) (b : Bool → Nat) (L : Ln) (v : Bool → Value) (ms : Bool → List Wm) (m : Wm) (rest : List Wm) (h : LnAt w W lb b L v ms) (hms : ms false = m :: rest) (hn : ∀ s, (ms s).length ≤ 100000) (hn2 : L.n ≤ 100000) (hx : m.p.2 < 256)
    (o' : Opt) (l : List Int) (hg1 : ((L.o false).got m.p.1 m.p.2).1 = o') (hg2 : ((L.o false).got m.p.1 m.p.2).2 = l) (r : Option (Int × Nat)) (hl : l = optW r) (L' : Ln)
    (hL : L' = ⟨fun s => if s = false then o' else L.o s, fun s => if s = true then L.q s ++ r.toList else if s = false then rest.map Wm.p else L.q s, L.n + r.toList.length⟩) :
    Calls Try.prog 24 #[.pointer (some ⟨lb, 0, none⟩), .int .i64 0] W (ComeP w W lb b L' v) := by
  obtain ⟨g, off, n, hv, hge, hnn, hcl⟩ := q_form (h.row false) (by rw [hms]; simp)
  obtain ⟨hrd, hmo, hmc⟩ := h.wd false m (by rw [hms]; exact List.mem_cons_self)
  obtain ⟨wb, wo, hmA, hwc⟩ := hrd.2 (by decide)
  have hm0 := hcl 0 m.v (by rw [hms]; rfl)
  simp only [Nat.add_zero] at hm0
  have w0 := hwc 0 _ rfl
  have w1 := hwc 1 _ rfl
  have w2 := hwc 2 _ rfl
  simp only [Nat.add_zero] at w0
  have hlt := h.blk.lt
  have a0 := h.blk.cell 0
  have a2 := h.blk.cell 2
  have f2 := h.blk.free 2
  simp at a0 a2
  have HVV := Lib.hid hv
  rw [hv, hms] at a2
  rw [hms, List.length_cons] at hnn
  have hln : rest.length ≤ 100000 := by have := hn false; rw [hms] at this; simp at this; omega
  have hcutl : LnAt w (W.setCell ⟨lb, 2, none⟩ (.slice (if n = 1 then some ⟨g, off, none⟩ else some ⟨g, off + 1, none⟩) rest.length (n - 1))) lb b _ _ _ := h.cut false hms (by rw [hv, hms]; rfl) (v' := .slice (if n = 1 then some ⟨g, off, none⟩ else some ⟨g, off + 1, none⟩) rest.length (n - 1)) rfl rfl
  have hcut : ∀ W' : World, (Instr.slice 52 (.slice (some ⟨g, off, none⟩) (rest.length + 1) n) (some (.int .i64 1)) none none).run Try.prog W' = .ok (.slice (if n = 1 then some ⟨g, off, none⟩ else some ⟨g, off + 1, none⟩) rest.length (n - 1)) W' := by
    intro W'
    have hu : Try.prog.underlying 52 = some (.slice (Try.prog.elem 52)) := by kernel_rfl
    rw [run_slice_l W' 52 _ _ _ hu .i64 1 (by omega) (by omega)]
    have hs : (sizeOf (Try.prog.elem 52)).run Try.prog W' = .ok 1 W' := by kernel_rfl
    rw [hs]
    simp [sliced, Result.andThen, Addr.add]
  have hown : ∀ s, (if s = false then Value.slice (if n = 1 then some ⟨g, off, none⟩ else some ⟨g, off + 1, none⟩) rest.length (n - 1) else v s).ownBlock = (v s).ownBlock := by
    intro s
    split
    · rename_i e
      rw [e, hv]
      split <;> rfl
    · rfl
  generalize (if n = 1 then some (⟨g, off, none⟩ : Addr) else some ⟨g, off + 1, none⟩) = A1 at hcut hcutl hown
  have HOWN := Lib.hid hown
  clear hown
  have HC := Lib.hid hcutl
  have HG1 := Lib.hid hg1
  have HG2 := Lib.hid hg2
  have HL := Lib.hid hl
  have HL' := Lib.hid hL
  have HMO := Lib.hid hmo
  have HN := Lib.hid hn
  have hmv : m.v = .slice (some ⟨wb, wo, none⟩) 3 m.c := by unfold Wm.v; rw [hmA]
  rw [hmv] at hm0
  have hwb1 : wb ≠ lb := (hmo _ hmA).1
  have hwb2 : ∀ s, wb ≠ b s := (hmo _ hmA).2.1
  have hwb3 : ∀ s, some wb ≠ (v s).ownBlock := (hmo _ hmA).2.2
  have HWB2 := Lib.hid hwb2
  have HWB3 := Lib.hid hwb3
  have hbl : b false ≠ lb := h.nl false
  have hbl' : lb ≠ b false := fun e => hbl e.symm
  have hwlt : wb < W.heap.size := World.block_lt_of_cell? W _ w0
  have HMS := Lib.hid hms
  have HH := Lib.hid h
  clear h hms hn hg1 hg2 hl hL hmo hrd hwc hcl hcutl hv hmv hwb2 hwb3 hmA
  go_enter Try.func24, Try.ntmps24
  go_wp2_with fail
  go_region_law (fail)
  all_goals go_wp2_with fail
  have HKP0 : Hid (Kp lb b v W (W.setCell ⟨lb, 2, none⟩ (.slice A1 rest.length (n - 1))).drew) := Lib.hid (fun k _ h1 _ _ => Below.heap_setCell W _ _ k h1)
  have HC1 := Lib.hid (HC.out.step (Ext_drew (Ext_refl _)))
  have hszc0 : W.heap.size ≤ (W.setCell ⟨lb, 2, none⟩ (.slice A1 rest.length (n - 1))).drew.heap.size := by simp
  have HSZ := Lib.hid hszc0
  clear hszc0
  have hwlt1 : wb < (W.setCell ⟨lb, 2, none⟩ (.slice A1 rest.length (n - 1))).drew.heap.size := by simpa using hwlt
  have x1 : (W.setCell ⟨lb, 2, none⟩ (.slice A1 rest.length (n - 1))).drew.cell? ⟨wb, wo + 1, none⟩ = some (.int .u8 m.p.1) := (World.cell?_of_block (Below.heap_setCell W ⟨lb, 2, none⟩ _ wb hwb1)).trans w1
  have x2 : (W.setCell ⟨lb, 2, none⟩ (.slice A1 rest.length (n - 1))).drew.cell? ⟨wb, wo + 2, none⟩ = some (.int .u8 (m.p.2 : Int)) := (World.cell?_of_block (Below.heap_setCell W ⟨lb, 2, none⟩ _ wb hwb1)).trans w2
  clear HC hcut a0 a2 f2 hm0 w0 w1 w2 hlt
  generalize (W.setCell ⟨lb, 2, none⟩ (.slice A1 rest.length (n - 1))).drew = Wc at *
  have x0 : Wc.cell? ⟨lb, 0, none⟩ = some (.pointer (some ⟨b false, 0, none⟩)) := by rw [HC1.out.blk.cell 0]; rfl
  have HC2 : Hid (LnAt w Wc.drew lb b _ _ _) := Lib.hid (HC1.out.step (Ext_drew (Ext_refl Wc)))
  have hszc : W.heap.size ≤ Wc.drew.heap.size := HSZ.out
  cases r with
  | none =>
    obtain rfl : l = [] := HL.out
    go_region_held_law (fun W' => W'.cell? ⟨lb, 0, none⟩ = some (.pointer (some ⟨b false, 0, none⟩)) ∧ W'.cell? ⟨wb, wo + 1, none⟩ = some (.int .u8 m.p.1) ∧ W'.cell? ⟨wb, wo + 2, none⟩ = some (.int .u8 (m.p.2 : Int)))
      (first | go_keep | exact ⟨m0, m1, m2⟩ | exact ⟨x0, x1, x2⟩)
      ((first
       | (go_at_call 14
          refine (Got_lit hx HG1.out HG2.out (HC2.out.obj false)).mono ?_
          rintro e w3 ⟨vv, rfl, hO, hgr, ⟨A9, c9, rfl, hc9, hd, hf⟩⟩
          have HS3 := Lib.hid (HC2.out.side false hgr hO)
          have HK3 : Hid (Kp lb b v W w3) := Lib.hid (fun k hk h1 h2 h3 => (hgr.block k (Nat.lt_of_lt_of_le hk hszc) (fun e => h2 false (by injection e))).trans (HKP0.out k hk h1 h2 h3))
          have m0 : w3.cell? ⟨lb, 0, none⟩ = some (.pointer (some ⟨b false, 0, none⟩)) := by
            rw [HS3.out.blk.cell 0]; rfl
          have m1 : w3.cell? ⟨wb, wo + 1, none⟩ = some (.int .u8 m.p.1) := (World.cell?_of_block (hgr.block wb (by exact hwlt1) (fun e => HWB2.out false (by injection e)))).trans x1
          have m2 : w3.cell? ⟨wb, wo + 2, none⟩ = some (.int .u8 (m.p.2 : Int)) := (World.cell?_of_block (hgr.block wb (by exact hwlt1) (fun e => HWB2.out false (by injection e)))).trans x2
          have HD3 := Lib.hid hd
          have HF3 := Lib.hid hf
          have HC9 := Lib.hid hc9
          have hsz3 : Wc.heap.size ≤ w3.heap.size := hgr.size
          clear hO hgr hd hf hc9)
       | (go_at_call 25
          refine (send_none lb 0 A9 c9 w3).mono ?_
          rintro e w4 ⟨rfl, rfl⟩)))
    go_wp2_with fail
    go_ret
    refine ⟨rfl, ?_, HK3.out⟩
    rw [HL'.out]
    have e : (⟨fun s => if s = false then o' else L.o s, fun s => if s = true then L.q s ++ Option.toList none else if s = false then rest.map Wm.p else L.q s, L.n + (Option.toList (none : Option (Int × Nat))).length⟩ : Ln) = ⟨fun s => if s = false then o' else L.o s, fun s => if s = false then rest.map Wm.p else L.q s, L.n⟩ := by
      congr 1
      funext s
      cases s <;> simp
    rw [e]
    exact ⟨_, _, HS3.out⟩
  | some p =>
    obtain rfl : l = [255, p.1, (p.2 : Int)] := HL.out
    go_region_held_law (fun W' => W'.cell? ⟨lb, 0, none⟩ = some (.pointer (some ⟨b false, 0, none⟩)) ∧ W'.cell? ⟨wb, wo + 1, none⟩ = some (.int .u8 m.p.1) ∧ W'.cell? ⟨wb, wo + 2, none⟩ = some (.int .u8 (m.p.2 : Int)))
      (first | go_keep | exact ⟨n0, n1', n2'⟩ | exact ⟨m0, m1, m2⟩ | exact ⟨x0, x1, x2⟩)
      ((first
       | (go_at_call 14
          refine (Got_lit hx HG1.out HG2.out (HC2.out.obj false)).mono ?_
          rintro e w3 ⟨vv, rfl, hO, hgr, ⟨A9, c9, rfl, hc9, hd, hf⟩⟩
          have HS3 := Lib.hid (HC2.out.side false hgr hO)
          have HK3 : Hid (Kp lb b v W w3) := Lib.hid (fun k hk h1 h2 h3 => (hgr.block k (Nat.lt_of_lt_of_le hk hszc) (fun e => h2 false (by injection e))).trans (HKP0.out k hk h1 h2 h3))
          have m0 : w3.cell? ⟨lb, 0, none⟩ = some (.pointer (some ⟨b false, 0, none⟩)) := by
            rw [HS3.out.blk.cell 0]; rfl
          have m1 : w3.cell? ⟨wb, wo + 1, none⟩ = some (.int .u8 m.p.1) := (World.cell?_of_block (hgr.block wb (by exact hwlt1) (fun e => HWB2.out false (by injection e)))).trans x1
          have m2 : w3.cell? ⟨wb, wo + 2, none⟩ = some (.int .u8 (m.p.2 : Int)) := (World.cell?_of_block (hgr.block wb (by exact hwlt1) (fun e => HWB2.out false (by injection e)))).trans x2
          have HD3 := Lib.hid hd
          have HF3 := Lib.hid hf
          have HC9 := Lib.hid hc9
          have hsz3 : Wc.heap.size ≤ w3.heap.size := hgr.size
          clear hO hgr hd hf hc9)
       | (go_at_call 25
          refine (send_false w w3 lb b _ _ _ ⟨p, A9, c9⟩ HS3.out (by simpa using HN.out true) hn2 HD3.out (fun ad ea => ?_) (by simpa using HC9.out)).mono ?_
          · have hge := HF3.out ad ea
            refine ⟨fun e => ?_, fun s' e => ?_, fun s' e => ?_⟩
            · have := HC1.out.blk.lt; have hge' : Wc.heap.size ≤ ad.block := hge; omega
            · have := (HC1.out.obj s').lt; have hge' : Wc.heap.size ≤ ad.block := hge; omega
            · have := q_lt (HC1.out.row s') ad.block e.symm; have hge' : Wc.heap.size ≤ ad.block := hge; omega
          rintro e w4 ⟨rfl, ⟨v4, ms4, hS4⟩, hK4⟩
          have HK4 : Hid (Kp lb b v W w4) := Lib.hid (fun k hk h1 h2 h3 => (hK4 k (Nat.lt_of_lt_of_le hk (Nat.le_trans hszc hsz3)) h1 h2 (fun s => by rw [HOWN.out]; exact h3 s)).trans (HK3.out k hk h1 h2 h3))
          have HS4 := Lib.hid hS4
          have n0 : w4.cell? ⟨lb, 0, none⟩ = some (.pointer (some ⟨b false, 0, none⟩)) := by rw [HS4.out.blk.cell 0]; rfl
          have hwk : w4.heap[wb]? = w3.heap[wb]? := hK4 wb (Nat.lt_of_lt_of_le hwlt1 hsz3) hwb1 HWB2.out (fun s => by rw [HOWN.out]; exact HWB3.out s)
          have n1' : w4.cell? ⟨wb, wo + 1, none⟩ = some (.int .u8 m.p.1) := (World.cell?_of_block hwk).trans m1
          have n2' : w4.cell? ⟨wb, wo + 2, none⟩ = some (.int .u8 (m.p.2 : Int)) := (World.cell?_of_block hwk).trans m2
          clear hS4 hK4 hwk)))
    go_wp2_with fail
    go_ret
    refine ⟨rfl, ⟨v4, ms4, ?_⟩, HK4.out⟩
    rw [HL'.out]
    have e : (⟨fun s => if s = false then o' else L.o s, fun s => if s = true then L.q s ++ Option.toList (some p) else if s = false then rest.map Wm.p else L.q s, L.n + (Option.toList (some p)).length⟩ : Ln) = ⟨fun s => if s = false then o' else L.o s, fun s => if s = true then (if s = false then rest.map Wm.p else L.q s) ++ [p] else (if s = false then rest.map Wm.p else L.q s), L.n + 1⟩ := by
      congr 1
      funext s
      cases s <;> simp
    rw [e]
    exact HS4.out


set_option maxRecDepth 100000 in
set_option maxHeartbeats 1000000 in
theorem come_none_true (w W : World) (lb : Nat) (b : Bool → Nat) (L : Ln) (v : Bool → Value) (ms : Bool → List Wm) (h : LnAt w W lb b L v ms) (h0 : L.q true = []) :
    Calls Try.prog 24 #[.pointer (some ⟨lb, 0, none⟩), .int .i64 1] W fun e w' => e = .returned (.bool false) ∧ w' = W := by
  obtain ⟨A, n, hv, hA⟩ : ∃ A c, v true = .slice A (ms true).length c ∧ (ms true).length ≤ c := q_slice (h.row true)
  have hl : (ms true).length = 0 := by rw [← List.length_map (f := Wm.p), h.q, h0]; rfl
  have hlt := h.blk.lt
  have a0 := h.blk.cell 3
  simp at a0
  rw [hv, hl] at a0
  clear h hv hA hl h0
  go_enter Try.func24, Try.ntmps24
  go_wp2_with fail
  go_ret
  exact ⟨rfl, rfl⟩
set_option maxRecDepth 100000 in
set_option maxHeartbeats 4000000 in
theorem come_word_true (w W : World) (lb : Nat) (b : Bool → Nat) (L : Ln) (v : Bool → Value) (ms : Bool → List Wm) (m : Wm) (rest : List Wm) (h : LnAt w W lb b L v ms) (hms : ms true = m :: rest) (hn : ∀ s, (ms s).length ≤ 100000) (hn2 : L.n ≤ 100000) (hx : m.p.2 < 256)
    (o' : Opt) (l : List Int) (hg1 : ((L.o true).got m.p.1 m.p.2).1 = o') (hg2 : ((L.o true).got m.p.1 m.p.2).2 = l) (r : Option (Int × Nat)) (hl : l = optW r) (L' : Ln)
    (hL : L' = ⟨fun s => if s = true then o' else L.o s, fun s => if s = false then L.q s ++ r.toList else if s = true then rest.map Wm.p else L.q s, L.n + r.toList.length⟩) :
    Calls Try.prog 24 #[.pointer (some ⟨lb, 0, none⟩), .int .i64 1] W (ComeP w W lb b L' v) := by
  obtain ⟨g, off, n, hv, hge, hnn, hcl⟩ := q_form (h.row true) (by rw [hms]; simp)
  obtain ⟨hrd, hmo, hmc⟩ := h.wd true m (by rw [hms]; exact List.mem_cons_self)
  obtain ⟨wb, wo, hmA, hwc⟩ := hrd.2 (by decide)
  have hm0 := hcl 0 m.v (by rw [hms]; rfl)
  simp only [Nat.add_zero] at hm0
  have w0 := hwc 0 _ rfl
  have w1 := hwc 1 _ rfl
  have w2 := hwc 2 _ rfl
  simp only [Nat.add_zero] at w0
  have hlt := h.blk.lt
  have a0 := h.blk.cell 1
  have a2 := h.blk.cell 3
  have f2 := h.blk.free 3
  simp at a0 a2
  have HVV := Lib.hid hv
  rw [hv, hms] at a2
  rw [hms, List.length_cons] at hnn
  have hln : rest.length ≤ 100000 := by have := hn true; rw [hms] at this; simp at this; omega
  have hcutl : LnAt w (W.setCell ⟨lb, 3, none⟩ (.slice (if n = 1 then some ⟨g, off, none⟩ else some ⟨g, off + 1, none⟩) rest.length (n - 1))) lb b _ _ _ := h.cut true hms (by rw [hv, hms]; rfl) (v' := .slice (if n = 1 then some ⟨g, off, none⟩ else some ⟨g, off + 1, none⟩) rest.length (n - 1)) rfl rfl
  have hcut : ∀ W' : World, (Instr.slice 52 (.slice (some ⟨g, off, none⟩) (rest.length + 1) n) (some (.int .i64 1)) none none).run Try.prog W' = .ok (.slice (if n = 1 then some ⟨g, off, none⟩ else some ⟨g, off + 1, none⟩) rest.length (n - 1)) W' := by
    intro W'
    have hu : Try.prog.underlying 52 = some (.slice (Try.prog.elem 52)) := by kernel_rfl
    rw [run_slice_l W' 52 _ _ _ hu .i64 1 (by omega) (by omega)]
    have hs : (sizeOf (Try.prog.elem 52)).run Try.prog W' = .ok 1 W' := by kernel_rfl
    rw [hs]
    simp [sliced, Result.andThen, Addr.add]
  have hown : ∀ s, (if s = true then Value.slice (if n = 1 then some ⟨g, off, none⟩ else some ⟨g, off + 1, none⟩) rest.length (n - 1) else v s).ownBlock = (v s).ownBlock := by
    intro s
    split
    · rename_i e
      rw [e, hv]
      split <;> rfl
    · rfl
  generalize (if n = 1 then some (⟨g, off, none⟩ : Addr) else some ⟨g, off + 1, none⟩) = A1 at hcut hcutl hown
  have HOWN := Lib.hid hown
  clear hown
  have HC := Lib.hid hcutl
  have HG1 := Lib.hid hg1
  have HG2 := Lib.hid hg2
  have HL := Lib.hid hl
  have HL' := Lib.hid hL
  have HMO := Lib.hid hmo
  have HN := Lib.hid hn
  have hmv : m.v = .slice (some ⟨wb, wo, none⟩) 3 m.c := by unfold Wm.v; rw [hmA]
  rw [hmv] at hm0
  have hwb1 : wb ≠ lb := (hmo _ hmA).1
  have hwb2 : ∀ s, wb ≠ b s := (hmo _ hmA).2.1
  have hwb3 : ∀ s, some wb ≠ (v s).ownBlock := (hmo _ hmA).2.2
  have HWB2 := Lib.hid hwb2
  have HWB3 := Lib.hid hwb3
  have hbl : b true ≠ lb := h.nl true
  have hbl' : lb ≠ b true := fun e => hbl e.symm
  have hwlt : wb < W.heap.size := World.block_lt_of_cell? W _ w0
  have HMS := Lib.hid hms
  have HH := Lib.hid h
  clear h hms hn hg1 hg2 hl hL hmo hrd hwc hcl hcutl hv hmv hwb2 hwb3 hmA
  go_enter Try.func24, Try.ntmps24
  go_wp2_with fail
  go_region_law (fail)
  all_goals go_wp2_with fail
  have HKP0 : Hid (Kp lb b v W (W.setCell ⟨lb, 3, none⟩ (.slice A1 rest.length (n - 1))).drew) := Lib.hid (fun k _ h1 _ _ => Below.heap_setCell W _ _ k h1)
  have HC1 := Lib.hid (HC.out.step (Ext_drew (Ext_refl _)))
  have hszc0 : W.heap.size ≤ (W.setCell ⟨lb, 3, none⟩ (.slice A1 rest.length (n - 1))).drew.heap.size := by simp
  have HSZ := Lib.hid hszc0
  clear hszc0
  have hwlt1 : wb < (W.setCell ⟨lb, 3, none⟩ (.slice A1 rest.length (n - 1))).drew.heap.size := by simpa using hwlt
  have x1 : (W.setCell ⟨lb, 3, none⟩ (.slice A1 rest.length (n - 1))).drew.cell? ⟨wb, wo + 1, none⟩ = some (.int .u8 m.p.1) := (World.cell?_of_block (Below.heap_setCell W ⟨lb, 3, none⟩ _ wb hwb1)).trans w1
  have x2 : (W.setCell ⟨lb, 3, none⟩ (.slice A1 rest.length (n - 1))).drew.cell? ⟨wb, wo + 2, none⟩ = some (.int .u8 (m.p.2 : Int)) := (World.cell?_of_block (Below.heap_setCell W ⟨lb, 3, none⟩ _ wb hwb1)).trans w2
  clear HC hcut a0 a2 f2 hm0 w0 w1 w2 hlt
  generalize (W.setCell ⟨lb, 3, none⟩ (.slice A1 rest.length (n - 1))).drew = Wc at *
  have x0 : Wc.cell? ⟨lb, 1, none⟩ = some (.pointer (some ⟨b true, 0, none⟩)) := by rw [HC1.out.blk.cell 1]; rfl
  have HC2 : Hid (LnAt w Wc.drew lb b _ _ _) := Lib.hid (HC1.out.step (Ext_drew (Ext_refl Wc)))
  have hszc : W.heap.size ≤ Wc.drew.heap.size := HSZ.out
  cases r with
  | none =>
    obtain rfl : l = [] := HL.out
    go_region_held_law (fun W' => W'.cell? ⟨lb, 1, none⟩ = some (.pointer (some ⟨b true, 0, none⟩)) ∧ W'.cell? ⟨wb, wo + 1, none⟩ = some (.int .u8 m.p.1) ∧ W'.cell? ⟨wb, wo + 2, none⟩ = some (.int .u8 (m.p.2 : Int)))
      (first | go_keep | exact ⟨m0, m1, m2⟩ | exact ⟨x0, x1, x2⟩)
      ((first
       | (go_at_call 14
          refine (Got_lit hx HG1.out HG2.out (HC2.out.obj true)).mono ?_
          rintro e w3 ⟨vv, rfl, hO, hgr, ⟨A9, c9, rfl, hc9, hd, hf⟩⟩
          have HS3 := Lib.hid (HC2.out.side true hgr hO)
          have HK3 : Hid (Kp lb b v W w3) := Lib.hid (fun k hk h1 h2 h3 => (hgr.block k (Nat.lt_of_lt_of_le hk hszc) (fun e => h2 true (by injection e))).trans (HKP0.out k hk h1 h2 h3))
          have m0 : w3.cell? ⟨lb, 1, none⟩ = some (.pointer (some ⟨b true, 0, none⟩)) := by
            rw [HS3.out.blk.cell 1]; rfl
          have m1 : w3.cell? ⟨wb, wo + 1, none⟩ = some (.int .u8 m.p.1) := (World.cell?_of_block (hgr.block wb (by exact hwlt1) (fun e => HWB2.out true (by injection e)))).trans x1
          have m2 : w3.cell? ⟨wb, wo + 2, none⟩ = some (.int .u8 (m.p.2 : Int)) := (World.cell?_of_block (hgr.block wb (by exact hwlt1) (fun e => HWB2.out true (by injection e)))).trans x2
          have HD3 := Lib.hid hd
          have HF3 := Lib.hid hf
          have HC9 := Lib.hid hc9
          have hsz3 : Wc.heap.size ≤ w3.heap.size := hgr.size
          clear hO hgr hd hf hc9)
       | (go_at_call 25
          refine (send_none lb 1 A9 c9 w3).mono ?_
          rintro e w4 ⟨rfl, rfl⟩)))
    go_wp2_with fail
    go_ret
    refine ⟨rfl, ?_, HK3.out⟩
    rw [HL'.out]
    have e : (⟨fun s => if s = true then o' else L.o s, fun s => if s = false then L.q s ++ Option.toList none else if s = true then rest.map Wm.p else L.q s, L.n + (Option.toList (none : Option (Int × Nat))).length⟩ : Ln) = ⟨fun s => if s = true then o' else L.o s, fun s => if s = true then rest.map Wm.p else L.q s, L.n⟩ := by
      congr 1
      funext s
      cases s <;> simp
    rw [e]
    exact ⟨_, _, HS3.out⟩
  | some p =>
    obtain rfl : l = [255, p.1, (p.2 : Int)] := HL.out
    go_region_held_law (fun W' => W'.cell? ⟨lb, 1, none⟩ = some (.pointer (some ⟨b true, 0, none⟩)) ∧ W'.cell? ⟨wb, wo + 1, none⟩ = some (.int .u8 m.p.1) ∧ W'.cell? ⟨wb, wo + 2, none⟩ = some (.int .u8 (m.p.2 : Int)))
      (first | go_keep | exact ⟨n0, n1', n2'⟩ | exact ⟨m0, m1, m2⟩ | exact ⟨x0, x1, x2⟩)
      ((first
       | (go_at_call 14
          refine (Got_lit hx HG1.out HG2.out (HC2.out.obj true)).mono ?_
          rintro e w3 ⟨vv, rfl, hO, hgr, ⟨A9, c9, rfl, hc9, hd, hf⟩⟩
          have HS3 := Lib.hid (HC2.out.side true hgr hO)
          have HK3 : Hid (Kp lb b v W w3) := Lib.hid (fun k hk h1 h2 h3 => (hgr.block k (Nat.lt_of_lt_of_le hk hszc) (fun e => h2 true (by injection e))).trans (HKP0.out k hk h1 h2 h3))
          have m0 : w3.cell? ⟨lb, 1, none⟩ = some (.pointer (some ⟨b true, 0, none⟩)) := by
            rw [HS3.out.blk.cell 1]; rfl
          have m1 : w3.cell? ⟨wb, wo + 1, none⟩ = some (.int .u8 m.p.1) := (World.cell?_of_block (hgr.block wb (by exact hwlt1) (fun e => HWB2.out true (by injection e)))).trans x1
          have m2 : w3.cell? ⟨wb, wo + 2, none⟩ = some (.int .u8 (m.p.2 : Int)) := (World.cell?_of_block (hgr.block wb (by exact hwlt1) (fun e => HWB2.out true (by injection e)))).trans x2
          have HD3 := Lib.hid hd
          have HF3 := Lib.hid hf
          have HC9 := Lib.hid hc9
          have hsz3 : Wc.heap.size ≤ w3.heap.size := hgr.size
          clear hO hgr hd hf hc9)
       | (go_at_call 25
          refine (send_true w w3 lb b _ _ _ ⟨p, A9, c9⟩ HS3.out (by simpa using HN.out false) hn2 HD3.out (fun ad ea => ?_) (by simpa using HC9.out)).mono ?_
          · have hge := HF3.out ad ea
            refine ⟨fun e => ?_, fun s' e => ?_, fun s' e => ?_⟩
            · have := HC1.out.blk.lt; have hge' : Wc.heap.size ≤ ad.block := hge; omega
            · have := (HC1.out.obj s').lt; have hge' : Wc.heap.size ≤ ad.block := hge; omega
            · have := q_lt (HC1.out.row s') ad.block e.symm; have hge' : Wc.heap.size ≤ ad.block := hge; omega
          rintro e w4 ⟨rfl, ⟨v4, ms4, hS4⟩, hK4⟩
          have HK4 : Hid (Kp lb b v W w4) := Lib.hid (fun k hk h1 h2 h3 => (hK4 k (Nat.lt_of_lt_of_le hk (Nat.le_trans hszc hsz3)) h1 h2 (fun s => by rw [HOWN.out]; exact h3 s)).trans (HK3.out k hk h1 h2 h3))
          have HS4 := Lib.hid hS4
          have n0 : w4.cell? ⟨lb, 1, none⟩ = some (.pointer (some ⟨b true, 0, none⟩)) := by rw [HS4.out.blk.cell 1]; rfl
          have hwk : w4.heap[wb]? = w3.heap[wb]? := hK4 wb (Nat.lt_of_lt_of_le hwlt1 hsz3) hwb1 HWB2.out (fun s => by rw [HOWN.out]; exact HWB3.out s)
          have n1' : w4.cell? ⟨wb, wo + 1, none⟩ = some (.int .u8 m.p.1) := (World.cell?_of_block hwk).trans m1
          have n2' : w4.cell? ⟨wb, wo + 2, none⟩ = some (.int .u8 (m.p.2 : Int)) := (World.cell?_of_block hwk).trans m2
          clear hS4 hK4 hwk)))
    go_wp2_with fail
    go_ret
    refine ⟨rfl, ⟨v4, ms4, ?_⟩, HK4.out⟩
    rw [HL'.out]
    have e : (⟨fun s => if s = true then o' else L.o s, fun s => if s = false then L.q s ++ Option.toList (some p) else if s = true then rest.map Wm.p else L.q s, L.n + (Option.toList (some p)).length⟩ : Ln) = ⟨fun s => if s = true then o' else L.o s, fun s => if s = false then (if s = true then rest.map Wm.p else L.q s) ++ [p] else (if s = true then rest.map Wm.p else L.q s), L.n + 1⟩ := by
      congr 1
      funext s
      cases s <;> simp
    rw [e]
    exact HS4.out

end Go.Proofs.Ytioaenidkieiiaa
