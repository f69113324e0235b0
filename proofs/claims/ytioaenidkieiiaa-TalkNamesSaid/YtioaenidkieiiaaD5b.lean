/- The decoder: emit, data, keep, end. -/
import Derived.Test.YtioaenidkieiiaaD5a
import Derived.Deep.RegionLaw
import Derived.Deep.RegionHeldLaw
import Derived.LoopN
namespace Go.Proofs.Ytioaenidkieiiaa
set_option linter.unusedVariables false
set_option linter.unusedSimpArgs false
open Go.RowKit Go.Proofs.YtioaenidkieiiaaW.PrintWords

theorem infoE : (Try.prog.info? 72).map (fun i => (i.zero, i.size, i.bytes)) = some (some (.agg #[.int .i64 0, .int .u8 0, .int .u8 0, .slice none 0 0]), 4, 40) := by kernel_rfl
theorem info5' : (Try.prog.info? 5).map (fun i => (i.zero, i.size, i.bytes)) = some (some (.int .u8 0), 1, 1) := by kernel_rfl
section
variable {P : Program}
/-- one element is appended to a row of one's own, and where the row lies then: at a step of a region that draws -/
theorem step_append_one {w : World} {ops : Array Oper} {o : Oper} {a : Act} {K : Act → World → Prop} {Q : Exit → Act → World → Prop} {E : Prop} (hgd : o.guard = none) (s x : Operand) (t : TypeId)
    (ho : o.op = .call { callee := .builtin .append, args := #[s, x], argTypes := #[t, t] })
    (e : TypeId) (i : TypeInfo) (z : Value) (size bytes : Nat) (ht : P.underlying t = some (.slice e)) (hi : P.info? e = some i) (hz : i.zero = some z)
    (hsize : i.size = size) (hby : i.bytes = bytes) (hzs : z.cells.size = size) (hsz : 0 < size)
    (v : Value) (n : Nat) (xs : List Value) (hs : a.eval s = v) (hown : w.ownsRow 0 e size v n xs)
    (ad : Addr) (news : List Value) (hx : a.eval x = .slice (some ad) 1 1) (hl : news.length = size) (hnews : ∀ j u, news[j]? = some u → w.cell? (ad.add j) = some u) (h1 : ∀ u ∈ news, u.oneCell' = true)
    (h63 : n + 1 ≤ maxLen) (hbytes : (n + 1) * bytes ≤ 140737488355328) (H : Nat) (hH : w.heap.size = H)
    (h : ∀ A c w', w'.ownsRow 0 e size (.slice A (n + 1) c) (n + 1) (xs ++ news) → w.grownBy w' v.ownBlock → ((Value.slice A (n + 1) c).ownBlock = v.ownBlock ∨ (Value.slice A (n + 1) c).ownBlock = some H) → K (a.put o.dst (.slice A (n + 1) c)) w') :
    if Region.wanted o (yielded ops a.tmps) = true then Oper.wp P o a w K Q else E := by
  rw [if_pos (by simp [Region.wanted, hgd])]
  obtain ⟨v', w', hr, h2, h3, _, h5⟩ := run_append_own_at (P := P) w 0 t o.type e i z size bytes ht hi hz hsize hby hzs hsz v n xs hown ad 1 1 news (by rw [hl, Nat.one_mul]) hnews h1 h63 hbytes (Nat.zero_le _)
  unfold Oper.wp execOp
  simp only [ho, resolve, invoke, builtin, Sem.run_bind, Sem.run_pure, Result.andThen_ok, List.map_toArray, List.map_cons, List.map_nil, hs, hx, hr]
  obtain ⟨A, c, rfl⟩ := Go.Proofs.YtioaenidkieiiaaW.PrintWords.own_slice h2
  exact h A c w' h2 h3 (h5.imp (fun h => h) (fun h => h.trans (by rw [hH])))
theorem list_append_one {w : World} {ops : Array Oper} {o : Oper} {a : Act} {rest : List Oper} {Q : Exit → Act → World → Prop} (hgd : o.guard = none) (s x : Operand) (t : TypeId)
    (ho : o.op = .call { callee := .builtin .append, args := #[s, x], argTypes := #[t, t] })
    (e : TypeId) (i : TypeInfo) (z : Value) (size bytes : Nat) (ht : P.underlying t = some (.slice e)) (hi : P.info? e = some i) (hz : i.zero = some z)
    (hsize : i.size = size) (hby : i.bytes = bytes) (hzs : z.cells.size = size) (hsz : 0 < size)
    (v : Value) (n : Nat) (xs : List Value) (hs : a.eval s = v) (hown : w.ownsRow 0 e size v n xs)
    (ad : Addr) (news : List Value) (hx : a.eval x = .slice (some ad) 1 1) (hl : news.length = size) (hnews : ∀ j u, news[j]? = some u → w.cell? (ad.add j) = some u) (h1 : ∀ u ∈ news, u.oneCell' = true)
    (h63 : n + 1 ≤ maxLen) (hbytes : (n + 1) * bytes ≤ 140737488355328) (H : Nat) (hH : w.heap.size = H)
    (h : ∀ A c w', w'.ownsRow 0 e size (.slice A (n + 1) c) (n + 1) (xs ++ news) → w.grownBy w' v.ownBlock → ((Value.slice A (n + 1) c).ownBlock = v.ownBlock ∨ (Value.slice A (n + 1) c).ownBlock = some H) → wpList P ops Q rest (a.put o.dst (.slice A (n + 1) c)) w') :
    wpList P ops Q (o :: rest) a w := by
  refine wpList_plain hgd fun K hK => ?_
  obtain ⟨v', w', hr, h2, h3, _, h5⟩ := run_append_own_at (P := P) w 0 t o.type e i z size bytes ht hi hz hsize hby hzs hsz v n xs hown ad 1 1 news (by rw [hl, Nat.one_mul]) hnews h1 h63 hbytes (Nat.zero_le _)
  unfold Oper.wp execOp
  simp only [ho, resolve, invoke, builtin, Sem.run_bind, Sem.run_pure, Result.andThen_ok, List.map_toArray, List.map_cons, List.map_nil, hs, hx, hr]
  obtain ⟨A, c, rfl⟩ := Go.Proofs.YtioaenidkieiiaaW.PrintWords.own_slice h2
  exact hK _ _ (h A c w' h2 h3 (h5.imp (fun h => h) (fun h => h.trans (by rw [hH]))))
end
def DecP (W0 : World) (own : Nat → Prop) (db : Nat) (d : Dec) (e : Ending) (W : World) : Prop := e = .returned (.tuple #[]) ∧ ∃ vs vo ms, DecAt W0 own db W d vs vo ms
def Dec.emit (d : Dec) (e : Eo) : Dec := { d with at_ := 0, out := d.out ++ [e] }

set_option maxRecDepth 100000 in
set_option maxHeartbeats 4000000 in
theorem emit_any {W0 W : World} {own : Nat → Prop} {db : Nat} {d : Dec} {vs vo : Value} {ms : List Em} (h : DecAt W0 own db W d vs vo ms) (m : Em) (hn : ms.length ≤ 100000)
    (hr : W.ownsRow 0 5 1 m.v m.e.bytes.length (u8s m.e.bytes)) (hns : ∀ g, m.v.ownBlock = some g → vs.ownBlock ≠ some g ∧ own g ∧ ∀ a ∈ ms, a.v.ownBlock ≠ some g) :
    Calls Try.prog 68 #[.pointer (some ⟨db, 0, none⟩), .agg #[.int .i64 m.e.kind, .int .u8 m.e.code, .int .u8 m.e.opt, .slice m.A m.e.bytes.length m.c]] W (DecP W0 own db (d.emit m.e)) := by
  obtain ⟨A, n, hvo⟩ := Go.Proofs.YtioaenidkieiiaaW.PrintWords.own_slice h.out
  subst hvo
  obtain ⟨i0, hi, hz0, hz1, hz2⟩ := info_parts infoE
  have HNS := Lib.hid hns
  clear hns
  have hlt := h.blk.lt
  have a0 := h.blk.cell 0
  have f0 := h.blk.free 0
  simp [Dec.cells] at a0
  have H0 := Lib.hid h
  have HR0 := Lib.hid hr
  clear h hr
  go_enter Try.func68, Try.ntmps68
  go_wp2_with fail
  have H1 := Lib.hid ((H0.out.put (d' := { d with at_ := 0 }) (Mut_set db 0 (.int .i64 0)) (H0.out.blk.store 0 (.int .i64 0)) (.inl ⟨rfl, rfl⟩) (.inl ⟨rfl, rfl, rfl⟩)).step (Ext_alloc (o := .cells m.enc.toArray 72) (Ext_refl _)))
  have HR1 : Hid (((W.setCell ⟨db, 0, none⟩ (.int .i64 0)).alloc (.cells m.enc.toArray 72)).ownsRow 0 5 1 m.v m.e.bytes.length (u8s m.e.bytes)) := Lib.hid (own_alloc (own_setCell HR0.out (fun e => own_blk_ne HR0.out H0.out.blk (by decide) e.symm) _) _)
  have b0 := heap_alloc_new (W.setCell ⟨db, 0, none⟩ (.int .i64 0)) (.cells m.enc.toArray 72)
  rw [World.size_setCell] at b0
  have hsz1 : ((W.setCell ⟨db, 0, none⟩ (.int .i64 0)).alloc (.cells m.enc.toArray 72)).heap.size = W.heap.size + 1 := by simp
  have hlt1 : db < ((W.setCell ⟨db, 0, none⟩ (.int .i64 0)).alloc (.cells m.enc.toArray 72)).heap.size := by rw [hsz1]; omega
  have hW1 : ((W.setCell ⟨db, 0, none⟩ (.int .i64 0)).alloc (.cells #[.int .i64 m.e.kind, .int .u8 m.e.code, .int .u8 m.e.opt, .slice m.A m.e.bytes.length m.c] 72)) = ((W.setCell ⟨db, 0, none⟩ (.int .i64 0)).alloc (.cells m.enc.toArray 72)) := rfl
  rw [hW1]
  clear H0 HR0 a0 f0 hW1
  generalize ((W.setCell ⟨db, 0, none⟩ (.int .i64 0)).alloc (.cells m.enc.toArray 72)) = W1 at *
  have a5 := H1.out.blk.cell 5
  have f5 := H1.out.blk.free 5
  have BX : Hid (Blk W1 W.heap.size 72 m.enc.toArray) := Lib.hid b0
  have x0 := BX.out.cell 0
  have x1 := BX.out.cell 1
  have x2 := BX.out.cell 2
  have x3 := BX.out.cell 3
  simp [Dec.cells] at a5
  simp [Em.enc, Em.v] at x0 x1 x2 x3
  have hxl : W.heap.size < W1.heap.size := by omega
  clear b0 hsz1
  go_region_law
    ((refine step_append_one rfl (.tmp 11) (.tmp 13) 64 rfl 72 i0 _ 4 40 Try.underlying64 hi hz0 hz1 hz2 rfl (by decide) (.slice A ms.length n) ms.length (ms.flatMap Em.enc) (by rfl) (by exact (H1.out.step (Ext_drew (Ext_alloc (o := .cells m.enc.toArray 72) (Ext_refl W1)))).out) ⟨W1.heap.size, 0, none⟩ m.enc (by rfl) rfl (by exact World.news_of_block (heap_alloc_new W1 (.cells m.enc.toArray 72))) (by intro u hu; simp [Em.enc, Em.v] at hu; rcases hu with rfl | rfl | rfl | rfl <;> rfl) (by unfold maxLen; omega) (by omega) _ rfl ?_
      intro A1 c1 w1 hq hg hv
      have HH := Lib.hid (H1.out.step (Ext_drew (Ext_alloc (o := .cells m.enc.toArray 72) (Ext_refl W1))))
      have HB := Lib.hid (HH.out.blk.grown hg (fun e => HH.out.odb e.symm))
      have m5 := HB.out.cell 5
      have m5f := HB.out.free 5
      have mlt : db < w1.heap.size := HB.out.lt
      simp [Dec.cells] at m5
      have HQ := Lib.hid hq
      have HG := Lib.hid hg
      have HV := Lib.hid hv
      clear hq hg hv))
  all_goals
    go_end0
    refine ⟨rfl, vs, .slice A1 (ms.length + 1) c1, ms ++ [m], ?_⟩
    exact HH.out.emit m HQ.out HG.out HV.out (own_alloc HR1.out _) HNS.out rfl rfl rfl
def Dec.keep (d : Dec) (c : Int) : Dec := if 256 ≤ d.sub.length then { d with at_ := 5, long := true } else { d with at_ := 5, sub := d.sub ++ [c] }
set_option maxRecDepth 100000 in
set_option maxHeartbeats 4000000 in
theorem keep_any {W0 W : World} {own : Nat → Prop} {db : Nat} {d : Dec} {vs vo : Value} {ms : List Em} (h : DecAt W0 own db W d vs vo ms) (c : Int) (hn : d.sub.length ≤ 100000) :
    Calls Try.prog 78 #[.pointer (some ⟨db, 0, none⟩), .int .u8 c] W (DecP W0 own db (d.keep c)) := by
  obtain ⟨A, n, hvs⟩ := Go.Proofs.YtioaenidkieiiaaW.PrintWords.own_slice h.sub
  subst hvs
  obtain ⟨i0, hi, hz0, hz1, hz2⟩ := info_parts info5'
  have hlt := h.blk.lt
  have a0 := h.blk.cell 0
  have f0 := h.blk.free 0
  have a3 := h.blk.cell 3
  have f3 := h.blk.free 3
  have a4 := h.blk.cell 4
  have f4 := h.blk.free 4
  simp [Dec.cells] at a0 a3 a4
  have H0 := Lib.hid h
  clear h
  by_cases hl : 256 ≤ d.sub.length
  · have HK : Hid (d.keep c = { d with at_ := 5, long := true }) := Lib.hid (if_pos hl)
    go_enter Try.func78, Try.ntmps78
    go_wp2_with fail
    go_end0
    rw [HK.out]
    exact ⟨rfl, _, _, _, H0.out.put (d' := { d with at_ := 5, long := true }) ((Mut_set db 0 _).trans (Mut_set db 4 _)) ((H0.out.blk.store 0 (.int .i64 5)).store 4 (.bool true)) (.inl ⟨rfl, rfl⟩) (.inl ⟨rfl, rfl, rfl⟩)⟩
  · have HK : Hid (d.keep c = { d with at_ := 5, sub := d.sub ++ [c] }) := Lib.hid (if_neg hl)
    have H1 := Lib.hid (H0.out.put (d' := { d with at_ := 5 }) (Mut_set db 0 (.int .i64 5)) (H0.out.blk.store 0 (.int .i64 5)) (.inl ⟨rfl, rfl⟩) (.inl ⟨rfl, rfl, rfl⟩))
    have hl2 : d.sub.length < 256 := by omega
    clear hl
    go_enter Try.func78, Try.ntmps78
    go_upto_region 3 with (fail)
    clear H0 a0 f0 a3 f3 a4 f4 hlt
    generalize W.setCell ⟨db, 0, none⟩ (.int .i64 5) = W1 at *
    have a3 := H1.out.blk.cell 3
    have f3 := H1.out.blk.free 3
    have hlt := H1.out.blk.lt
    simp [Dec.cells] at a3
    go_wp2_with ((at_builtin; refine list_append_one rfl (.tmp 20) (.tmp 22) 22 rfl 5 i0 _ 1 1 Try.underlying22 hi hz0 hz1 hz2 rfl (by decide) (.slice A d.sub.length n) d.sub.length (u8s d.sub) (by rfl) (by exact (H1.out.step (Ext_alloc (o := .cells #[.int .u8 c] 5) (Ext_refl W1))).sub) ⟨W1.heap.size, 0, none⟩ [.int .u8 c] (by rfl) rfl (by exact World.news_of_block (heap_alloc_new W1 (.cells #[.int .u8 c] 5))) (by intro u hu; rw [List.mem_singleton.1 hu]; rfl) (by unfold maxLen; omega) (by omega) _ rfl ?_; intro A1 c1 w1 hq hg hv; have HH := Lib.hid (H1.out.step (Ext_alloc (o := .cells #[.int .u8 c] 5) (Ext_refl W1))); have HB := Lib.hid (HH.out.blk.grown hg (fun e => HH.out.sdb e.symm)); have m3 := HB.out.cell 3; have m3f := HB.out.free 3; have mlt : db < w1.heap.size := HB.out.lt; simp [Dec.cells] at m3; have HQ := Lib.hid hq; have HG := Lib.hid hg; have HV := Lib.hid hv; clear hq hg hv))
    go_end0
    rw [HK.out]
    refine ⟨rfl, _, _, _, HH.out.keep (c := c) (by rw [u8s_append]; exact HQ.out) HG.out HV.out rfl⟩

/-- a byte of data behind what was told -/
def addD (out : List Eo) (c : Int) : List Eo := match out.getLast? with
  | some e => if e.kind = 1 then out.dropLast ++ [{ e with bytes := e.bytes ++ [c] }] else out ++ [⟨1, 0, 0, [c]⟩]
  | none => [⟨1, 0, 0, [c]⟩]
def Dec.data (d : Dec) (c : Int) : Dec := { d with at_ := 0, out := addD d.out c }
theorem addD_last (out0 : List Eo) (e : Eo) (c : Int) (h : e.kind = 1) : addD (out0 ++ [e]) c = out0 ++ [{ e with bytes := e.bytes ++ [c] }] := by
  unfold addD
  rw [List.getLast?_append]
  simp [h]
theorem addD_new (out0 : List Eo) (e : Eo) (c : Int) (h : e.kind ≠ 1) : addD (out0 ++ [e]) c = out0 ++ [e] ++ [⟨1, 0, 0, [c]⟩] := by
  unfold addD
  rw [List.getLast?_append]
  simp [h]
set_option maxRecDepth 100000 in
set_option maxHeartbeats 4000000 in
theorem data_last {W0 W : World} {own : Nat → Prop} {db : Nat} {d : Dec} {vs vo : Value} {ms0 : List Em} {m : Em} (h : DecAt W0 own db W d vs vo (ms0 ++ [m])) (c : Int) (hk : m.e.kind = 1) (hn : ms0.length ≤ 100000) (hb : m.e.bytes.length ≤ 100000) :
    Calls Try.prog 75 #[.pointer (some ⟨db, 0, none⟩), .int .u8 c] W (DecP W0 own db (d.data c)) := by
  obtain ⟨go, cap, hvo, _, hgl⟩ := World.ownsRow.form h.out (by simp)
  rw [List.length_append, List.length_singleton] at hvo
  obtain ⟨i0, hi, hz0, hz1, hz2⟩ := info_parts info5'
  have hout : d.out = ms0.map Em.e ++ [m.e] := by rw [← h.evs, List.map_append]; rfl
  have HD : Hid (d.data c = { d with at_ := 0, out := ms0.map Em.e ++ [{ m.e with bytes := m.e.bytes ++ [c] }] }) := Lib.hid (by unfold Dec.data; rw [hout, addD_last _ _ _ hk])
  have HO := Lib.hid hout
  have H1 := Lib.hid (h.put (d' := { d with at_ := 0 }) (Mut_set db 0 (.int .i64 0)) (h.blk.store 0 (.int .i64 0)) (.inl ⟨rfl, rfl⟩) (.inl ⟨rfl, rfl, rfl⟩))
  have HVO := Lib.hid hvo
  have hlt := h.blk.lt
  have a0 := h.blk.cell 0
  have f0 := h.blk.free 0
  simp [Dec.cells] at a0
  clear h hout hvo
  go_enter Try.func75, Try.ntmps75
  go_upto_region 1 with (fail)
  clear a0 f0 hlt
  have hgl1 : go < (W.setCell ⟨db, 0, none⟩ (.int .i64 0)).heap.size := by simpa using hgl
  clear hgl
  generalize W.setCell ⟨db, 0, none⟩ (.int .i64 0) = W1 at *
  have a5 := H1.out.blk.cell 5
  have hlt := H1.out.blk.lt
  simp [Dec.cells] at a5
  rw [HVO.out] at a5
  have hrow := H1.out.out
  rw [HVO.out] at hrow
  have hfl : (ms0.flatMap Em.enc).length = ms0.length * 4 := flat_length Em.enc 4 (fun _ => rfl) ms0
  have ek : W1.cell? ⟨go, ms0.length * 4, none⟩ = some (.int .i64 m.e.kind) := (add_plain go _) ▸ World.ownsRow.cells hrow rfl (ms0.length * 4) (.int .i64 m.e.kind) (by rw [List.flatMap_append, List.getElem?_append_right (by omega), hfl]; simp [Em.enc])
  have eb : W1.cell? ⟨go, ms0.length * 4 + 3, none⟩ = some (.slice m.A m.e.bytes.length m.c) := (add_plain go _) ▸ World.ownsRow.cells hrow rfl (ms0.length * 4 + 3) (.slice m.A m.e.bytes.length m.c) (by rw [List.flatMap_append, List.getElem?_append_right (by omega), hfl, show ms0.length * 4 + 3 - ms0.length * 4 = 3 from by omega]; simp [Em.enc, Em.v])
  have hk2 : (m.e.kind == 1) = true := by rw [hk]; rfl
  have HK := Lib.hid hk
  have hel : ms0.length < (ms0 ++ [m]).length := by simp
  have hll : (ms0 ++ [m]).length = ms0.length + 1 := by simp
  have hw : IntKind.i64.wrap (ms0.length : Int) = (ms0.length : Int) := IntWalk.i64_in _ (by omega)
  have hb1 : (ms0.length : Int) < (ms0.length : Int) + 1 := by omega
  clear hk hel hrow
  go_upto_region 3 with (fail)
  go_region_law
    ((refine step_append_one rfl (.tmp 41) (.tmp 43) 22 rfl 5 i0 _ 1 1 Try.underlying22 hi hz0 hz1 hz2 rfl (by decide) m.v m.e.bytes.length (u8s m.e.bytes) (by rfl) (by exact (H1.out.step (Ext_drew (Ext_alloc (o := .cells #[.int .u8 c] 5) (Ext_refl W1)))).row m (List.mem_append_right _ List.mem_cons_self)) ⟨W1.heap.size, 0, none⟩ [.int .u8 c] (by rfl) rfl (by exact World.news_of_block (heap_alloc_new W1 (.cells #[.int .u8 c] 5))) (by intro u hu; rw [List.mem_singleton.1 hu]; rfl) (by unfold maxLen; omega) (by omega) _ rfl ?_
      intro A1 c1 w1 hq hg hv
      have HH := Lib.hid (H1.out.step (Ext_drew (Ext_alloc (o := .cells #[.int .u8 c] 5) (Ext_refl W1))))
      have hrow1 : w1.ownsRow 0 72 4 (.slice (some ⟨go, 0, none⟩) (ms0.length + 1) cap) (ms0 ++ [m]).length ((ms0 ++ [m]).flatMap Em.enc) := by
        have := own_move HH.out.out (fun k hk => hg.block k (World.ownsRow.lt HH.out.out k hk).2 (fun e => HH.out.mo (List.mem_append_right _ List.mem_cons_self) k e.symm hk))
        rw [HVO.out] at this
        exact this
      have m3 : w1.cell? ⟨go, ms0.length * 4 + 3, none⟩ = some (.slice m.A m.e.bytes.length m.c) := (add_plain go _) ▸ World.ownsRow.cells hrow1 rfl (ms0.length * 4 + 3) (.slice m.A m.e.bytes.length m.c) (by rw [List.flatMap_append, List.getElem?_append_right (by omega), hfl, show ms0.length * 4 + 3 - ms0.length * 4 = 3 from by omega]; simp [Em.enc, Em.v])
      have m3f : w1.frozen? ⟨go, ms0.length * 4 + 3, none⟩ = false := by rw [hll] at hrow1; exact World.ownsRow.frozenAt hrow1 _
      have mlt : go < w1.heap.size := (World.ownsRow.lt hrow1 go rfl).2
      have HB := Lib.hid (HH.out.blk.grown hg (fun e => HH.out.mdb (List.mem_append_right _ List.mem_cons_self) e.symm))
      have m5 := HB.out.cell 5
      have mlt2 : db < w1.heap.size := HB.out.lt
      simp [Dec.cells] at m5
      rw [HVO.out] at m5
      have HQ := Lib.hid hq
      have HG := Lib.hid hg
      have HV := Lib.hid hv
      clear hq hg hv hrow1))
  all_goals
    go_wp2_with fail
    go_end0
    rw [HD.out]
    exact ⟨rfl, _, _, _, HH.out.last (c := c) (by rw [u8s_append]; exact HQ.out) HG.out HV.out HVO.out rfl HO.out⟩
end Go.Proofs.Ytioaenidkieiiaa
