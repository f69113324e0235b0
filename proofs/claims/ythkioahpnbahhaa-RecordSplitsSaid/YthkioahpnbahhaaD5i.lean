/- The document's add. -/
import Derived.Test.YthkioahpnbahhaaD5h
namespace Go.Proofs.Ythkioahpnbahhaa
set_option linter.unusedVariables false
set_option linter.unusedSimpArgs false
open Go.RowKit Go.Proofs.YthkioahpnbahhaaW.PrintWords
section
variable {P : Program}
theorem list_append_at {w : World} {ops : Array Oper} {o : Oper} {a : Act} {rest : List Oper} {Q : Exit → Act → World → Prop} (base : Nat) (hgd : o.guard = none) (s x : Operand) (t : TypeId)
    (ho : o.op = .call { callee := .builtin .append, args := #[s, x], argTypes := #[t, t] })
    (e : TypeId) (i : TypeInfo) (z : Value) (size bytes : Nat) (ht : P.underlying t = some (.slice e)) (hi : P.info? e = some i) (hz : i.zero = some z)
    (hsize : i.size = size) (hby : i.bytes = bytes) (hzs : z.cells.size = size) (hsz : 0 < size)
    (v : Value) (n : Nat) (xs : List Value) (hs : a.eval s = v) (hown : w.ownsRow base e size v n xs)
    (ad : Addr) (m c0 : Nat) (news : List Value) (hx : a.eval x = .slice (some ad) m c0) (hl : news.length = m * size) (hnews : ∀ j u, news[j]? = some u → w.cell? (ad.add j) = some u) (h1 : ∀ u ∈ news, u.oneCell' = true)
    (h63 : n + m ≤ maxLen) (hbytes : (n + m) * bytes ≤ 140737488355328) (hb : base ≤ w.heap.size)
    (h : ∀ A c w', w'.ownsRow base e size (.slice A (n + m) c) (n + m) (xs ++ news) → w.grownBy w' v.ownBlock → wpList P ops Q rest (a.put o.dst (.slice A (n + m) c)) w') :
    wpList P ops Q (o :: rest) a w := by
  refine wpList_plain hgd fun K hK => ?_
  obtain ⟨v', w', hr, h2, h3, _, h5⟩ := run_append_own_at (P := P) w base t o.type e i z size bytes ht hi hz hsize hby hzs hsz v n xs hown ad m c0 news hl hnews h1 h63 hbytes hb
  unfold Oper.wp execOp
  simp only [ho, resolve, invoke, builtin, Sem.run_bind, Sem.run_pure, Result.andThen_ok, List.map_toArray, List.map_cons, List.map_nil, hs, hx, hr]
  obtain ⟨A, c, rfl⟩ := Go.Proofs.YthkioahpnbahhaaW.PrintWords.own_slice h2
  exact hK _ _ (h A c w' h2 h3)
end
/-- the document's events, with all that is theirs, from block b on -/
structure DocAll (b : Nat) (W : World) (vo : Value) (ms : List Em) : Prop where
  out : DocAt b W vo ms
  row : ∀ m ∈ ms, W.ownsRow b 5 1 m.v m.e.bytes.length (u8s m.e.bytes)
theorem DocAll.rd {b : Nat} {W : World} {vo : Value} {ms : List Em} (h : DocAll b W vo ms) : EvR W vo ms :=
  EvR.of_own h.out (fun m hm => ⟨Rd.own (h.row m hm), own_len_cap (h.row m hm)⟩)
theorem own_ext5 {W W1 : World} {b : Nat} {e : TypeId} {s n : Nat} {v : Value} {xs : List Value} (h : W.ownsRow b e s v n xs) (hx : Ext W W1) : W1.ownsRow b e s v n xs := own_move h (fun k hk => hx.block k (World.ownsRow.lt h k hk).2)
theorem DocAll.ext {b : Nat} {W W1 : World} {vo : Value} {ms : List Em} (h : DocAll b W vo ms) (hx : Ext W W1) : DocAll b W1 vo ms :=
  ⟨own_ext5 h.out hx, fun m hm => own_ext5 (h.row m hm) hx⟩
/-- one more event -/
theorem DocAll.add {b : Nat} {W W1 : World} {vo vo' : Value} {ms : List Em} (h : DocAll b W vo ms) (m : Em) (hm : W.ownsRow b 5 1 m.v m.e.bytes.length (u8s m.e.bytes)) (hq : W1.ownsRow b 44 4 vo' (ms.length + 1) (ms.flatMap Em.enc ++ m.enc)) (hg : W.grownBy W1 vo.ownBlock) : DocAll b W1 vo' (ms ++ [m]) := by
  have mv : ∀ a : Em, W.ownsRow b 5 1 a.v a.e.bytes.length (u8s a.e.bytes) → W1.ownsRow b 5 1 a.v a.e.bytes.length (u8s a.e.bytes) := fun a ha =>
    own_move ha (fun k hk => hg.block k (World.ownsRow.lt ha k hk).2 (fun e => own_same ha h.out (by decide) k hk e.symm))
  refine ⟨?_, fun a ha => ?_⟩
  · unfold DocAt
    have e1 : [m].flatMap Em.enc = m.enc := by simp
    rw [List.length_append, List.flatMap_append, e1]
    exact hq
  · rcases List.mem_append.1 ha with ha | ha
    · exact mv a (h.row a ha)
    · rw [List.mem_singleton.1 ha]; exact mv m hm
def AddP (b : Nat) (w : World) (es : List Ev) (e : Ending) (w' : World) : Prop := ∃ v ms, e = .returned v ∧ DocAll b w' v ms ∧ ms.map Em.e = es ∧ Below b w w'
set_option maxRecDepth 100000 in
set_option maxHeartbeats 2000000 in
theorem add_new {b : Nat} {w : World} {vo : Value} {ms : List Em} (h : DocAll b w vo ms) (hb : b ≤ w.heap.size) (c : Int) (A : Option Addr) (cc : Nat) (hm : w.ownsRow b 5 1 (.slice A 1 cc) 1 (u8s [c])) (hd : addD (ms.map Em.e) c = ms.map Em.e ++ [⟨1, 0, 0, [c]⟩]) (hn : ms.length ≤ 100000) (hk : ∀ ms0 m, ms = ms0 ++ [m] → m.e.kind ≠ 1) :
    Calls Try.prog 41 #[vo, .agg #[.int .i64 1, .int .u8 0, .int .u8 0, .slice A 1 cc]] w (AddP b w (addD (ms.map Em.e) c)) := by
  obtain ⟨A0, n, hvo⟩ := Go.Proofs.YthkioahpnbahhaaW.PrintWords.own_slice h.out
  subst hvo
  obtain ⟨i0, hi, hz0, hz1, hz2⟩ := info_parts infoD
  obtain ⟨tg, htg⟩ : ∃ t, addD (ms.map Em.e) c = t := ⟨_, rfl⟩
  rw [htg]
  have HT := Lib.hid (show ms.map Em.e ++ [⟨1, 0, 0, [c]⟩] = tg by rw [← htg, hd])
  have HD := Lib.hid h
  have HM := Lib.hid hm
  clear hm hd h htg
  have hcases : ms = [] ∨ ∃ ms0 m, ms = ms0 ++ [m] := by
    rcases List.eq_nil_or_concat ms with e | ⟨ms0, m, e⟩
    · exact .inl e
    · exact .inr ⟨ms0, m, by rw [e, List.concat_eq_append]⟩
  rcases hcases with rfl | ⟨ms0, m, rfl⟩
  case inl =>
    go_enter Try.func41, Try.ntmps41
    go_upto_region 8 with (fail)
    go_wp2_with
      ((at_builtin; go_must (refine list_append_at b rfl (.tmp 49) (.tmp 51) 42 rfl 44 i0 _ 4 40 Try.underlying42 hi hz0 hz1 hz2 rfl (by decide) (.slice A0 ([] : List Em).length n) ([] : List Em).length (([] : List Em).flatMap Em.enc) (by first | rfl | (rw [hll]; rfl)) (HD.out.ext (Ext_alloc (o := (.cells (Em.mk ⟨1, 0, 0, [c]⟩ A cc).enc.toArray 44)) (Ext_alloc (o := (.cells (Em.mk ⟨1, 0, 0, [c]⟩ A cc).enc.toArray 44)) (Ext_refl w)))).out ⟨w.heap.size + 1, 0, none⟩ 1 1 (Em.mk ⟨1, 0, 0, [c]⟩ A cc).enc (by rfl) rfl (by have hb := World.news_of_block (heap_alloc_new (w.alloc (.cells (Em.mk ⟨1, 0, 0, [c]⟩ A cc).enc.toArray 44)) (.cells (Em.mk ⟨1, 0, 0, [c]⟩ A cc).enc.toArray 44)); rw [show (w.alloc (.cells (Em.mk ⟨1, 0, 0, [c]⟩ A cc).enc.toArray 44)).heap.size = w.heap.size + 1 from by simp] at hb; exact hb) (by intro u hu; simp [Em.enc, Em.v] at hu; rcases hu with rfl | rfl | rfl | rfl <;> rfl) (by unfold maxLen; omega) (by omega) (by simp; omega) ?_)
        intro A1 c1 w1 hq hg
        have HQ := Lib.hid hq
        have HG := Lib.hid hg
        clear hq hg))
    go_ret
    refine ⟨.slice A1 (([] : List Em).length + 1) c1, ([] : List Em) ++ [⟨⟨1, 0, 0, [c]⟩, A, cc⟩], (by first | rfl | (rw [hll]; rfl)), (HD.out.ext (Ext_alloc (o := (.cells (Em.mk ⟨1, 0, 0, [c]⟩ A cc).enc.toArray 44)) (Ext_alloc (o := (.cells (Em.mk ⟨1, 0, 0, [c]⟩ A cc).enc.toArray 44)) (Ext_refl w)))).add ⟨⟨1, 0, 0, [c]⟩, A, cc⟩ (own_ext5 HM.out (Ext_alloc (o := (.cells (Em.mk ⟨1, 0, 0, [c]⟩ A cc).enc.toArray 44)) (Ext_alloc (o := (.cells (Em.mk ⟨1, 0, 0, [c]⟩ A cc).enc.toArray 44)) (Ext_refl w)))) HQ.out HG.out, by rw [← HT.out, List.map_append]; rfl, ?_⟩
    exact (Below.mono (Ext_alloc (o := (.cells (Em.mk ⟨1, 0, 0, [c]⟩ A cc).enc.toArray 44)) (Ext_alloc (o := (.cells (Em.mk ⟨1, 0, 0, [c]⟩ A cc).enc.toArray 44)) (Ext_refl w))) hb).grown HG.out (Nat.le_trans hb ((Ext_alloc (o := (.cells (Em.mk ⟨1, 0, 0, [c]⟩ A cc).enc.toArray 44)) (Ext_alloc (o := (.cells (Em.mk ⟨1, 0, 0, [c]⟩ A cc).enc.toArray 44)) (Ext_refl w))) : Ext w _).size) (fun g hg => (own_base HD.out.out g hg).1)
  case inr =>
    have hmk : (m.e.kind == 1) = false := by simpa using hk ms0 m rfl
    have hvo := World.ownsRow.form HD.out.out (by simp)
    obtain ⟨go, cap, hvo, _, hgl⟩ := hvo
    injection hvo with e1 _ e2
    subst e1 e2
    have hrow := HD.out.out
    unfold DocAt at hrow
    have hll : (ms0 ++ [m]).length = ms0.length + 1 := by simp
    rw [hll] at hrow
    have hfl : (ms0.flatMap Em.enc).length = ms0.length * 4 := flat_length Em.enc 4 (fun _ => rfl) ms0
    have ek : w.cell? ⟨go, ms0.length * 4, none⟩ = some (.int .i64 m.e.kind) := (add_plain go _) ▸ World.ownsRow.cells hrow rfl (ms0.length * 4) (.int .i64 m.e.kind) (by rw [List.flatMap_append, List.getElem?_append_right (by omega), hfl]; simp [Em.enc])
    have hw : IntKind.i64.wrap (ms0.length : Int) = (ms0.length : Int) := IntWalk.i64_in _ (by omega)
    have hb1 : (ms0.length : Int) < (ms0.length : Int) + 1 := by omega
    have hpos : (0 : Int) < (ms0.length : Int) + 1 := by omega
    clear hrow
    go_enter Try.func41, Try.ntmps41
    go_upto_region 8 with (fail)
    go_wp2_with
      ((at_builtin; go_must (refine list_append_at b rfl (.tmp 49) (.tmp 51) 42 rfl 44 i0 _ 4 40 Try.underlying42 hi hz0 hz1 hz2 rfl (by decide) (.slice (some ⟨go, 0, none⟩) (ms0 ++ [m]).length n) (ms0 ++ [m]).length ((ms0 ++ [m]).flatMap Em.enc) (by first | rfl | (rw [hll]; rfl)) (HD.out.ext (Ext_alloc (o := (.cells (Em.mk ⟨1, 0, 0, [c]⟩ A cc).enc.toArray 44)) (Ext_alloc (o := (.cells (Em.mk ⟨1, 0, 0, [c]⟩ A cc).enc.toArray 44)) (Ext_refl w)))).out ⟨w.heap.size + 1, 0, none⟩ 1 1 (Em.mk ⟨1, 0, 0, [c]⟩ A cc).enc (by rfl) rfl (by have hb := World.news_of_block (heap_alloc_new (w.alloc (.cells (Em.mk ⟨1, 0, 0, [c]⟩ A cc).enc.toArray 44)) (.cells (Em.mk ⟨1, 0, 0, [c]⟩ A cc).enc.toArray 44)); rw [show (w.alloc (.cells (Em.mk ⟨1, 0, 0, [c]⟩ A cc).enc.toArray 44)).heap.size = w.heap.size + 1 from by simp] at hb; exact hb) (by intro u hu; simp [Em.enc, Em.v] at hu; rcases hu with rfl | rfl | rfl | rfl <;> rfl) (by unfold maxLen; omega) (by omega) (by simp; omega) ?_)
        intro A1 c1 w1 hq hg
        have HQ := Lib.hid hq
        have HG := Lib.hid hg
        clear hq hg))
    go_ret
    refine ⟨.slice A1 ((ms0 ++ [m]).length + 1) c1, (ms0 ++ [m]) ++ [⟨⟨1, 0, 0, [c]⟩, A, cc⟩], (by first | rfl | (rw [hll]; rfl)), (HD.out.ext (Ext_alloc (o := (.cells (Em.mk ⟨1, 0, 0, [c]⟩ A cc).enc.toArray 44)) (Ext_alloc (o := (.cells (Em.mk ⟨1, 0, 0, [c]⟩ A cc).enc.toArray 44)) (Ext_refl w)))).add ⟨⟨1, 0, 0, [c]⟩, A, cc⟩ (own_ext5 HM.out (Ext_alloc (o := (.cells (Em.mk ⟨1, 0, 0, [c]⟩ A cc).enc.toArray 44)) (Ext_alloc (o := (.cells (Em.mk ⟨1, 0, 0, [c]⟩ A cc).enc.toArray 44)) (Ext_refl w)))) HQ.out HG.out, by rw [← HT.out, List.map_append]; rfl, ?_⟩
    exact (Below.mono (Ext_alloc (o := (.cells (Em.mk ⟨1, 0, 0, [c]⟩ A cc).enc.toArray 44)) (Ext_alloc (o := (.cells (Em.mk ⟨1, 0, 0, [c]⟩ A cc).enc.toArray 44)) (Ext_refl w))) hb).grown HG.out (Nat.le_trans hb ((Ext_alloc (o := (.cells (Em.mk ⟨1, 0, 0, [c]⟩ A cc).enc.toArray 44)) (Ext_alloc (o := (.cells (Em.mk ⟨1, 0, 0, [c]⟩ A cc).enc.toArray 44)) (Ext_refl w))) : Ext w _).size) (fun g hg => (own_base HD.out.out g hg).1)
end Go.Proofs.Ythkioahpnbahhaa
