/- F1 F2 F3: the texts of these, one behind the other. -/
import Derived.Test.YthkioahpnbahhaaD5v
import Derived.Deep.RegionLaw
import Derived.Deep.QuietTactic
import Derived.BigQuiet
namespace Go.Proofs.Ythkioahpnbahhaa
set_option linter.unusedVariables false
set_option linter.unusedSimpArgs false
open Go.RowKit Go.Proofs.YthkioahpnbahhaaW.PrintWords
structure Mk where
  b : List Int
  long : Bool
def Mk.zero : Mk := ⟨[], false⟩
def Mk.n (m : Mk) (l : List Int) : Nat := min l.length (8192 - m.b.length)
def Mk.add (m : Mk) (l : List Int) : Mk := ⟨m.b ++ l.take (m.n l), m.long || decide (m.n l < l.length)⟩
structure MkAt (W : World) (mb : Nat) (m : Mk) (v : Value) : Prop where
  blk : Blk W mb 26 #[v, .bool m.long]
  row : W.ownsRow 0 5 1 v m.b.length (u8s m.b)
  len : m.b.length ≤ 8192
theorem MkAt.ext {W W1 : World} {mb : Nat} {m : Mk} {v : Value} (h : MkAt W mb m v) (hx : Ext W W1) : MkAt W1 mb m v := ⟨Blk.below' h.blk hx, own_ext5 h.row hx, h.len⟩
theorem MkAt.new (W : World) : MkAt (W.alloc (.cells #[.slice none 0 0, .bool false] 26)) W.heap.size Mk.zero (.slice none 0 0) := ⟨Blk.new _ _ _, own_nil _ _ _ _, by show ([] : List Int).length ≤ _; simp⟩
set_option maxRecDepth 100000 in
set_option maxHeartbeats 2000000 in
theorem Len_any {W : World} {mb : Nat} {m : Mk} {v : Value} (h : MkAt W mb m v) : Calls Try.prog 16 #[.pointer (some ⟨mb, 0, none⟩)] W (fun e w' => e = .returned (.int .i64 m.b.length) ∧ w' = W) := by
  obtain ⟨A, c, hv⟩ := Go.Proofs.YthkioahpnbahhaaW.PrintWords.own_slice h.row
  have a0 := h.blk.cell 0
  rw [hv] at a0
  simp at a0
  have hlt := h.blk.lt
  clear h hv
  go_enter Try.func16, Try.ntmps16
  go_wp2_with fail
  go_ret
  exact ⟨rfl, rfl⟩
set_option maxRecDepth 100000 in
set_option maxHeartbeats 2000000 in
theorem Long_any {W : World} {mb : Nat} {m : Mk} {v : Value} (h : MkAt W mb m v) : Calls Try.prog 17 #[.pointer (some ⟨mb, 0, none⟩)] W (fun e w' => e = .returned (.bool m.long) ∧ w' = W) := by
  have a1 := h.blk.cell 1
  simp at a1
  have hlt := h.blk.lt
  clear h
  go_enter Try.func17, Try.ntmps17
  go_wp2_with fail
  go_ret
  exact ⟨rfl, rfl⟩
theorem MkAt.clear {W : World} {mb : Nat} {m : Mk} {v : Value} (h : MkAt W mb m v) : MkAt ((W.setCell ⟨mb, 0, none⟩ (.slice none 0 0)).setCell ⟨mb, 1, none⟩ (.bool false)) mb Mk.zero (.slice none 0 0) ∧ Mut mb W ((W.setCell ⟨mb, 0, none⟩ (.slice none 0 0)).setCell ⟨mb, 1, none⟩ (.bool false)) :=
  ⟨⟨(h.blk.store 0 (.slice none 0 0)).store 1 (.bool false), own_nil _ _ _ _, by show ([] : List Int).length ≤ _; simp⟩, (Mut_set mb 0 _).trans (Mut_set mb 1 _)⟩
set_option maxRecDepth 100000 in
set_option maxHeartbeats 2000000 in
theorem Drop_any {W : World} {mb : Nat} {m : Mk} {v : Value} (h : MkAt W mb m v) : Calls Try.prog 12 #[.pointer (some ⟨mb, 0, none⟩)] W (fun e w' => e = .returned (.int .i64 m.b.length) ∧ MkAt w' mb Mk.zero (.slice none 0 0) ∧ Mut mb W w') := by
  obtain ⟨A, c, hv⟩ := Go.Proofs.YthkioahpnbahhaaW.PrintWords.own_slice h.row
  have HC := Lib.hid h.clear
  have a0 := h.blk.cell 0
  have a1 := h.blk.cell 1
  have f0 := h.blk.free 0
  have f1 := h.blk.free 1
  rw [hv] at a0
  simp at a0 a1
  have hlt := h.blk.lt
  clear h hv
  go_enter Try.func12, Try.ntmps12
  go_wp2_with fail
  go_ret
  exact ⟨rfl, HC.out.1, HC.out.2⟩
section
variable {P : Program}
theorem step_append_rd {w : World} {ops : Array Oper} {o : Oper} {a : Act} {K : Act → World → Prop} {Q : Exit → Act → World → Prop} {E : Prop} (hgd : o.guard = none) (s x : Operand) (t : TypeId)
    (ho : o.op = .call { callee := .builtin .append, args := #[s, x], argTypes := #[t, t] })
    (e : TypeId) (i : TypeInfo) (z : Value) (size bytes : Nat) (ht : P.underlying t = some (.slice e)) (hi : P.info? e = some i) (hz : i.zero = some z)
    (hsize : i.size = size) (hby : i.bytes = bytes) (hzs : z.cells.size = size) (hsz : 0 < size)
    (v : Value) (n : Nat) (xs : List Value) (hs : a.eval s = v) (hown : w.ownsRow 0 e size v n xs)
    (A : Option Addr) (m c0 : Nat) (news : List Value) (hx : a.eval x = .slice A m c0) (hr : Rd w size A m news) (h1 : ∀ u ∈ news, u.oneCell' = true)
    (h63 : n + m ≤ maxLen) (hbytes : (n + m) * bytes ≤ 140737488355328) (H : Nat) (hH : w.heap.size = H)
    (h : ∀ A' c w', w'.ownsRow 0 e size (.slice A' (n + m) c) (n + m) (xs ++ news) → w.grownBy w' v.ownBlock → ((Value.slice A' (n + m) c).ownBlock = v.ownBlock ∨ (Value.slice A' (n + m) c).ownBlock = some H) → K (a.put o.dst (.slice A' (n + m) c)) w') :
    if Region.wanted o (yielded ops a.tmps) = true then Oper.wp P o a w K Q else E := by
  rw [if_pos (by simp [Region.wanted, hgd])]
  cases A with
  | none =>
    have hm : m = 0 := by
      rcases Nat.eq_zero_or_pos m with h | h
      · exact h
      · obtain ⟨_, _, h2, _⟩ := hr.2 h
        cases h2
    subst hm
    have hn : news = [] := List.eq_nil_of_length_eq_zero (by have := hr.1; omega)
    subst hn
    obtain ⟨B, cap, rfl⟩ := Go.Proofs.YthkioahpnbahhaaW.PrintWords.own_slice hown
    unfold Oper.wp execOp
    simp only [ho, resolve, invoke, builtin, Sem.run_bind, Sem.run_pure, Result.andThen_ok, List.map_toArray, List.map_cons, List.map_nil, hs, hx, run_append_none w t o.type e i ht hi B n cap c0 (own_len_cap hown)]
    exact h B cap w (by rw [List.append_nil]; exact hown) (World.grownBy.refl _ _) (.inl rfl)
  | some ad =>
    have hnews : ∀ j u, news[j]? = some u → w.cell? (ad.add j) = some u := fun j u hu => by
      have hlt : j < m * size := by rw [← hr.1]; exact (List.getElem?_eq_some_iff.1 hu).1
      have hm : 0 < m := by
        rcases Nat.eq_zero_or_pos m with h | h
        · rw [h, Nat.zero_mul] at hlt; omega
        · exact h
      obtain ⟨b, o, h2, h3⟩ := hr.2 hm
      cases h2
      rw [add_at]
      exact h3 j u hu
    obtain ⟨v', w', hr', h2, h3, _, h5⟩ := run_append_own_at (P := P) w 0 t o.type e i z size bytes ht hi hz hsize hby hzs hsz v n xs hown ad m c0 news hr.1 hnews h1 h63 hbytes (Nat.zero_le _)
    unfold Oper.wp execOp
    simp only [ho, resolve, invoke, builtin, Sem.run_bind, Sem.run_pure, Result.andThen_ok, List.map_toArray, List.map_cons, List.map_nil, hs, hx, hr']
    obtain ⟨A', c, rfl⟩ := Go.Proofs.YthkioahpnbahhaaW.PrintWords.own_slice h2
    exact h A' c w' h2 h3 (h5.imp (fun h => h) (fun h => h.trans (by rw [hH])))
end
def AddMP (W : World) (mb : Nat) (m : Mk) (v : Value) (e : Ending) (w : World) : Prop := e = .returned (.tuple #[]) ∧ ∃ v', MkAt w mb m v' ∧ (∀ g, v'.ownBlock = some g → Own W v g) ∧ Turn (Own W v) mb W w
theorem MkAt.vb {W : World} {mb : Nat} {m : Mk} {v : Value} (h : MkAt W mb m v) : v.ownBlock ≠ some mb := own_blk_ne h.row h.blk (by decide)
set_option maxRecDepth 100000 in
set_option maxHeartbeats 4000000 in
theorem addM_any {W : World} {mb : Nat} {m : Mk} {v : Value} (h : MkAt W mb m v) (A : Option Addr) (c : Nat) (l : List Int) (hl : l.length ≤ 100000) (hc : l.length ≤ c) (hr : Rd W 1 A l.length (u8s l)) :
    Calls Try.prog 37 #[.pointer (some ⟨mb, 0, none⟩), .slice A l.length c] W (AddMP W mb (m.add l) v) := by
  obtain ⟨A0, c0, hv⟩ := Go.Proofs.YthkioahpnbahhaaW.PrintWords.own_slice h.row
  obtain ⟨i0, hi, hz0, hz1, hz2⟩ := info_parts info5'
  have hlen := h.len
  have hmn : m.n l ≤ l.length := Nat.min_le_left _ _
  have hmn2 : m.n l ≤ 8192 - m.b.length := Nat.min_le_right _ _
  have hmin : (if (8192 - (m.b.length : Int)) < (l.length : Int) then 8192 - (m.b.length : Int) else (l.length : Int)) = (m.n l : Int) := by
    unfold Mk.n
    by_cases h1 : (8192 - (m.b.length : Int)) < (l.length : Int)
    · rw [if_pos h1]; omega
    · rw [if_neg h1]; omega
  have hw : IntKind.i64.wrap (8192 - (m.b.length : Int)) = 8192 - (m.b.length : Int) := IntWalk.i64_in _ (by omega)
  have hadd : m.add l = ⟨m.b ++ l.take (m.n l), m.long || decide (m.n l < l.length)⟩ := rfl
  have hrk := hr.take (m.n l) hmn
  have hlk : (l.take (m.n l)).length = m.n l := by rw [List.length_take]; omega
  rw [hadd]
  generalize m.n l = r at *
  generalize l.take r = lr at *
  have HRK := Lib.hid hrk
  have HLK := Lib.hid hlk
  have H0 := Lib.hid h
  have HV := Lib.hid hv
  have a0 := h.blk.cell 0
  have a1 := h.blk.cell 1
  have f0 := h.blk.free 0
  rw [hv] at a0
  simp at a0 a1
  have hlt := h.blk.lt
  have hrc : (r : Int) ≤ (c : Int) := by omega
  clear h hr hrk hlk hadd hv
  go_enter Try.func37, Try.ntmps37
  go_upto_region 1 with (fail)
  go_region_law
    ((refine step_append_rd rfl (.tmp 18) (.tmp 21) 24 rfl 5 i0 _ 1 1 Try.underlying24 hi hz0 hz1 hz2 rfl (by decide) v m.b.length (u8s m.b) (by rw [HV.out]; rfl) (by exact (H0.out.ext (Ext_drew (Ext_refl W))).row) A r c (u8s lr) (by rfl) (by exact Rd_ext (Ext_drew (Ext_refl W)) HRK.out) (by intro u hu; obtain ⟨x, _, rfl⟩ := List.mem_map.1 hu; rfl) (by unfold maxLen; omega) (by omega) _ rfl ?_
      intro A1 c1 w1 hq hg hv1
      have HB := Lib.hid ((H0.out.ext (Ext_drew (Ext_refl W))).blk.grown hg (fun e => H0.out.vb e.symm))
      have m0 := HB.out.cell 0
      have m0f := HB.out.free 0
      have m1 := HB.out.cell 1
      have m1f := HB.out.free 1
      have mlt : mb < w1.heap.size := HB.out.lt
      rw [HV.out] at m0
      simp at m0 m1
      have HQ := Lib.hid hq
      have HG := Lib.hid hg
      have HV1 := Lib.hid hv1
      clear hq hg hv1))
  all_goals
    obtain ⟨v1, hv1⟩ : ∃ v1, Value.slice A1 (m.b.length + r) c1 = v1 := ⟨_, rfl⟩
    have hlen2 : (m.b ++ lr).length = m.b.length + r := by rw [List.length_append, HLK.out]
    have hq1 : w1.ownsRow 0 5 1 v1 (m.b ++ lr).length (u8s (m.b ++ lr)) := by
      rw [hlen2, u8s_append, ← hv1]
      exact HQ.out
    have hv1o : v1.ownBlock = v.ownBlock ∨ v1.ownBlock = some W.heap.size := by
      rw [← hv1]
      exact HV1.out
    have hv1b : v1.ownBlock ≠ some mb := fun e => by
      rcases hv1o with h | h
      · exact H0.out.vb (h.symm.trans e)
      · rw [h] at e; injection e with e; omega
    have hfin : ∀ b' : Bool, MkAt ((w1.setCell ⟨mb, 0, none⟩ v1).setCell ⟨mb, 1, none⟩ (.bool b')) mb ⟨m.b ++ lr, b'⟩ v1 ∧ Turn (Own W v) mb W ((w1.setCell ⟨mb, 0, none⟩ v1).setCell ⟨mb, 1, none⟩ (.bool b')) := fun b' => by
      have hM : Mut mb w1 ((w1.setCell ⟨mb, 0, none⟩ v1).setCell ⟨mb, 1, none⟩ (.bool b')) := (Mut_set mb 0 _).trans (Mut_set mb 1 _)
      refine ⟨⟨(HB.out.store 0 v1).store 1 (.bool b'), own_move hq1 (fun k hk => hM.block k (World.ownsRow.lt hq1 k hk).2 (fun e => hv1b (by rw [hk]; exact e))), by show (m.b ++ lr).length ≤ 8192; rw [hlen2]; omega⟩, ?_⟩
      have ht : Turn (Own W v) mb W w1 := Turn.grown (W := W.drew) ⟨rfl, rfl, rfl, Nat.le_refl _, fun _ _ _ _ => rfl⟩ HG.out (fun g hg => .inr (.inr hg))
      exact ht.grown hM (fun g e => by cases e; exact .inl rfl)
    have HF := Lib.hid hfin
    have HO := Lib.hid (show ∀ g, v1.ownBlock = some g → Own W v g from fun g e => by
      rcases hv1o with h | h
      · exact .inr (h.symm.trans e)
      · rw [h] at e; injection e with e; exact .inl (by omega))
    have b1 := (HB.out.store 0 v1).cell 1
    have b1f := (HB.out.store 0 v1).free 1
    have b1l := (HB.out.store 0 v1).lt
    simp at b1
    rw [hv1]
    clear hfin hq1 hv1o hv1b m0 m0f m1 m1f mlt HB HQ HG HV1 H0 a0 a1 f0 hlt hv1
    generalize w1.setCell ⟨mb, 0, none⟩ v1 = w2 at *
    cases hlg : m.long
    · rw [hlg] at b1
      have HLG := Lib.hid hlg
      clear hlg
      go_wp2_with fail
      go_end0
      refine ⟨rfl, v1, ?_, HO.out, (HF.out _).2⟩
      rw [HLG.out, Bool.false_or]
      exact (HF.out _).1
    · rw [hlg] at b1
      have HLG := Lib.hid hlg
      clear hlg
      go_wp2_with fail
      go_end0
      refine ⟨rfl, v1, ?_, HO.out, (HF.out _).2⟩
      rw [HLG.out, Bool.true_or]
      exact (HF.out _).1
def EndP (W : World) (mb : Nat) (m : Mk) (v : Value) (e : Ending) (w' : World) : Prop :=
  e = .returned (.tuple #[if m.long then .slice none 0 0 else v, .bool true, .int .i64 (if m.long then 2 else 0)]) ∧ MkAt w' mb Mk.zero (.slice none 0 0) ∧ w'.ownsRow 0 5 1 v m.b.length (u8s m.b) ∧ Mut mb W w'
set_option maxRecDepth 100000 in
set_option maxHeartbeats 4000000 in
theorem endM_any {W : World} {mb : Nat} {m : Mk} {v : Value} (h : MkAt W mb m v) : Calls Try.prog 38 #[.pointer (some ⟨mb, 0, none⟩)] W (EndP W mb m v) := by
  obtain ⟨A, c, hv⟩ := Go.Proofs.YthkioahpnbahhaaW.PrintWords.own_slice h.row
  have H0 := Lib.hid h
  have a0 := h.blk.cell 0
  have a1 := h.blk.cell 1
  rw [hv] at a0
  simp at a0 a1
  have hlt := h.blk.lt
  have HV := Lib.hid hv
  clear h hv
  go_enter Try.func38, Try.ntmps38
  go_upto_region 1 with (fail)
  go_quiet (fail)
  have H1 := Lib.hid (H0.out.ext (Ext_drewN (n := nq) (Ext_refl W)))
  have hM0 : Mut mb W (W.drewN nq) := (Ext_drewN (Ext_refl W)).mut mb
  generalize W.drewN nq = W1 at *
  have hc := H1.out.clear
  have HC := Lib.hid hc.1
  have HM := Lib.hid (hM0.trans hc.2)
  have HR := Lib.hid (own_move H1.out.row (fun k hk => hc.2.block k (World.ownsRow.lt H1.out.row k hk).2 (fun e => H1.out.vb (by rw [hk]; exact e))))
  have b0 := H1.out.blk.cell 0
  have b1 := H1.out.blk.cell 1
  have f0 := H1.out.blk.free 0
  have f1 := H1.out.blk.free 1
  have hlt1 := H1.out.blk.lt
  rw [HV.out] at b0
  simp at b0 b1
  clear hc hM0 a0 a1 hlt
  cases hlg : m.long
  · rw [hlg] at b1
    have HLG := Lib.hid hlg
    clear hlg
    go_wp2_with fail
    refine bodyPost_ret (v := .tuple #[.slice A m.b.length c, .bool true, .int .i64 0]) (by simp [results, Try.results38, go_sem]) rfl ?_
    refine ⟨?_, HC.out, HR.out, HM.out⟩
    rw [HLG.out, HV.out]
    rfl
  · rw [hlg] at b1
    have HLG := Lib.hid hlg
    clear hlg
    go_wp2_with fail
    refine bodyPost_ret (v := .tuple #[.slice none 0 0, .bool true, .int .i64 2]) (by simp [results, Try.results38, go_sem]) rfl ?_
    refine ⟨?_, HC.out, HR.out, HM.out⟩
    rw [HLG.out]
    rfl
def Nothing : Value := .tuple #[.slice none 0 0, .bool false, .int .i64 0]
set_option maxRecDepth 100000 in
set_option maxHeartbeats 4000000 in
theorem Take_data {W : World} {mb : Nat} {m : Mk} {v : Value} (h : MkAt W mb m v) (co op : Int) (A : Option Addr) (c : Nat) (l : List Int) (hl : l.length ≤ 100000) (hc : l.length ≤ c) (hr : Rd W 1 A l.length (u8s l)) :
    Calls Try.prog 13 #[.pointer (some ⟨mb, 0, none⟩), .agg #[.int .i64 1, .int .u8 co, .int .u8 op, .slice A l.length c]] W (fun e w' => e = .returned Nothing ∧ ∃ v', MkAt w' mb (m.add l) v' ∧ (∀ g, v'.ownBlock = some g → Own W v g) ∧ Turn (Own W v) mb W w') := by
  have H0 := Lib.hid h
  have HR := Lib.hid hr
  clear h hr
  go_enter Try.func13, Try.ntmps13
  go_wp2_with fail
  refine (addM_any (H0.out.ext (Ext_alloc (Ext_refl W))) A c l hl hc (Rd_ext (Ext_alloc (Ext_refl W)) HR.out)).mono ?_
  rintro e w1 ⟨rfl, v1, h1, h2, h3⟩
  have H1 := Lib.hid h1
  have hz : W.heap.size ≤ (W.alloc (.cells #[.int .i64 1, .int .u8 co, .int .u8 op, .slice A l.length c] 28)).heap.size := by simp
  have H2 := Lib.hid (show ∀ g, v1.ownBlock = some g → Own W v g from fun g hg => (h2 g hg).imp (fun h => Nat.le_trans hz h) (fun h => h))
  have H3 : Hid (Turn (Own W v) mb W w1) := Lib.hid ⟨h3.os, h3.tape, h3.output, Nat.le_trans hz h3.size, fun i hi hne ho => (h3.block i (Nat.lt_of_lt_of_le hi hz) hne (fun h => ho (h.imp (fun h => Nat.le_trans hz h) (fun h => h)))).trans ((Ext_alloc (Ext_refl W)).block i hi)⟩
  clear h1 h2 h3 hz
  go_wp2_with fail
  refine bodyPost_ret (v := .tuple #[.slice none 0 0, .bool false, .int .i64 0]) (by simp [results, Try.results13, go_sem]) rfl ?_
  exact ⟨rfl, v1, H1.out, H2.out, H3.out⟩
set_option maxRecDepth 100000 in
set_option maxHeartbeats 4000000 in
theorem Take_end {W : World} {mb : Nat} {m : Mk} {v : Value} (h : MkAt W mb m v) (co op : Int) (A : Option Addr) (c n : Nat) :
    Calls Try.prog 13 #[.pointer (some ⟨mb, 0, none⟩), .agg #[.int .i64 2, .int .u8 co, .int .u8 op, .slice A n c]] W (EndP W mb m v) := by
  have H0 := Lib.hid h
  obtain ⟨A0, c0, hv⟩ := Go.Proofs.YthkioahpnbahhaaW.PrintWords.own_slice h.row
  clear h
  go_enter Try.func13, Try.ntmps13
  go_wp2_with fail
  refine (endM_any (H0.out.ext (Ext_alloc (Ext_refl W)))).mono ?_
  rintro e w1 ⟨rfl, h1, h2, h3⟩
  have H1 := Lib.hid h1
  have H2 := Lib.hid h2
  have H3 := Lib.hid (((Ext_alloc (Ext_refl W)).mut mb).trans h3)
  have HV := Lib.hid hv
  clear h1 h2 h3 hv
  obtain ⟨r, hr⟩ : ∃ r : Value, (if m.long = true then Value.slice none 0 0 else v) = r := ⟨_, rfl⟩
  obtain ⟨q, hq⟩ : ∃ q : Int, (if m.long = true then (2 : Int) else 0) = q := ⟨_, rfl⟩
  have hrs : ∃ A1 n1 c1, r = .slice A1 n1 c1 := by
    rw [← hr, HV.out]
    cases m.long
    · exact ⟨_, _, _, rfl⟩
    · exact ⟨_, _, _, rfl⟩
  obtain ⟨A1, n1, c1, rfl⟩ := hrs
  have HRR := Lib.hid hr
  have HQQ := Lib.hid hq
  rw [hr, hq]
  clear hr hq
  go_wp2_with fail
  refine bodyPost_ret (v := .tuple #[.slice A1 n1 c1, .bool true, .int .i64 q]) (by simp [results, Try.results13, go_sem]) rfl ?_
  exact ⟨by rw [HRR.out, HQQ.out], H1.out, H2.out, H3.out⟩
set_option maxRecDepth 100000 in
set_option maxHeartbeats 4000000 in
theorem Take_other (W : World) (mb : Nat) (k co op : Int) (h1 : k ≠ 1) (h2 : k ≠ 2) (A : Option Addr) (c n : Nat) :
    Calls Try.prog 13 #[.pointer (some ⟨mb, 0, none⟩), .agg #[.int .i64 k, .int .u8 co, .int .u8 op, .slice A n c]] W (fun e w' => e = .returned Nothing ∧ Ext W w') := by
  have b1 : (k == 1) = false := by simpa using h1
  have b2 : (k == 2) = false := by simpa using h2
  clear h1 h2
  go_enter Try.func13, Try.ntmps13
  go_wp2_with fail
  refine bodyPost_ret (v := .tuple #[.slice none 0 0, .bool false, .int .i64 0]) (by simp [results, Try.results13, go_sem]) rfl ?_
  exact ⟨rfl, Ext_alloc (Ext_refl W)⟩
end Go.Proofs.Ythkioahpnbahhaa
