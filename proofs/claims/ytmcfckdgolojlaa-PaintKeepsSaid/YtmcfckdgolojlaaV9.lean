/- The range over a plane's fields, where the body may turn whether an attribute is modified. -/
import Derived.Test.YtmcfckdgolojlaaV8
namespace Go.Proofs.Ytmcfckdgolojlaa
set_option linter.unusedVariables false
set_option linter.unusedSimpArgs false
open Go.RowKit Go.Shelf
attribute [local go_sem] Oper.semAt_some
theorem modB_idem (b : Int) (h : 0 ≤ b ∧ b < 256) : modB (modB b false) false = modB b false := by
  obtain ⟨k, rfl⟩ := Int.eq_ofNat_of_zero_le h.1
  have hk : k < 256 := by omega
  exact (by decide +kernel : ∀ k : Fin 256, modB (modB (k.val : Int) false) false = modB (k.val : Int) false) ⟨k, hk⟩
theorem modB_prot (b : Int) (h : 0 ≤ b ∧ b < 256) : bitB (Go.bits .and .u8 (modB b false) 63) 32 = bitB (Go.bits .and .u8 b 63) 32 := by
  obtain ⟨k, rfl⟩ := Int.eq_ofNat_of_zero_le h.1
  have hk : k < 256 := by omega
  exact (by decide +kernel : ∀ k : Fin 256, bitB (Go.bits .and .u8 (modB (k.val : Int) false) 63) 32 = bitB (Go.bits .and .u8 (k.val : Int) 63) 32) ⟨k, hk⟩
/-- the same plane, but for attributes that are no more modified -/
structure Tamed (p q : Pl) : Prop where
  rows : q.rows = p.rows
  cols : q.cols = p.cols
  len : q.cells.length = p.cells.length
  cell : ∀ i, q.at i = p.at i ∨ q.at i = (p.at i).mod false
theorem Tamed.refl (p : Pl) : Tamed p p := ⟨rfl, rfl, rfl, fun _ => .inl rfl⟩
theorem Tamed.trans {p q r : Pl} (hp : ∀ y ∈ p.cells, 0 ≤ y.b ∧ y.b < 256) (h : Tamed p q) (k : Tamed q r) : Tamed p r :=
  ⟨k.rows.trans h.rows, k.cols.trans h.cols, k.len.trans h.len, fun i => by
    have hb := at_bdd hp i
    rcases h.cell i with h1 | h1 <;> rcases k.cell i with h2 | h2
    · exact .inl (h2.trans h1)
    · exact .inr (by rw [h2, h1])
    · exact .inr (h2.trans h1)
    · refine .inr ?_
      rw [h2, h1]
      unfold Cel.mod
      simp only
      rw [modB_idem _ hb]⟩
theorem Tamed.st {p q : Pl} (h : Tamed p q) : q.st = p.st := by
  funext i
  unfold Pl.st
  rcases h.cell i with h1 | h1 <;> rw [h1]
  rfl
theorem Tamed.n {p q : Pl} (h : Tamed p q) : q.n = p.n := by unfold Pl.n; rw [h.len]
theorem Tamed.after {p q : Pl} (h : Tamed p q) (i : Int) : q.after i = p.after i := by
  unfold Pl.after Pl.lookM
  rw [h.n, h.st, h.len]
theorem Tamed.lenAt {p q : Pl} (h : Tamed p q) (i : Int) : q.lenAt i = p.lenAt i := by
  unfold Pl.lenAt
  rw [h.after, h.n]
theorem Tamed.prot {p q : Pl} (hp : ∀ y ∈ p.cells, 0 ≤ y.b ∧ y.b < 256) (h : Tamed p q) (i : Int) : bitB (q.attrAt i) 32 = bitB (p.attrAt i) 32 := by
  unfold Pl.attrAt
  rcases h.cell i with h1 | h1 <;> rw [h1]
  exact modB_prot _ (at_bdd hp i)
/-- what is known of a field that comes up -/
def FV.key (x : FV) : Int × Int × Bool := (x.s, x.l, bitB x.a 32)
structure KpS (g c b : Nat) (X Y : World) : Prop where
  size : X.heap.size ≤ Y.heap.size
  same : b < X.heap.size → Y.heap[b]? = X.heap[b]?
  pl : ∀ p, PlAt X g c p → ∃ q, PlAt Y g c q ∧ Tamed p q
theorem KpS.refl (g c b : Nat) (X : World) : KpS g c b X X := ⟨Nat.le_refl _, fun _ => rfl, fun p h => ⟨p, h, Tamed.refl p⟩⟩
theorem KpS.trans {g c b : Nat} {X Y Z : World} (h : KpS g c b X Y) (k : KpS g c b Y Z) : KpS g c b X Z :=
  ⟨Nat.le_trans h.size k.size, fun hl => (k.same (Nat.lt_of_lt_of_le hl h.size)).trans (h.same hl), fun p hp => by
    obtain ⟨q, h1, h2⟩ := h.pl p hp
    obtain ⟨r, k1, k2⟩ := k.pl q h1
    exact ⟨r, k1, Tamed.trans hp.ok.by_ h2 k2⟩⟩
theorem KpS.of_ext {g c b : Nat} {X Y : World} (h : Ext X Y) : KpS g c b X Y := ⟨h.size, fun hl => h.block b hl, fun p hp => ⟨p, hp.ext h, Tamed.refl p⟩⟩
theorem KpS.put {g c b : Nat} {w : World} (hb : b < w.heap.size) (W : World) (l : Nat) (o o' : Obj) (hl : w.heap.size ≤ l) (h : W.heap[l]? = some o) (h1 : o.isCells = false) (h2 : o.isWalk = false) : KpS g c b W (W.putObj l o') := by
  have k := KpP.put (g := g) (c := c) (a := b) (b := b) hb hb W l o o' hl h h1 h2
  have hg := grownBy_putObj' W l o'
  refine ⟨k.size, fun hil => k.same b (.inl rfl) hil, fun p hp => ⟨p, ?_, Tamed.refl p⟩⟩
  obtain ⟨kk, t, hk⟩ := hp
  have ne : ∀ {x : Nat} {t : TypeId} {cs : Array Value}, Blk W x t cs → some x ≠ some l := fun hx e => by
    injection e with e
    subst e
    have h2 := hx
    unfold Blk at h2
    rw [h] at h2
    cases h2
    cases h1
  exact ⟨kk, t, hk.obj.grown hg (ne hk.obj), hk.row.grown hg (ne hk.row), hk.ok⟩
set_option maxRecDepth 100000 in
set_option maxHeartbeats 4000000 in
theorem FAllS_in (n : Nat) (hn : 1 ≤ n) (l B1 g c : Nat) (p : Pl) (J Jx : List FV → World → Prop) (W : World) (hJ : AbidesFrom W.heap.size J)
    (hY : ∀ pre x W, J pre W → pre.length < 4096 → YieldAt Fence.wide (n - 1) Try.prog l #[.agg #[.int .i64 x.s, .int .i64 x.l, .int .u8 x.a]] W fun e W' =>
      (e = .returned (.bool true) ∧ J (pre ++ [x]) W' ∧ KpS g c B1 W W') ∨ (e = .returned (.bool false) ∧ Jx (pre ++ [x]) W'))
    (h1 : Blk W B1 26 #[.pointer (some ⟨g, 0, none⟩)]) (hP : PlAt W g c p) (h0 : J [] W) :
    CallsIn Fence.wide n Try.prog 91 #[.func (.yield l) #[] #[], .pointer (some ⟨B1, 0, none⟩)] W fun e W' => (∃ v, e = .returned v) ∧
      ((∃ xs, xs.map FV.key = (p.flds p.cells.length).map FV.key ∧ J xs W') ∨ (∃ pre, True ∧ Jx pre W')) := by
  have HP := Lib.hid hP
  have HJ := Lib.hid hJ
  have H1 := Lib.hid h1
  have q1 := h1.cell 0
  have hn1 : p.n ≤ 4096 := hP.ok.sz.n1
  have hn2 : p.n = (p.cells.length : Int) := rfl
  have HN := Lib.hid hn2
  have hby := Lib.hid hP.ok.by_
  clear hP hJ hn2 h1
  refine callsIn_of_wp Try.func91 rfl trivial ?_ rfl
  simp only [Try.ntmps91, List.size_toArray, List.length_cons, List.length_nil, Nat.reduceAdd, Nat.reduceSub, Array.replicate_succ, Array.replicate_zero, List.push_toArray, List.append_toArray, List.nil_append, List.cons_append]
  gi_wp2_with (refine ⟨trivial, ?_⟩; gi_at_call 18; refine (callsIn_wide.2 (Len_any g c p _ HP.out)).mono ?_; rintro e wn ⟨rfl, hb⟩; have HX := Lib.hid hb; clear hb)
  gi_loopw [3, 6] (fun _ v wr => ∃ k : Nat, k ≤ p.cells.length ∧ v = .int .i64 k ∧ Hid (∃ pre, J pre wr ∧ pre.map FV.key = (p.flds k).map FV.key) ∧ Hid (KpS g c B1 W wr)) (fun _ v _ => p.cells.length - (intOf v).toNat)
  case atStart => exact ⟨0, by omega, rfl, Lib.hid ⟨[], HJ.out _ _ _ none h0 (grown_below HX.out none) (fun _ e => by cases e), rfl⟩, KpS.of_ext HX.out⟩
  case round =>
    obtain ⟨k, hk, rfl, HJk, HK⟩ := hrel
    obtain ⟨pre, hjp, hkey⟩ := HJk.out
    obtain ⟨q, hq, ht⟩ := HK.out.pl p HP.out
    have HQ := Lib.hid hq
    have HT := Lib.hid ht
    have hB1 := (HK.out.same H1.out.lt).trans H1.out
    have HBk := Lib.hid (show Blk wr B1 26 #[.pointer (some ⟨g, 0, none⟩)] from hB1)
    have q1 := HBk.out.cell 0
    have hlen : pre.length = (p.flds k).length := by have := congrArg List.length hkey; simpa using this
    have HLE := Lib.hid hlen
    have HJP := Lib.hid hjp
    have HKEY := Lib.hid hkey
    have hqn := ht.n
    have HQN := Lib.hid hqn
    have hnn := HN.out
    clear HJk hjp hkey hq ht hB1 hlen hqn
    by_cases hlt : k < p.cells.length
    · have hlt' : (k : Int) < p.n := by omega
      have hltq : (k : Int) < q.n := by have := HQN.out; omega
      cases hst : p.st (k : Int)
      · have HS := Lib.hid (show q.st (k : Int) = false by rw [HT.out.st]; exact hst)
        have HN' := Lib.hid (show p.flds (k + 1) = p.flds k by rw [flds_succ, hst]; rfl)
        clear hst hnn
        gi_wp2_with fail
        refine ⟨trivial, ?_⟩
        refine (callsIn_wide.2 (At_any g c q _ _ HQ.out)).mono ?_
        rintro e wn ⟨rfl, hb⟩
        rw [show (q.at (k : Int)).st = _ from HS.out]
        have HK2 := Lib.hid (HK.out.trans (KpS.of_ext hb))
        have HJ2 := Lib.hid (HJ.out _ _ _ none HJP.out (grown_below hb none) (fun _ e => by cases e))
        clear hb
        have hF := field_st
        gi_wp2
        refine ⟨trivial, ?_⟩
        gi_wp2
        refine ⟨fun _ h => (by cases h), ?_⟩
        gi_wp2
        go_roundw
        case rel => exact ⟨k + 1, by omega, by go_num, Lib.hid ⟨pre, HJ2.out, by rw [HN'.out]; exact HKEY.out⟩, HK2.out⟩
        case measure => simp [intOf]; omega
      · have HS := Lib.hid (show q.st (k : Int) = true by rw [HT.out.st]; exact hst)
        have HN' := Lib.hid (show p.flds (k + 1) = p.flds k ++ [p.fld k] by rw [flds_succ, hst]; rfl)
        clear hst hnn
        gi_wp2_with fail
        refine ⟨trivial, ?_⟩
        refine (callsIn_wide.2 (At_any g c q _ _ HQ.out)).mono ?_
        rintro e wn ⟨rfl, hb⟩
        rw [show (q.at (k : Int)).st = _ from HS.out]
        have HK2 := Lib.hid (HK.out.trans (KpS.of_ext hb))
        have HJ2 := Lib.hid (HJ.out _ _ _ none HJP.out (grown_below hb none) (fun _ e => by cases e))
        have HQ2 := Lib.hid (HQ.out.ext hb)
        have q2 := (HBk.out.below' hb).cell 0
        clear hb
        have hF := field_st
        gi_wp2_with fail
        refine ⟨trivial, ?_⟩
        refine (callsIn_wide.2 (at_any g c q _ (by omega) hltq _ HQ2.out)).mono ?_
        rintro e wn3 ⟨rfl, hb⟩
        have HK3 := Lib.hid (HK2.out.trans (KpS.of_ext hb))
        have HJ3 := Lib.hid (HJ.out _ _ _ none HJ2.out (grown_below hb none) (fun _ e => by cases e))
        clear hb
        obtain ⟨fn, tmps, assign, body, hy, hR⟩ := hY _ (q.fld k) wn3 HJ3.out (by rw [HLE.out]; have := flds_len p k; omega)
        simp only [Pl.fld] at hy
        gi_wp2
        refine hR.mono ?_
        have hky : FV.key (q.fld (k : Int)) = FV.key (p.fld (k : Int)) := by
          unfold FV.key Pl.fld
          simp only
          rw [HT.out.lenAt, HT.out.prot hby.out]
        have HKY := Lib.hid hky
        clear hky
        rintro e W3 (⟨rfl, hJ3, hk⟩ | ⟨rfl, hJx3⟩)
        · gi_wp2
          go_roundw
          case rel => exact ⟨k + 1, by omega, by go_num, Lib.hid ⟨_, hJ3, by rw [HN'.out, List.map_append, List.map_append, HKEY.out, List.map_singleton, List.map_singleton, HKY.out]⟩, HK3.out.trans hk⟩
          case measure => simp [intOf]; omega
        · gi_wp2
          refine bodyPost_ret (results_none rfl _ _ _) rfl ?_
          exact ⟨⟨_, rfl⟩, .inr ⟨_, trivial, hJx3⟩⟩
    · have : k = p.cells.length := by omega
      subst this
      clear hnn
      have hge : ¬ ((p.cells.length : Int) < p.n) := by have := HN.out; omega
      gi_wp2
      go_end0
      exact ⟨⟨_, rfl⟩, .inl ⟨pre, HKEY.out, HJP.out⟩⟩
theorem FAllS_stops (n : Nat) (hn : 1 ≤ n) (B1 g c : Nat) (p : Pl) (w : World) (h1 : Blk w B1 26 #[.pointer (some ⟨g, 0, none⟩)]) (hP : PlAt w g c p) :
    SeqStopsK Fence.wide n Try.prog 91 #[.pointer (some ⟨B1, 0, none⟩)] (fun x : FV => #[.agg #[.int .i64 x.s, .int .i64 x.l, .int .u8 x.a]]) (KpS g c B1) (fun xs => xs.map FV.key = (p.flds p.cells.length).map FV.key) (fun _ => True) 4096 w :=
  fun l J Jx W hW hJ _ hY h0 =>
    FAllS_in n hn l B1 g c p J Jx W hJ hY (Blk.below' h1 hW) (hP.ext hW) h0
end Go.Proofs.Ytmcfckdgolojlaa
