import Derived.Test.YtmcfckdgolojlaaZGA
/- Chapter 16: Paint. -/
namespace Go.Proofs.Ytmcfckdgolojlaa
set_option linter.unusedVariables false
set_option linter.unusedSimpArgs false
open Go.RowKit
/-- an order, and where its rows lie -/
structure OrdV where
  o : Ord
  A : Option Addr
  cA : Nat
  B : Option Addr
  cB : Nat
def OrdV.enc (x : OrdV) : List Value := [.int .u8 x.o.k, .int .i64 x.o.a, .int .u8 x.o.b, .bool x.o.ge, .slice x.A x.o.ps.length x.cA, .slice x.B x.o.da.length x.cB]
theorem OrdV.len (x : OrdV) : x.enc.length = 6 := rfl
/-- a row of orders, as it lies in memory; nothing of it in the blocks l -/
structure OsAt (l : List Nat) (w : World) (A : Option Addr) (xs : List OrdV) : Prop where
  row : Rd w 6 A xs.length (xs.flatMap OrdV.enc)
  ln : xs.length ≤ maxLen
  off : ∀ i, i ∈ l → 0 < xs.length → Off i A
  each : ∀ x ∈ xs, OrAt l w x.A x.B x.o
theorem OsAt.ext {l : List Nat} {w w' : World} {A : Option Addr} {xs : List OrdV} (h : OsAt l w A xs) (hx : Ext w w') : OsAt l w' A xs := ⟨Rd_ext hx h.row, h.ln, h.off, fun x m => (h.each x m).ext hx⟩
theorem OsAt.chg {l : List Nat} {w w' : World} {A : Option Addr} {xs : List OrdV} (h : OsAt l w A xs) (hx : Chg l w w') : OsAt l w' A xs := ⟨h.row.chgn hx h.off, h.ln, h.off, fun x m => (h.each x m).chg hx⟩
theorem Rd.lt_ {w : World} {sz n : Nat} {A : Option Addr} {cs : List Value} (h : Rd w sz A n cs) (hs : 0 < sz) (hn : 0 < n) : ∀ ad, A = some ad → ad.block < w.heap.size := by
  intro ad e
  obtain ⟨b, o, e', hc⟩ := h.2 hn
  rw [e] at e'
  cases e'
  have hl : 0 < cs.length := by rw [h.1]; exact Nat.mul_pos hn hs
  have := hc 0 cs[0] (List.getElem?_eq_getElem hl)
  exact block_lt_of_cell this
theorem OrAt.more {l m : List Nat} {w : World} {A B : Option Addr} {o : Ord} (h : OrAt l w A B o) (hm : ∀ i, i ∈ m → i ∈ l ∨ w.heap.size ≤ i) : OrAt m w A B o :=
  ⟨h.ps, h.da, h.pl, h.dl, h.bb, h.pb, h.db, fun i hi hn => (hm i hi).elim (fun x => h.offA i x hn) (fun x ad e => by have := h.ps.lt_ (by omega) hn ad e; omega),
   fun i hi hn => (hm i hi).elim (fun x => h.offB i x hn) (fun x ad e => by have := h.da.lt_ (by omega) hn ad e; omega)⟩
theorem OsAt.more {l m : List Nat} {w : World} {A : Option Addr} {xs : List OrdV} (h : OsAt l w A xs) (hm : ∀ i, i ∈ m → i ∈ l ∨ w.heap.size ≤ i) : OsAt m w A xs :=
  ⟨h.row, h.ln, fun i hi hn => (hm i hi).elim (fun x => h.off i x hn) (fun x ad e => by have := h.row.lt_ (by omega) hn ad e; omega), fun x mx => (h.each x mx).more hm⟩
/-- what a row of orders does to a brush: the brush, how many were done, the error's number -/
def Br.run (b : Br) : List Ord → Br × Nat × Int
  | [] => (b, 0, 0)
  | o :: os => if (b.do o).2 = 0 then (((b.do o).1.run os).1, ((b.do o).1.run os).2.1 + 1, ((b.do o).1.run os).2.2) else ((b.do o).1, 0, (b.do o).2)
def Br.at0 (p : Pl) (from_ : Int) : Br := ⟨p, from_, Cel.zero, false⟩
def Paint3 (r : Br × Nat × Int) : Value := .tuple #[.int .i64 r.1.at_, .int .i64 r.2.1, .int .i64 r.2.2]
set_option maxRecDepth 100000 in
set_option maxHeartbeats 4000000 in
theorem Paint_bad (g c : Nat) (p : Pl) (A : Option Addr) (d n : Nat) (from_ : Int) (hf : ¬ (0 ≤ from_ ∧ from_ < p.n)) (w : World) (h : PlAt w g c p) : Calls Try.prog 46 #[.pointer (some ⟨g, 0, none⟩), .slice A n d, .int .i64 from_] w (Ret (.tuple #[.int .i64 0, .int .i64 0, .int .i64 32]) w) := by
  have H := Lib.hid h
  clear h
  by_cases h0 : from_ < 0
  · go_enter Try.func46, Try.ntmps46
    go_wp2
    refine bodyPost_ret (v := .tuple #[.int .i64 0, .int .i64 0, .int .i64 32]) (by simp [results, Try.results46, go_sem]) rfl ?_
    exact ⟨rfl, Ext_refl _⟩
  · have h1 : p.n ≤ from_ := by
      by_cases h2 : from_ < p.n
      · exact absurd ⟨by omega, h2⟩ hf
      · omega
    go_enter Try.func46, Try.ntmps46
    go_wp2_with fail
    refine (LenQ_any g c p _ H.out).mono ?_
    rintro e w2 ⟨rfl, rfl⟩
    go_wp2
    refine bodyPost_ret (v := .tuple #[.int .i64 0, .int .i64 0, .int .i64 32]) (by simp [results, Try.results46, go_sem]) rfl ?_
    exact ⟨rfl, Ext_refl _⟩
set_option maxRecDepth 100000 in
set_option maxHeartbeats 4000000 in
theorem Paint_any (g c : Nat) (p : Pl) (A : Option Addr) (d : Nat) (xs : List OrdV) (from_ : Int) (hf : 0 ≤ from_ ∧ from_ < p.n) (w : World) (h : PlAt w g c p) (ho : OsAt [g, c] w A xs) : Calls Try.prog 46 #[.pointer (some ⟨g, 0, none⟩), .slice A xs.length d, .int .i64 from_] w
    (Ret1 (Paint3 ((Br.at0 p from_).run (xs.map OrdV.o))) (fun w' => PlAt w' g c ((Br.at0 p from_).run (xs.map OrdV.o)).1.p ∧ Chg [g, c] w w' ∧ 0 ≤ ((Br.at0 p from_).run (xs.map OrdV.o)).1.at_ ∧ ((Br.at0 p from_).run (xs.map OrdV.o)).1.at_ < ((Br.at0 p from_).run (xs.map OrdV.o)).1.p.n)) := by
  have H := Lib.hid h
  have HO := Lib.hid ho
  have f0 := hf.1
  have f1 := hf.2
  clear h ho hf
  obtain ⟨F, hF⟩ : ∃ F, (Br.at0 p from_).run (xs.map OrdV.o) = F := ⟨_, rfl⟩
  have HF := Lib.hid hF
  rw [hF]
  clear hF
  go_enter Try.func46, Try.ntmps46
  go_wp2_with fail
  refine (LenQ_any g c p _ H.out).mono ?_
  rintro e w2 ⟨rfl, rfl⟩
  go_wp2_with fail
  have hn := H.out.ok.sz.n1
  have hgl := H.out.glt
  have hcl := H.out.clt
  have hE := Ext_alloc (o := .cells #[.pointer (some ⟨g, 0, none⟩), .int .i64 from_, .int .u8 0, .bool false, .bool false, .int .u8 0, .int .u8 0, .bool false] 108) (Ext_refl w2)
  have hB := Blk.new w2 108 #[.pointer (some ⟨g, 0, none⟩), .int .i64 from_, .int .u8 0, .bool false, .bool false, .int .u8 0, .int .u8 0, .bool false]
  have HO1 := Lib.hid ((HO.out.more (m := [w2.heap.size, g, c]) (by intro i hi; simp at hi ⊢; omega)).ext hE)
  generalize w2.alloc (.cells #[.pointer (some ⟨g, 0, none⟩), .int .i64 from_, .int .u8 0, .bool false, .bool false, .int .u8 0, .int .u8 0, .bool false] 108) = W1 at *
  have H1 : Hid (BrAt W1 w2.heap.size g c (Br.at0 p from_)) := Lib.hid ⟨hB, H.out.ext hE, f0, f1⟩
  have HE := Lib.hid hE
  have HC1 := Lib.hid (Chg.refl [w2.heap.size, g, c] W1)
  obtain ⟨u, hu⟩ : ∃ u, w2.heap.size = u := ⟨_, rfl⟩
  rw [hu] at HO1 H1 HC1 ⊢
  have hul : w2.heap.size ≤ u := by omega
  clear hB hE H HO hu
  have HF0 : Hid (F = (((Br.at0 p from_).run ((xs.map OrdV.o).drop 0)).1, 0 + ((Br.at0 p from_).run ((xs.map OrdV.o).drop 0)).2.1, ((Br.at0 p from_).run ((xs.map OrdV.o).drop 0)).2.2)) := Lib.hid (by rw [List.drop_zero, HF.out, Nat.zero_add])
  clear HF
  go_loopw [10, 11, 12, 27] (fun _ _ _ v wr => ∃ (k : Nat) (b : Br), k ≤ xs.length ∧ v = .int .i64 k ∧ Hid (BrAt wr u g c b) ∧ Hid (OsAt [u, g, c] wr A xs) ∧ Hid (Chg [u, g, c] W1 wr) ∧ Hid (F = ((b.run ((xs.map OrdV.o).drop k)).1, k + (b.run ((xs.map OrdV.o).drop k)).2.1, (b.run ((xs.map OrdV.o).drop k)).2.2))) (fun _ _ _ v _ => xs.length - (intOf v).toNat)
  case atStart => exact ⟨0, Br.at0 p from_, by omega, rfl, H1.out, HO1.out, HC1.out, HF0.out⟩
  case round =>
    clear H1 HO1 HC1 HF0
    obtain ⟨k, b, hk, rfl, H1, HO1, HC1, HF⟩ := hrel
    by_cases hlt : k < xs.length
    · obtain ⟨rb, ro, eA, hc⟩ := HO1.out.row.elem OrdV.enc OrdV.len hlt (List.getElem?_eq_getElem hlt)
      have d0 := hc 0 _ rfl
      have d1 := hc 1 _ rfl
      have d2 := hc 2 _ rfl
      have d3 := hc 3 _ rfl
      have d4 := hc 4 _ rfl
      have d5 := hc 5 _ rfl
      have hdr : (xs.map OrdV.o).drop k = (xs[k]).o :: (xs.map OrdV.o).drop (k + 1) := by
        rw [List.drop_eq_getElem_cons (by simpa using hlt), List.getElem_map]
      have HX := Lib.hid (HO1.out.each _ (List.getElem_mem hlt))
      have hr := HF.out
      rw [hdr] at hr
      unfold Br.run at hr
      have hL : k + 1 < 9223372036854775808 := by have := HO1.out.ln; unfold maxLen at this; omega
      generalize xs[k] = x at *
      simp only [Nat.add_zero] at d0
      have HR := Lib.hid hr
      have HAA := Lib.hid eA
      clear hr hc HF hdr
      subst eA
      go_wp2_with fail
      have hE := Ext_alloc (o := .cells #[.int .u8 x.o.k, .int .i64 x.o.a, .int .u8 x.o.b, .bool x.o.ge, .slice x.A x.o.ps.length x.cA, .slice x.B x.o.da.length x.cB] 71) (Ext_refl wr)
      refine (do_any u g c b x.A x.B x.cA x.cB x.o _ (H1.out.ext hE) (HX.out.ext hE)).mono ?_
      rintro e w4 ⟨rfl, hb4, hc4⟩
      have H4 := Lib.hid hb4
      have HO4 := Lib.hid ((HO1.out.ext hE).chg hc4)
      have HC4 := Lib.hid (HC1.out.trans ((Chg.of_ext hE _).trans hc4))
      clear H1 HO1 HC1 HX hb4 hc4 hE d0 d1 d2 d3 d4 d5
      obtain ⟨b4, hb4⟩ : ∃ b4, (b.do x.o).1 = b4 := ⟨_, rfl⟩
      obtain ⟨e4, he4⟩ : ∃ e4, (b.do x.o).2 = e4 := ⟨_, rfl⟩
      rw [hb4, he4] at HR
      rw [hb4] at H4
      rw [he4]
      clear hb4 he4
      have k1 := H4.out.obj.cell 1
      simp [Br.row] at k1
      by_cases he : e4 = 0
      · have hr := HR.out
        rw [if_pos he] at hr
        have HF4 := Lib.hid hr
        subst he
        clear hr HR
        go_wp2_with fail
        go_roundw
        case rel => exact ⟨k + 1, b4, by omega, by go_num, H4.out, HO4.out, HC4.out, HF4.out.trans (by congr 1; congr 1; omega)⟩
        case measure => simp [intOf]; omega
      · have hr := HR.out
        rw [if_neg he] at hr
        have he' : (e4 == 0) = false := by rw [beq_eq_false_iff_ne]; exact he
        have he2 : (e4 != 0) = true := by rw [bne_iff_ne]; exact he
        subst hr
        clear HR
        go_wp2_with fail
        refine bodyPost_ret (v := .tuple #[.int .i64 b4.at_, .int .i64 k, .int .i64 e4]) (by simp [results, Try.results46, go_sem]) rfl ?_
        exact ⟨rfl, H4.out.pl, HC4.out.drop HE.out (by intro i hi; simp at hi ⊢; omega), H4.out.a0, H4.out.a1⟩
    · have hkk : k = xs.length := by omega
      subst hkk
      have hr := HF.out
      rw [List.drop_eq_nil_of_le (by simp)] at hr
      unfold Br.run at hr
      have k1 := H1.out.obj.cell 1
      simp [Br.row] at k1
      subst hr
      clear HF
      go_wp2_with fail
      refine bodyPost_ret (v := .tuple #[.int .i64 b.at_, .int .i64 xs.length, .int .i64 0]) (by simp [results, Try.results46, go_sem]) rfl ?_
      exact ⟨rfl, H1.out.pl, HC1.out.drop HE.out (by intro i hi; simp at hi ⊢; omega), H1.out.a0, H1.out.a1⟩
end Go.Proofs.Ytmcfckdgolojlaa
