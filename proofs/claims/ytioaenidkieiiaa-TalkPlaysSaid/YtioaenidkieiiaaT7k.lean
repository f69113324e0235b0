/- TalkPlays: the plain law; what stands in memory. -/
import Derived.Test.YtioaenidkieiiaaT7j
namespace Go.Proofs.Ytioaenidkieiiaa
set_option linter.unusedVariables false
set_option linter.unusedSimpArgs false
open Go.RowKit Go.Shelf

structure RelT (t : Tk) (l : List One) (nd : Bool) (lo lt : List Int) : Prop where
  rel : Rel t.o l lo lt
  named : t.named = nd
def takeR (nm : ByteArray) (l : List One) (lo lt : List Int) (nd : Bool) (e : Ev) : List One × Bool × List Int :=
  if e.kind == 4 then ((gotL l lo lt e.code (e.opt : Int)).1, nd && (stateR (gotL l lo lt e.code (e.opt : Int)).1 true 24 == 1), (gotL l lo lt e.code (e.opt : Int)).2)
  else if askedR l e.kind (e.opt : Int) e.bytes then (l, true, [255, 250, 24, 0] ++ numsOf nm ++ [255, 240]) else (l, nd, [])
theorem takeR_verb {nm : ByteArray} {l : List One} {lo lt : List Int} {nd : Bool} {e : Ev} (h : (e.kind == 4) = true) : takeR nm l lo lt nd e = ((gotL l lo lt e.code (e.opt : Int)).1, nd && (stateR (gotL l lo lt e.code (e.opt : Int)).1 true 24 == 1), (gotL l lo lt e.code (e.opt : Int)).2) := by
  unfold takeR; rw [if_pos h]
theorem takeR_asked {nm : ByteArray} {l : List One} {lo lt : List Int} {nd : Bool} {e : Ev} (h : (e.kind == 4) = false) (ha : askedR l e.kind (e.opt : Int) e.bytes = true) : takeR nm l lo lt nd e = (l, true, [255, 250, 24, 0] ++ numsOf nm ++ [255, 240]) := by
  unfold takeR; rw [if_neg (by rw [h]; decide), if_pos ha]
theorem takeR_none {nm : ByteArray} {l : List One} {lo lt : List Int} {nd : Bool} {e : Ev} (h : (e.kind == 4) = false) (ha : askedR l e.kind (e.opt : Int) e.bytes = false) : takeR nm l lo lt nd e = (l, nd, []) := by
  unfold takeR; rw [if_neg (by rw [h]; decide), if_neg (by rw [ha]; decide)]
theorem RelT.asked {t : Tk} {l : List One} {nd : Bool} {lo lt : List Int} (h : RelT t l nd lo lt) (e : Ev) : t.asked e = askedR l e.kind (e.opt : Int) e.bytes := by
  unfold Tk.asked askedR
  have := h.rel.st true 24 (by decide)
  rw [← this]; rfl
theorem RelT.take {t : Tk} {l : List One} {nd : Bool} {lo lt : List Int} (h : RelT t l nd lo lt) (s : ByteArray) (hn : t.name = cleanS s) (e : Ev) (he : e.opt < 256) :
    RelT (t.take e).1 (takeR (cleanS s) l lo lt nd e).1 (takeR (cleanS s) l lo lt nd e).2.1 lo lt ∧ (t.take e).2 = (takeR (cleanS s) l lo lt nd e).2.2 ∧ (t.take e).1.name = cleanS s := by
  cases h4 : (e.kind == 4)
  · cases ha : askedR l e.kind (e.opt : Int) e.bytes
    · rw [takeR_none h4 ha]
      unfold Tk.take
      rw [if_neg (by rw [h4]; decide), if_neg (by rw [h.asked, ha]; decide)]
      exact ⟨h, rfl, hn⟩
    · rw [takeR_asked h4 ha]
      unfold Tk.take
      rw [if_neg (by rw [h4]; decide), if_pos (by rw [h.asked, ha])]
      refine ⟨⟨h.rel, rfl⟩, ?_, hn⟩
      show tellL 24 (0 :: numsOf t.name) = _
      rw [hn, tell_clean]
  · rw [takeR_verb h4]
    unfold Tk.take
    rw [if_pos h4]
    obtain ⟨h1, h2⟩ := h.rel.got he e.code
    unfold Tk.verb
    refine ⟨⟨h1, ?_⟩, h2, hn⟩
    show (t.named && _) = (nd && _)
    rw [h.named, ← h1.st true 24 (by decide)]; rfl
theorem takeR_length (nm : ByteArray) (l : List One) (lo lt : List Int) (nd : Bool) (e : Ev) : (takeR nm l lo lt nd e).1.length ≤ l.length + 1 := by
  unfold takeR
  split
  · exact gotL_length _ _ _ _ _
  · split <;> simp
theorem gotL_said7 (l : List One) (lo lt : List Int) (c x : Int) : (gotL l lo lt c x).2.length ≤ 3 := by
  have hw : ∀ (s : Bool) (x say : Int), (wordL s x say).length ≤ 3 := by
    intro s x say
    unfold wordL
    split <;> simp
  unfold gotL gotS
  repeat' split
  all_goals first | exact hw _ _ _ | simp
theorem wantL_said7 (l : List One) (c x : Int) : (wantL l c x).2.1.length ≤ 3 := by
  have hw : ∀ (s : Bool) (x say : Int), (wordL s x say).length ≤ 3 := by
    intro s x say
    unfold wordL
    split <;> simp
  unfold wantL wantS
  repeat' split
  all_goals first | exact hw _ _ _ | simp
theorem takeR_said (nm : ByteArray) (l : List One) (lo lt : List Int) (nd : Bool) (e : Ev) : (takeR nm l lo lt nd e).2.2.length ≤ 6 + nm.size := by
  unfold takeR
  split
  · have := gotL_said7 l lo lt e.code (e.opt : Int)
    show (gotL l lo lt e.code (e.opt : Int)).2.length ≤ _
    omega
  · split
    · simp [numsOf_length]; omega
    · simp
theorem refTake_any (nm : ByteArray) (hnm : nm.size ≤ 1000) (l : List One) (A A1 A2 A3 : Option Addr) (c c1 c2 c3 : Nat) (lo lt : List Int) (nd : Bool) (e : Ev) (hn : l.length ≤ 1000) (hn1 : lo.length ≤ 1000000) (hn2 : lt.length ≤ 1000000) (hb : e.bytes.length ≤ 1000000)
    (hc : 0 ≤ e.code ∧ e.code < 256) (hst : ∀ s, 0 ≤ stateR l s (e.opt : Int) ∧ stateR l s (e.opt : Int) ≤ 5) (w : World)
    (hr : Rd w 3 A l.length (l.flatMap One.enc)) (hr1 : Rd w 1 A1 lo.length (u8s lo)) (hr2 : Rd w 1 A2 lt.length (u8s lt)) (hr3 : Rd w 1 A3 e.bytes.length (u8s e.bytes)) :
    Calls Try.prog 32 #[.agg #[.string nm, .slice A l.length c, .slice A1 lo.length c1, .slice A2 lt.length c2, .bool nd], .agg #[.int .i64 e.kind, .int .u8 e.code, .int .u8 (e.opt : Int), .slice A3 e.bytes.length c3]] w
      (TdP w nm A (.slice A1 lo.length c1) (.slice A2 lt.length c2) l (takeR nm l lo lt nd e).1 (takeR nm l lo lt nd e).2.1 (takeR nm l lo lt nd e).2.2) := by
  obtain ⟨kind, code, opt, bytes⟩ := e
  dsimp only at *
  cases h4 : (kind == 4)
  · cases ha : askedR l kind (opt : Int) bytes
    · rw [takeR_none h4 ha]
      exact refTake_none nm l A A1 A2 A3 c _ c1 _ c2 c3 nd kind code opt bytes hn hb h4 ha w hr hr3
    · rw [takeR_asked h4 ha]
      have ha' := ha
      unfold askedR at ha'
      simp only [Bool.and_eq_true, beq_iff_eq] at ha'
      obtain ⟨⟨⟨rfl, hx⟩, hbb⟩, _⟩ := ha'
      rw [hx] at ha ⊢
      exact refTake_asked nm l A A1 A2 A3 c _ c1 _ c2 c3 nd code bytes hn hb ha hnm _ rfl w hr hr3
  · rw [takeR_verb h4]
    rw [beq_iff_eq] at h4
    subst h4
    exact refTake_verb nm l (gotL l lo lt code (opt : Int)).1 A A1 A2 A3 c c1 c2 _ c3 lo lt _ nd _ code opt hn (by have := gotL_length l lo lt code (opt : Int); omega) hn1 hn2 rfl rfl hc hst w hr hr1 hr2
theorem RelT.basic {t : Tk} {l : List One} {nd : Bool} {lo lt : List Int} (h : RelT t l nd lo lt) : basicR l nd = t.basic := by
  unfold basicR Tk.basic Tk.both
  have a := h.rel.st true 0 (by decide)
  have b := h.rel.st false 0 (by decide)
  have c := h.rel.st true 25 (by decide)
  have d := h.rel.st false 25 (by decide)
  rw [← a, ← b, ← c, ← d, h.named]
  show (nd && (stateR l true 0 == 1) && (stateR l false 0 == 1) && (stateR l true 25 == 1) && (stateR l false 25 == 1)) = ((stateR l true 0 == 1) && (stateR l false 0 == 1) && ((stateR l true 25 == 1) && (stateR l false 25 == 1)) && nd)
  cases nd <;> cases (stateR l true 0 == 1) <;> cases (stateR l false 0 == 1) <;> cases (stateR l true 25 == 1) <;> cases (stateR l false 25 == 1) <;> rfl
theorem RelT.leave {t : Tk} {l : List One} {nd : Bool} {lo lt : List Int} (h : RelT t l nd lo lt) : RelT t.leave.1 (wantL l 252 40).1 nd lo lt ∧ t.leave.2 = (wantL l 252 40).2.1 ∧ t.leave.1.name = t.name := by
  obtain ⟨h1, h2⟩ := h.rel.want (x := 40) (by decide) 252
  refine ⟨⟨h1, h.named⟩, ?_, rfl⟩
  show (t.o.want 252 40).2.1 = _
  have := congrArg Prod.fst h2
  exact this
theorem wantL_nil : (wantL [] 252 40).1 = [] := by decide

/-- what stands in memory: the terminal at tb and ob, the document's at xb -/
structure StT (w : World) (tb ob xb : Nat) (nm : ByteArray) (A1 A2 : Option Addr) (c1 c2 : Nat) (lo lt : List Int) (W : World) (t : Tk) (l : List One) (A : Option Addr) (c : Nat) (nd : Bool) : Prop where
  tk : TkAt w.heap.size W tb ob t
  ext : Ext w W
  box : Blk W xb 69 (TdC nm l A c (.slice A1 lo.length c1) (.slice A2 lt.length c2) nd)
  row : Rd W 3 A l.length (l.flatMap One.enc)
  r1 : Rd W 1 A1 lo.length (u8s lo)
  r2 : Rd W 1 A2 lt.length (u8s lt)
  offs : l = [] ∨ (Off tb A ∧ Off ob A ∧ Off xb A)
  o1 : Off tb A1 ∧ Off ob A1 ∧ Off xb A1
  o2 : Off tb A2 ∧ Off ob A2 ∧ Off xb A2
  hx : w.heap.size ≤ xb
  nt : xb ≠ tb
  no : xb ≠ ob
section
variable {w : World} {tb ob xb : Nat} {nm : ByteArray} {A1 A2 : Option Addr} {c1 c2 : Nat} {lo lt : List Int} {W W' : World} {t : Tk} {l : List One} {A : Option Addr} {c : Nat} {nd : Bool}
theorem StT.step (h : StT w tb ob xb nm A1 A2 c1 c2 lo lt W t l A c nd) (hx : Ext W W') : StT w tb ob xb nm A1 A2 c1 c2 lo lt W' t l A c nd :=
  ⟨h.tk.step hx, Ext_trans hx h.ext, Blk.below' h.box hx, Rd_ext hx h.row, Rd_ext hx h.r1, Rd_ext hx h.r2, h.offs, h.o1, h.o2, h.hx, h.nt, h.no⟩
theorem StT.draw (h : StT w tb ob xb nm A1 A2 c1 c2 lo lt W t l A c nd) (n : Nat) : StT w tb ob xb nm A1 A2 c1 c2 lo lt (W.drewN n) t l A c nd := h.step (Ext_drewN (Ext_refl W))
theorem Rd_off {sz n : Nat} {cs : List Value} {a b : Nat} (h : Rd W sz A n cs) (hm : Mut2 a b W W') (ho : n = 0 ∨ (Off a A ∧ Off b A)) : Rd W' sz A n cs := by
  rcases ho with rfl | ho
  · exact ⟨h.1, fun h => absurd h (by omega)⟩
  · exact h.mut2 hm ho.1 ho.2
theorem StT.mut (h : StT w tb ob xb nm A1 A2 c1 c2 lo lt W t l A c nd) (hm : Mut2 tb ob W W') {t' : Tk} (ht : TkAt w.heap.size W' tb ob t') : StT w tb ob xb nm A1 A2 c1 c2 lo lt W' t' l A c nd :=
  ⟨ht, hm.ext h.ext h.tk.htb h.tk.hob, h.box.mut2 hm h.nt h.no, Rd_off h.row hm (h.offs.imp (fun e => by rw [e]; rfl) (fun e => ⟨e.1, e.2.1⟩)), h.r1.mut2 hm h.o1.1 h.o1.2.1, h.r2.mut2 hm h.o2.1 h.o2.2.1, h.offs, h.o1, h.o2, h.hx, h.nt, h.no⟩
/-- the document's talk is another one -/
theorem StT.put (h : StT w tb ob xb nm A1 A2 c1 c2 lo lt W t l A c nd) {l' : List One} {A' : Option Addr} {c' : Nat} {nd' : Bool} (hm : Mut xb W W') (hb : Blk W' xb 69 (TdC nm l' A' c' (.slice A1 lo.length c1) (.slice A2 lt.length c2) nd'))
    (hr : Rd W 3 A' l'.length (l'.flatMap One.enc)) (ho : l' = [] ∨ (Off tb A' ∧ Off ob A' ∧ Off xb A')) : StT w tb ob xb nm A1 A2 c1 c2 lo lt W' t l' A' c' nd' := by
  have hm2 : Mut2 xb xb W W' := Mut2.of_mut_a hm
  refine ⟨⟨h.tk.blk.grown hm (by simp; exact fun e => h.nt e.symm), Blk.grown h.tk.obj hm (by simp; exact fun e => h.no e.symm), h.tk.ne, h.tk.htb, h.tk.hob⟩, Mut_trans hm h.ext h.hx, hb, Rd_off hr hm2 (ho.imp (fun e => by rw [e]; rfl) (fun e => ⟨e.2.2, e.2.2⟩)),
    h.r1.mut2 hm2 h.o1.2.2 h.o1.2.2, h.r2.mut2 hm2 h.o2.2.2 h.o2.2.2, ho, h.o1, h.o2, h.hx, h.nt, h.no⟩
theorem StT.offs' (h : StT w tb ob xb nm A1 A2 c1 c2 lo lt W t l A c nd) {l' : List One} {A' : Option Addr} (hf : (A' = A ∧ l' = l) ∨ Fresh W.heap.size A') : l' = [] ∨ (Off tb A' ∧ Off ob A' ∧ Off xb A') := by
  rcases hf with ⟨rfl, rfl⟩ | hf
  · exact h.offs
  · exact .inr ⟨hf.off h.tk.blk.lt, hf.off h.tk.obj.lt, hf.off h.box.lt⟩
end
end Go.Proofs.Ytioaenidkieiiaa
