/- TalkAgrees: the plain law, and its walk. -/
import Derived.Test.YtioaenidkieiiaaT7g
import Derived.Test.YtioaenidkieiiaaL6m
namespace Go.Proofs.Ytioaenidkieiiaa
set_option linter.unusedVariables false
set_option linter.unusedSimpArgs false
open Go.RowKit Go.Shelf

def VL : List Ev := [⟨4, 253, 24, []⟩, ⟨4, 253, 25, []⟩, ⟨4, 251, 25, []⟩, ⟨4, 253, 0, []⟩, ⟨4, 251, 0, []⟩, ⟨4, 253, 40, []⟩]
/-- what a terminal is while verbs alone come -/
structure AgI (s : ByteArray) (ext : Bool) (t : Tk) : Prop where
  o : MayInv (oursL ext) [0, 25] t.o
  named : t.named = false
  name : t.name = cleanS s
theorem AgI.new (s : ByteArray) (ext : Bool) : AgI s ext (Tk.new s ext) := ⟨MayInv.new _ _, rfl, rfl⟩
theorem AgI.take {s : ByteArray} {ext : Bool} {t : Tk} (h : AgI s ext t) (ev : Ev) (he : ev.kind = 4) : AgI s ext (t.take ev).1 ∧ (t.take ev).2.length ≤ 3 := by
  have h1 := h.o.got ev.code ev.opt
  unfold Tk.take
  rw [if_pos (by rw [he]; rfl)]
  unfold Tk.verb
  refine ⟨⟨h1.1, ?_, h.name⟩, ?_⟩
  · show (t.named && _) = false
    rw [h.named]; rfl
  · rcases h1.2 with e | ⟨v, e, _, _⟩
    · show ((t.o.got ev.code ev.opt).2).length ≤ 3
      rw [e]; simp
    · show ((t.o.got ev.code ev.opt).2).length ≤ 3
      rw [e]; simp
theorem AgI.basic {s : ByteArray} {ext : Bool} {t : Tk} (h : AgI s ext t) : t.basic = false := by
  unfold Tk.basic
  rw [h.named, Bool.and_false]
/-- an option that is asked for is on, just if it may be -/
theorem MayInv.gotOn_st {lo lt : List Int} {o : Opt} (h : MayInv lo lt o) (s : Bool) (x : Nat) (s' : Bool) (y : Nat) : (o.gotOn s x).1.st s' y = if s' = s ∧ y = x then (if mayL lo lt s (x : Int) then 1 else 0) else o.st s' y := by
  have hm := h.2 s x
  unfold Opt.gotOn Opt.put
  rcases h.1 s x with h0 | ⟨h1, h2⟩
  · rw [h0]
    cases hb : o.may s x
    · rw [hb] at hm
      simp only [Opt.set, onM, ← hm]
      split <;> simp
    · rw [hb] at hm
      simp only [Opt.set, onM, ← hm]
      split <;> simp
  · rw [h1]
    rw [h2] at hm
    simp only [Opt.set, onM, ← hm]
    split <;> simp
theorem got_253 (o : Opt) (x : Nat) : o.got 253 x = o.gotOn true x := by unfold Opt.got; simp
theorem got_251 (o : Opt) (x : Nat) : o.got 251 x = o.gotOn false x := by unfold Opt.got; simp
def Tk.takes (t : Tk) (es : List Ev) : Tk := es.foldl (fun t e => (t.take e).1) t
theorem AgI.takes {s : ByteArray} {ext : Bool} {t : Tk} (h : AgI s ext t) (es : List Ev) (he : ∀ e ∈ es, e.kind = 4) : AgI s ext (t.takes es) := by
  induction es generalizing t with
  | nil => exact h
  | cons e es ih => exact ih (h.take e (he e List.mem_cons_self)).1 (fun e' h' => he e' (List.mem_cons_of_mem _ h'))
theorem Tk.takes_take (t : Tk) (es : List Ev) {k : Nat} {e : Ev} (h : es[k]? = some e) : t.takes (es.take (k + 1)) = ((t.takes (es.take k)).take e).1 := by
  rw [take_get h]
  unfold Tk.takes
  rw [List.foldl_append]; rfl
theorem VL_kind : ∀ e ∈ VL, e.kind = 4 := by decide
theorem take_verb {t : Tk} {e : Ev} (h : e.kind = 4) : (t.take e).1.o = (t.o.got e.code e.opt).1 := by unfold Tk.take; rw [if_pos (by rw [h]; rfl)]; rfl
theorem MayInv.gotOn {lo lt : List Int} {o : Opt} (h : MayInv lo lt o) (s : Bool) (x : Nat) : MayInv lo lt (o.gotOn s x).1 := by
  cases s
  · rw [← got_251]; exact (h.got 251 x).1
  · rw [← got_253]; exact (h.got 253 x).1
def onAll (o : Opt) (l : List (Bool × Nat)) : Opt := l.foldl (fun o p => (o.gotOn p.1 p.2).1) o
theorem MayInv.onAll {lo lt : List Int} : ∀ (l : List (Bool × Nat)) {o : Opt}, MayInv lo lt o → MayInv lo lt (onAll o l) ∧ ∀ s y, (onAll o l).st s y = if (s, y) ∈ l then (if mayL lo lt s (y : Int) then 1 else 0) else o.st s y
  | [], o, h => ⟨h, fun s y => by simp [Go.Proofs.Ytioaenidkieiiaa.onAll]⟩
  | p :: l, o, h => by
    obtain ⟨h1, h2⟩ := MayInv.onAll l (h.gotOn p.1 p.2)
    refine ⟨h1, fun s y => ?_⟩
    show (Go.Proofs.Ytioaenidkieiiaa.onAll (o.gotOn p.1 p.2).1 l).st s y = _
    rw [h2, h.gotOn_st]
    by_cases e : (s, y) ∈ l
    · rw [if_pos e, if_pos (List.mem_cons_of_mem _ e)]
    · rw [if_neg e]
      by_cases e2 : s = p.1 ∧ y = p.2
      · obtain ⟨rfl, rfl⟩ := e2
        rw [if_pos ⟨rfl, rfl⟩, if_pos List.mem_cons_self]
      · rw [if_neg e2, if_neg ?_]
        intro h'
        rcases List.mem_cons.1 h' with h' | h'
        · exact e2 ⟨congrArg Prod.fst h', congrArg Prod.snd h'⟩
        · exact e h'
def VP : List (Bool × Nat) := [(true, 24), (true, 25), (false, 25), (true, 0), (false, 0), (true, 40)]
theorem VL_o (t : Tk) : (t.takes VL).o = onAll t.o VP := by
  unfold Tk.takes VL onAll VP
  simp only [List.foldl_cons, List.foldl_nil]
  rw [take_verb rfl, take_verb rfl, take_verb rfl, take_verb rfl, take_verb rfl, take_verb rfl, got_253, got_253, got_251, got_253, got_251, got_253]
/-- behind all verbs: the states -/
theorem VL_st {s : ByteArray} {ext : Bool} {t : Tk} (h : AgI s ext t) : (t.takes VL).o.st true 24 = 1 ∧ (t.takes VL).o.st true 25 = 1 ∧ (t.takes VL).o.st false 25 = 1 ∧ (t.takes VL).o.st true 0 = 1 ∧ (t.takes VL).o.st false 0 = 1 ∧ (t.takes VL).o.st true 40 = if ext then 1 else 0 := by
  have h2 := (h.o.onAll VP).2
  rw [VL_o]
  refine ⟨?_, ?_, ?_, ?_, ?_, ?_⟩ <;> rw [h2, if_pos (by decide)] <;> cases ext <;> rfl
/-- what is said when the name is asked for behind that -/
theorem VL_said {s : ByteArray} {ext : Bool} {t : Tk} (h : AgI s ext t) : ((t.takes VL).take AE1).1 = ⟨cleanS s, (t.takes VL).o, true⟩ ∧ ((t.takes VL).take AE1).2 = tellL 24 (0 :: numsOf (cleanS s)) := by
  have h6 := h.takes VL VL_kind
  obtain ⟨a, _⟩ := VL_st h
  have hk : (AE1.kind == 4) = false := rfl
  have ha : (t.takes VL).asked AE1 = true := by
    unfold Tk.asked
    rw [a]; rfl
  unfold Tk.take
  rw [if_neg (by rw [hk]; decide), if_pos ha, h6.name]
  exact ⟨rfl, rfl⟩
theorem numsOf_strOfNums {l : List Int} (h : ∀ x ∈ l, 0 ≤ x ∧ x < 256) : numsOf (strOfNums l) = l := by
  unfold numsOf
  rw [strOfNums_data, List.map_map]
  conv => rhs; rw [← List.map_id l]
  refine List.map_congr_left fun x hx => ?_
  obtain ⟨h0, h1⟩ := h x hx
  simp only [Function.comp, id]
  rw [UInt8.toNat_ofNat']
  omega
theorem cleanL_bd (s : ByteArray) : ∀ x ∈ cleanL s, 33 ≤ x ∧ x ≤ 126 := by
  intro x hx
  unfold cleanL at hx
  obtain ⟨y, _, rfl⟩ := List.mem_map.1 hx
  unfold seeB
  split <;> omega
theorem numsOf_cleanS (s : ByteArray) : numsOf (cleanS s) = cleanL s := numsOf_strOfNums fun x hx => by have := cleanL_bd s x hx; omega
theorem tell_clean (s : ByteArray) : tellL 24 (0 :: numsOf (cleanS s)) = [255, 250, 24, 0] ++ numsOf (cleanS s) ++ [255, 240] := by
  unfold tellL
  rw [escL_plain (l := [24]) (by decide), escL_plain]
  · simp
  · intro x hx
    rcases List.mem_cons.1 hx with rfl | hx
    · decide
    · rw [numsOf_cleanS] at hx
      have := cleanL_bd s x hx
      omega
theorem tell_clean_length (s : ByteArray) : (tellL 24 (0 :: numsOf (cleanS s))).length = 6 + (cleanS s).size := by rw [tell_clean]; simp [numsOf_length]; omega
end Go.Proofs.Ytioaenidkieiiaa
