/- What the functions of the package option do to the block of an option.Options, call by call. -/
import Derived.Test.YtioaenidkieiiaaB
import Derived.LoopTactic
import Derived.WalkKit
import Derived.WalkSpells
import Derived.WalkLawsBesides
import Derived.KernelRfl
import Derived.Lib.Hide
namespace Go.Proofs.Ytioaenidkieiiaa
set_option linter.unusedVariables false
set_option linter.unusedSimpArgs false
open Go.RowKit

/-- the states and what may be on, of a side, by the option -/
structure SideAt (w : World) (b o : Nat) (st : Nat → Int) (may : Nat → Bool) (on off : Int) : Prop where
  st : ∀ x, x < 256 → w.cell? ⟨b, o + x, none⟩ = some (.int .i64 (st x))
  may : ∀ x, x < 256 → w.cell? ⟨b, o + 256 + x, none⟩ = some (.bool (may x))
  on : w.cell? ⟨b, o + 512, none⟩ = some (.int .u8 on)
  off : w.cell? ⟨b, o + 513, none⟩ = some (.int .u8 off)
  free : ∀ x, w.frozen? ⟨b, x, none⟩ = false

/-- a state was set, and something was said, or nothing -/
def SaidW (w : World) (b o x : Nat) (ns : Int) (said : Option Int) (e : Ending) (w' : World) : Prop :=
  match said with
  | none => e = .returned (.slice none 0 0) ∧ w' = w.setCell ⟨b, o + x, none⟩ (.int .i64 ns)
  | some c => e = .returned (.slice (some ⟨w.heap.size, 0, none⟩) 3 3) ∧ w' = (w.setCell ⟨b, o + x, none⟩ (.int .i64 ns)).alloc (.cells #[.int .u8 255, .int .u8 c, .int .u8 x] 5)

set_option maxHeartbeats 400000 in
theorem told_any (b o x : Nat) (ns : Int) {st may on off} (hx : x < 256) (w : World) (hs : SideAt w b o st may on off) :
    Calls Try.prog 64 #[.pointer (some ⟨b, o, none⟩), .int .u8 x, .int .i64 ns] w (SaidW w b o x ns none) := by
  have hc := hs.st x hx
  have hf := hs.free (o + x)
  clear hs
  go_enter Try.func64, Try.ntmps64
  go_wp2
  go_ret
  exact ⟨rfl, rfl⟩

set_option maxHeartbeats 400000 in
theorem say_any (b o x : Nat) (ns c : Int) {st may on off} (hx : x < 256) (w : World) (hs : SideAt w b o st may on off) :
    Calls Try.prog 63 #[.pointer (some ⟨b, o, none⟩), .int .u8 x, .int .i64 ns, .int .u8 c] w (SaidW w b o x ns (some c)) := by
  have hc := hs.st x hx
  have hf := hs.free (o + x)
  clear hs
  go_enter Try.func63, Try.ntmps63
  go_wp2
  go_ret
  exact ⟨rfl, rfl⟩

/-- what comes of the other side's 'on' -/
def onM (st : Int) (may : Bool) (on off : Int) : Int × Option Int :=
  if st == 0 then (if may then (1, some on) else (0, some off)) else if st == 2 then (0, none) else if st == 5 then (2, some off) else (1, none)
/-- what comes of the other side's 'off' -/
def offM (st : Int) (on off : Int) : Int × Option Int :=
  if st == 1 then (0, some off) else if st == 4 then (3, some on) else (0, none)

set_option maxHeartbeats 1000000 in
theorem gotOn_any (b o x : Nat) {st may on off} (hx : x < 256) (w : World) (hs : SideAt w b o st may on off) :
    Calls Try.prog 49 #[.pointer (some ⟨b, o, none⟩), .int .u8 x] w (SaidW w b o x (onM (st x) (may x) on off).1 (onM (st x) (may x) on off).2) := by
  have hc := hs.st x hx
  have hm := hs.may x hx
  have hon := hs.on
  have hoff := hs.off
  have HS := Lib.hid hs
  clear hs
  go_enter Try.func49, Try.ntmps49
  go_wp2_with (first | (go_at_call 63; refine (say_any _ _ _ _ _ hx _ HS.out).mono ?_; rintro e w' ⟨rfl, rfl⟩) | (go_at_call 64; refine (told_any _ _ _ _ hx _ HS.out).mono ?_; rintro e w' ⟨rfl, rfl⟩))
  all_goals (go_ret; simp [SaidW, onM, *])

set_option maxHeartbeats 1000000 in
theorem gotOff_any (b o x : Nat) {st may on off} (hx : x < 256) (w : World) (hs : SideAt w b o st may on off) :
    Calls Try.prog 50 #[.pointer (some ⟨b, o, none⟩), .int .u8 x] w (SaidW w b o x (offM (st x) on off).1 (offM (st x) on off).2) := by
  have hc := hs.st x hx
  have hon := hs.on
  have hoff := hs.off
  have HS := Lib.hid hs
  clear hs
  go_enter Try.func50, Try.ntmps50
  go_wp2_with (first | (go_at_call 63; refine (say_any _ _ _ _ _ hx _ HS.out).mono ?_; rintro e w' ⟨rfl, rfl⟩) | (go_at_call 64; refine (told_any _ _ _ _ hx _ HS.out).mono ?_; rintro e w' ⟨rfl, rfl⟩))
  all_goals (go_ret; simp [SaidW, offM, *])


def WantW (w : World) (b o x : Nat) (m : Option (Int × Option Int)) (e : Ending) (w' : World) : Prop :=
  match m with
  | none => e = .returned (.tuple #[.slice none 0 0, .int .i64 5]) ∧ w' = w
  | some (ns, none) => e = .returned (.tuple #[.slice none 0 0, .int .i64 0]) ∧ w' = w.setCell ⟨b, o + x, none⟩ (.int .i64 ns)
  | some (ns, some c) => e = .returned (.tuple #[.slice (some ⟨w.heap.size, 0, none⟩) 3 3, .int .i64 0]) ∧ w' = (w.setCell ⟨b, o + x, none⟩ (.int .i64 ns)).alloc (.cells #[.int .u8 255, .int .u8 c, .int .u8 x] 5)

/-- what comes of our wish 'on', and of 'off' -/
def wishOn (st on : Int) : Option (Int × Option Int) :=
  if st == 0 then some (3, some on) else if st == 2 then some (4, none) else if st == 5 then some (3, none) else none
def wishOff (st off : Int) : Option (Int × Option Int) :=
  if st == 1 then some (2, some off) else if st == 3 then some (5, none) else if st == 4 then some (2, none) else none

set_option maxHeartbeats 1000000 in
theorem wantOn_any (b o x : Nat) {st may on off} (hx : x < 256) (w : World) (hs : SideAt w b o st may on off) :
    Calls Try.prog 45 #[.pointer (some ⟨b, o, none⟩), .int .u8 x] w (WantW w b o x (wishOn (st x) on)) := by
  have hc := hs.st x hx
  have hon := hs.on
  have HS := Lib.hid hs
  clear hs
  go_enter Try.func45, Try.ntmps45
  go_wp2_with (first | (go_at_call 63; refine (say_any _ _ _ _ _ hx _ HS.out).mono ?_; rintro e w' ⟨rfl, rfl⟩) | (go_at_call 64; refine (told_any _ _ _ _ hx _ HS.out).mono ?_; rintro e w' ⟨rfl, rfl⟩))
  all_goals (go_ret2; simp [WantW, wishOn, *])

set_option maxHeartbeats 1000000 in
theorem wantOff_any (b o x : Nat) {st may on off} (hx : x < 256) (w : World) (hs : SideAt w b o st may on off) :
    Calls Try.prog 46 #[.pointer (some ⟨b, o, none⟩), .int .u8 x] w (WantW w b o x (wishOff (st x) off)) := by
  have hc := hs.st x hx
  have hoff := hs.off
  have HS := Lib.hid hs
  clear hs
  go_enter Try.func46, Try.ntmps46
  go_wp2_with (first | (go_at_call 63; refine (say_any _ _ _ _ _ hx _ HS.out).mono ?_; rintro e w' ⟨rfl, rfl⟩) | (go_at_call 64; refine (told_any _ _ _ _ hx _ HS.out).mono ?_; rintro e w' ⟨rfl, rfl⟩))
  all_goals (go_ret2; simp [WantW, wishOff, *])

/-! ### the whole object -/
structure Opt where
  st : Bool → Nat → Int
  may : Bool → Nat → Bool
def so (s : Bool) : Nat := if s then 0 else 514
def Opt.cell (o : Opt) (i : Nat) : Value :=
  if i < 256 then .int .i64 (o.st true i) else if i < 512 then .bool (o.may true (i - 256)) else if i = 512 then .int .u8 251 else if i = 513 then .int .u8 252
  else if i < 770 then .int .i64 (o.st false (i - 514)) else if i < 1026 then .bool (o.may false (i - 770)) else if i = 1026 then .int .u8 253 else .int .u8 254
def Opt.enc (o : Opt) : Array Value := ((List.range 1028).map o.cell).toArray
def onV (s : Bool) : Int := if s then 251 else 253
def offV (s : Bool) : Int := if s then 252 else 254
def OptAt (w : World) (b : Nat) (o : Opt) : Prop := Blk w b 100 o.enc
def Opt.set (o : Opt) (s : Bool) (x : Nat) (v : Int) : Opt := { o with st := fun s' y => if s' = s ∧ y = x then v else o.st s' y }

theorem Opt.enc_get (o : Opt) (i : Nat) : o.enc[i]? = if i < 1028 then some (o.cell i) else none := by
  unfold Opt.enc
  rw [List.getElem?_toArray, List.getElem?_map]
  by_cases h : i < 1028
  · rw [List.getElem?_range h, if_pos h]; rfl
  · rw [List.getElem?_eq_none (by simpa using h), if_neg h]; rfl
theorem OptAt.cell {w : World} {b : Nat} {o : Opt} (h : OptAt w b o) {i : Nat} (hi : i < 1028) : w.cell? ⟨b, i, none⟩ = some (o.cell i) := by
  rw [Blk.cell h, Opt.enc_get, if_pos hi]
theorem Opt.cell_st (o : Opt) (s : Bool) {x : Nat} (hx : x < 256) : o.cell (so s + x) = .int .i64 (o.st s x) := by
  cases s
  · show o.cell (514 + x) = _
    unfold Opt.cell
    rw [if_neg (by omega), if_neg (by omega), if_neg (by omega), if_neg (by omega), if_pos (by omega), show 514 + x - 514 = x from by omega]
  · show o.cell (0 + x) = _
    unfold Opt.cell
    rw [if_pos (by omega), Nat.zero_add]
theorem Opt.cell_may (o : Opt) (s : Bool) {x : Nat} (hx : x < 256) : o.cell (so s + 256 + x) = .bool (o.may s x) := by
  cases s
  · show o.cell (514 + 256 + x) = _
    unfold Opt.cell
    rw [if_neg (by omega), if_neg (by omega), if_neg (by omega), if_neg (by omega), if_neg (by omega), if_pos (by omega), show 514 + 256 + x - 770 = x from by omega]
  · show o.cell (0 + 256 + x) = _
    unfold Opt.cell
    rw [if_neg (by omega), if_pos (by omega), show 0 + 256 + x - 256 = x from by omega]
theorem Opt.cell_set (o : Opt) (s : Bool) (x : Nat) (v : Int) {i : Nat} (hi : so s + x ≠ i) : (o.set s x v).cell i = o.cell i := by
  have h1 : ∀ s' y, so s' + y = i → (o.set s x v).st s' y = o.st s' y := by
    intro s' y e
    unfold Opt.set
    dsimp only
    rw [if_neg]
    rintro ⟨rfl, rfl⟩
    exact hi e
  unfold Opt.cell
  by_cases a : i < 256
  · rw [if_pos a, if_pos a, h1 true i (by simp [so])]
  rw [if_neg a, if_neg a]
  by_cases c : i < 512
  · rw [if_pos c, if_pos c]; rfl
  rw [if_neg c, if_neg c]
  by_cases d : i = 512
  · rw [if_pos d, if_pos d]
  rw [if_neg d, if_neg d]
  by_cases e : i = 513
  · rw [if_pos e, if_pos e]
  rw [if_neg e, if_neg e, h1 false (i - 514) (by simp only [so]; simp; omega)]
  rfl
theorem Opt.set_enc (o : Opt) (s : Bool) {x : Nat} (hx : x < 256) (v : Int) : o.enc.setIfInBounds (so s + x) (.int .i64 v) = (o.set s x v).enc := by
  apply Array.ext_getElem?
  intro i
  rw [Array.getElem?_setIfInBounds, Opt.enc_get, Opt.enc_get]
  have hsz : o.enc.size = 1028 := by simp [Opt.enc]
  have hso : so s ≤ 514 := by cases s <;> simp [so]
  rw [hsz]
  by_cases e : so s + x = i
  · subst e
    rw [if_pos rfl, if_pos (by omega), if_pos (by omega), Opt.cell_st _ _ hx]
    simp [Opt.set]
  · rw [if_neg e, Opt.cell_set _ _ _ _ e]

theorem OptAt.side {w : World} {b : Nat} {o : Opt} (h : OptAt w b o) (s : Bool) : SideAt w b (so s) (o.st s) (o.may s) (onV s) (offV s) := by
  have hso : so s ≤ 514 := by cases s <;> simp [so]
  refine ⟨fun x hx => ?_, fun x hx => ?_, ?_, ?_, fun x => Blk.free h x⟩
  · rw [h.cell (by omega), Opt.cell_st _ _ hx]
  · rw [h.cell (by omega), Opt.cell_may _ _ hx]
  · rw [h.cell (by omega)]
    cases s <;> rfl
  · rw [h.cell (by omega)]
    cases s <;> rfl
theorem OptAt.store {w : World} {b : Nat} {o : Opt} (h : OptAt w b o) (s : Bool) {x : Nat} (hx : x < 256) (v : Int) :
    OptAt (w.setCell ⟨b, so s + x, none⟩ (.int .i64 v)) b (o.set s x v) := by
  have := Blk.store h (so s + x) (.int .i64 v)
  rw [Opt.set_enc o s hx v] at this
  exact this

/-- what is said -/
def sayL (x : Nat) : Option Int → List Int
  | none => []
  | some c => [255, c, x]
/-- the object has turned, and something is said -/
def Said (w : World) (b : Nat) (o' : Opt) (l : List Int) (v : Value) (w' : World) : Prop := OptAt w' b o' ∧ w.grownBy w' (some b) ∧ Bts w.heap.size w' v l
def SaidP (w : World) (b : Nat) (o' : Opt) (l : List Int) (e : Ending) (w' : World) : Prop := ∃ v, e = .returned v ∧ Said w b o' l v w'

theorem Said.of {w : World} {b : Nat} {o : Opt} (h : OptAt w b o) (s : Bool) {x : Nat} (hx : x < 256) {ns : Int} {said : Option Int} {e : Ending} {w' : World} (hw : SaidW w b (so s) x ns said e w') :
    SaidP w b (o.set s x ns) (sayL x said) e w' := by
  cases said with
  | none =>
    obtain ⟨rfl, rfl⟩ := hw
    exact ⟨_, rfl, h.store s hx ns, grown_set _ _ _ _, Bts.nil _ _⟩
  | some c =>
    obtain ⟨rfl, rfl⟩ := hw
    refine ⟨_, rfl, Blk.alloc (h.store s hx ns) _, World.grownBy.trans (grown_set w b (so s + x) (.int .i64 ns)) (World.grownBy_alloc _ _ _), ?_⟩
    have := Bts.new (w.setCell ⟨b, so s + x, none⟩ (.int .i64 ns)) [255, c, (x : Int)]
    simpa [u8s, World.setCell, sayL] using this

/-- Got, of the whole object -/
def Opt.put (o : Opt) (s : Bool) (x : Nat) (m : Int × Option Int) : Opt × List Int := (o.set s x m.1, sayL x m.2)
def Opt.gotOn (o : Opt) (s : Bool) (x : Nat) : Opt × List Int := o.put s x (onM (o.st s x) (o.may s x) (onV s) (offV s))
def Opt.gotOff (o : Opt) (s : Bool) (x : Nat) : Opt × List Int := o.put s x (offM (o.st s x) (onV s) (offV s))
def Opt.got (o : Opt) (c : Int) (x : Nat) : Opt × List Int :=
  if c == 251 then o.gotOn false x else if c == 252 then o.gotOff false x else if c == 253 then o.gotOn true x else if c == 254 then o.gotOff true x else (o, [])

theorem gotOn_obj (b x : Nat) (o : Opt) (s : Bool) (hx : x < 256) (w : World) (h : OptAt w b o) :
    Calls Try.prog 49 #[.pointer (some ⟨b, so s, none⟩), .int .u8 x] w (SaidP w b (o.gotOn s x).1 (o.gotOn s x).2) :=
  (gotOn_any b (so s) x hx w (h.side s)).mono fun _ _ hw => Said.of h s hx hw
theorem gotOff_obj (b x : Nat) (o : Opt) (s : Bool) (hx : x < 256) (w : World) (h : OptAt w b o) :
    Calls Try.prog 50 #[.pointer (some ⟨b, so s, none⟩), .int .u8 x] w (SaidP w b (o.gotOff s x).1 (o.gotOff s x).2) :=
  (gotOff_any b (so s) x hx w (h.side s)).mono fun _ _ hw => Said.of h s hx hw

theorem Said.same {w : World} {b : Nat} {o : Opt} (h : OptAt w b o) : SaidP w b o [] (.returned (.slice none 0 0)) w :=
  ⟨_, rfl, h, World.grownBy.refl w _, Bts.nil _ _⟩

set_option maxHeartbeats 1000000 in
theorem Got_any (b x : Nat) (c : Int) (o : Opt) (hx : x < 256) (w : World) (h : OptAt w b o) :
    Calls Try.prog 14 #[.pointer (some ⟨b, 0, none⟩), .int .u8 c, .int .u8 x] w (SaidP w b (o.got c x).1 (o.got c x).2) := by
  have hn1 := Lib.hid (show Calls Try.prog 49 #[.pointer (some ⟨b, 514, none⟩), .int .u8 x] w _ from gotOn_obj b x o false hx w h)
  have hn2 := Lib.hid (show Calls Try.prog 49 #[.pointer (some ⟨b, 0, none⟩), .int .u8 x] w _ from gotOn_obj b x o true hx w h)
  have hf1 := Lib.hid (show Calls Try.prog 50 #[.pointer (some ⟨b, 514, none⟩), .int .u8 x] w _ from gotOff_obj b x o false hx w h)
  have hf2 := Lib.hid (show Calls Try.prog 50 #[.pointer (some ⟨b, 0, none⟩), .int .u8 x] w _ from gotOff_obj b x o true hx w h)
  have HS := Lib.hid (Said.same h)
  clear h
  go_enter Try.func14, Try.ntmps14
  go_wp2_with (first
    | (go_at_call 49; first | ((with_reducible refine hn1.out.mono ?_); rintro e w' ⟨v, rfl, hs⟩; have HS1 := Lib.hid hs; clear hs) | ((with_reducible refine hn2.out.mono ?_); rintro e w' ⟨v, rfl, hs⟩; have HS1 := Lib.hid hs; clear hs))
    | (go_at_call 50; first | ((with_reducible refine hf1.out.mono ?_); rintro e w' ⟨v, rfl, hs⟩; have HS1 := Lib.hid hs; clear hs) | ((with_reducible refine hf2.out.mono ?_); rintro e w' ⟨v, rfl, hs⟩; have HS1 := Lib.hid hs; clear hs)))
  all_goals go_ret
  all_goals first | (simp only [Opt.got, *]; exact ⟨_, rfl, HS1.out⟩) | (simp only [Opt.got, *]; exact HS.out)

/-- Want, of the whole object -/
def Opt.wish (o : Opt) (s : Bool) (x : Nat) : Option (Int × Option Int) → Opt × List Int × Int
  | none => (o, [], 5)
  | some m => (o.set s x m.1, sayL x m.2, 0)
def Opt.wantOn (o : Opt) (s : Bool) (x : Nat) : Opt × List Int × Int := o.wish s x (wishOn (o.st s x) (onV s))
def Opt.wantOff (o : Opt) (s : Bool) (x : Nat) : Opt × List Int × Int := o.wish s x (wishOff (o.st s x) (offV s))
def Opt.want (o : Opt) (c : Int) (x : Nat) : Opt × List Int × Int :=
  if c == 251 then o.wantOn true x else if c == 252 then o.wantOff true x else if c == 253 then o.wantOn false x else if c == 254 then o.wantOff false x else (o, [], 1)
def WantP (w : World) (b : Nat) (r : Opt × List Int × Int) (e : Ending) (w' : World) : Prop := ∃ v, e = .returned (.tuple #[v, .int .i64 r.2.2]) ∧ Said w b r.1 r.2.1 v w'
theorem WantP.of {w : World} {b : Nat} {o : Opt} (h : OptAt w b o) (s : Bool) {x : Nat} (hx : x < 256) {m : Option (Int × Option Int)} {e : Ending} {w' : World} (hw : WantW w b (so s) x m e w') :
    WantP w b (o.wish s x m) e w' := by
  rcases m with _ | ⟨ns, _ | c⟩
  · obtain ⟨rfl, rfl⟩ := hw
    exact ⟨_, rfl, h, World.grownBy.refl _ _, Bts.nil _ _⟩
  · obtain ⟨rfl, hw⟩ := hw
    obtain ⟨v, he, hs⟩ := Said.of h s hx (said := none) (ns := ns) ⟨rfl, hw⟩
    cases he
    exact ⟨_, rfl, hs⟩
  · obtain ⟨rfl, hw⟩ := hw
    obtain ⟨v, he, hs⟩ := Said.of h s hx (said := some c) (ns := ns) ⟨rfl, hw⟩
    cases he
    exact ⟨_, rfl, hs⟩
theorem wantOn_obj (b x : Nat) (o : Opt) (s : Bool) (hx : x < 256) (w : World) (h : OptAt w b o) :
    Calls Try.prog 45 #[.pointer (some ⟨b, so s, none⟩), .int .u8 x] w (WantP w b (o.wantOn s x)) :=
  (wantOn_any b (so s) x hx w (h.side s)).mono fun _ _ hw => WantP.of h s hx hw
theorem wantOff_obj (b x : Nat) (o : Opt) (s : Bool) (hx : x < 256) (w : World) (h : OptAt w b o) :
    Calls Try.prog 46 #[.pointer (some ⟨b, so s, none⟩), .int .u8 x] w (WantP w b (o.wantOff s x)) :=
  (wantOff_any b (so s) x hx w (h.side s)).mono fun _ _ hw => WantP.of h s hx hw

set_option maxHeartbeats 1000000 in
theorem Want_any (b x : Nat) (c : Int) (o : Opt) (hx : x < 256) (w : World) (h : OptAt w b o) :
    Calls Try.prog 12 #[.pointer (some ⟨b, 0, none⟩), .int .u8 c, .int .u8 x] w (WantP w b (o.want c x)) := by
  have hn1 := Lib.hid (show Calls Try.prog 45 #[.pointer (some ⟨b, 514, none⟩), .int .u8 x] w _ from wantOn_obj b x o false hx w h)
  have hn2 := Lib.hid (show Calls Try.prog 45 #[.pointer (some ⟨b, 0, none⟩), .int .u8 x] w _ from wantOn_obj b x o true hx w h)
  have hf1 := Lib.hid (show Calls Try.prog 46 #[.pointer (some ⟨b, 514, none⟩), .int .u8 x] w _ from wantOff_obj b x o false hx w h)
  have hf2 := Lib.hid (show Calls Try.prog 46 #[.pointer (some ⟨b, 0, none⟩), .int .u8 x] w _ from wantOff_obj b x o true hx w h)
  have HS := Lib.hid (show WantP w b (o, [], 1) (.returned (.tuple #[.slice none 0 0, .int .i64 1])) w from ⟨_, rfl, h, World.grownBy.refl w _, Bts.nil _ _⟩)
  clear h
  go_enter Try.func12, Try.ntmps12
  go_wp2_with (first
    | (go_at_call 45; first | ((with_reducible refine hn1.out.mono ?_); rintro e w' ⟨v, rfl, hs⟩; have HS1 := Lib.hid hs; clear hs) | ((with_reducible refine hn2.out.mono ?_); rintro e w' ⟨v, rfl, hs⟩; have HS1 := Lib.hid hs; clear hs))
    | (go_at_call 46; first | ((with_reducible refine hf1.out.mono ?_); rintro e w' ⟨v, rfl, hs⟩; have HS1 := Lib.hid hs; clear hs) | ((with_reducible refine hf2.out.mono ?_); rintro e w' ⟨v, rfl, hs⟩; have HS1 := Lib.hid hs; clear hs)))
  all_goals go_ret2
  all_goals first | (simp only [Opt.want, *]; exact ⟨_, rfl, HS1.out⟩) | (simp only [Opt.want, *]; exact HS.out)

/-! ### what is asked -/
theorem side_any (b : Nat) (s : Bool) (w : World) :
    Calls Try.prog 53 #[.pointer (some ⟨b, 0, none⟩), .bool s] w fun e w' => e = .returned (.pointer (some ⟨b, so s, none⟩)) ∧ w' = w := by
  cases s
  all_goals
    go_enter Try.func53, Try.ntmps53
    go_wp2
    go_ret
    exact ⟨rfl, rfl⟩

theorem State_any (b x : Nat) (s : Bool) (o : Opt) (hx : x < 256) (w : World) (h : OptAt w b o) :
    Calls Try.prog 20 #[.pointer (some ⟨b, 0, none⟩), .bool s, .int .u8 x] w fun e w' => e = .returned (.int .i64 (o.st s x)) ∧ w' = w := by
  have hc := (h.side s).st x hx
  clear h
  go_enter Try.func20, Try.ntmps20
  go_wp2_with (go_at_call 53; refine (side_any _ _ _).mono ?_; rintro e w' ⟨rfl, rfl⟩)
  go_ret
  exact ⟨rfl, rfl⟩

theorem On_any (b x : Nat) (s : Bool) (o : Opt) (hx : x < 256) (w : World) (h : OptAt w b o) :
    Calls Try.prog 21 #[.pointer (some ⟨b, 0, none⟩), .bool s, .int .u8 x] w fun e w' => e = .returned (.bool (o.st s x == 1)) ∧ w' = w := by
  have HS := Lib.hid h
  clear h
  go_enter Try.func21, Try.ntmps21
  go_wp2_with (go_at_call 20; refine (State_any _ _ _ _ hx _ HS.out).mono ?_; rintro e w' ⟨rfl, rfl⟩)
  go_ret
  exact ⟨rfl, rfl⟩

end Go.Proofs.Ytioaenidkieiiaa
