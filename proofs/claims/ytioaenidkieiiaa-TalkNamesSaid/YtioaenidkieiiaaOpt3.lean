/- More of the package option: allow, New. -/
import Derived.Test.YtioaenidkieiiaaOpt2
import Derived.Laws.Tables
import Derived.Deep.DeepCutAuto
import Derived.Deep.Cut
namespace Go.Proofs.Ytioaenidkieiiaa
set_option linter.unusedVariables false
set_option linter.unusedSimpArgs false
open Go.RowKit

theorem wpList_build_eq {P : Program} {ops : Array Oper} {rest : List Oper} {o : Oper} {a : Act} {w : World} {Q : Exit → Act → World → Prop} (cells : Array Value) (hg : o.guard = none) (t : TypeId) (parts : List (Nat × Operand)) (ho : o.op = .build t parts.toArray)
    (hc : P.built t (parts.map fun p => (p.1, a.eval p.2)) = some cells)
    (h : wpList P ops Q rest (a.put o.dst (.agg cells)) w) : wpList P ops Q (o :: rest) a w := by
  have hc' : P.built t (parts.toArray.map fun (i, x) => (i, a.eval x)).toList = some cells := by simpa using hc
  exact wpList_build hg t parts.toArray ho (by rw [hc']; rfl) (by rw [hc']; exact h)

def isV : Value → Value → Bool
  | .int .i64 n, .int .i64 m => n == m
  | .int .u8 n, .int .u8 m => n == m
  | .bool a, .bool b => a == b
  | _, _ => false
theorem isV_eq : ∀ {a b : Value}, isV a b = true → a = b := by
  intro a b h
  unfold isV at h
  split at h <;> simp_all
def allV : List Value → List Value → Bool
  | [], [] => true
  | a :: l, b :: m => isV a b && allV l m
  | _, _ => false
theorem allV_eq : ∀ {l m : List Value}, allV l m = true → l = m
  | [], [], _ => rfl
  | a :: l, b :: m, h => by
    simp only [allV, Bool.and_eq_true] at h
    rw [isV_eq h.1, allV_eq h.2]
  | [], _ :: _, h => by simp [allV] at h
  | _ :: _, [], h => by simp [allV] at h
def builtIs (r : Option (Array Value)) (l : List Value) : Bool := match r with | some c => allV c.toList l | none => false
theorem builtIs_eq {r : Option (Array Value)} {l : List Value} (h : builtIs r l = true) : r = some l.toArray := by
  unfold builtIs at h
  split at h
  · rename_i c
    have := allV_eq h
    rw [← this]
  · cases h

def zSide (on off : Int) : Array Value := ((List.range 514).map fun i => if i < 256 then Value.int .i64 0 else if i < 512 then .bool false else if i = 512 then .int .u8 on else .int .u8 off).toArray
def Opt.zero : Opt := ⟨fun _ _ => 0, fun _ _ => false⟩
theorem built_ours : Try.prog.built 98 [(2, .int .u8 251), (3, .int .u8 252)] = some (zSide 251 252) := builtIs_eq (by kernel_rfl)
theorem built_theirs : Try.prog.built 98 [(2, .int .u8 253), (3, .int .u8 254)] = some (zSide 253 254) := builtIs_eq (by kernel_rfl)
theorem set_each (vs : List Value) (off : Nat) : ∀ (k : Nat) (cs : Array Value), off + k + vs.length ≤ cs.size →
    ((vs.zipIdx k).foldl (fun cs x => cs.setIfInBounds (off + x.2) x.1) cs).toList = cs.toList.take (off + k) ++ vs ++ cs.toList.drop (off + k + vs.length) := by
  induction vs with
  | nil => intro k cs _; simp
  | cons v vs ih =>
    intro k cs h
    simp only [List.zipIdx_cons, List.foldl_cons]
    simp only [List.length_cons] at h
    rw [ih (k + 1) _ (by simp; omega)]
    have hlt : off + k < cs.toList.length := by simp; omega
    have e1 : (cs.setIfInBounds (off + k) v).toList = cs.toList.set (off + k) v := by simp
    rw [e1, show off + (k + 1) = off + k + 1 from by omega]
    rw [List.take_add_one, List.take_set_of_le (Nat.le_refl _)]
    rw [List.getElem?_set_self hlt, List.drop_set_of_lt (by omega)]
    simp only [List.length_cons, Option.toList_some, List.append_assoc, List.singleton_append]
    rw [show off + k + 1 + vs.length = off + k + (vs.length + 1) from by omega]
theorem set_all (X : Array Value) (off : Nat) (cs : Array Value) (h : off + X.size ≤ cs.size) :
    (X.zipIdx.foldl (fun cs x => cs.setIfInBounds (off + x.2) x.1) cs).toList = cs.toList.take off ++ X.toList ++ cs.toList.drop (off + X.size) := by
  have := set_each X.toList off 0 cs (by simpa using h)
  rw [← Array.foldl_toList, Array.toList_zipIdx]
  simpa using this
theorem fill_step (place : Nat → Option (Nat × Nat)) (cells X : Array Value) (i off : Nat) (rest : List (Nat × Value)) (h : place i = some (off, X.size)) (hs : off + X.size ≤ cells.size) :
    Instr.fill place cells ((i, .agg X) :: rest) = Instr.fill place (X.zipIdx.foldl (fun cs x => cs.setIfInBounds (off + x.2) x.1) cells) rest := by
  conv => lhs; unfold Instr.fill
  rw [h]
  dsimp only
  exact if_neg (by simp [Value.cells]; omega)
theorem fill_two (place : Nat → Option (Nat × Nat)) (z X Y : Array Value) (h0 : place 0 = some (0, X.size)) (h1 : place 1 = some (X.size, Y.size)) (hz : z.size = X.size + Y.size) :
    Instr.fill place z [(0, .agg X), (1, .agg Y)] = some (X ++ Y) := by
  have e1 := set_all X 0 z (by omega)
  have s1 : (X.zipIdx.foldl (fun cs x => cs.setIfInBounds (0 + x.2) x.1) z).size = z.size := by
    rw [← Array.length_toList, e1]; simp; omega
  have e2 := set_all Y X.size (X.zipIdx.foldl (fun cs x => cs.setIfInBounds (0 + x.2) x.1) z) (by rw [s1]; omega)
  rw [fill_step _ _ _ _ _ _ h0 (by omega), fill_step _ _ _ _ _ _ h1 (by rw [s1]; omega)]
  show some _ = _
  congr 1
  apply Array.ext'
  rw [e2, e1]
  have hl : z.toList.length = X.size + Y.size := by simpa using hz
  simp [hl]
theorem enc_two : zSide 251 252 ++ zSide 253 254 = Opt.zero.enc := by
  apply Array.ext'
  rw [Array.toList_append]
  exact allV_eq (by kernel_rfl)
theorem built_two {P : Program} {t : TypeId} {fs : Array Field} {places : List (Nat × Nat)} {X Y : Array Value} (n : Nat) (hi : ((P.info? t).bind fun i => i.zero.map fun z => z.cells.size) = some n) (hu : P.underlying t = some (.struct fs))
    (hp : fs.toList.mapM (fun f => (P.info? f.type).map fun i => (f.offset, i.size)) = some places) (h0 : places.toArray[0]? = some (0, X.size)) (h1 : places.toArray[1]? = some (X.size, Y.size)) (hz : n = X.size + Y.size) :
    P.built t [(0, .agg X), (1, .agg Y)] = some (X ++ Y) := by
  obtain ⟨it, h2, h3⟩ := Option.bind_eq_some_iff.1 hi
  obtain ⟨z, h4, h5⟩ := Option.map_eq_some_iff.1 h3
  unfold Program.built
  simp only [h2, hu, h4, hp]
  exact fill_two _ _ _ _ h0 h1 (by rw [h5, hz])
theorem zside_size (a b : Int) : (zSide a b).size = 514 := by simp [zSide]
theorem built_opt : Try.prog.built 100 [(0, .agg (zSide 251 252)), (1, .agg (zSide 253 254))] = some Opt.zero.enc := by
  rw [← enc_two]
  exact built_two 1028 (by kernel_rfl) Try.underlying100 (places := [(0, 514), (514, 514)]) (by kernel_rfl) (by rw [zside_size]; rfl) (by rw [zside_size, zside_size]; rfl) (by rw [zside_size, zside_size])
theorem size_zero : Opt.zero.enc.size = 1028 := by kernel_rfl

set_option maxHeartbeats 400000 in
/-- options that may be on -/
def Opt.allow (o : Opt) (s : Bool) (l : List Int) : Opt := { o with may := fun s' y => o.may s' y || (s' == s && l.contains (y : Int)) }
def Opt.allow1 (o : Opt) (s : Bool) (x : Nat) : Opt := { o with may := fun s' y => o.may s' y || (s' == s && y == x) }
theorem Opt.cell_allow1 (o : Opt) (s : Bool) (x : Nat) {i : Nat} (hi : so s + 256 + x ≠ i) : (o.allow1 s x).cell i = o.cell i := by
  have h1 : ∀ s' y, so s' + 256 + y = i → (o.allow1 s x).may s' y = o.may s' y := by
    intro s' y e
    unfold Opt.allow1
    dsimp only
    have : (s' == s && y == x) = false := by
      rw [Bool.eq_false_iff]
      intro h
      simp only [Bool.and_eq_true, beq_iff_eq] at h
      obtain ⟨rfl, rfl⟩ := h
      exact hi e
    rw [this, Bool.or_false]
  unfold Opt.cell
  by_cases a : i < 256
  · rw [if_pos a, if_pos a]; rfl
  rw [if_neg a, if_neg a]
  by_cases c : i < 512
  · rw [if_pos c, if_pos c, h1 true (i - 256) (by simp only [so]; simp; omega)]
  rw [if_neg c, if_neg c]
  by_cases d : i = 512
  · rw [if_pos d, if_pos d]
  rw [if_neg d, if_neg d]
  by_cases e : i = 513
  · rw [if_pos e, if_pos e]
  rw [if_neg e, if_neg e]
  by_cases f : i < 770
  · rw [if_pos f, if_pos f]; rfl
  rw [if_neg f, if_neg f, h1 false (i - 770) (by simp only [so]; simp; omega)]
theorem OptAt.allow1 {w : World} {b : Nat} {o : Opt} (h : OptAt w b o) (s : Bool) {x : Nat} (hx : x < 256) :
    OptAt (w.setCell ⟨b, so s + 256 + x, none⟩ (.bool true)) b (o.allow1 s x) := by
  have := Blk.store h (so s + 256 + x) (.bool true)
  have e : o.enc.setIfInBounds (so s + 256 + x) (.bool true) = (o.allow1 s x).enc := by
    apply Array.ext_getElem?
    intro i
    rw [Array.getElem?_setIfInBounds, Opt.enc_get, Opt.enc_get]
    have hsz : o.enc.size = 1028 := by simp [Opt.enc]
    have hso : so s ≤ 514 := by cases s <;> simp [so]
    rw [hsz]
    by_cases e : so s + 256 + x = i
    · subst e
      rw [if_pos rfl, if_pos (by omega), if_pos (by omega), Opt.cell_may _ _ hx]
      simp [Opt.allow1]
    · rw [if_neg e, Opt.cell_allow1 _ _ _ e]
  rw [e] at this
  exact this
theorem Opt.allow_nil (o : Opt) (s : Bool) : o.allow s [] = o := by simp [Opt.allow]
theorem Opt.allow_snoc (o : Opt) (s : Bool) (l : List Int) (x : Nat) : (o.allow s l).allow1 s x = o.allow s (l ++ [(x : Int)]) := by
  unfold Opt.allow Opt.allow1
  congr 1
  funext s' y
  have e : ((l ++ [(x : Int)]).contains (y : Int)) = (l.contains (y : Int) || y == x) := by
    rw [Bool.eq_iff_iff]
    simp [Int.ofNat_inj]
  dsimp only
  rw [e]
  cases o.may s' y <;> cases (s' == s) <;> simp

def AllowP (w : World) (b : Nat) (o' : Opt) (e : Ending) (w' : World) : Prop := e = .returned (.tuple #[]) ∧ OptAt w' b o' ∧ w.grownBy w' (some b)

set_option maxHeartbeats 1000000 in
theorem allow_any (b : Nat) (s : Bool) (o : Opt) (A : Option Addr) (c : Nat) (l : List Int) (hl : ∀ x ∈ l, 0 ≤ x ∧ x < 256) (hn : l.length ≤ 1000000) (w : World) (h : OptAt w b o) (hr : Rd w 1 A l.length (u8s l)) (hoff : 0 < l.length → Off b A) :
    Calls Try.prog 44 #[.pointer (some ⟨b, so s, none⟩), .slice A l.length c] w (AllowP w b (o.allow s l)) := by
  have HO := Lib.hid h
  have HR := Lib.hid hr
  have HF := Lib.hid hoff
  have HL := Lib.hid hl
  clear h hr hoff hl
  go_enter Try.func44, Try.ntmps44
  go_wp2
  go_loopw [8] (fun v wr => ∃ k : Nat, k ≤ l.length ∧ v = .int .i64 k ∧ Hid (OptAt wr b (o.allow s (l.take k))) ∧ Hid (w.grownBy wr (some b))) (fun v _ => l.length - (intOf v).toNat)
  case atStart => exact ⟨0, Nat.zero_le _, rfl, by rw [List.take_zero, Opt.allow_nil]; exact HO.out, World.grownBy.refl _ _⟩
  case round =>
    obtain ⟨k, hk, rfl, H1, H2⟩ := hrel
    by_cases hlt : k < l.length
    · obtain ⟨bl, ol, u, rfl, hu, hc⟩ := (HR.out.grown H2.out (fun g e => by cases e; exact HF.out (by omega))).at1 hlt
      obtain ⟨hx0, hx1⟩ := HL.out l[k] (List.getElem_mem hlt)
      obtain ⟨x, hx⟩ := Int.eq_ofNat_of_zero_le hx0
      have hu2 : u = .int .u8 (x : Int) := by
        rw [u8s_get, List.getElem?_eq_getElem hlt, hx] at hu
        simpa using hu.symm
      subst hu2
      have hx2 : x < 256 := by omega
      have hst := (H1.out.side s).may x hx2
      have hfr := (H1.out.side s).free (so s + 256 + x)
      have HN := Lib.hid (show o.allow s (l.take (k + 1)) = (o.allow s (l.take k)).allow1 s x by
        rw [Opt.allow_snoc, List.take_add_one, List.getElem?_eq_getElem hlt, hx]; rfl)
      clear hx hu hx0 hx1
      go_wp2
      go_roundw
      case rel => exact ⟨k + 1, by omega, by go_num, by rw [HN.out]; exact H1.out.allow1 s hx2, H2.out.trans (grown_set _ _ _ _)⟩
      case measure => simp [intOf]; omega
    · have : k = l.length := by omega
      subst this
      go_wp2
      go_end0
      exact ⟨rfl, by have := H1.out; rwa [List.take_length] at this, H2.out⟩

theorem Rd.off_size {w : World} {A : Option Addr} {n : Nat} {cs : List Value} (h : Rd w 1 A n cs) (hn : 0 < n) : Off w.heap.size A := by
  obtain ⟨b, o, u, rfl, hu, hc⟩ := h.at1 hn
  intro ad e
  cases e
  exact Nat.ne_of_lt (World.block_lt_of_cell? w _ hc)
theorem Rd.grown' {w w' : World} {A : Option Addr} {n b : Nat} {cs : List Value} (h : Rd w 1 A n cs) (hg : w.grownBy w' (some b)) (ho : 0 < n → Off b A) : Rd w' 1 A n cs := by
  by_cases hn : 0 < n
  · exact h.grown hg (fun g e => by cases e; exact ho hn)
  · exact ⟨h.1, fun h => absurd h hn⟩
def Opt.new (l m : List Int) : Opt := (Opt.zero.allow true l).allow false m
def NewP (w : World) (o : Opt) (e : Ending) (w' : World) : Prop := e = .returned (.pointer (some ⟨w.heap.size, 0, none⟩)) ∧ OptAt w' w.heap.size o ∧ Below w.heap.size w w' ∧ w.heap.size < w'.heap.size

set_option maxHeartbeats 1000000 in
set_option maxRecDepth 100000 in
theorem New_free (A B : Option Addr) (l m : List Int) (c d : Nat) (hl : ∀ x ∈ l, 0 ≤ x ∧ x < 256) (hm : ∀ x ∈ m, 0 ≤ x ∧ x < 256) (hn : l.length ≤ 1000000) (hn' : m.length ≤ 1000000) (w : World)
    (hr : Rd w 1 A l.length (u8s l)) (hr' : Rd w 1 B m.length (u8s m)) :
    Calls Try.prog 11 #[.slice A l.length c, .slice B m.length d] w (NewP w (Opt.new l m)) := by
  have HW := Lib.hid (Blk.new w 100 Opt.zero.enc)
  have HR := Lib.hid (hr.alloc (.cells Opt.zero.enc 100))
  have HR' := Lib.hid (hr'.alloc (.cells Opt.zero.enc 100))
  have HA := Lib.hid (fun h => hr.off_size h)
  have HB := Lib.hid (fun h => hr'.off_size h)
  clear hr hr'
  go_enter Try.func11, Try.ntmps11
  go_upto_region 1 with (fail)
  go_step
  (with_reducible refine wpList_build_eq (zSide 251 252) (by rfl) 98 [(2, .const (.int .u8 251)), (3, .const (.int .u8 252))] (by rfl) ?_ ?_)
  · exact built_ours
  (with_reducible refine wpList_build_eq (zSide 253 254) (by rfl) 98 [(2, .const (.int .u8 253)), (3, .const (.int .u8 254))] (by rfl) ?_ ?_)
  · exact built_theirs
  (with_reducible refine wpList_build_eq Opt.zero.enc (by rfl) 100 [(0, .tmp 6), (1, .tmp 7)] (by rfl) ?_ ?_)
  · exact built_opt
  go_wp2_with fail
  refine (allow_any w.heap.size true Opt.zero A c l hl hn _ HW.out HR.out HA.out).mono ?_
  rintro e w1 ⟨rfl, h1, g1⟩
  have H1 := Lib.hid h1
  have G1 := Lib.hid g1
  clear h1 g1
  go_wp2_with fail
  refine (allow_any w.heap.size false _ B d m hm hn' _ H1.out (Rd.grown' HR'.out G1.out HB.out) HB.out).mono ?_
  rintro e w2 ⟨rfl, h2, g2⟩
  have H2 := Lib.hid h2
  have G2 := Lib.hid g2
  clear h2 g2
  go_wp2
  go_ret
  have hs1 := G1.out.size
  have hs2 := G2.out.size
  simp at hs1
  exact ⟨rfl, H2.out, (((Below.refl w.heap.size w).alloc (Nat.le_refl _) _).grown G1.out (by simp) (fun k e => by cases e; exact Nat.le_refl _)).grown G2.out (by omega) (fun k e => by cases e; exact Nat.le_refl _), by omega⟩
theorem New_any (A B : Option Addr) (l m : List Int) (c d : Nat) (hl : ∀ x ∈ l, 0 ≤ x ∧ x < 256) (hm : ∀ x ∈ m, 0 ≤ x ∧ x < 256) (hn : l.length ≤ 1000000) (hn' : m.length ≤ 1000000) (w : World)
    (hr : Rd w 1 A l.length (u8s l)) (hr' : Rd w 1 B m.length (u8s m)) (hA : Off w.heap.size A) (hB : Off w.heap.size B) :
    Calls Try.prog 11 #[.slice A l.length c, .slice B m.length d] w (NewP w (Opt.new l m)) := New_free A B l m c d hl hm hn hn' w hr hr'
end Go.Proofs.Ytioaenidkieiiaa
