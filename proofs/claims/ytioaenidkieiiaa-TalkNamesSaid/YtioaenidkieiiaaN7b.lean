/- TalkNames: a name that was cleaned stays, and is told as it is. -/
import Derived.Test.YtioaenidkieiiaaT7g
import Derived.Test.YtioaenidkieiiaaN7a
namespace Go.Proofs.Ytioaenidkieiiaa
set_option linter.unusedVariables false
set_option linter.unusedSimpArgs false
open Go.RowKit Go.Shelf Go.Proofs.YtioaenidkieiiaaW.PrintWords
theorem numsOf_strOfNums {l : List Int} (h : ∀ x ∈ l, 0 ≤ x ∧ x < 256) : numsOf (strOfNums l) = l := by
  unfold numsOf
  rw [strOfNums_data, List.map_map]
  conv => rhs; rw [← List.map_id l]
  refine List.map_congr_left fun x hx => ?_
  obtain ⟨h0, h1⟩ := h x hx
  simp only [Function.comp, id]
  rw [UInt8.toNat_ofNat']
  omega
theorem cleanL_bd (s : ByteArray) : ∀ x ∈ cleanL s, 33 ≤ x ∧ x ≤ 126 := by
  intro x hx
  unfold cleanL at hx
  obtain ⟨y, _, rfl⟩ := List.mem_map.1 hx
  unfold seeB
  split <;> omega
theorem numsOf_cleanS (s : ByteArray) : numsOf (cleanS s) = cleanL s := numsOf_strOfNums fun x hx => by have := cleanL_bd s x hx; omega
/-- a name that was cleaned stays -/
theorem cleanS_twice (s : ByteArray) : cleanS (cleanS s) = cleanS s := by
  have h : cleanL (cleanS s) = cleanL s := by
    have hb := cleanL_bd s
    have hl := cleanL_length s
    unfold cleanL
    rw [numsOf_cleanS]
    rw [List.take_of_length_le (by omega)]
    conv => rhs; rw [← show cleanL s = ((numsOf s).take 16).map seeB from rfl, ← List.map_id (cleanL s)]
    refine List.map_congr_left fun x hx => ?_
    have := hb x hx
    unfold seeB
    rw [if_neg (by omega)]
    rfl
  unfold cleanS at h ⊢
  rw [h]
theorem str_zero (s : ByteArray) : strOfNums (0 :: numsOf s) = ⟨#[0]⟩ ++ s := by
  apply ByteArray.ext
  apply Array.toList_inj.1
  rw [strOfNums_data, ByteArray.data_append, Array.toList_append]
  show _ :: List.map _ (numsOf s) = _ :: s.data.toList
  congr 1
  unfold numsOf
  rw [List.map_map]
  conv => rhs; rw [← List.map_id s.data.toList]
  refine List.map_congr_left fun x _ => ?_
  simp
def ON1 : Opt := ((Opt.new [0, 24, 25] [0, 25]).got 253 24).1
def ON0 : Opt := Opt.new [0, 24, 25] [0, 25]
theorem name_verb (nm : ByteArray) : (⟨nm, ON0, false⟩ : Tk).take ⟨4, 253, 24, []⟩ = (⟨nm, ON1, false⟩, [255, 251, 24]) := by
  have h : (ON0.got 253 24).2 = [255, 251, 24] := by kernel_rfl
  show ((⟨nm, ON1, false⟩ : Tk), (ON0.got 253 24).2) = _
  rw [h]
theorem name_asked (nm : ByteArray) (nd : Bool) : (⟨nm, ON1, nd⟩ : Tk).take ⟨5, 0, 24, [1]⟩ = (⟨nm, ON1, true⟩, tellL 24 (0 :: numsOf nm)) := by
  have h : (ON1.st true 24 == 1) = true := by kernel_rfl
  have ha : (⟨nm, ON1, nd⟩ : Tk).asked ⟨5, 0, 24, [1]⟩ = true := by
    unfold Tk.asked
    rw [h]; rfl
  unfold Tk.take
  rw [if_neg (by decide), if_pos ha]
theorem name_told (nm : ByteArray) (h : nm.size ≤ 16) : (Dec.zero.takes (tellL 24 (0 :: numsOf nm))).out = [(⟨5, 0, 24, 0 :: numsOf nm⟩ : Eo)] := by
  have hl : (0 :: numsOf nm).length ≤ 256 := by rw [List.length_cons, numsOf_length]; omega
  rw [tell_takes Dec.zero rfl, if_neg (by omega), List.take_of_length_le hl]
  rfl
theorem name_ext : (ON1.st true 40 == 1) = false := by kernel_rfl
theorem TkAt.mut {B db : Nat} {W W1 : World} {tb ob : Nat} {t : Tk} (h : TkAt B W tb ob t) (hm : Mut db W W1) (h1 : tb ≠ db) (h2 : ob ≠ db) : TkAt B W1 tb ob t :=
  ⟨h.blk.grown hm (fun e => h1 (by injection e)), Blk.grown h.obj hm (fun e => h2 (by injection e)), h.ne, h.htb, h.hob⟩
theorem DecR.ext {W W1 : World} {db : Nat} {d : Dec} {vs : Value} (h : DecR W db d vs) (hx : Ext W W1) : DecR W1 db d vs :=
  ⟨Blk.below' h.blk hx, own_move h.sub (fun k hk => hx.block k (World.ownsRow.lt h.sub k hk).2), h.out, h.len⟩
theorem DecR.mut2 {a b db : Nat} {W W1 : World} {d : Dec} (h : DecR W db d (.slice none 0 0)) (hm : Mut2 a b W W1) (h1 : db ≠ a) (h2 : db ≠ b) : DecR W1 db d (.slice none 0 0) :=
  ⟨h.blk.mut2 hm h1 h2, own_move h.sub (fun k hk => by cases hk), h.out, h.len⟩
theorem and7 (x : Int) : bits .and .i64 x 7 = x % 8 := i64_mask x 3 (by decide)
set_option maxRecDepth 100000 in
set_option maxHeartbeats 8000000 in
theorem TalkNames_any (s : ByteArray) (hs : s.size ≤ 140737488351232) (a : Int) (w : World) :
    Calls Try.prog 9 #[.string s, .int .i64 a] w (Ret (.bool true) w) := by
  have HX := Lib.hid (Ext_refl w)
  by_cases hl : 300 < s.size
  · have hd : decide ((300 : Int) < (s.size : Int)) = true := decide_eq_true (by omega)
    go_enter Try.func9, Try.ntmps9
    go_wp2_with (go_at_call 27; refine (alive7_any _).mono ?_; rintro e wn ⟨rfl, hb⟩; have HXn := Lib.hid (Ext_trans hb (by repeat' (first | (with_reducible first | exact HX.out | apply Ext_alloc | apply Ext_drewN | apply Ext_drew | (refine Ext_set ?_ ?_) | exact Ext_refl _) | (simp only [World.size_alloc, World.size_setCell, World.size_drew, size_drewN]; omega) | (simp; done) | (simp; omega)))); clear hb HX; have HX := HXn; clear HXn)
    go_ret
    exact ⟨rfl, HX.out⟩
  have hd : decide ((300 : Int) < (s.size : Int)) = false := decide_eq_false (by omega)
  obtain ⟨nm, hnm⟩ : ∃ nm, cleanS s = nm := ⟨_, rfl⟩
  have hsz : nm.size = min 16 s.size := by rw [← hnm]; exact cleanS_size s
  have hsz16 : nm.size ≤ 16 := by omega
  have hmin : (if (16 : Int) < (s.size : Int) then (16 : Int) else (s.size : Int)) = (nm.size : Int) := by
    by_cases h : (16 : Int) < (s.size : Int)
    · rw [if_pos h]; omega
    · rw [if_neg h]; omega
  have HTW : Hid ((Tk.new nm true).name = nm) := Lib.hid (by show cleanS nm = nm; rw [← hnm]; exact cleanS_twice s)
  have hnew : Tk.new s false = ⟨nm, ON0, false⟩ := by rw [← hnm]; rfl
  have HNEW := Lib.hid hnew
  obtain ⟨n, hn, hn1, hn8⟩ : ∃ n : Nat, IntKind.i64.wrap (1 + bits .and .i64 a 7) = (n : Int) ∧ 1 ≤ n ∧ n ≤ 8 := by
    rw [and7]
    have h0 : 0 ≤ a % 8 := Int.emod_nonneg _ (by decide)
    have h1 : a % 8 < 8 := Int.emod_lt_of_pos _ (by decide)
    refine ⟨(1 + a % 8).toNat, ?_, by omega, by omega⟩
    rw [IntWalk.i64_in _ (by omega)]
    omega
  have hsz2 : nm.size ≤ 140737488351232 := by omega
  clear hl hnm hsz hnew
  go_enter Try.func9, Try.ntmps9
  go_wp2_with (go_at_call 27; refine (alive7_any _).mono ?_; rintro e wn ⟨rfl, hb⟩; have HXn := Lib.hid (Ext_trans hb (by repeat' (first | (with_reducible first | exact HX.out | apply Ext_alloc | apply Ext_drewN | apply Ext_drew | (refine Ext_set ?_ ?_) | exact Ext_refl _) | (simp only [World.size_alloc, World.size_setCell, World.size_drew, size_drewN]; omega) | (simp; done) | (simp; omega)))); clear hb HX; have HX := HXn; clear HXn)
  refine (NewTalk_any s hs false wn).mono ?_
  rw [HNEW.out]
  rintro e w1 ⟨tb, ob, rfl, h1, x1⟩
  have H1 := Lib.hid h1
  have X1 := Lib.hid (Ext_trans x1 HX.out)
  have hwt : w.heap.size ≤ tb := Nat.le_trans HX.out.size h1.htb
  have hwo : w.heap.size ≤ ob := Nat.le_trans HX.out.size h1.hob
  clear h1 x1 HX
  go_wp2_with fail
  refine (Name_any _ tb ob _ _ H1.out).mono ?_
  rintro e wq ⟨rfl, rfl⟩
  go_wp2_with fail
  refine (NewTalk_any nm hsz2 true _).mono ?_
  rintro e w2 ⟨tb2, ob2, rfl, h2, x2⟩
  have H2 := Lib.hid (H1.out.step x2)
  have X2 := Lib.hid (Ext_trans x2 X1.out)
  have HT2 := Lib.hid h2
  clear h2 x2 X1 H1
  go_wp2_with fail
  refine (Name_any _ tb2 ob2 _ _ HT2.out).mono ?_
  rintro e w3 ⟨rfl, rfl⟩
  rw [HTW.out]
  clear HT2
  go_wp2_with fail
  refine (TakeT_lit (ev := ⟨4, 253, 24, []⟩) (t' := ⟨nm, ON1, false⟩) (l := [255, 251, 24]) (by rw [name_verb]) (by rw [name_verb]) H2.out (by decide) (by decide) (Rd.nil _ _ _) (show nm.size ≤ 1000 by omega)).mono ?_
  rintro e w4 ⟨v4, rfl, h4, m4, -⟩
  have H4 := Lib.hid h4
  have X4 := Lib.hid (m4.ext X2.out hwt hwo)
  have hnz : (0 : Int) < (n : Int) := by omega
  clear h4 m4 H2 X2
  go_wp2_with fail
  go_loopw [7, 8, 37] (fun _ _ v wr => ∃ (k : Nat) (nd : Bool), k ≤ n ∧ v = .int .i64 k ∧ (0 < k → nd = true) ∧ Hid (TkAt wn.heap.size wr tb ob ⟨nm, ON1, nd⟩) ∧ Hid (Ext w wr)) (fun _ _ v _ => n - (intOf v).toNat)
  case atStart => exact ⟨0, false, Nat.zero_le _, rfl, fun h => absurd h (by omega), H4, X4⟩
  case round =>
    obtain ⟨k, nd, hk, rfl, hnd, HT, HX⟩ := hrel
    by_cases hlt : k < n
    · have hwk : IntKind.i64.wrap ((k : Int) + 1) = ((k + 1 : Nat) : Int) := IntWalk.i64_in _ (by omega)
      have hli : (k : Int) < (n : Int) := by omega
      go_wp2_with fail
      have E1 : Ext wr ((wr.alloc (.cells #[.int .i64 0, .int .u8 0, .int .u8 0, .slice none 0 0, .bool false, .slice none 0 0] 89)).alloc (.cells #[.int .u8 1] 5)) := Ext_alloc (Ext_alloc (Ext_refl _))
      have hD := (DecR.fresh wr).ext (Ext_alloc (o := .cells #[.int .u8 1] 5) (Ext_refl _))
      have hs1 : wr.heap.size + 1 < ((wr.alloc (.cells #[.int .i64 0, .int .u8 0, .int .u8 0, .slice none 0 0, .bool false, .slice none 0 0] 89)).alloc (.cells #[.int .u8 1] 5)).heap.size := by simp
      have hrd : Rd ((wr.alloc (.cells #[.int .i64 0, .int .u8 0, .int .u8 0, .slice none 0 0, .bool false, .slice none 0 0] 89)).alloc (.cells #[.int .u8 1] 5)) 1 (some ⟨(wr.alloc (.cells #[.int .i64 0, .int .u8 0, .int .u8 0, .slice none 0 0, .bool false, .slice none 0 0] 89)).heap.size, 0, none⟩) 1 (u8s [1]) := Rd.blk (Blk.new (wr.alloc (.cells #[.int .i64 0, .int .u8 0, .int .u8 0, .slice none 0 0, .bool false, .slice none 0 0] 89)) 5 #[.int .u8 1]) rfl
      rw [World.size_alloc] at hrd
      have htb : tb < wr.heap.size := HT.out.blk.lt
      have hob : ob < wr.heap.size := HT.out.obj.lt
      have H1 := Lib.hid (HT.out.step E1)
      have X1 := Lib.hid (Ext_trans E1 HX.out)
      have HD1 := Lib.hid hD
      have HS1 := Lib.hid hs1
      have HRD := Lib.hid hrd
      clear E1 hD hs1 hrd HT HX
      generalize ((wr.alloc (.cells #[.int .i64 0, .int .u8 0, .int .u8 0, .slice none 0 0, .bool false, .slice none 0 0] 89)).alloc (.cells #[.int .u8 1] 5)) = w5 at *
      obtain ⟨L, hL⟩ : ∃ L, tellL 24 (0 :: numsOf nm) = L := ⟨_, rfl⟩
      have hLL : L.length ≤ 40000 := by
        rw [← hL]
        unfold tellL
        have h1 := escL_length (0 :: numsOf nm)
        have h2 := escL_length [24]
        simp only [List.length_append, List.length_cons, List.length_nil, numsOf_length] at h1 h2 ⊢
        omega
      have HTO := Lib.hid (show (Dec.zero.takes L).out = [(⟨5, 0, 24, 0 :: numsOf nm⟩ : Eo)] by rw [← hL]; exact name_told nm hsz16)
      have HLA := Lib.hid (show (⟨nm, ON1, nd⟩ : Tk).take ⟨5, 0, 24, [1]⟩ = (⟨nm, ON1, true⟩, L) by rw [← hL]; exact name_asked nm nd)
      clear hL
      refine (TakeT_lit (ev := ⟨5, 0, 24, [1]⟩) (t' := ⟨nm, ON1, true⟩) (l := L) (by rw [HLA.out]) (by rw [HLA.out]) H1.out (by decide) (by decide) HRD.out (show nm.size ≤ 1000 by omega)).mono ?_
      rintro e w6 ⟨v6, rfl, h6, m6, ⟨A6, c6, rfl, hc6, d6, f6⟩⟩
      have hs6 := HS1.out
      have H6 := Lib.hid h6
      have X6 := Lib.hid (m6.ext X1.out hwt hwo)
      have HD6 := Lib.hid (HD1.out.mut2 m6 (by omega) (by omega))
      have D6 := Lib.hid d6
      have F6 := Lib.hid f6
      clear h6 m6 d6 f6 H1 X1 HD1 HRD
      go_wp2_with fail
      refine (Feed_new HD6.out A6 c6 L hLL hc6 D6.out (fun _ => F6.out.off (by omega))).mono ?_
      rintro e w7 ⟨vo, ms, vs, rfl, hd7, he7, hm7, hv7, hx7⟩
      rw [HTO.out] at hm7
      obtain ⟨m, rfl, hme⟩ : ∃ m, ms = [m] ∧ m.e = (⟨5, 0, 24, 0 :: numsOf nm⟩ : Eo) := by
        have hl := congrArg List.length hm7
        rw [List.length_map] at hl
        obtain ⟨m, hm⟩ := List.length_eq_one_iff.1 hl
        rw [hm] at hm7
        exact ⟨m, hm, by simpa using hm7⟩
      have H7 := Lib.hid (H6.out.mut hx7 (by omega) (by omega))
      have X7 := Lib.hid (Mut_trans hx7 X6.out (by have := X6.out.size; omega))
      have ho7 := he7.out
      have hw7 := he7.row m List.mem_cons_self
      obtain ⟨A7, c7, rfl⟩ := Go.Proofs.YtioaenidkieiiaaW.PrintWords.own_slice ho7
      have hr7 := Rd.own ho7
      obtain ⟨ev, Am, cm⟩ := m
      obtain rfl : ev = _ := hme
      obtain ⟨bb, o, hA, hcell⟩ := hr7.elem Em.enc (fun _ => rfl) (i := 0) (by simp) (by rfl)
      have k0 := hcell 0 _ rfl
      have k2 := hcell 2 _ rfl
      have k3 := hcell 3 _ rfl
      have hrow := Rd.own hw7
      have hcv := conv_str Try.underlying22 Try.underlying5 Try.underlying9 hrow cm
      rw [str_zero] at hcv
      simp only [Nat.add_zero, Nat.zero_mul, Em.v] at k0 k2 k3
      subst hA
      have hcv2 := hcv
      simp only [List.length_cons] at hcv2
      clear hcell hr7 ho7 hw7 he7 hd7 hm7 hv7 hx7 hrow hcv H6 X6 HD6 D6 F6 HTO HLA
      go_wp2_with fail
      refine ⟨⟨k + 1, true, by omega, by go_num, fun _ => rfl, H7, X7⟩, by simp [intOf]; omega⟩
    · have hke : k = n := by omega
      subst hke
      have hnt : nd = true := hnd (by omega)
      subst hnt
      clear hlt hk hnd
      go_wp2_with fail
      refine (Named_any _ tb ob _ _ HT.out).mono ?_
      rintro e w5 ⟨rfl, rfl⟩
      go_wp2_with fail
      refine (Extended_any _ tb ob _ _ HT.out).mono ?_
      rintro e w6 ⟨rfl, rfl⟩
      rw [name_ext]
      go_wp2_with fail
      go_ret
      exact ⟨rfl, HX.out⟩
theorem TalkNames_walk (s : ByteArray) (hs : s.size ≤ 140737488351232) (a : Int) (wa : (Lit.int .i64 a).wf = true) (w : World) :
    Calls Try.prog 9 #[.string s, .int .i64 a] w (Ret (.bool true) w) := TalkNames_any s hs a w
end Go.Proofs.Ytioaenidkieiiaa
