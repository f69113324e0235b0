/- TalkAgrees, its walk. -/
import Derived.Test.YtioaenidkieiiaaT7h
import Derived.LoopN
namespace Go.Proofs.Ytioaenidkieiiaa
set_option linter.unusedVariables false
set_option linter.unusedSimpArgs false
open Go.RowKit Go.Shelf

def i64s (l : List Int) : List Value := l.map (Value.int .i64)
theorem i64s_length (l : List Int) : (i64s l).length = l.length := by simp [i64s]
theorem i64s_get (l : List Int) (j : Nat) : (i64s l)[j]? = (l[j]?).map (Value.int .i64) := by simp [i64s]
theorem i64_mask' (x : Int) (i : Nat) (hi : i ≤ 62) : bits .and .i64 x (((2 ^ i - 1 : Nat)) : Int) = x % ((2 ^ i : Nat) : Int) := by
  have hp : (2:Nat) ^ i ≤ 2 ^ 62 := Nat.pow_le_pow_right (by decide) hi
  have hpos : 0 < 2 ^ i := Nat.two_pow_pos i
  have h1 : ((2 ^ i - 1 : Nat) : Nat) % 2 ^ 64 = 2 ^ i - 1 := Nat.mod_eq_of_lt (by omega)
  simp only [bits, BitVec.ofInt_natCast, BitVec.toNat_and, BitVec.toNat_ofNat, BitVec.toNat_ofInt]
  rw [show IntKind.i64.bits = 64 from rfl]
  rw [h1, Nat.and_two_pow_sub_one_eq_mod]
  have h2 : ((x % ((2 ^ 64 : Nat) : Int)).toNat : Int) = x % ((2 ^ 64 : Nat) : Int) := Int.toNat_of_nonneg (Int.emod_nonneg _ (by decide))
  have h3 : (((x % ((2 ^ 64 : Nat) : Int)).toNat % 2 ^ i : Nat) : Int) = x % ((2 ^ i : Nat) : Int) := by
    rw [Int.natCast_emod, h2]
    apply Int.emod_emod_of_dvd
    exact_mod_cast Nat.pow_dvd_pow 2 (show i ≤ 64 by omega)
  rw [h3, IntKind.wrap_i64]
  have h4 : 0 ≤ x % ((2 ^ i : Nat) : Int) := Int.emod_nonneg _ (by omega)
  have h5 : x % ((2 ^ i : Nat) : Int) < ((2 ^ i : Nat) : Int) := Int.emod_lt_of_pos _ (by omega)
  omega
theorem mask_rem (a : Int) : (bits .and .i64 a 1023).tmod 6 = a % 1024 % 6 := by
  have h : bits .and .i64 a 1023 = a % 1024 := i64_mask' a 10 (by decide)
  rw [h, Int.tmod_eq_emod_of_nonneg (by omega)]
def VC : Array Value := #[.int .i64 4, .int .u8 253, .int .u8 24, .slice none 0 0, .int .i64 4, .int .u8 253, .int .u8 25, .slice none 0 0, .int .i64 4, .int .u8 251, .int .u8 25, .slice none 0 0,
  .int .i64 4, .int .u8 253, .int .u8 0, .slice none 0 0, .int .i64 4, .int .u8 251, .int .u8 0, .slice none 0 0, .int .i64 4, .int .u8 253, .int .u8 40, .slice none 0 0]
theorem VL_at {j : Nat} (hj : j < 6) : ∃ (co : Int) (x : Nat), VL[j]? = some ⟨4, co, x, []⟩ ∧ x < 256 ∧ VC[j * 4]? = some (.int .i64 4) ∧ VC[j * 4 + 1]? = some (.int .u8 co) ∧ VC[j * 4 + 2]? = some (.int .u8 (x : Int)) ∧ VC[j * 4 + 3]? = some (.slice none 0 0) := by
  have h : j = 0 ∨ j = 1 ∨ j = 2 ∨ j = 3 ∨ j = 4 ∨ j = 5 := by omega
  rcases h with rfl | rfl | rfl | rfl | rfl | rfl <;> exact ⟨_, _, rfl, by decide, rfl, rfl, rfl, rfl⟩

set_option maxRecDepth 100000 in
set_option maxHeartbeats 4000000 in
theorem TalkAgrees_any (s : ByteArray) (hs : s.size ≤ 140737488351232) (ext : Bool) (A : Option Addr) (c : Nat) (ks : List Int) (w : World) (n1 : ks.length ≤ maxLen) (hr : Rd w 1 A ks.length (i64s ks)) :
    Calls Try.prog 8 #[.string s, .bool ext, .slice A ks.length c] w (Ret (.bool true) w) := by
  unfold maxLen at n1
  have R1 := Lib.hid (fun w' (h : Ext w w') => Rd_ext h hr)
  clear hr
  have AL := Lib.hid (alive7_any w)
  by_cases l3 : 20 < ks.length
  · go_enter Try.func8, Try.ntmps8
    go_wp2_with (go_at_call 27; refine AL.out.mono ?_; rintro e wa ⟨rfl, hx⟩; have HX := Lib.hid hx; clear hx)
    go_ret
    exact ⟨rfl, HX.out⟩
  by_cases l1 : 100 < s.size
  · have l3' : ks.length ≤ 20 := by omega
    clear l3
    go_enter Try.func8, Try.ntmps8
    go_wp2_with (go_at_call 27; refine AL.out.mono ?_; rintro e wa ⟨rfl, hx⟩; have HX := Lib.hid hx; clear hx)
    go_ret
    exact ⟨rfl, HX.out⟩
  have l3' : ks.length ≤ 20 := by omega
  have l1' : s.size ≤ 100 := by omega
  clear l3 l1
  go_enter Try.func8, Try.ntmps8
  go_wp2_with (go_at_call 27; refine AL.out.mono ?_; rintro e wa ⟨rfl, hx⟩; have HX := Lib.hid hx; clear hx)
  have e1 := Ext_alloc (o := .cells VC 72) (Ext_refl wa)
  have BV := Lib.hid (Blk.new wa 72 VC)
  refine (NewTalk_any s (by omega) ext _).mono ?_
  rintro e w1 ⟨tb, ob, rfl, h1, x1⟩
  have H1 := Lib.hid h1
  have HX1 := Lib.hid (Ext_trans x1 (Ext_trans e1 HX.out))
  have BV1 := Lib.hid (Blk.below' BV.out x1)
  have hvb : wa.heap.size < w1.heap.size := BV1.out.lt
  have htb : tb ≠ wa.heap.size := by have := h1.htb; simp at this; omega
  have hob : ob ≠ wa.heap.size := by have := h1.hob; simp at this; omega
  have hwt : w.heap.size ≤ tb := by have := h1.htb; have := HX.out.size; simp at *; omega
  have hwo : w.heap.size ≤ ob := by have := h1.hob; have := HX.out.size; simp at *; omega
  have HI := Lib.hid (AgI.new s ext)
  clear h1 x1 e1 BV HX AL
  go_wp2_with fail
  generalize Tk.new s ext = t0 at *
  generalize wa.heap.size = vb at *
  go_loopw [10, 38] (fun _ v wr => ∃ (k : Nat) (t : Tk) (B : Nat), k ≤ ks.length ∧ v = .int .i64 k ∧ Hid (AgI s ext t) ∧ Hid (TkAt B wr tb ob t) ∧ Hid (Ext w wr) ∧ Hid (Blk wr vb 72 VC)) (fun _ v _ => ks.length - (intOf v).toNat)
  case atStart => exact ⟨0, t0, _, Nat.zero_le _, rfl, HI.out, H1.out, HX1.out, BV1.out⟩
  case round =>
    clear H1 HX1 BV1 HI hvb
    obtain ⟨k, t, B, hk, rfl, HI, H1, HX, BV⟩ := hrel
    by_cases hlt : k < ks.length
    · obtain ⟨g, q, u, rfl, hu, hc⟩ := (R1.out _ HX.out).at1 hlt
      obtain ⟨a, rfl⟩ : ∃ a, u = .int .i64 a := by
        rw [i64s_get, List.getElem?_eq_getElem hlt] at hu
        exact ⟨_, by simpa using hu.symm⟩
      clear hu
      have hX := mask_rem a
      obtain ⟨X, hX'⟩ : ∃ X, (bits .and .i64 a 1023).tmod 6 = X := ⟨_, rfl⟩
      obtain ⟨j, hj, hj6⟩ : ∃ j : Nat, X = (j : Int) ∧ j < 6 := ⟨(a % 1024 % 6).toNat, by omega, by omega⟩
      have hX0 : 0 ≤ (bits .and .i64 a 1023).tmod 6 := by omega
      have hX1 : (bits .and .i64 a 1023).tmod 6 < 6 := by omega
      have hXj : ((bits .and .i64 a 1023).tmod 6).toNat = j := by omega
      obtain ⟨co, x, hev, hx, c0, c1, c2, c3⟩ := VL_at hj6
      rw [← hXj] at c0 c1 c2 c3
      have v0 := (BV.out.cell _).trans c0
      have v1 := (BV.out.cell _).trans c1
      have v2 := (BV.out.cell _).trans c2
      have v3 := (BV.out.cell _).trans c3
      clear hX hX' hj hXj hev c0 c1 c2 c3
      go_wp2_with fail
      obtain ⟨HI2, hl3⟩ := HI.out.take ⟨4, co, x, []⟩ rfl
      have HI3 := Lib.hid HI2
      have hnm : t.name.size ≤ 1000 := by rw [HI.out.name, cleanS_size]; omega
      have hwB := H1.out.htb
      have hwO := H1.out.hob
      refine (TakeT_lit (ev := ⟨4, co, x, []⟩) rfl rfl H1.out hx (Nat.zero_le _) (Rd.nil _ _ _) hnm).mono ?_
      rintro e w2 ⟨v2, rfl, h2, m2, ⟨A2, c2, rfl, -, -, -⟩⟩
      have H2 := Lib.hid h2
      have BV2 := Lib.hid (BV.out.mut2 m2 htb.symm hob.symm)
      have X2 := Lib.hid (m2.ext HX.out hwt hwo)
      clear h2 m2 HI2 hnm v0 v1 v2 v3 hX0 hX1
      generalize (t.take ⟨4, co, x, []⟩).1 = t2 at *
      generalize (t.take ⟨4, co, x, []⟩).2 = l2 at *
      go_wp2_with fail
      go_roundw
      case rel => exact ⟨k + 1, t2, B, by omega, by go_num, HI3.out, H2.out, X2.out, BV2.out⟩
      case measure => simp [intOf]; omega
    · have : k = ks.length := by omega
      subst this
      have hbas := HI.out.basic
      have HBS := Lib.hid hbas
      clear hbas
      go_wp2_with (go_at_call 35; refine (Basic_any _ tb ob t _ H1.out).mono ?_; rintro e wq ⟨rfl, rfl⟩; rw [HBS.out])
      go_loopw [13, 59] (fun _ v wr => ∃ (k2 : Nat), k2 ≤ 6 ∧ v = .int .i64 k2 ∧ Hid (TkAt B wr tb ob (t.takes (VL.take k2))) ∧ Hid (Ext w wr) ∧ Hid (Blk wr vb 72 VC)) (fun _ v _ => 6 - (intOf v).toNat)
      case atStart => exact ⟨0, Nat.zero_le _, rfl, H1.out, HX.out, BV.out⟩
      case round =>
        rename_i wo _ _ _
        clear H1 HX BV
        obtain ⟨k2, hk2, rfl, H1, HX, BV⟩ := hrel
        by_cases hlt2 : k2 < 6
        · obtain ⟨co, x, hev, hx, c0, c1, c2, c3⟩ := VL_at hlt2
          have v0 := (BV.out.cell _).trans c0
          have v1 := (BV.out.cell _).trans c1
          have v2 := (BV.out.cell _).trans c2
          have v3 := (BV.out.cell _).trans c3
          have HE := Lib.hid hev
          have hvl : vb < wr.heap.size := BV.out.lt
          have hnm : (t.takes (VL.take k2)).name.size ≤ 1000 := by rw [(HI.out.takes (VL.take k2) (fun e he => VL_kind e (List.mem_of_mem_take he))).name, cleanS_size]; omega
          clear c0 c1 c2 c3 hev
          go_wp2_with fail
          have eA := Ext_alloc (o := .cells #[.int .i64 4, .int .u8 co, .int .u8 (x : Int), .slice none 0 0] 72) (Ext_refl wr)
          refine (TakeT_lit (ev := ⟨4, co, x, []⟩) rfl rfl (H1.out.step eA) hx (Nat.zero_le _) (Rd.nil _ _ _) hnm).mono ?_
          rintro e w2 ⟨vv, rfl, h2, m2, ⟨A2, c2, rfl, -, -, -⟩⟩
          rw [← Tk.takes_take t VL HE.out] at h2
          have H2 := Lib.hid h2
          have BV2 := Lib.hid ((Blk.below' BV.out eA).mut2 m2 htb.symm hob.symm)
          have X2 := Lib.hid (m2.ext (Ext_trans eA HX.out) hwt hwo)
          clear h2 m2 eA hnm v0 v1 v2 v3 HE
          generalize ((t.takes (VL.take k2)).take ⟨4, co, x, []⟩).2 = l2 at *
          go_wp2_with fail
          go_roundw
          case rel => exact ⟨k2 + 1, by omega, by go_num, H2.out, X2.out, BV2.out⟩
          case measure => simp [intOf]; omega
        · have : k2 = 6 := by omega
          subst this
          have h1 : TkAt B wr tb ob (t.takes VL) := H1.out
          have hI := HI.out.takes VL VL_kind
          obtain ⟨a1, a2, a3, a4, a5, a6⟩ := VL_st HI.out
          obtain ⟨b1, b2⟩ := VL_said HI.out
          have H6 := Lib.hid h1
          have hb0 : (t.takes VL).basic = false := hI.basic
          have hbT : Tk.basic ⟨cleanS s, (t.takes VL).o, true⟩ = true := by unfold Tk.basic Tk.both; rw [a2, a3, a4, a5]; rfl
          have hxT : ((t.takes VL).o.st true 40 == 1) = ext := by rw [a6]; cases ext <;> rfl
          have hnm : (t.takes VL).name.size ≤ 1000 := by rw [hI.name, cleanS_size]; omega
          obtain ⟨Ls, hLs⟩ : ∃ Ls, tellL 24 (0 :: numsOf (cleanS s)) = Ls := ⟨_, rfl⟩
          have hll : Ls.length = 6 + (cleanS s).size := by rw [← hLs]; exact tell_clean_length s
          have HB0 := Lib.hid hb0
          have HBT := Lib.hid hbT
          have HXT := Lib.hid hxT
          have HB1 := Lib.hid b1
          have HB2 := Lib.hid (b2.trans hLs)
          have HLL := Lib.hid hll
          have hsz := cleanS_size s
          have HSZ := Lib.hid hsz
          have hs16 : (cleanS s).size ≤ 16 := by omega
          clear h1 hI a1 a2 a3 a4 a5 a6 b1 b2 hb0 hbT hxT hll hLs H1 hsz
          generalize (t.takes VL).o = o6 at *
          go_wp2_with (go_at_call 35; refine (Basic_any _ tb ob _ _ H6.out).mono ?_; rintro e wq ⟨rfl, rfl⟩; rw [HB0.out])
          have eA := Ext_alloc (o := .cells #[.int .u8 1] 5) (Ext_refl wq)
          refine (TakeT_lit (ev := AE1) HB1.out HB2.out (H6.out.step eA) (by decide) (by decide) (Rd.blk (Blk.new wq 5 (u8s [1]).toArray) rfl) hnm).mono ?_
          rintro e w2 ⟨vv, rfl, h2, m2, ⟨A2, c2, rfl, -, -, -⟩⟩
          have H7 := Lib.hid h2
          have X7 := Lib.hid (m2.ext (Ext_trans eA HX.out) hwt hwo)
          clear h2 m2 eA hnm
          have he1 : ((Ls.length : Int) == 6 + ((cleanS s).size : Int)) = true := by rw [beq_iff_eq, HLL.out]; omega
          dsimp only
          by_cases h16 : s.size ≤ 16
          · have he2 : (((cleanS s).size : Int) == (s.size : Int)) = true := by rw [beq_iff_eq, HSZ.out]; omega
            go_wp2_with (first
              | (go_at_call 35; refine (Basic_any _ tb ob _ _ H7.out).mono ?_; rintro e wq ⟨rfl, rfl⟩; rw [HBT.out])
              | (go_at_call 37; refine (Extended_any _ tb ob _ _ H7.out).mono ?_; rintro e wq ⟨rfl, rfl⟩; rw [HXT.out])
              | (go_at_call 40; refine (Name_any _ tb ob _ _ H7.out).mono ?_; rintro e wq ⟨rfl, rfl⟩))
            go_ret
            exact ⟨rfl, X7.out⟩
          · have he2 : (((cleanS s).size : Int) == 16) = true := by rw [beq_iff_eq, HSZ.out]; omega
            go_wp2_with (first
              | (go_at_call 35; refine (Basic_any _ tb ob _ _ H7.out).mono ?_; rintro e wq ⟨rfl, rfl⟩; rw [HBT.out])
              | (go_at_call 37; refine (Extended_any _ tb ob _ _ H7.out).mono ?_; rintro e wq ⟨rfl, rfl⟩; rw [HXT.out])
              | (go_at_call 40; refine (Name_any _ tb ob _ _ H7.out).mono ?_; rintro e wq ⟨rfl, rfl⟩))
            go_ret
            exact ⟨rfl, X7.out⟩
theorem int_row {H : Type} {w : World} {A : Option Addr} {n c : Nat} (h : Handed Try.prog H w 85 (.slice A n c)) :
    ∃ l : List Int, l.length = n ∧ n ≤ maxLen ∧ Rd w 1 A n (i64s l) := by
  obtain ⟨enc, d, ps, h⟩ := h
  obtain ⟨l, h1, _, h2, h3, _⟩ := arg_structs (fun z : Int => [Value.int .i64 z]) (fun _ => True) Try.underlying85 (e := 3) (k := 1) (by kernel_rfl) (by omega) h (fun r m y hl hy => by
    obtain ⟨z, rfl, _⟩ := DataW.trod_int Try.underlying3 hy
    exact ⟨z, by simp, trivial⟩)
  refine ⟨l, h1, h2, ?_⟩
  have e : l.flatMap (fun z : Int => [Value.int .i64 z]) = i64s l := by unfold i64s; rw [List.map_eq_flatMap]
  rwa [e] at h3
theorem TalkAgrees_walk {H : Type} (w : World) (s : ByteArray) (hs : s.size ≤ 140737488351232) (ext : Bool) (A : Option Addr) (n c : Nat) (t : Handed Try.prog H w 85 (.slice A n c)) :
    Calls Try.prog 8 #[.string s, .bool ext, .slice A n c] w (Ret (.bool true) w) := by
  obtain ⟨l, rfl, m, r⟩ := int_row t
  exact TalkAgrees_any s hs ext A c l w m r
end Go.Proofs.Ytioaenidkieiiaa
