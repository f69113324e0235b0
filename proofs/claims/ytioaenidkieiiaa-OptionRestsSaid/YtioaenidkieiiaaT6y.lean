/- OptionRests, its walk. -/
import Derived.Test.YtioaenidkieiiaaT6w
import Derived.Test.YtioaenidkieiiaaL6m
import Derived.Deep.LoopGhost
import Derived.Deep.DeepCutAuto
namespace Go.Proofs.Ytioaenidkieiiaa
set_option linter.unusedVariables false
set_option linter.unusedSimpArgs false
open Go.RowKit Go.Shelf Go.Proofs.YtioaenidkieiiaaW.PrintWords

structure WiV where
  second : Bool
  code : Int
  opt : Nat
  first : Int
def WiV.enc (p : WiV) : List Value := [.bool p.second, .int .u8 p.code, .int .u8 (p.opt : Int), .int .i64 p.first]
theorem mask15 (x : Int) : bits .and .i64 x 15 = x % 16 := by
  have hp : (x % ((2 ^ 64 : Nat) : Int)).toNat = (x % ((2 ^ 64 : Nat) : Int)) := Int.toNat_of_nonneg (Int.emod_nonneg _ (by decide))
  simp only [bits, BitVec.toNat_and, BitVec.toNat_ofInt]
  rw [show IntKind.i64.bits = 64 from rfl, show ((15 : Int) % ((2 ^ 64 : Nat) : Int)).toNat = 2 ^ 4 - 1 from by decide, Nat.and_two_pow_sub_one_eq_mod, IntKind.wrap_i64]
  omega
theorem mask1 (i : Nat) (hi : i < 100) : bits .and .i64 (i : Int) 1 = ((i % 2 : Nat) : Int) := by
  simp only [bits, BitVec.toNat_and, BitVec.toNat_ofInt]
  rw [show IntKind.i64.bits = 64 from rfl, show ((1 : Int) % ((2 ^ 64 : Nat) : Int)).toNat = 2 ^ 1 - 1 from by decide, Nat.and_two_pow_sub_one_eq_mod, IntKind.wrap_i64]
  have : ((i : Int) % ((2 ^ 64 : Nat) : Int)).toNat = i := by omega
  rw [this]
  omega
/-- a block that isn't the line's stays -/
theorem Blk.kp {w W W' : World} {lb : Nat} {b : Bool → Nat} {L : Ln} {v : Bool → Value} {ms : Bool → List Wm} {g : Nat} {cs : Array Value} (h : Blk W g 57 cs) (hL : LnAt w W lb b L v ms) (hk : Kp lb b v W W') : Blk W' g 57 cs :=
  (hk g h.lt (fun e => by subst e; exact absurd (Blk.same h hL.blk).1 (by decide)) (fun s e => by subst e; exact absurd (Blk.same h (hL.obj s)).1 (by decide)) (fun s e => by
    obtain ⟨_, cs', hc⟩ := q_typed (hL.row s) g e.symm
    exact absurd (Blk.same (t' := 22) (cs' := cs') h hc).1 (by decide))).trans h

set_option maxRecDepth 100000 in
set_option maxHeartbeats 8000000 in
theorem OptionRests_any (A1 A2 A3 A4 A5 : Option Addr) (c1 c2 c3 c4 c5 : Nat) (a bb cc dd : List Int) (ws : List WiV) (w : World) (ha : ∀ x ∈ a, 0 ≤ x ∧ x < 256) (hb : ∀ x ∈ bb, 0 ≤ x ∧ x < 256) (hc : ∀ x ∈ cc, 0 ≤ x ∧ x < 256) (hd : ∀ x ∈ dd, 0 ≤ x ∧ x < 256) (hp : ∀ p ∈ ws, p.opt < 256)
    (n1 : a.length ≤ maxLen) (n2 : bb.length ≤ maxLen) (n3 : cc.length ≤ maxLen) (n4 : dd.length ≤ maxLen) (n5 : ws.length ≤ maxLen)
    (r1 : Rd w 1 A1 a.length (u8s a)) (r2 : Rd w 1 A2 bb.length (u8s bb)) (r3 : Rd w 1 A3 cc.length (u8s cc)) (r4 : Rd w 1 A4 dd.length (u8s dd)) (r5 : Rd w 4 A5 ws.length (ws.flatMap WiV.enc)) :
    Calls Try.prog 4 #[.slice A1 a.length c1, .slice A2 bb.length c2, .slice A3 cc.length c3, .slice A4 dd.length c4, .slice A5 ws.length c5] w (Ret (.bool true) w) := by
  unfold maxLen at n1 n2 n3 n4 n5
  have R1 := Lib.hid (fun w' (h : Ext w w') => Rd_ext h r1)
  have R2 := Lib.hid (fun w' (h : Ext w w') => Rd_ext h r2)
  have R3 := Lib.hid (fun w' (h : Ext w w') => Rd_ext h r3)
  have R4 := Lib.hid (fun w' (h : Ext w w') => Rd_ext h r4)
  have R5 := Lib.hid (fun w' (h : Ext w w') => Rd_ext h r5)
  have HA := Lib.hid ha
  have HB := Lib.hid hb
  have HC := Lib.hid hc
  have HD := Lib.hid hd
  have HP := Lib.hid hp
  clear r1 r2 r3 r4 r5 ha hb hc hd hp
  have AL := Lib.hid (alive_any w)
  by_cases h0 : 40 < ws.length
  · go_enter Try.func4, Try.ntmps4
    go_wp2_with (go_at_call 10; refine AL.out.mono ?_; rintro e wa ⟨rfl, hx⟩; have HX := Lib.hid hx; clear hx)
    go_ret
    exact ⟨rfl, HX.out⟩
  have g0 : ws.length ≤ 40 := by omega
  clear h0
  by_cases h1 : 30 < a.length
  · go_enter Try.func4, Try.ntmps4
    go_wp2_with (go_at_call 10; refine AL.out.mono ?_; rintro e wa ⟨rfl, hx⟩; have HX := Lib.hid hx; clear hx)
    go_ret
    exact ⟨rfl, HX.out⟩
  have g1 : a.length ≤ 30 := by omega
  clear h1
  by_cases h2 : 30 < bb.length
  · go_enter Try.func4, Try.ntmps4
    go_wp2_with (go_at_call 10; refine AL.out.mono ?_; rintro e wa ⟨rfl, hx⟩; have HX := Lib.hid hx; clear hx)
    go_ret
    exact ⟨rfl, HX.out⟩
  have g2 : bb.length ≤ 30 := by omega
  clear h2
  by_cases h3 : 30 < cc.length
  · go_enter Try.func4, Try.ntmps4
    go_wp2_with (go_at_call 10; refine AL.out.mono ?_; rintro e wa ⟨rfl, hx⟩; have HX := Lib.hid hx; clear hx)
    go_ret
    exact ⟨rfl, HX.out⟩
  have g3 : cc.length ≤ 30 := by omega
  clear h3
  by_cases h4 : 30 < dd.length
  · go_enter Try.func4, Try.ntmps4
    go_wp2_with (go_at_call 10; refine AL.out.mono ?_; rintro e wa ⟨rfl, hx⟩; have HX := Lib.hid hx; clear hx)
    go_ret
    exact ⟨rfl, HX.out⟩
  have g4 : dd.length ≤ 30 := by omega
  clear h4
  go_enter Try.func4, Try.ntmps4
  go_wp2_with (go_at_call 10; refine AL.out.mono ?_; rintro e wa ⟨rfl, hx⟩; have HX := Lib.hid hx; clear hx)
  refine (New_obj A1 A2 a bb _ _ HA.out HB.out (by omega) (by omega) _ (R1.out _ HX.out) (R2.out _ HX.out)).mono ?_
  rintro e w1 ⟨b0, rfl, hO, hxx, hle, hlt⟩
  have O0 := Lib.hid hO
  have X1 := Lib.hid (Ext_trans hxx HX.out)
  have hb0 : w.heap.size ≤ b0 := by have := HX.out.size; omega
  clear hO hxx hle
  go_wp2_with fail
  refine (New_obj A3 A4 cc dd _ _ HC.out HD.out (by omega) (by omega) _ (R3.out _ X1.out) (R4.out _ X1.out)).mono ?_
  rintro e w2 ⟨b1, rfl, hO, hxx, hle, hlt1⟩
  have O1 := Lib.hid hO
  have O02 := Lib.hid (Blk.below' O0.out hxx)
  have X2 := Lib.hid (Ext_trans hxx X1.out)
  have hb1 : w.heap.size ≤ b1 := by have := X1.out.size; omega
  have hb01 : b0 ≠ b1 := by omega
  clear hO hxx
  go_wp2_with fail
  have S0 : Hid (LnAt w (w2.alloc (.cells #[.pointer (some ⟨b0, 0, none⟩), .pointer (some ⟨b1, 0, none⟩), .slice none 0 0, .slice none 0 0, .int .i64 0] 55)) w2.heap.size (fun s => if s then b1 else b0) ⟨fun s => if s then Opt.new cc dd else Opt.new a bb, fun _ => [], 0⟩ (fun _ => .slice none 0 0) (fun _ => [])) := Lib.hid
    ⟨Blk.new w2 _ _, fun s => by cases s; exact Blk.alloc O02.out _; exact Blk.alloc O1.out _, fun s => q_of_own (own_nil _ _ _ _), fun s => rfl, fun s m hm => (by cases hm), fun g hg => (by cases hg), hb01, fun s => by cases s; exact Nat.ne_of_lt O02.out.lt; exact Nat.ne_of_lt O1.out.lt, X2.out.size, fun s => by cases s; exact hb0; exact hb1, Ext_alloc X2.out⟩
  have I0 := Lib.hid (LnI.new a bb cc dd)
  have F0 : Hid (Ln.few ⟨fun s => if s then Opt.new cc dd else Opt.new a bb, fun _ => [], 0⟩) := Lib.hid (Nat.le_refl _)
  clear O0 O1 O02 X1 hlt hlt1 HX AL
  generalize (⟨fun s => if s then Opt.new cc dd else Opt.new a bb, fun _ => [], 0⟩ : Ln) = L0 at *
  generalize w2.heap.size = lb at *
  generalize (fun s : Bool => if s = true then b1 else b0) = b at *
  go_wp2_with fail
  go_loopw [56] (fun v wr => ∃ (k : Nat) (L : Ln) (q : Bool → Value) (ms : Bool → List Wm), k ≤ ws.length ∧ v = .int .i64 k ∧ Hid (LnAt w wr lb b L q ms) ∧ Hid (LnI L k) ∧ Hid L.few) (fun v _ => ws.length - (intOf v).toNat)
  case atStart => exact ⟨0, L0, _, _, Nat.zero_le _, rfl, S0.out, I0.out, F0.out⟩
  case round =>
    clear S0 I0 F0 X2
    obtain ⟨k, L, q, ms, hk, rfl, HL, HI, HF⟩ := hrel
    by_cases hlt : k < ws.length
    · obtain ⟨g, o, rfl, hc⟩ := (R5.out _ HL.out.ext).elem WiV.enc (fun _ => rfl) hlt (List.getElem?_eq_getElem hlt)
      have hx256 := HP.out ws[k] (List.getElem_mem hlt)
      generalize ws[k] = p at hc hx256
      obtain ⟨se, co, x, fi⟩ := p
      have p0 := hc 0 _ rfl
      have p1 := hc 1 _ rfl
      have p2 := hc 2 _ rfl
      have p3 := hc 3 _ rfl
      simp only [Nat.add_zero] at p0
      dsimp only at hx256
      obtain ⟨N, hN, hN16⟩ : ∃ N : Nat, bits .and .i64 fi 15 = (N : Int) ∧ N < 16 := ⟨(fi % 16).toNat, by rw [mask15]; omega, by omega⟩
      clear hc
      go_wp2_with fail
      have eA := Ext_alloc (o := .cells #[.bool se, .int .u8 co, .int .u8 (x : Int), .int .i64 fi] 57) (Ext_refl wr)
      have HL1 := Lib.hid (HL.out.step eA)
      have BW := Lib.hid (Blk.new wr 57 #[.bool se, .int .u8 co, .int .u8 (x : Int), .int .i64 fi])
      clear eA p0 p1 p2 p3 HL hN
      generalize wr.heap.size = wb at *
      generalize wr.alloc (.cells #[.bool se, .int .u8 co, .int .u8 (x : Int), .int .i64 fi] 57) = W1 at *
      go_loopw [14, 63] (fun _ v wr => ∃ (j : Nat) (L' : Ln) (v' : Bool → Value) (ms' : Bool → List Wm), j ≤ N ∧ v = .int .i64 j ∧ Hid (LnAt w wr lb b L' v' ms') ∧ Hid (LnI L' k) ∧ Hid L'.few ∧ Hid (Blk wr wb 57 #[.bool se, .int .u8 co, .int .u8 (x : Int), .int .i64 fi])) (fun _ v _ => N - (intOf v).toNat)
      case atStart => exact ⟨0, L, q, ms, Nat.zero_le _, rfl, HL1.out, HI.out, HF.out, BW.out⟩
      case round =>
        clear HL1 HI HF BW
        obtain ⟨j, L', v', ms', hj, rfl, HL', HI', HF', BW'⟩ := hrel
        by_cases hjl : j < N
        · have hj2 : j % 2 = 0 ∨ j % 2 = 1 := by omega
          rcases hj2 with hj2 | hj2
          · have hbit : bits .and .i64 (j : Int) 1 = 0 := by rw [mask1 j (by omega)]; omega
            clear hj2
            go_wp2_with (go_at_call 24; refine (come_any false w _ lb b L' v' ms' k HL'.out HI'.out HF'.out (by omega)).mono ?_; rintro e w4 ⟨rfl, ⟨v4, ms4, h4⟩, hk4⟩; have HL4 := Lib.hid h4; have BW4 := Lib.hid (BW'.out.kp HL'.out hk4); clear h4 hk4)
            go_roundw
            case rel => exact ⟨j + 1, L'.come false, v4, ms4, by omega, by go_num, HL4.out, HI'.out.come false, few_come HF'.out false, BW4.out⟩
            case measure => simp [intOf]; omega
          · have hbit : bits .and .i64 (j : Int) 1 = 1 := by rw [mask1 j (by omega)]; omega
            clear hj2
            go_wp2_with (go_at_call 24; refine (come_any true w _ lb b L' v' ms' k HL'.out HI'.out HF'.out (by omega)).mono ?_; rintro e w4 ⟨rfl, ⟨v4, ms4, h4⟩, hk4⟩; have HL4 := Lib.hid h4; have BW4 := Lib.hid (BW'.out.kp HL'.out hk4); clear h4 hk4)
            go_roundw
            case rel => exact ⟨j + 1, L'.come true, v4, ms4, by omega, by go_num, HL4.out, HI'.out.come true, few_come HF'.out true, BW4.out⟩
            case measure => simp [intOf]; omega
        · have : j = N := by omega
          subst this
          have bl := BW'.out.lt
          have s0 := BW'.out.cell 0
          have s1 := BW'.out.cell 1
          have s2 := BW'.out.cell 2
          have ll := HL'.out.blk.lt
          have l0 := HL'.out.blk.cell 0
          have l1 := HL'.out.blk.cell 1
          simp at s0 s1 s2 l0 l1
          cases se
          · go_upto_region 17 with (fail)
            obtain ⟨r, hr1, hr2⟩ := wish_eq L' false co x
            have HR1 := Lib.hid hr1
            have HR2 := Lib.hid hr2
            have HS1 := Lib.hid (HL'.out.step (Ext_drew (Ext_refl wr)))
            clear hr1 hr2
            have hfew := HF'.out
            have hsum := HI'.out.sum
            have hmsl : ∀ s, (ms' s).length ≤ 100000 := by
              intro s
              have h1 : (ms' s).length = (L'.q s).length := by rw [← HL'.out.q, List.length_map]
              unfold Ln.few at hfew
              cases s <;> omega
            have HML := Lib.hid hmsl
            have hnn : L'.n ≤ 100000 := by omega
            have hwl : wb ≠ lb := fun e => by have := BW'.out; rw [e] at this; exact absurd (Blk.same this HL'.out.blk).1 (by decide)
            have hwb' : wb ≠ b false := fun e => by have := BW'.out; rw [e] at this; exact absurd (Blk.same this (HL'.out.obj false)).1 (by decide)
            have hlb' : lb ≠ b false := fun e => HL'.out.nl false e.symm
            clear hmsl hfew hsum
            go_region_held_law (fun W' => W'.cell? ⟨lb, 0, none⟩ = some (.pointer (some ⟨b false, 0, none⟩)) ∧ W'.cell? ⟨wb, 1, none⟩ = some (.int .u8 co) ∧ W'.cell? ⟨wb, 2, none⟩ = some (.int .u8 (x : Int)))
              (first | go_keep | exact ⟨m0, m1, m2⟩ | exact ⟨l0, s1, s2⟩)
              ((first
               | (go_at_call 12
                  refine (Want_any (b false) x co (L'.o false) hx256 _ (HS1.out.obj false)).mono ?_
                  rintro e w3 ⟨vv, rfl, hO, hgr, ⟨A9, c9, rfl, hc9, hd, hf⟩⟩
                  have HS3 := Lib.hid (HS1.out.side false hgr hO)
                  have m0 : w3.cell? ⟨lb, 0, none⟩ = some (.pointer (some ⟨b false, 0, none⟩)) := by
                    rw [HS3.out.blk.cell 0]; rfl
                  have m1 : w3.cell? ⟨wb, 1, none⟩ = some (.int .u8 co) := (World.cell?_of_block (hgr.block wb (by exact bl) (fun e => hwb' (by injection e)))).trans s1
                  have m2 : w3.cell? ⟨wb, 2, none⟩ = some (.int .u8 (x : Int)) := (World.cell?_of_block (hgr.block wb (by exact bl) (fun e => hwb' (by injection e)))).trans s2
                  rw [HR1.out] at hd hc9 ⊢
                  have HD3 := Lib.hid hd
                  have HF3 := Lib.hid hf
                  have HC9 := Lib.hid hc9
                  have hsz3 : wr.heap.size ≤ w3.heap.size := hgr.size
                  clear hO hgr hd hf hc9)))
            generalize ((L'.o false).want co x).1 = o3 at *
            generalize ((L'.o false).want co x).2.2 = n3 at *
            cases r with
            | none =>
              go_wp2_with fail
              refine (send_none lb 0 A9 c9 w3).mono ?_
              rintro e w4 ⟨rfl, rfl⟩
              go_wp2_with fail
              go_roundw
              case rel => exact ⟨k + 1, L'.wish false co x, v', ms', by omega, by go_num, (by
                rw [HR2.out]
                have e : (⟨fun s => if s = false then o3 else L'.o s, fun s => if s = (!false) then L'.q s ++ Option.toList none else L'.q s, L'.n + (Option.toList (none : Option (Int × Nat))).length⟩ : Ln) = ⟨fun s => if s = false then o3 else L'.o s, L'.q, L'.n⟩ := by
                  congr 1
                  funext s
                  cases s <;> simp
                rw [e]
                exact HS3.out), HI'.out.wish false co hx256, few_wish HF'.out false co x⟩
              case measure => simp [intOf]; omega
            | some p =>
              have hDD : Rd w3 1 A9 3 (u8s [255, p.1, (p.2 : Int)]) := HD3.out
              have hCC : 3 ≤ c9 := HC9.out
              go_wp2_with fail
              refine (send_false w w3 lb b _ _ _ ⟨p, A9, c9⟩ HS3.out (HML.out true) hnn hDD (fun ad ea => ?_) hCC).mono ?_
              · have hge := HF3.out ad ea
                refine ⟨fun e => ?_, fun s' e => ?_, fun s' e => ?_⟩
                · have := HS1.out.blk.lt; have hge' : wr.heap.size ≤ ad.block := hge; have : lb < wr.heap.size := this; omega
                · have := (HS1.out.obj s').lt; have hge' : wr.heap.size ≤ ad.block := hge; have : b s' < wr.heap.size := this; omega
                · have := q_lt (HS1.out.row s') ad.block e.symm; have hge' : wr.heap.size ≤ ad.block := hge; have : ad.block < wr.heap.size := this; omega
              rintro e w4 ⟨rfl, ⟨v4, ms4, hS4⟩, -⟩
              have HS4 := Lib.hid hS4
              clear hS4 hDD
              go_wp2_with fail
              go_roundw
              case rel => exact ⟨k + 1, L'.wish false co x, v4, ms4, by omega, by go_num, (by
                rw [HR2.out]
                have e : (⟨fun s => if s = false then o3 else L'.o s, fun s => if s = (!false) then L'.q s ++ Option.toList (some p) else L'.q s, L'.n + (Option.toList (some p)).length⟩ : Ln) = ⟨fun s => if s = false then o3 else L'.o s, fun s => if s = true then L'.q s ++ [p] else L'.q s, L'.n + 1⟩ := by
                  congr 1
                rw [e]
                exact HS4.out), HI'.out.wish false co hx256, few_wish HF'.out false co x⟩
              case measure => simp [intOf]; omega
          · go_upto_region 17 with (fail)
            obtain ⟨r, hr1, hr2⟩ := wish_eq L' true co x
            have HR1 := Lib.hid hr1
            have HR2 := Lib.hid hr2
            have HS1 := Lib.hid (HL'.out.step (Ext_drew (Ext_refl wr)))
            clear hr1 hr2
            have hfew := HF'.out
            have hsum := HI'.out.sum
            have hmsl : ∀ s, (ms' s).length ≤ 100000 := by
              intro s
              have h1 : (ms' s).length = (L'.q s).length := by rw [← HL'.out.q, List.length_map]
              unfold Ln.few at hfew
              cases s <;> omega
            have HML := Lib.hid hmsl
            have hnn : L'.n ≤ 100000 := by omega
            have hwl : wb ≠ lb := fun e => by have := BW'.out; rw [e] at this; exact absurd (Blk.same this HL'.out.blk).1 (by decide)
            have hwb' : wb ≠ b true := fun e => by have := BW'.out; rw [e] at this; exact absurd (Blk.same this (HL'.out.obj true)).1 (by decide)
            have hlb' : lb ≠ b true := fun e => HL'.out.nl true e.symm
            clear hmsl hfew hsum
            go_region_held_law (fun W' => W'.cell? ⟨lb, 1, none⟩ = some (.pointer (some ⟨b true, 0, none⟩)) ∧ W'.cell? ⟨wb, 1, none⟩ = some (.int .u8 co) ∧ W'.cell? ⟨wb, 2, none⟩ = some (.int .u8 (x : Int)))
              (first | go_keep | exact ⟨m0, m1, m2⟩ | exact ⟨l1, s1, s2⟩)
              ((first
               | (go_at_call 12
                  refine (Want_any (b true) x co (L'.o true) hx256 _ (HS1.out.obj true)).mono ?_
                  rintro e w3 ⟨vv, rfl, hO, hgr, ⟨A9, c9, rfl, hc9, hd, hf⟩⟩
                  have HS3 := Lib.hid (HS1.out.side true hgr hO)
                  have m0 : w3.cell? ⟨lb, 1, none⟩ = some (.pointer (some ⟨b true, 0, none⟩)) := by
                    rw [HS3.out.blk.cell 1]; rfl
                  have m1 : w3.cell? ⟨wb, 1, none⟩ = some (.int .u8 co) := (World.cell?_of_block (hgr.block wb (by exact bl) (fun e => hwb' (by injection e)))).trans s1
                  have m2 : w3.cell? ⟨wb, 2, none⟩ = some (.int .u8 (x : Int)) := (World.cell?_of_block (hgr.block wb (by exact bl) (fun e => hwb' (by injection e)))).trans s2
                  rw [HR1.out] at hd hc9 ⊢
                  have HD3 := Lib.hid hd
                  have HF3 := Lib.hid hf
                  have HC9 := Lib.hid hc9
                  have hsz3 : wr.heap.size ≤ w3.heap.size := hgr.size
                  clear hO hgr hd hf hc9)))
            generalize ((L'.o true).want co x).1 = o3 at *
            generalize ((L'.o true).want co x).2.2 = n3 at *
            cases r with
            | none =>
              go_wp2_with fail
              refine (send_none lb 1 A9 c9 w3).mono ?_
              rintro e w4 ⟨rfl, rfl⟩
              go_wp2_with fail
              go_roundw
              case rel => exact ⟨k + 1, L'.wish true co x, v', ms', by omega, by go_num, (by
                rw [HR2.out]
                have e : (⟨fun s => if s = true then o3 else L'.o s, fun s => if s = (!true) then L'.q s ++ Option.toList none else L'.q s, L'.n + (Option.toList (none : Option (Int × Nat))).length⟩ : Ln) = ⟨fun s => if s = true then o3 else L'.o s, L'.q, L'.n⟩ := by
                  congr 1
                  funext s
                  cases s <;> simp
                rw [e]
                exact HS3.out), HI'.out.wish true co hx256, few_wish HF'.out true co x⟩
              case measure => simp [intOf]; omega
            | some p =>
              have hDD : Rd w3 1 A9 3 (u8s [255, p.1, (p.2 : Int)]) := HD3.out
              have hCC : 3 ≤ c9 := HC9.out
              go_wp2_with fail
              refine (send_true w w3 lb b _ _ _ ⟨p, A9, c9⟩ HS3.out (HML.out false) hnn hDD (fun ad ea => ?_) hCC).mono ?_
              · have hge := HF3.out ad ea
                refine ⟨fun e => ?_, fun s' e => ?_, fun s' e => ?_⟩
                · have := HS1.out.blk.lt; have hge' : wr.heap.size ≤ ad.block := hge; have : lb < wr.heap.size := this; omega
                · have := (HS1.out.obj s').lt; have hge' : wr.heap.size ≤ ad.block := hge; have : b s' < wr.heap.size := this; omega
                · have := q_lt (HS1.out.row s') ad.block e.symm; have hge' : wr.heap.size ≤ ad.block := hge; have : ad.block < wr.heap.size := this; omega
              rintro e w4 ⟨rfl, ⟨v4, ms4, hS4⟩, -⟩
              have HS4 := Lib.hid hS4
              clear hS4 hDD
              go_wp2_with fail
              go_roundw
              case rel => exact ⟨k + 1, L'.wish true co x, v4, ms4, by omega, by go_num, (by
                rw [HR2.out]
                have e : (⟨fun s => if s = true then o3 else L'.o s, fun s => if s = (!true) then L'.q s ++ Option.toList (some p) else L'.q s, L'.n + (Option.toList (some p)).length⟩ : Ln) = ⟨fun s => if s = true then o3 else L'.o s, fun s => if s = false then L'.q s ++ [p] else L'.q s, L'.n + 1⟩ := by
                  congr 1
                rw [e]
                exact HS4.out), HI'.out.wish true co hx256, few_wish HF'.out true co x⟩
              case measure => simp [intOf]; omega
    · have : k = ws.length := by omega
      subst this
      go_wp2_with fail
      have hmu := Nat.le_refl (L.mu ws.length)
      have HMU := Lib.hid hmu
      clear hmu
      go_loopg [93] (L.mu ws.length) (fun kq _ wr => ∃ (L' : Ln) (v' : Bool → Value) (ms' : Bool → List Wm), Hid (LnAt w wr lb b L' v' ms') ∧ Hid (LnI L' ws.length) ∧ Hid L'.few ∧ Hid (L'.mu ws.length ≤ kq))
      case atStart => exact ⟨L, q, ms, HL.out, HI.out, HF.out, HMU.out⟩
      case round =>
        clear HL HI HF HMU
        obtain ⟨L', v', ms', HL', HI', HF', HMU⟩ := hrel
        by_cases hq0 : L'.q false = []
        · by_cases hq1 : L'.q true = []
          · have HQ0 := Lib.hid hq0
            have HQ1 := Lib.hid hq1
            have e0 : (!(L'.q false).isEmpty) = false := by rw [hq0]; rfl
            have e1 : (!(L'.q true).isEmpty) = false := by rw [hq1]; rfl
            have E0 := Lib.hid e0
            have E1 := Lib.hid e1
            clear hq0 hq1 e0 e1
            go_wp2_with fail
            refine (come_any false w _ lb b L' v' ms' ws.length HL'.out HI'.out HF'.out (by omega)).mono ?_
            rintro e w4 ⟨rfl, ⟨q4, m4, h4⟩, -⟩
            rw [E0.out]
            rw [come_nil HQ0.out] at h4
            have HL4 := Lib.hid h4
            clear h4
            go_wp2_with fail
            refine (come_any true w _ lb b L' q4 m4 ws.length HL4.out HI'.out HF'.out (by omega)).mono ?_
            rintro e w5 ⟨rfl, ⟨q5, m5, h4⟩, -⟩
            rw [E1.out]
            rw [come_nil HQ1.out] at h4
            have HL5 := Lib.hid h4
            clear h4
            clear HL' HL4 v' ms' q4 m4
            go_wp2_with fail
            have ll := HL5.out.blk.lt
            have l0 := HL5.out.blk.cell 0
            have l1 := HL5.out.blk.cell 1
            have l4 := HL5.out.blk.cell 4
            simp at l0 l1 l4
            have hn2 : L'.n ≤ 2 * ws.length := by have := HI'.out.sum; omega
            go_loopw [18] (fun v wr => ∃ i : Nat, i ≤ 256 ∧ v = .int .i64 i ∧ Hid (∃ n, wr = w5.drewN n)) (fun v _ => 256 - (intOf v).toNat)
            case atStart => exact ⟨0, by omega, rfl, Lib.hid ⟨0, rfl⟩⟩
            case round =>
              obtain ⟨i, hi, rfl, HW⟩ := hrel
              obtain ⟨nd, hnd⟩ := HW.out
              clear HW
              subst hnd
              by_cases hi2 : i < 256
              · obtain ⟨f1, -⟩ := HI'.out.rest HQ0.out HQ1.out false hi2
                obtain ⟨f2, -⟩ := HI'.out.rest HQ0.out HQ1.out true hi2
                have F1 := Lib.hid (show (L'.o false).st true i = (L'.o true).st false i from f1)
                have F2 := Lib.hid (show (L'.o true).st true i = (L'.o false).st false i from f2)
                have hwr : IntKind.u8.wrap (i : Int) = (i : Int) := by
                  rw [show IntKind.u8.wrap (i : Int) = (i : Int) % 256 from by simp [IntKind.wrap, IntKind.bits, IntKind.signed]]
                  omega
                clear f1 f2
                go_wp2_with fail
                have HD := Lib.hid (HL5.out.step (Ext_drew (Ext_drewN (n := nd) (Ext_refl w5))))
                go_region_held3 (fun W' => W'.cell? ⟨lb, 0, none⟩ = some (.pointer (some ⟨b false, 0, none⟩)) ∧ W'.cell? ⟨lb, 1, none⟩ = some (.pointer (some ⟨b true, 0, none⟩)))
                  (first | go_keep | exact ⟨l0, l1⟩)
                  ((go_at_call 20; refine (State_any (b _) i _ (L'.o _) hi2 _ (HD.out.obj _)).mono ?_; rintro e wn ⟨rfl, rfl⟩; (try rw [F1.out]); (try rw [F2.out])))
                go_wp2_with fail
                go_roundw
                case rel => exact ⟨i + 1, by omega, by go_num, Lib.hid ⟨nd + 1, rfl⟩⟩
                case measure => simp [intOf]; omega
              · have : i = 256 := by omega
                subst this
                have B0 := Lib.hid (rest_busy HI'.out HQ0.out HQ1.out false)
                have B1 := Lib.hid (rest_busy HI'.out HQ0.out HQ1.out true)
                have HD := Lib.hid (HL5.out.step (Ext_drewN (n := nd) (Ext_refl w5)))
                go_wp2_with fail
                refine (Busy_b (b false) (L'.o false) false B0.out _ (HD.out.obj false)).mono ?_
                rintro e wq ⟨rfl, rfl⟩
                go_wp2_with fail
                refine (Busy_b (b true) (L'.o true) false B1.out _ (HD.out.obj true)).mono ?_
                rintro e wq ⟨rfl, rfl⟩
                go_wp2_with fail
                go_ret
                exact ⟨rfl, HD.out.ext⟩
          · have e0 : (!(L'.q false).isEmpty) = false := by rw [hq0]; rfl
            have e1 : (!(L'.q true).isEmpty) = true := by cases h : L'.q true with
              | nil => exact absurd h hq1
              | cons _ _ => rfl
            have hmu := mu_come HI'.out true hq1
            have hI2 := HI'.out.come true
            have hn2 : (L'.come true).n ≤ 2 * ws.length := by have := hI2.sum; omega
            have HQ0 := Lib.hid hq0
            have E0 := Lib.hid e0
            have E1 := Lib.hid e1
            have HMU2 := Lib.hid hmu
            have HI2 := Lib.hid hI2
            have HF2 := Lib.hid (few_come HF'.out true)
            clear hq0 hq1 e0 e1 hmu hI2
            go_wp2_with fail
            refine (come_any false w _ lb b L' v' ms' ws.length HL'.out HI'.out HF'.out (by omega)).mono ?_
            rintro e w4 ⟨rfl, ⟨q4, m4, h4⟩, -⟩
            rw [E0.out]
            rw [come_nil HQ0.out] at h4
            have HL4 := Lib.hid h4
            clear h4
            go_wp2_with fail
            refine (come_any true w _ lb b L' q4 m4 ws.length HL4.out HI'.out HF'.out (by omega)).mono ?_
            rintro e w5 ⟨rfl, ⟨q5, m5, h4⟩, -⟩
            rw [E1.out]
            have HL5 := Lib.hid h4
            clear h4
            clear HL4
            have n5 := HL5.out.blk.cell 4
            have lt5 : lb < w5.heap.size := HL5.out.blk.lt
            simp at n5
            go_wp2_with fail
            have HM3 : Hid (Ln.mu (L'.come true) ws.length < gk) := Lib.hid (by have := HMU.out; have := HMU2.out; omega)
            generalize L'.come true = L2 at *
            cases gk with
            | zero => exact absurd HM3.out (Nat.not_lt_zero _)
            | succ k1 =>
              go_roundg k1
              case rel => exact ⟨L2, q5, m5, HL5.out, HI2.out, HF2.out, Lib.hid (Nat.lt_succ_iff.1 HM3.out)⟩
              case measure => exact Nat.lt_succ_self _
        · have e0 : (!(L'.q false).isEmpty) = true := by cases h : L'.q false with
            | nil => exact absurd h hq0
            | cons _ _ => rfl
          have hmu := mu_come HI'.out false hq0
          have hI2 := HI'.out.come false
          have hn2 : (L'.come false).n ≤ 2 * ws.length := by have := hI2.sum; omega
          have E0 := Lib.hid e0
          have HMU2 := Lib.hid hmu
          have HI2 := Lib.hid hI2
          have HF2 := Lib.hid (few_come HF'.out false)
          clear hq0 e0 hmu hI2
          go_wp2_with fail
          refine (come_any false w _ lb b L' v' ms' ws.length HL'.out HI'.out HF'.out (by omega)).mono ?_
          rintro e w5 ⟨rfl, ⟨q5, m5, h4⟩, -⟩
          rw [E0.out]
          have HL5 := Lib.hid h4
          clear h4
          have n5 := HL5.out.blk.cell 4
          have lt5 : lb < w5.heap.size := HL5.out.blk.lt
          simp at n5
          go_wp2_with fail
          have HM3 : Hid (Ln.mu (L'.come false) ws.length < gk) := Lib.hid (by have := HMU.out; have := HMU2.out; omega)
          generalize L'.come false = L2 at *
          cases gk with
          | zero => exact absurd HM3.out (Nat.not_lt_zero _)
          | succ k1 =>
            go_roundg k1
            case rel => exact ⟨L2, q5, m5, HL5.out, HI2.out, HF2.out, Lib.hid (Nat.lt_succ_iff.1 HM3.out)⟩
            case measure => exact Nat.lt_succ_self _
theorem wish_rows {H : Type} {w : World} {A : Option Addr} {n c : Nat} (h : Handed Try.prog H w 49 (.slice A n c)) :
    ∃ l : List WiV, l.length = n ∧ n ≤ c ∧ n ≤ maxLen ∧ Rd w 4 A n (l.flatMap WiV.enc) ∧ ∀ p ∈ l, p.opt < 256 := by
  obtain ⟨enc, d, ps, h⟩ := h
  refine arg_structs WiV.enc (fun p => p.opt < 256) Try.underlying49 (e := 57) (k := 4) (by kernel_rfl) (by omega) h (fun r m y hl hy => ?_)
  obtain ⟨v0, v1, v2, v3, rfl⟩ : ∃ v0 v1 v2 v3, r = [v0, v1, v2, v3] := by
    match r, hl with
    | [a, b, c, d], _ => exact ⟨a, b, c, d, rfl⟩
  have he := Try.underlying57
  obtain ⟨q0, z0, h0⟩ := row_field he (by kernel_rfl) hy 0 _ rfl v0 rfl
  obtain ⟨q1, z1, h1⟩ := row_field he (by kernel_rfl) hy 1 _ rfl v1 rfl
  obtain ⟨q2, z2, h2⟩ := row_field he (by kernel_rfl) hy 2 _ rfl v2 rfl
  obtain ⟨q3, z3, h3⟩ := row_field he (by kernel_rfl) hy 3 _ rfl v3 rfl
  obtain ⟨b, rfl⟩ := field_bool Try.underlying4 h0
  obtain ⟨c, rfl, _⟩ := field_int Try.underlying5 h1
  obtain ⟨x, rfl, hx⟩ := field_int Try.underlying5 h2
  obtain ⟨f, rfl, _⟩ := field_int Try.underlying3 h3
  obtain ⟨hx0, hx1⟩ := u8_wf hx
  obtain ⟨x, rfl⟩ := Int.eq_ofNat_of_zero_le hx0
  exact ⟨⟨b, c, x, f⟩, rfl, by simp only; omega⟩
theorem OptionRests_walk {H : Type} (w : World) (A1 : Option Addr) (n1 c1 : Nat) (t1 : Handed Try.prog H w 22 (.slice A1 n1 c1)) (A2 : Option Addr) (n2 c2 : Nat) (t2 : Handed Try.prog H w 22 (.slice A2 n2 c2)) (A3 : Option Addr) (n3 c3 : Nat) (t3 : Handed Try.prog H w 22 (.slice A3 n3 c3)) (A4 : Option Addr) (n4 c4 : Nat) (t4 : Handed Try.prog H w 22 (.slice A4 n4 c4)) (A5 : Option Addr) (n5 c5 : Nat) (t5 : Handed Try.prog H w 49 (.slice A5 n5 c5)) :
    Calls Try.prog 4 #[.slice A1 n1 c1, .slice A2 n2 c2, .slice A3 n3 c3, .slice A4 n4 c4, .slice A5 n5 c5] w (Ret (.bool true) w) := by
  obtain ⟨a, rfl, _, m1, r1, b1⟩ := byte_row t1
  obtain ⟨bb, rfl, _, m2, r2, b2⟩ := byte_row t2
  obtain ⟨cc, rfl, _, m3, r3, b3⟩ := byte_row t3
  obtain ⟨dd, rfl, _, m4, r4, b4⟩ := byte_row t4
  obtain ⟨ws, rfl, _, m5, r5, b5⟩ := wish_rows t5
  exact OptionRests_any A1 A2 A3 A4 A5 c1 c2 c3 c4 c5 a bb cc dd ws w b1 b2 b3 b4 b5 m1 m2 m3 m4 m5 r1 r2 r3 r4 r5
end Go.Proofs.Ytioaenidkieiiaa
