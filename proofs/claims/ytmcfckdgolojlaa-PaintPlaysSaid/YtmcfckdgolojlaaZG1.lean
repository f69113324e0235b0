import Derived.Test.YtmcfckdgolojlaaK1
/- Chapter 16: orders, brushes; attr.Dress. -/
namespace Go.Proofs.Ytmcfckdgolojlaa
set_option linter.unusedVariables false
set_option linter.unusedSimpArgs false
open Go.RowKit
/-- a pair -/
structure Pr where
  t : Int
  v : Int
  deriving DecidableEq
def Pr.enc (x : Pr) : List Value := [.int .u8 x.t, .int .u8 x.v]
theorem Pr.len (x : Pr) : x.enc.length = 2 := rfl
def Cel.wear (c : Cel) (p : Pr) : Cel :=
  if p.t = 192 then { c with b := Go.bits .and .u8 p.v 63 } else if p.t = 65 then { c with li := p.v } else if p.t = 66 then { c with co := p.v } else if p.t = 0 then { c with li := 0, co := 0 } else c
def Cel.dress (c : Cel) (l : List Pr) : Cel := l.foldl Cel.wear c
def Cel.row (c : Cel) : Array Value := #[.int .u8 c.b, .bool c.ge, .bool c.st, .int .u8 c.li, .int .u8 c.co]
theorem dress_snoc (c : Cel) (l : List Pr) (k : Nat) (hk : k < l.length) : c.dress (l.take (k + 1)) = (c.dress (l.take k)).wear l[k] := by
  unfold Cel.dress
  rw [List.take_succ_eq_append_getElem hk, List.foldl_append]
  rfl
set_option maxRecDepth 100000 in
set_option maxHeartbeats 4000000 in
theorem Dress_any (c : Cel) (A : Option Addr) (cp : Nat) (l : List Pr) (hl : l.length ≤ maxLen) (w : World) (hr : Rd w 2 A l.length (l.flatMap Pr.enc)) :
    Calls Try.prog 112 #[.agg #[.int .u8 c.b, .bool c.ge, .bool c.st, .int .u8 c.li, .int .u8 c.co], .slice A l.length cp] w (Ret (.agg #[.int .u8 (c.dress l).b, .bool (c.dress l).ge, .bool (c.dress l).st, .int .u8 (c.dress l).li, .int .u8 (c.dress l).co]) w) := by
  have HR := Lib.hid hr
  have HL := Lib.hid hl
  clear hr hl
  go_enter Try.func112, Try.ntmps112
  go_wp2
  have hb0 := (Blk.new w 38 c.row).alloc (.cells Cel.zero.row 38)
  have hb1 := Blk.new (w.alloc (.cells c.row 38)) 38 Cel.zero.row
  have hE := Ext_alloc (o := .cells Cel.zero.row 38) (Ext_alloc (o := .cells c.row 38) (Ext_refl w))
  rw [World.size_alloc] at hb1
  unfold Cel.row Cel.zero at hb0 hb1 hE
  dsimp only at hb0 hb1 hE
  generalize (w.alloc (.cells #[.int .u8 c.b, .bool c.ge, .bool c.st, .int .u8 c.li, .int .u8 c.co] 38)).alloc (.cells #[.int .u8 0, .bool false, .bool false, .int .u8 0, .int .u8 0] 38) = W0 at *
  have H0 := Lib.hid hb0
  have H1 := Lib.hid hb1
  have HE := Lib.hid hE
  clear hb0 hb1 hE
  go_loopw [6, 9] (fun _ v wr => ∃ k : Nat, k ≤ l.length ∧ v = .int .i64 k ∧ Hid (Blk wr w.heap.size 38 (c.dress (l.take k)).row) ∧ Hid (Blk wr (w.heap.size + 1) 38 Cel.zero.row) ∧ Hid (Ext w wr)) (fun _ v _ => l.length - (intOf v).toNat)
  case atStart => exact ⟨0, by omega, rfl, H0.out, H1.out, HE.out⟩
  case round =>
    obtain ⟨k, hk, rfl, H0, H1, HE⟩ := hrel
    by_cases hlt : k < l.length
    · have hrw := Rd_ext HE.out HR.out
      obtain ⟨b, o, eA, hc⟩ := hrw.elem Pr.enc Pr.len hlt (List.getElem?_eq_getElem hlt)
      have d0 := hc 0 _ rfl
      have d1 := hc 1 _ rfl
      have hsn := dress_snoc c l k hlt
      generalize hck : c.dress (l.take k) = ck at *
      generalize l[k] = x at *
      clear hc hrw hck
      subst eA
      have q0 := H0.out.cell 0
      have q3 := H0.out.cell 3
      have q4 := H0.out.cell 4
      simp [Cel.row] at q0 q3 q4
      have hs1 : w.heap.size < wr.heap.size := H0.out.lt
      have hs2 : w.heap.size + 1 < wr.heap.size := H1.out.lt
      have n1 : w.heap.size ≠ wr.heap.size := by omega
      have n2 : w.heap.size + 1 ≠ wr.heap.size := by omega
      have hbl : b < wr.heap.size := block_lt_of_cell d0
      have n3 : b ≠ wr.heap.size := by omega
      obtain ⟨t, v⟩ := x
      dsimp only at d0 d1
      simp only [Nat.add_zero] at d0
      have hL : k + 1 < 9223372036854775808 := by have := HL.out; unfold maxLen at this; omega
      have f0 := H0.out.free 0
      have f3 := H0.out.free 3
      have f4 := H0.out.free 4
      have hne : w.heap.size + 1 ≠ w.heap.size := by omega
      by_cases e1 : t = 192
      · have HSN := Lib.hid (show c.dress (l.take (k + 1)) = { ck with b := Go.bits .and .u8 v 63 } by rw [hsn]; unfold Cel.wear; dsimp only; rw [if_pos e1])
        clear hsn
        subst e1
        go_wp2
        go_roundw
        case rel => exact ⟨k + 1, by omega, by go_num, by rw [HSN.out]; exact (H0.out.store 0 _).alloc _, (H1.out.far hne _).alloc _, Ext_alloc (Ext_set HE.out (Nat.le_refl _))⟩
        case measure => simp [intOf]; omega
      · have e1' : (t == 192) = false := by rw [beq_eq_false_iff_ne]; exact e1
        by_cases e2 : t = 65
        · have HSN := Lib.hid (show c.dress (l.take (k + 1)) = { ck with li := v } by rw [hsn]; unfold Cel.wear; dsimp only; rw [if_neg e1]; rw [if_pos e2])
          clear hsn
          subst e2
          go_wp2
          go_roundw
          case rel => exact ⟨k + 1, by omega, by go_num, by rw [HSN.out]; exact (H0.out.store 3 _).alloc _, (H1.out.far hne _).alloc _, Ext_alloc (Ext_set HE.out (Nat.le_refl _))⟩
          case measure => simp [intOf]; omega
        · have e2' : (t == 65) = false := by rw [beq_eq_false_iff_ne]; exact e2
          by_cases e3 : t = 66
          · have HSN := Lib.hid (show c.dress (l.take (k + 1)) = { ck with co := v } by rw [hsn]; unfold Cel.wear; dsimp only; rw [if_neg e1]; rw [if_neg e2]; rw [if_pos e3])
            clear hsn
            subst e3
            go_wp2
            go_roundw
            case rel => exact ⟨k + 1, by omega, by go_num, by rw [HSN.out]; exact (H0.out.store 4 _).alloc _, (H1.out.far hne _).alloc _, Ext_alloc (Ext_set HE.out (Nat.le_refl _))⟩
            case measure => simp [intOf]; omega
          · have e3' : (t == 66) = false := by rw [beq_eq_false_iff_ne]; exact e3
            by_cases e4 : t = 0
            · have HSN := Lib.hid (show c.dress (l.take (k + 1)) = { ck with li := 0, co := 0 } by rw [hsn]; unfold Cel.wear; dsimp only; rw [if_neg e1]; rw [if_neg e2]; rw [if_neg e3]; rw [if_pos e4])
              clear hsn
              subst e4
              go_wp2
              go_roundw
              case rel => exact ⟨k + 1, by omega, by go_num, by rw [HSN.out]; exact ((H0.out.store 3 _).store 4 _).alloc _, ((H1.out.far hne _).far hne _).alloc _, Ext_alloc (Ext_set (Ext_set HE.out (Nat.le_refl _)) (Nat.le_refl _))⟩
              case measure => simp [intOf]; omega
            · have e4' : (t == 0) = false := by rw [beq_eq_false_iff_ne]; exact e4
              have HSN := Lib.hid (show c.dress (l.take (k + 1)) = ck by rw [hsn]; unfold Cel.wear; dsimp only; rw [if_neg e1, if_neg e2, if_neg e3, if_neg e4])
              clear hsn
              go_wp2
              go_roundw
              case rel => exact ⟨k + 1, by omega, by go_num, by rw [HSN.out]; exact H0.out.alloc _, H1.out.alloc _, Ext_alloc HE.out⟩
              case measure => simp [intOf]; omega
    · have : k = l.length := by omega
      subst this
      rw [List.take_length] at H0
      generalize c.dress l = cn at *
      have q0 := H0.out.cell 0
      have q1 := H0.out.cell 1
      have q2 := H0.out.cell 2
      have q3 := H0.out.cell 3
      have q4 := H0.out.cell 4
      have r0 := H1.out.cell 0
      have r1 := H1.out.cell 1
      have r2 := H1.out.cell 2
      have r3 := H1.out.cell 3
      have r4 := H1.out.cell 4
      simp [Cel.row] at q0 q1 q2 q3 q4 r0 r1 r2 r3 r4
      have f0 := H1.out.free 0
      have f1 := H1.out.free 1
      have f2 := H1.out.free 2
      have f3 := H1.out.free 3
      have f4 := H1.out.free 4
      go_wp2
      have hf := ((((H1.out.store 0 (.int .u8 cn.b)).store 1 (.bool cn.ge)).store 2 (.bool cn.st)).store 3 (.int .u8 cn.li)).store 4 (.int .u8 cn.co)
      have hE := Ext_set (u := .int .u8 cn.co) (p := ⟨w.heap.size + 1, 4, none⟩) (Ext_set (u := .int .u8 cn.li) (p := ⟨w.heap.size + 1, 3, none⟩) (Ext_set (u := .bool cn.st) (p := ⟨w.heap.size + 1, 2, none⟩) (Ext_set (u := .bool cn.ge) (p := ⟨w.heap.size + 1, 1, none⟩) (Ext_set (u := .int .u8 cn.b) (p := ⟨w.heap.size + 1, 0, none⟩) HE.out (by simp)) (by simp)) (by simp)) (by simp)) (by simp)
      generalize ((((wr.setCell ⟨w.heap.size + 1, 0, none⟩ (.int .u8 cn.b)).setCell ⟨w.heap.size + 1, 1, none⟩ (.bool cn.ge)).setCell ⟨w.heap.size + 1, 2, none⟩ (.bool cn.st)).setCell ⟨w.heap.size + 1, 3, none⟩ (.int .u8 cn.li)).setCell ⟨w.heap.size + 1, 4, none⟩ (.int .u8 cn.co) = Wf at *
      have c0 := hf.cell 0
      have c1 := hf.cell 1
      have c2 := hf.cell 2
      have c3 := hf.cell 3
      have c4 := hf.cell 4
      simp [Cel.row, Cel.zero] at c0 c1 c2 c3 c4
      clear r0 r1 r2 r3 r4 q0 q1 q2 q3 q4 f0 f1 f2 f3 f4
      refine bodyPost_ret (v := .agg #[.int .u8 cn.b, .bool cn.ge, .bool cn.st, .int .u8 cn.li, .int .u8 cn.co]) (by simp [results, Try.results112, go_sem, c0, c1, c2, c3, c4]) rfl ?_
      exact ⟨rfl, hE⟩
end Go.Proofs.Ytmcfckdgolojlaa
