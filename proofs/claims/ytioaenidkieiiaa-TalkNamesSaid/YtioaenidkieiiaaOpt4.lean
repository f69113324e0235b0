/- More of the package option: All, gone over. -/
import Derived.Test.YtioaenidkieiiaaOpt3
import Derived.RangeFuncNested
import Derived.RangeFuncBound
import Derived.RangeFuncCalls
import Derived.RangeFuncLeaves
import Derived.RangeFuncBox
import Derived.OwnWalkIn
import Derived.TacticsInMore
import Derived.LoopNIn
import Derived.LoopIn
namespace Go.Proofs.Ytioaenidkieiiaa
set_option linter.unusedVariables false
set_option linter.unusedSimpArgs false
open Go.RowKit
attribute [local go_sem] Oper.semAt_some

theorem run_loadVar_seg {P : Program} (w : World) (g off : Nat) (ty : TypeId) (vs : List Value) (d : TypeDesc) (hu : P.underlying ty = some d) (hd : (match d with | .struct _ | .array _ _ => true | _ => false) = true)
    (hi : (P.info? ty).map (·.size) = some vs.length) (hc : ∀ j v, vs[j]? = some v → w.cell? ⟨g, off + j, none⟩ = some v) : (loadVar ty ⟨g, off, none⟩).run P w = .ok (.agg vs.toArray) w := by
  have hl : (loadCells ⟨g, off, none⟩ vs.length).run P w = .ok vs.toArray w :=
    run_loadCells_list (P := P) w ⟨g, off, none⟩ vs (fun j v hv => by
      have hadd : (⟨g, off, none⟩ : Addr).add j = ⟨g, off + j, none⟩ := by unfold Addr.add; split <;> simp_all
      rw [hadd]
      exact hc j v hv)
  cases hq : P.info? ty with
  | none => simp [hq] at hi
  | some i =>
    have hs : i.size = vs.length := by simpa [hq] using hi
    have hagg : (isAgg ty).run P w = .ok true w := by
      unfold isAgg
      rw [Sem.run_bind, run_underlying hu w]
      cases d <;> simp_all
    simp [loadVar, Sem.run_bind, hagg, sizeOf, typeInfo, hq, hs, hl]

theorem wpListIn_load_run {F : Fence} {n : Nat} {P : Program} {ops : Array Oper} {rest : List Oper} {o : Oper} {a : Act} {w : World} {Q : Exit → Act → World → Prop} (hgd : o.guard = none) (ty : TypeId) (x : Operand) (ho : o.op = .load ty x)
    {ad : Addr} {v : Value} (hrun : (loadVar ty ad).run P w = .ok v w) (hx : a.eval x = .pointer (some ad)) (h : wpListIn F n P ops Q rest (a.put o.dst v) w) : wpListIn F n P ops Q (o :: rest) a w :=
  wpListIn_plain hgd fun _ hK => by
    refine ⟨fun f hf => ?_, ?_⟩
    · simp [Oper.about, ho] at hf
    · simp [Oper.semAt, execOp, ho, hx, Instr.loadAt, Instr.sureAddr, Result.andThen_ok, hrun, Oper.uponIn]
      exact hK _ _ h

/-- the states of a side, as a list of cells -/
def stL (o : Opt) (s : Bool) : List Value := (List.range 256).map fun x => .int .i64 (o.st s x)
theorem stL_get (o : Opt) (s : Bool) {x : Nat} (hx : x < 256) : (stL o s)[x]? = some (.int .i64 (o.st s x)) := by
  unfold stL
  rw [List.getElem?_map, List.getElem?_range hx]; rfl
theorem stL_length (o : Opt) (s : Bool) : (stL o s).length = 256 := by simp [stL]
def stA (o : Opt) (s : Bool) : Array Value := (stL o s).toArray
theorem load_states (w : World) (b : Nat) (o : Opt) (s : Bool) (h : OptAt w b o) : (loadVar 95 ⟨b, so s, none⟩).run Try.prog w = .ok (.agg (stA o s)) w := by
  refine run_loadVar_seg w b (so s) 95 (stL o s) _ Try.underlying95 rfl (by rw [stL_length]; kernel_rfl) (fun j v hv => ?_)
  have hj : j < 256 := by rw [← stL_length o s]; exact (List.getElem?_eq_some_iff.1 hv).1
  rw [stL_get o s hj] at hv
  rw [(h.side s).st j hj]
  exact hv

theorem run_index_arr {P : Program} {t e : TypeId} {n : Nat} {d : TypeDesc} {cs : Array Value} {k : Nat} {v : Value} {kk : IntKind} (ht : P.underlying t = some (.array n e)) (he : P.underlying e = some d) (hd : (match d with | .struct _ | .array _ _ => true | _ => false) = false)
    (hi : (P.info? e).map (·.size) = some 1) (hk : k < n) (hv : cs[k]? = some v) (w : World) : (Instr.index t (.agg cs) (.int kk k)).run P w = .ok v w := by
  cases hq : P.info? e with
  | none => simp [hq] at hi
  | some i =>
    have hs : i.size = 1 := by simpa [hq] using hi
    have hagg : (isAgg e).run P w = .ok false w := by
      unfold isAgg
      rw [Sem.run_bind, run_underlying he w]
      cases d <;> simp_all
    have hc : (0 : Int) ≤ k ∧ (k : Int) < n := by omega
    simp [Instr.index, asIntOf, run_underlying ht w, hc, hk, sizeOf, typeInfo, hq, hs, part, Sem.run_bind, hagg, hv]
theorem index_states (o : Opt) (s : Bool) {k : Nat} (hk : k < 256) (w : World) : (Instr.index 95 (.agg (stA o s)) (.int .i64 k)).run Try.prog w = .ok (.int .i64 (o.st s k)) w :=
  run_index_arr Try.underlying95 Try.underlying3 rfl (by kernel_rfl) hk (by unfold stA; rw [List.getElem?_toArray]; exact stL_get o s hk) w

/-- the options that are on, among the first k -/
def ons (o : Opt) (s : Bool) (k : Nat) : List Int := ((List.range k).filter fun x => o.st s x == 1).map (fun x : Nat => (x : Int))
theorem ons_succ (o : Opt) (s : Bool) (k : Nat) : ons o s (k + 1) = if o.st s k == 1 then ons o s k ++ [(k : Int)] else ons o s k := by
  unfold ons
  rw [List.range_succ, List.filter_append, List.map_append]
  by_cases h : o.st s k == 1
  · simp [h]
  · simp [h]

theorem ons_length (o : Opt) (s : Bool) : ∀ k, (ons o s k).length ≤ k
  | 0 => by simp [ons]
  | k + 1 => by
    rw [ons_succ]
    have := ons_length o s k
    split <;> simp <;> omega
theorem ons_prefix (o : Opt) (s : Bool) (k : Nat) : ∀ m, ons o s k <+: ons o s (k + m)
  | 0 => List.prefix_refl _
  | m + 1 => by
    refine (ons_prefix o s k m).trans ?_
    rw [← Nat.add_assoc, ons_succ]
    split
    · exact List.prefix_append _ _
    · exact List.prefix_refl _

theorem All_any (p : Nat) (s : Bool) (w : World) : Calls Try.prog 43 #[.pointer (some ⟨p, 0, none⟩), .bool s] w fun e w' =>
    e = .returned (.func (.func 62) #[] #[.pointer (some ⟨w.heap.size, 0, none⟩), .pointer (some ⟨w.heap.size + 1, 0, none⟩)]) ∧
    w' = (w.alloc (.cells #[.pointer (some ⟨p, 0, none⟩)] 25)).alloc (.cells #[.bool s] 4) := by
  go_enter Try.func43, Try.ntmps43
  go_wp2
  go_ret
  exact ⟨rfl, rfl⟩

set_option maxRecDepth 100000 in
set_option maxHeartbeats 1000000 in
theorem All1_in (n : Nat) (hn : 1 ≤ n) (l B1 B2 b : Nat) (o : Opt) (s : Bool) (J Jx : List Int → World → Prop)
    (hY : ∀ pre x W, J pre W → pre.length < 256 → YieldAt Fence.wide (n - 1) Try.prog l #[.int .u8 x] W fun e W' =>
      (e = .returned (.bool true) ∧ J (pre ++ [x]) W' ∧ True) ∨ (e = .returned (.bool false) ∧ Jx (pre ++ [x]) W'))
    (W : World) (h1 : W.cell? ⟨B1, 0, none⟩ = some (.pointer (some ⟨b, 0, none⟩))) (h2 : W.cell? ⟨B2, 0, none⟩ = some (.bool s)) (hO : OptAt W b o) (h0 : J [] W) :
    CallsIn Fence.wide n Try.prog 62 #[.func (.yield l) #[] #[], .pointer (some ⟨B1, 0, none⟩), .pointer (some ⟨B2, 0, none⟩)] W fun e W' => (∃ v, e = .returned v) ∧
      ((∃ xs, xs = ons o s 256 ∧ J xs W') ∨ (∃ pre, (pre <+: ons o s 256) ∧ Jx pre W')) := by
  have hld := load_states W b o s hO
  have HLD := Lib.hid hld
  clear hld
  refine callsIn_of_wp Try.func62 rfl trivial ?_ rfl
  simp only [Try.ntmps62, List.size_toArray, List.length_cons, List.length_nil, Nat.reduceAdd, Nat.reduceSub, Array.replicate_succ, Array.replicate_zero, List.push_toArray, List.append_toArray, List.nil_append, List.cons_append]
  gi_wp2_with (first
    | (refine ⟨trivial, ?_⟩; gi_at_call 53; refine (callsIn_wide.2 (side_any _ _ _)).mono ?_; rintro e w' ⟨rfl, rfl⟩)
    | ((with_reducible refine wpListIn_load_run (by rfl) 95 (.tmp 10) (by rfl) HLD.out ?_ ?_); rfl))
  clear HLD
  gi_loopw [12] (fun v wr => ∃ k : Nat, k ≤ 256 ∧ v = .int .i64 k ∧ Hid (J (ons o s k) wr)) (fun v _ => 256 - (intOf v).toNat)
  case atStart => exact ⟨0, by omega, rfl, h0⟩
  case round =>
    obtain ⟨k, hk, rfl, HJ⟩ := hrel
    by_cases hlt : k < 256
    · have hget := index_states o s hlt
      have HO := Lib.hid (ons_succ o s k)
      by_cases hon : (o.st s k == 1) = true
      · have hon' : (o.st s k == 1) = true := hon
        obtain ⟨fn, tmps, assign, body, hy, hR⟩ := hY _ (k : Int) wr HJ.out (by have := ons_length o s k; omega)
        have HN := Lib.hid (show ons o s (k + 1) = ons o s k ++ [(k : Int)] by rw [ons_succ, if_pos hon])
        clear HO
        gi_wp2
        refine hR.mono ?_
        rintro e W3 (⟨rfl, hJ3, _⟩ | ⟨rfl, hJx3⟩)
        · gi_wp2
          go_roundw
          case rel => exact ⟨k + 1, by omega, by go_num, by rw [HN.out]; exact hJ3⟩
          case measure => simp [intOf]; omega
        · gi_wp2
          refine bodyPost_ret (results_none rfl _ _ _) rfl ?_
          refine ⟨⟨_, rfl⟩, .inr ⟨_, ?_, hJx3⟩⟩
          rw [← HN.out]
          have := ons_prefix o s (k + 1) (256 - (k + 1))
          rwa [show k + 1 + (256 - (k + 1)) = 256 from by omega] at this
      · have hon' : (o.st s k == 1) = false := by simpa using hon
        clear hon
        have HN := Lib.hid (show ons o s (k + 1) = ons o s k by rw [ons_succ, hon']; rfl)
        clear HO
        gi_wp2
        refine ⟨fun _ h => (by cases h), ?_⟩
        gi_wp2
        go_roundw
        case rel => exact ⟨k + 1, by omega, by go_num, by rw [HN.out]; exact HJ.out⟩
        case measure => simp [intOf]; omega
    · have : k = 256 := by omega
      subst this
      gi_wp2
      go_end0
      exact ⟨⟨_, rfl⟩, .inl ⟨_, rfl, HJ.out⟩⟩

/-- what All hands back, gone over: the options that are on, in order, or the first of them -/
theorem All_stops (n : Nat) (hn : 1 ≤ n) (B1 B2 b : Nat) (o : Opt) (s : Bool) (w : World) (h1 : w.cell? ⟨B1, 0, none⟩ = some (.pointer (some ⟨b, 0, none⟩))) (h2 : w.cell? ⟨B2, 0, none⟩ = some (.bool s)) (hO : OptAt w b o) :
    SeqStopsK Fence.wide n Try.prog 62 #[.pointer (some ⟨B1, 0, none⟩), .pointer (some ⟨B2, 0, none⟩)] (fun x : Int => #[Value.int .u8 x]) (fun _ _ => True) (fun xs => xs = ons o s 256) (fun pre => pre <+: ons o s 256) 256 w :=
  fun l J Jx W hW _ _ hY h0 =>
    All1_in n hn l B1 B2 b o s J Jx hY W ((hW.cell (World.block_lt_of_cell? w _ h1)).trans h1) ((hW.cell (World.block_lt_of_cell? w _ h2)).trans h2) (Blk.below' hO hW) h0
end Go.Proofs.Ytioaenidkieiiaa
