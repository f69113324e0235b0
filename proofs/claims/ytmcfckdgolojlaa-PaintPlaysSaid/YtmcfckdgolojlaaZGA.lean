import Derived.Test.YtmcfckdgolojlaaZG9
/- Chapter 16: do, whatever the order. -/
namespace Go.Proofs.Ytmcfckdgolojlaa
set_option linter.unusedVariables false
set_option linter.unusedSimpArgs false
open Go.RowKit
/-- what an order does to a brush; the error's number -/
def Br.act (b : Br) (o : Ord) : Option (Br × Int) :=
  if o.k = 0 then some (b.data o.da, 0)
  else if o.k = 8 then some (b.lay (b.char o.b true), 0)
  else if o.k = 17 then (if 0 ≤ o.a ∧ o.a < b.p.n then some ({ b with at_ := o.a }, 0) else some (b, 32))
  else if o.k = 29 then some (b.lay o.attr, 0)
  else if o.k = 41 then some (b.lay o.attr, 0)
  else if o.k = 40 then some ({ b with look := b.look.dress o.ps }, 0)
  else if o.k = 44 then (if (b.p.at b.at_).st = true then some (b.lay ((b.p.at b.at_).dress o.ps), 0) else some (b, 31))
  else if o.k = 19 then some ({ b with p := b.p.point b.at_ }, 0)
  else if o.k = 5 then some (b.tab, 0)
  else if o.k = 60 then (if 0 ≤ o.a ∧ o.a < b.p.n then some (b.fill o, 0) else some (b, 32))
  else if o.k = 18 then (if 0 ≤ o.a ∧ o.a < b.p.n then some (b.wipe o, 0) else some (b, 32))
  else none
def Ord.laid (o : Ord) : Bool := o.k == 8 || (o.k == 0 && decide (0 < o.da.length))
def Br.do (b : Br) (o : Ord) : Br × Int := match b.act o with | none => (b, 31) | some (b', e) => ({ b' with laid := o.laid }, e)
theorem do_any (u g c : Nat) (b : Br) (A B : Option Addr) (cA cB : Nat) (o : Ord) (w : World) (h : BrAt w u g c b) (ho : OrAt [u, g, c] w A B o) : Calls Try.prog 77 #[.pointer (some ⟨u, 0, none⟩), .agg #[.int .u8 o.k, .int .i64 o.a, .int .u8 o.b, .bool o.ge, .slice A o.ps.length cA, .slice B o.da.length cB]] w (Ret1 (.int .i64 (b.do o).2) (BrTo u g c (b.do o).1 w)) := by
  by_cases hk : o.k = 0
  · have e : b.do o = ({ b.data o.da with laid := decide (0 < o.da.length) }, 0) := by unfold Br.do Br.act Ord.laid; simp [hk]
    rw [e]
    exact do_data u g c b A B cA cB o hk w h ho
  have h0 := hk
  clear hk
  by_cases hk : o.k = 8
  · have e : b.do o = ({ b.lay (b.char o.b true) with laid := true }, 0) := by unfold Br.do Br.act Ord.laid; simp [hk]
    rw [e]
    exact do_special u g c b A B cA cB o hk w h ho
  have h8 := hk
  clear hk
  by_cases hk : o.k = 17
  · by_cases hh : 0 ≤ o.a ∧ o.a < b.p.n
    · have e : b.do o = ({ { b with at_ := o.a } with laid := false }, 0) := by unfold Br.do Br.act Ord.laid; simp [hk, hh]
      rw [e]
      exact do_jump_yes u g c b A B cA cB o hk hh w h ho
    · have e : b.do o = ({ b with laid := false }, 32) := by unfold Br.do Br.act Ord.laid; simp [hk, hh]
      rw [e]
      exact do_jump_no u g c b A B cA cB o hk hh w h ho
  have h17 := hk
  clear hk
  by_cases hk : o.k = 29
  · have e : b.do o = ({ b.lay o.attr with laid := false }, 0) := by unfold Br.do Br.act Ord.laid; simp [hk]
    rw [e]
    exact do_sf u g c b A B cA cB o hk w h ho
  have h29 := hk
  clear hk
  by_cases hk : o.k = 41
  · have e : b.do o = ({ b.lay o.attr with laid := false }, 0) := by unfold Br.do Br.act Ord.laid; simp [hk]
    rw [e]
    exact do_sfe u g c b A B cA cB o hk w h ho
  have h41 := hk
  clear hk
  by_cases hk : o.k = 40
  · have e : b.do o = ({ { b with look := b.look.dress o.ps } with laid := false }, 0) := by unfold Br.do Br.act Ord.laid; simp [hk]
    rw [e]
    exact do_dress u g c b A B cA cB o hk w h ho
  have h40 := hk
  clear hk
  by_cases hk : o.k = 44
  · by_cases hs : (b.p.at b.at_).st = true
    · have e : b.do o = ({ b.lay ((b.p.at b.at_).dress o.ps) with laid := false }, 0) := by unfold Br.do Br.act Ord.laid; simp [hk, hs]
      rw [e]
      exact do_modify_yes u g c b A B cA cB o hk hs w h ho
    · have e : b.do o = ({ b with laid := false }, 31) := by unfold Br.do Br.act Ord.laid; simp [hk, hs]
      rw [e]
      exact do_modify_no u g c b A B cA cB o hk (by simpa using hs) w h ho
  have h44 := hk
  clear hk
  by_cases hk : o.k = 19
  · have e : b.do o = ({ { b with p := b.p.point b.at_ } with laid := false }, 0) := by unfold Br.do Br.act Ord.laid; simp [hk]
    rw [e]
    exact do_cursor u g c b A B cA cB o hk w h ho
  have h19 := hk
  clear hk
  by_cases hk : o.k = 5
  · have e : b.do o = ({ b.tab with laid := false }, 0) := by unfold Br.do Br.act Ord.laid; simp [hk]
    rw [e]
    exact do_tab u g c b A B cA cB o hk w h ho
  have h5 := hk
  clear hk
  by_cases hk : o.k = 60
  · by_cases hh : 0 ≤ o.a ∧ o.a < b.p.n
    · have e : b.do o = ({ b.fill o with laid := false }, 0) := by unfold Br.do Br.act Ord.laid; simp [hk, hh]
      rw [e]
      exact do_repeat_yes u g c b A B cA cB o hk hh w h ho
    · have e : b.do o = ({ b with laid := false }, 32) := by unfold Br.do Br.act Ord.laid; simp [hk, hh]
      rw [e]
      exact do_repeat_no u g c b A B cA cB o hk hh w h ho
  have h60 := hk
  clear hk
  by_cases hk : o.k = 18
  · by_cases hh : 0 ≤ o.a ∧ o.a < b.p.n
    · have e : b.do o = ({ b.wipe o with laid := false }, 0) := by unfold Br.do Br.act Ord.laid; simp [hk, hh]
      rw [e]
      exact do_wipe_yes u g c b A B cA cB o hk hh w h ho
    · have e : b.do o = ({ b with laid := false }, 32) := by unfold Br.do Br.act Ord.laid; simp [hk, hh]
      rw [e]
      exact do_wipe_no u g c b A B cA cB o hk hh w h ho
  have h18 := hk
  clear hk
  have e : b.do o = (b, 31) := by unfold Br.do Br.act; simp [h0, h8, h17, h29, h41, h40, h44, h19, h5, h60, h18]
  rw [e]
  exact do_none u g c b A B cA cB o h0 h8 h17 h29 h41 h40 h44 h19 h5 h60 h18 w h ho
end Go.Proofs.Ytmcfckdgolojlaa
