/-
  No cell of these rows narrows 'for every input' (looked for: loops, veiled, ifaces, maps, wideKeys, modest, calm, conditions, laid).
  DERIVED. THE GIVEN ROWS OF THIS SEAT. 10 by the template 'for every input the law returns true; each argument reads behind the call as it read before'; 0 by the template 'total and deterministic' (their statements: YtmcfckdgolojlaaTotals.lean).
  GIVEN WITH THE SEED: the statements are not yours to turn. If you find one false, say at which input.
  Laid BY PROGRAM, IN A SANDBOX (cutbox-rows.mjs): the forced cells as the released guide's own fill.sh prints them over the translation 5e64d1ca42763b13… (all of the seat's roots in one cut). By AI agents, Wed Nov 11 2026. No macro, syntax, notation, axiom, sorry.
-/
import Derived.Test.YtmcfckdgolojlaaChecked
import GoSem.Claim
import GoSem.ClaimJoined
import GoSem.ClaimMapViews
import Derived.JoinedTies
import Derived.KernelRfl
namespace Go.Proofs.Ytmcfckdgolojlaa
/- THE CELL 'sum', in the pinned program and in every row, IS THE sha256 OF THE DUMP (.gsa) THAT YtmcfckdgolojlaaProg.lean LOADS. Nothing in Lean hashes anything: it is a label: what it is worth is what the hold of that sum in a sandbox is worth. -/
noncomputable def Try.pinned : Pinned := { name := "ytmcfckdgolojlaa", sum := "5e64d1ca42763b139398d4f45b83d5f699ef73143ebe72d351d7d4ed9a280409", checked := Try.checked }
namespace Rows
def none {H : Type} : Left H := { results := [], args := [] }

/-- 'greenscreenlaw19.CaretRounds': WHATEVER THE INPUT: true; the input reads as it did. -/
def caretRoundsSpec : ChangeSpec := { name := "caretRounds", fn := fun _ => fun
  | [d1, d2, d3] => { results := [.lit (.bool true)], args := [d1, d2, d3] }
  | _ => none }
def caretRoundsRow : OpenClaim := { program := "ytmcfckdgolojlaa", sum := "5e64d1ca42763b139398d4f45b83d5f699ef73143ebe72d351d7d4ed9a280409", func := "greenscreen/greenscreenlaw19.CaretRounds", spec := "caretRounds", unfollowed := true, recurses := true, apart := false }
def CaretRoundsSaid : Prop := caretRoundsRow.holds Try.pinned (OpenSpec.ofChange caretRoundsSpec)

/-- ITS FALSE NEIGHBOUR: 'it returns false'. Refute it at one input. -/
def caretRoundsWrong : ChangeSpec := { name := "caretRounds", fn := fun _ => fun
  | [d1, d2, d3] => { results := [.lit (.bool false)], args := [d1, d2, d3] }
  | _ => none }
def CaretRoundsWrongFalsely : Prop := caretRoundsRow.holds Try.pinned (OpenSpec.ofChange caretRoundsWrong)

/-- 'greenscreenlaw19.CaretOns': WHATEVER THE INPUT: true; the input reads as it did. -/
def caretOnsSpec : ChangeSpec := { name := "caretOns", fn := fun _ => fun
  | [d1, d2, d3] => { results := [.lit (.bool true)], args := [d1, d2, d3] }
  | _ => none }
def caretOnsRow : OpenClaim := { program := "ytmcfckdgolojlaa", sum := "5e64d1ca42763b139398d4f45b83d5f699ef73143ebe72d351d7d4ed9a280409", func := "greenscreen/greenscreenlaw19.CaretOns", spec := "caretOns", unfollowed := true, recurses := true, apart := false }
def CaretOnsSaid : Prop := caretOnsRow.holds Try.pinned (OpenSpec.ofChange caretOnsSpec)

/-- ITS FALSE NEIGHBOUR: 'it returns false'. Refute it at one input. -/
def caretOnsWrong : ChangeSpec := { name := "caretOns", fn := fun _ => fun
  | [d1, d2, d3] => { results := [.lit (.bool false)], args := [d1, d2, d3] }
  | _ => none }
def CaretOnsWrongFalsely : Prop := caretOnsRow.holds Try.pinned (OpenSpec.ofChange caretOnsWrong)

/-- 'greenscreenlaw19.CaretOpens': WHATEVER THE INPUT: true; the input reads as it did. -/
def caretOpensSpec : ChangeSpec := { name := "caretOpens", fn := fun _ => fun
  | [d1, d2, d3, d4, d5] => { results := [.lit (.bool true)], args := [d1, d2, d3, d4, d5] }
  | _ => none }
def caretOpensRow : OpenClaim := { program := "ytmcfckdgolojlaa", sum := "5e64d1ca42763b139398d4f45b83d5f699ef73143ebe72d351d7d4ed9a280409", func := "greenscreen/greenscreenlaw19.CaretOpens", spec := "caretOpens", unfollowed := true, recurses := true, apart := false }
def CaretOpensSaid : Prop := caretOpensRow.holds Try.pinned (OpenSpec.ofChange caretOpensSpec)

/-- ITS FALSE NEIGHBOUR: 'it returns false'. Refute it at one input. -/
def caretOpensWrong : ChangeSpec := { name := "caretOpens", fn := fun _ => fun
  | [d1, d2, d3, d4, d5] => { results := [.lit (.bool false)], args := [d1, d2, d3, d4, d5] }
  | _ => none }
def CaretOpensWrongFalsely : Prop := caretOpensRow.holds Try.pinned (OpenSpec.ofChange caretOpensWrong)

/-- 'greenscreenlaw19.CaretMoves': WHATEVER THE INPUT: true; the input reads as it did. -/
def caretMovesSpec : ChangeSpec := { name := "caretMoves", fn := fun _ => fun
  | [d1, d2, d3, d4, d5] => { results := [.lit (.bool true)], args := [d1, d2, d3, d4, d5] }
  | _ => none }
def caretMovesRow : OpenClaim := { program := "ytmcfckdgolojlaa", sum := "5e64d1ca42763b139398d4f45b83d5f699ef73143ebe72d351d7d4ed9a280409", func := "greenscreen/greenscreenlaw19.CaretMoves", spec := "caretMoves", unfollowed := true, recurses := true, apart := false }
def CaretMovesSaid : Prop := caretMovesRow.holds Try.pinned (OpenSpec.ofChange caretMovesSpec)

/-- ITS FALSE NEIGHBOUR: 'it returns false'. Refute it at one input. -/
def caretMovesWrong : ChangeSpec := { name := "caretMoves", fn := fun _ => fun
  | [d1, d2, d3, d4, d5] => { results := [.lit (.bool false)], args := [d1, d2, d3, d4, d5] }
  | _ => none }
def CaretMovesWrongFalsely : Prop := caretMovesRow.holds Try.pinned (OpenSpec.ofChange caretMovesWrong)

/-- 'greenscreenlaw17.WipeInsides': WHATEVER THE INPUT: true; the input reads as it did. -/
def wipeInsidesSpec : ChangeSpec := { name := "wipeInsides", fn := fun _ => fun
  | [d1, d2, d3] => { results := [.lit (.bool true)], args := [d1, d2, d3] }
  | _ => none }
def wipeInsidesRow : OpenClaim := { program := "ytmcfckdgolojlaa", sum := "5e64d1ca42763b139398d4f45b83d5f699ef73143ebe72d351d7d4ed9a280409", func := "greenscreen/greenscreenlaw17.WipeInsides", spec := "wipeInsides", unfollowed := true, recurses := true, apart := false }
def WipeInsidesSaid : Prop := wipeInsidesRow.holds Try.pinned (OpenSpec.ofChange wipeInsidesSpec)

/-- ITS FALSE NEIGHBOUR: 'it returns false'. Refute it at one input. -/
def wipeInsidesWrong : ChangeSpec := { name := "wipeInsides", fn := fun _ => fun
  | [d1, d2, d3] => { results := [.lit (.bool false)], args := [d1, d2, d3] }
  | _ => none }
def WipeInsidesWrongFalsely : Prop := wipeInsidesRow.holds Try.pinned (OpenSpec.ofChange wipeInsidesWrong)

/-- 'greenscreenlaw17.WipeKeeps': WHATEVER THE INPUT: true; the input reads as it did. -/
def wipeKeepsSpec : ChangeSpec := { name := "wipeKeeps", fn := fun _ => fun
  | [d1, d2, d3] => { results := [.lit (.bool true)], args := [d1, d2, d3] }
  | _ => none }
def wipeKeepsRow : OpenClaim := { program := "ytmcfckdgolojlaa", sum := "5e64d1ca42763b139398d4f45b83d5f699ef73143ebe72d351d7d4ed9a280409", func := "greenscreen/greenscreenlaw17.WipeKeeps", spec := "wipeKeeps", unfollowed := true, recurses := true, apart := false }
def WipeKeepsSaid : Prop := wipeKeepsRow.holds Try.pinned (OpenSpec.ofChange wipeKeepsSpec)

/-- ITS FALSE NEIGHBOUR: 'it returns false'. Refute it at one input. -/
def wipeKeepsWrong : ChangeSpec := { name := "wipeKeeps", fn := fun _ => fun
  | [d1, d2, d3] => { results := [.lit (.bool false)], args := [d1, d2, d3] }
  | _ => none }
def WipeKeepsWrongFalsely : Prop := wipeKeepsRow.holds Try.pinned (OpenSpec.ofChange wipeKeepsWrong)

/-- 'greenscreenlaw16.PaintPlays': WHATEVER THE INPUT: true; the input reads as it did. -/
def paintPlaysSpec : ChangeSpec := { name := "paintPlays", fn := fun _ => fun
  | [d1, d2, d3, d4] => { results := [.lit (.bool true)], args := [d1, d2, d3, d4] }
  | _ => none }
def paintPlaysRow : OpenClaim := { program := "ytmcfckdgolojlaa", sum := "5e64d1ca42763b139398d4f45b83d5f699ef73143ebe72d351d7d4ed9a280409", func := "greenscreen/greenscreenlaw16.PaintPlays", spec := "paintPlays", unfollowed := true, recurses := true, apart := false }
def PaintPlaysSaid : Prop := paintPlaysRow.holds Try.pinned (OpenSpec.ofChange paintPlaysSpec)

/-- ITS FALSE NEIGHBOUR: 'it returns false'. Refute it at one input. -/
def paintPlaysWrong : ChangeSpec := { name := "paintPlays", fn := fun _ => fun
  | [d1, d2, d3, d4] => { results := [.lit (.bool false)], args := [d1, d2, d3, d4] }
  | _ => none }
def PaintPlaysWrongFalsely : Prop := paintPlaysRow.holds Try.pinned (OpenSpec.ofChange paintPlaysWrong)

/-- 'greenscreenlaw16.PaintKeeps': WHATEVER THE INPUT: true; the input reads as it did. -/
def paintKeepsSpec : ChangeSpec := { name := "paintKeeps", fn := fun _ => fun
  | [d1, d2, d3, d4, d5] => { results := [.lit (.bool true)], args := [d1, d2, d3, d4, d5] }
  | _ => none }
def paintKeepsRow : OpenClaim := { program := "ytmcfckdgolojlaa", sum := "5e64d1ca42763b139398d4f45b83d5f699ef73143ebe72d351d7d4ed9a280409", func := "greenscreen/greenscreenlaw16.PaintKeeps", spec := "paintKeeps", unfollowed := true, recurses := true, apart := false }
def PaintKeepsSaid : Prop := paintKeepsRow.holds Try.pinned (OpenSpec.ofChange paintKeepsSpec)

/-- ITS FALSE NEIGHBOUR: 'it returns false'. Refute it at one input. -/
def paintKeepsWrong : ChangeSpec := { name := "paintKeeps", fn := fun _ => fun
  | [d1, d2, d3, d4, d5] => { results := [.lit (.bool false)], args := [d1, d2, d3, d4, d5] }
  | _ => none }
def PaintKeepsWrongFalsely : Prop := paintKeepsRow.holds Try.pinned (OpenSpec.ofChange paintKeepsWrong)

/-- 'greenscreenlaw16.PaintCuts': WHATEVER THE INPUT: true; the input reads as it did. -/
def paintCutsSpec : ChangeSpec := { name := "paintCuts", fn := fun _ => fun
  | [d1, d2, d3, d4, d5] => { results := [.lit (.bool true)], args := [d1, d2, d3, d4, d5] }
  | _ => none }
def paintCutsRow : OpenClaim := { program := "ytmcfckdgolojlaa", sum := "5e64d1ca42763b139398d4f45b83d5f699ef73143ebe72d351d7d4ed9a280409", func := "greenscreen/greenscreenlaw16.PaintCuts", spec := "paintCuts", unfollowed := true, recurses := true, apart := false }
def PaintCutsSaid : Prop := paintCutsRow.holds Try.pinned (OpenSpec.ofChange paintCutsSpec)

/-- ITS FALSE NEIGHBOUR: 'it returns false'. Refute it at one input. -/
def paintCutsWrong : ChangeSpec := { name := "paintCuts", fn := fun _ => fun
  | [d1, d2, d3, d4, d5] => { results := [.lit (.bool false)], args := [d1, d2, d3, d4, d5] }
  | _ => none }
def PaintCutsWrongFalsely : Prop := paintCutsRow.holds Try.pinned (OpenSpec.ofChange paintCutsWrong)

/-- 'greenscreenlaw16.PaintRounds': WHATEVER THE INPUT: true; the input reads as it did. -/
def paintRoundsSpec : ChangeSpec := { name := "paintRounds", fn := fun _ => fun
  | [d1, d2, d3, d4, d5] => { results := [.lit (.bool true)], args := [d1, d2, d3, d4, d5] }
  | _ => none }
def paintRoundsRow : OpenClaim := { program := "ytmcfckdgolojlaa", sum := "5e64d1ca42763b139398d4f45b83d5f699ef73143ebe72d351d7d4ed9a280409", func := "greenscreen/greenscreenlaw16.PaintRounds", spec := "paintRounds", unfollowed := true, recurses := true, apart := false }
def PaintRoundsSaid : Prop := paintRoundsRow.holds Try.pinned (OpenSpec.ofChange paintRoundsSpec)

/-- ITS FALSE NEIGHBOUR: 'it returns false'. Refute it at one input. -/
def paintRoundsWrong : ChangeSpec := { name := "paintRounds", fn := fun _ => fun
  | [d1, d2, d3, d4, d5] => { results := [.lit (.bool false)], args := [d1, d2, d3, d4, d5] }
  | _ => none }
def PaintRoundsWrongFalsely : Prop := paintRoundsRow.holds Try.pinned (OpenSpec.ofChange paintRoundsWrong)

/- THE SECOND FORM. 'bulk': how many values and letters a reading holds, each counted each time it is reached (what is shared counts as often as it is met; a slice's spare places count too). A statement '..UptoSaid' is the law's where the arguments, and the package variables that the reading takes, are together of bulk at most 1048576: NARROWER than '..Said'. Prove '..Said' where nothing that the law and all that it calls make is longer than what came in: it says more and counts as full. Else prove '..UptoSaid'. A law counts once. -/
mutual
def uptoBulk {H : Type} : DataW H → Nat
  | .lit (.string bytes) => bytes.length + 1
  | .lit _ => 1
  | .nil => 1
  | .ptr d => uptoBulk d + 1
  | .slice elems spare => uptoBulkAll elems + uptoBulkAll spare + 1
  | .agg parts => uptoBulkAll parts + 1
  | .iface _ d => uptoBulk d + 1
  | .map entries => uptoBulkEntries entries + 1
  | .held _ => 1
def uptoBulkAll {H : Type} : List (DataW H) → Nat
  | [] => 0
  | d :: r => uptoBulk d + uptoBulkAll r
def uptoBulkEntries {H : Type} : List (Lit × DataW H) → Nat
  | [] => 0
  | x :: r => uptoBulkEntry x + uptoBulkEntries r
def uptoBulkEntry {H : Type} : Lit × DataW H → Nat
  | (.string bytes, d) => bytes.length + uptoBulk d + 1
  | (_, d) => uptoBulk d + 1
 end
def uptoSmall : (H : Type) → List (DataW H) → Bool := fun _ ds => decide (uptoBulkAll ds ≤ 1048576)
def OpenSpec.upto (s : _root_.Go.ChangeSpec) : _root_.Go.OpenSpec := { _root_.Go.OpenSpec.ofChange s with cond := some uptoSmall }

/-- 'greenscreenlaw19.CaretRounds', WHERE WHAT IT READS IS OF BULK AT MOST 1048576: true; the input reads as it did. -/
def caretRoundsUptoRow : OpenClaim := { program := "ytmcfckdgolojlaa", sum := "5e64d1ca42763b139398d4f45b83d5f699ef73143ebe72d351d7d4ed9a280409", func := "greenscreen/greenscreenlaw19.CaretRounds", spec := "caretRounds", unfollowed := true, recurses := true, apart := false, narrowed := true }
def CaretRoundsUptoSaid : Prop := caretRoundsUptoRow.holds Try.pinned (OpenSpec.upto caretRoundsSpec)

/-- 'greenscreenlaw19.CaretOns', WHERE WHAT IT READS IS OF BULK AT MOST 1048576: true; the input reads as it did. -/
def caretOnsUptoRow : OpenClaim := { program := "ytmcfckdgolojlaa", sum := "5e64d1ca42763b139398d4f45b83d5f699ef73143ebe72d351d7d4ed9a280409", func := "greenscreen/greenscreenlaw19.CaretOns", spec := "caretOns", unfollowed := true, recurses := true, apart := false, narrowed := true }
def CaretOnsUptoSaid : Prop := caretOnsUptoRow.holds Try.pinned (OpenSpec.upto caretOnsSpec)

/-- 'greenscreenlaw19.CaretOpens', WHERE WHAT IT READS IS OF BULK AT MOST 1048576: true; the input reads as it did. -/
def caretOpensUptoRow : OpenClaim := { program := "ytmcfckdgolojlaa", sum := "5e64d1ca42763b139398d4f45b83d5f699ef73143ebe72d351d7d4ed9a280409", func := "greenscreen/greenscreenlaw19.CaretOpens", spec := "caretOpens", unfollowed := true, recurses := true, apart := false, narrowed := true }
def CaretOpensUptoSaid : Prop := caretOpensUptoRow.holds Try.pinned (OpenSpec.upto caretOpensSpec)

/-- 'greenscreenlaw19.CaretMoves', WHERE WHAT IT READS IS OF BULK AT MOST 1048576: true; the input reads as it did. -/
def caretMovesUptoRow : OpenClaim := { program := "ytmcfckdgolojlaa", sum := "5e64d1ca42763b139398d4f45b83d5f699ef73143ebe72d351d7d4ed9a280409", func := "greenscreen/greenscreenlaw19.CaretMoves", spec := "caretMoves", unfollowed := true, recurses := true, apart := false, narrowed := true }
def CaretMovesUptoSaid : Prop := caretMovesUptoRow.holds Try.pinned (OpenSpec.upto caretMovesSpec)

/-- 'greenscreenlaw17.WipeInsides', WHERE WHAT IT READS IS OF BULK AT MOST 1048576: true; the input reads as it did. -/
def wipeInsidesUptoRow : OpenClaim := { program := "ytmcfckdgolojlaa", sum := "5e64d1ca42763b139398d4f45b83d5f699ef73143ebe72d351d7d4ed9a280409", func := "greenscreen/greenscreenlaw17.WipeInsides", spec := "wipeInsides", unfollowed := true, recurses := true, apart := false, narrowed := true }
def WipeInsidesUptoSaid : Prop := wipeInsidesUptoRow.holds Try.pinned (OpenSpec.upto wipeInsidesSpec)

/-- 'greenscreenlaw17.WipeKeeps', WHERE WHAT IT READS IS OF BULK AT MOST 1048576: true; the input reads as it did. -/
def wipeKeepsUptoRow : OpenClaim := { program := "ytmcfckdgolojlaa", sum := "5e64d1ca42763b139398d4f45b83d5f699ef73143ebe72d351d7d4ed9a280409", func := "greenscreen/greenscreenlaw17.WipeKeeps", spec := "wipeKeeps", unfollowed := true, recurses := true, apart := false, narrowed := true }
def WipeKeepsUptoSaid : Prop := wipeKeepsUptoRow.holds Try.pinned (OpenSpec.upto wipeKeepsSpec)

/-- 'greenscreenlaw16.PaintPlays', WHERE WHAT IT READS IS OF BULK AT MOST 1048576: true; the input reads as it did. -/
def paintPlaysUptoRow : OpenClaim := { program := "ytmcfckdgolojlaa", sum := "5e64d1ca42763b139398d4f45b83d5f699ef73143ebe72d351d7d4ed9a280409", func := "greenscreen/greenscreenlaw16.PaintPlays", spec := "paintPlays", unfollowed := true, recurses := true, apart := false, narrowed := true }
def PaintPlaysUptoSaid : Prop := paintPlaysUptoRow.holds Try.pinned (OpenSpec.upto paintPlaysSpec)

/-- 'greenscreenlaw16.PaintKeeps', WHERE WHAT IT READS IS OF BULK AT MOST 1048576: true; the input reads as it did. -/
def paintKeepsUptoRow : OpenClaim := { program := "ytmcfckdgolojlaa", sum := "5e64d1ca42763b139398d4f45b83d5f699ef73143ebe72d351d7d4ed9a280409", func := "greenscreen/greenscreenlaw16.PaintKeeps", spec := "paintKeeps", unfollowed := true, recurses := true, apart := false, narrowed := true }
def PaintKeepsUptoSaid : Prop := paintKeepsUptoRow.holds Try.pinned (OpenSpec.upto paintKeepsSpec)

/-- 'greenscreenlaw16.PaintCuts', WHERE WHAT IT READS IS OF BULK AT MOST 1048576: true; the input reads as it did. -/
def paintCutsUptoRow : OpenClaim := { program := "ytmcfckdgolojlaa", sum := "5e64d1ca42763b139398d4f45b83d5f699ef73143ebe72d351d7d4ed9a280409", func := "greenscreen/greenscreenlaw16.PaintCuts", spec := "paintCuts", unfollowed := true, recurses := true, apart := false, narrowed := true }
def PaintCutsUptoSaid : Prop := paintCutsUptoRow.holds Try.pinned (OpenSpec.upto paintCutsSpec)

/-- 'greenscreenlaw16.PaintRounds', WHERE WHAT IT READS IS OF BULK AT MOST 1048576: true; the input reads as it did. -/
def paintRoundsUptoRow : OpenClaim := { program := "ytmcfckdgolojlaa", sum := "5e64d1ca42763b139398d4f45b83d5f699ef73143ebe72d351d7d4ed9a280409", func := "greenscreen/greenscreenlaw16.PaintRounds", spec := "paintRounds", unfollowed := true, recurses := true, apart := false, narrowed := true }
def PaintRoundsUptoSaid : Prop := paintRoundsUptoRow.holds Try.pinned (OpenSpec.upto paintRoundsSpec)

end Rows
end Go.Proofs.Ytmcfckdgolojlaa
