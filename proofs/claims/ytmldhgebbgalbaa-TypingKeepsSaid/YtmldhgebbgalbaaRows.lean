/-
  No cell of these rows narrows 'for every input' (looked for: loops, veiled, ifaces, maps, wideKeys, modest, calm, conditions, laid).
  DERIVED. THE GIVEN ROWS OF THIS SEAT. 4 by the template 'for every input the law returns true; each argument reads behind the call as it read before'; 0 by the template 'total and deterministic' (their statements: YtmldhgebbgalbaaTotals.lean).
  GIVEN WITH THE SEED: the statements are not yours to turn. If you find one false, say at which input.
  Laid BY PROGRAM, IN A SANDBOX (cutbox-rows.mjs): the forced cells as the released guide's own fill.sh prints them over the translation 91e44c0f63b38c79… (all of the seat's roots in one cut). By AI agents, Wed Nov 11 2026. No macro, syntax, notation, axiom, sorry.
-/
import Derived.Test.YtmldhgebbgalbaaChecked
import GoSem.Claim
import GoSem.ClaimJoined
import GoSem.ClaimMapViews
import Derived.JoinedTies
import Derived.KernelRfl
namespace Go.Proofs.Ytmldhgebbgalbaa
/- THE CELL 'sum', in the pinned program and in every row, IS THE sha256 OF THE DUMP (.gsa) THAT YtmldhgebbgalbaaProg.lean LOADS. Nothing in Lean hashes anything: it is a label: what it is worth is what the hold of that sum in a sandbox is worth. -/
noncomputable def Try.pinned : Pinned := { name := "ytmldhgebbgalbaa", sum := "91e44c0f63b38c79560b54aba187a3443819ab6ebde6744cfa861a5d35d56c07", checked := Try.checked }
namespace Rows
def none {H : Type} : Left H := { results := [], args := [] }

/-- 'greenscreenlaw20.TypingPlays': WHATEVER THE INPUT: true; the input reads as it did. -/
def typingPlaysSpec : ChangeSpec := { name := "typingPlays", fn := fun _ => fun
  | [d1, d2, d3, d4] => { results := [.lit (.bool true)], args := [d1, d2, d3, d4] }
  | _ => none }
def typingPlaysRow : OpenClaim := { program := "ytmldhgebbgalbaa", sum := "91e44c0f63b38c79560b54aba187a3443819ab6ebde6744cfa861a5d35d56c07", func := "greenscreen/greenscreenlaw20.TypingPlays", spec := "typingPlays", unfollowed := true, recurses := true, apart := false }
def TypingPlaysSaid : Prop := typingPlaysRow.holds Try.pinned (OpenSpec.ofChange typingPlaysSpec)

/-- ITS FALSE NEIGHBOUR: 'it returns false'. Refute it at one input. -/
def typingPlaysWrong : ChangeSpec := { name := "typingPlays", fn := fun _ => fun
  | [d1, d2, d3, d4] => { results := [.lit (.bool false)], args := [d1, d2, d3, d4] }
  | _ => none }
def TypingPlaysWrongFalsely : Prop := typingPlaysRow.holds Try.pinned (OpenSpec.ofChange typingPlaysWrong)

/-- 'greenscreenlaw20.TypingInserts': WHATEVER THE INPUT: true; the input reads as it did. -/
def typingInsertsSpec : ChangeSpec := { name := "typingInserts", fn := fun _ => fun
  | [d1, d2, d3, d4] => { results := [.lit (.bool true)], args := [d1, d2, d3, d4] }
  | _ => none }
def typingInsertsRow : OpenClaim := { program := "ytmldhgebbgalbaa", sum := "91e44c0f63b38c79560b54aba187a3443819ab6ebde6744cfa861a5d35d56c07", func := "greenscreen/greenscreenlaw20.TypingInserts", spec := "typingInserts", unfollowed := true, recurses := true, apart := false }
def TypingInsertsSaid : Prop := typingInsertsRow.holds Try.pinned (OpenSpec.ofChange typingInsertsSpec)

/-- ITS FALSE NEIGHBOUR: 'it returns false'. Refute it at one input. -/
def typingInsertsWrong : ChangeSpec := { name := "typingInserts", fn := fun _ => fun
  | [d1, d2, d3, d4] => { results := [.lit (.bool false)], args := [d1, d2, d3, d4] }
  | _ => none }
def TypingInsertsWrongFalsely : Prop := typingInsertsRow.holds Try.pinned (OpenSpec.ofChange typingInsertsWrong)

/-- 'greenscreenlaw20.TypingKeeps': WHATEVER THE INPUT: true; the input reads as it did. -/
def typingKeepsSpec : ChangeSpec := { name := "typingKeeps", fn := fun _ => fun
  | [d1, d2, d3, d4] => { results := [.lit (.bool true)], args := [d1, d2, d3, d4] }
  | _ => none }
def typingKeepsRow : OpenClaim := { program := "ytmldhgebbgalbaa", sum := "91e44c0f63b38c79560b54aba187a3443819ab6ebde6744cfa861a5d35d56c07", func := "greenscreen/greenscreenlaw20.TypingKeeps", spec := "typingKeeps", unfollowed := true, recurses := true, apart := false }
def TypingKeepsSaid : Prop := typingKeepsRow.holds Try.pinned (OpenSpec.ofChange typingKeepsSpec)

/-- ITS FALSE NEIGHBOUR: 'it returns false'. Refute it at one input. -/
def typingKeepsWrong : ChangeSpec := { name := "typingKeeps", fn := fun _ => fun
  | [d1, d2, d3, d4] => { results := [.lit (.bool false)], args := [d1, d2, d3, d4] }
  | _ => none }
def TypingKeepsWrongFalsely : Prop := typingKeepsRow.holds Try.pinned (OpenSpec.ofChange typingKeepsWrong)

/-- 'greenscreenlaw20.TypingRows': WHATEVER THE INPUT: true; the input reads as it did. -/
def typingRowsSpec : ChangeSpec := { name := "typingRows", fn := fun _ => fun
  | [d1, d2, d3, d4, d5] => { results := [.lit (.bool true)], args := [d1, d2, d3, d4, d5] }
  | _ => none }
def typingRowsRow : OpenClaim := { program := "ytmldhgebbgalbaa", sum := "91e44c0f63b38c79560b54aba187a3443819ab6ebde6744cfa861a5d35d56c07", func := "greenscreen/greenscreenlaw20.TypingRows", spec := "typingRows", unfollowed := true, recurses := true, apart := false }
def TypingRowsSaid : Prop := typingRowsRow.holds Try.pinned (OpenSpec.ofChange typingRowsSpec)

/-- ITS FALSE NEIGHBOUR: 'it returns false'. Refute it at one input. -/
def typingRowsWrong : ChangeSpec := { name := "typingRows", fn := fun _ => fun
  | [d1, d2, d3, d4, d5] => { results := [.lit (.bool false)], args := [d1, d2, d3, d4, d5] }
  | _ => none }
def TypingRowsWrongFalsely : Prop := typingRowsRow.holds Try.pinned (OpenSpec.ofChange typingRowsWrong)

/- THE SECOND FORM. 'bulk': how many values and letters a reading holds, each counted each time it is reached (what is shared counts as often as it is met; a slice's spare places count too). A statement '..UptoSaid' is the law's where the arguments, and the package variables that the reading takes, are together of bulk at most 1048576: NARROWER than '..Said'. Prove '..Said' where nothing that the law and all that it calls make is longer than what came in: it says more and counts as full. Else prove '..UptoSaid'. A law counts once. -/
mutual
def uptoBulk {H : Type} : DataW H → Nat
  | .lit (.string bytes) => bytes.length + 1
  | .lit _ => 1
  | .nil => 1
  | .ptr d => uptoBulk d + 1
  | .slice elems spare => uptoBulkAll elems + uptoBulkAll spare + 1
  | .agg parts => uptoBulkAll parts + 1
  | .iface _ d => uptoBulk d + 1
  | .map entries => uptoBulkEntries entries + 1
  | .held _ => 1
def uptoBulkAll {H : Type} : List (DataW H) → Nat
  | [] => 0
  | d :: r => uptoBulk d + uptoBulkAll r
def uptoBulkEntries {H : Type} : List (Lit × DataW H) → Nat
  | [] => 0
  | x :: r => uptoBulkEntry x + uptoBulkEntries r
def uptoBulkEntry {H : Type} : Lit × DataW H → Nat
  | (.string bytes, d) => bytes.length + uptoBulk d + 1
  | (_, d) => uptoBulk d + 1
 end
def uptoSmall : (H : Type) → List (DataW H) → Bool := fun _ ds => decide (uptoBulkAll ds ≤ 1048576)
def OpenSpec.upto (s : _root_.Go.ChangeSpec) : _root_.Go.OpenSpec := { _root_.Go.OpenSpec.ofChange s with cond := some uptoSmall }

/-- 'greenscreenlaw20.TypingPlays', WHERE WHAT IT READS IS OF BULK AT MOST 1048576: true; the input reads as it did. -/
def typingPlaysUptoRow : OpenClaim := { program := "ytmldhgebbgalbaa", sum := "91e44c0f63b38c79560b54aba187a3443819ab6ebde6744cfa861a5d35d56c07", func := "greenscreen/greenscreenlaw20.TypingPlays", spec := "typingPlays", unfollowed := true, recurses := true, apart := false, narrowed := true }
def TypingPlaysUptoSaid : Prop := typingPlaysUptoRow.holds Try.pinned (OpenSpec.upto typingPlaysSpec)

/-- 'greenscreenlaw20.TypingInserts', WHERE WHAT IT READS IS OF BULK AT MOST 1048576: true; the input reads as it did. -/
def typingInsertsUptoRow : OpenClaim := { program := "ytmldhgebbgalbaa", sum := "91e44c0f63b38c79560b54aba187a3443819ab6ebde6744cfa861a5d35d56c07", func := "greenscreen/greenscreenlaw20.TypingInserts", spec := "typingInserts", unfollowed := true, recurses := true, apart := false, narrowed := true }
def TypingInsertsUptoSaid : Prop := typingInsertsUptoRow.holds Try.pinned (OpenSpec.upto typingInsertsSpec)

/-- 'greenscreenlaw20.TypingKeeps', WHERE WHAT IT READS IS OF BULK AT MOST 1048576: true; the input reads as it did. -/
def typingKeepsUptoRow : OpenClaim := { program := "ytmldhgebbgalbaa", sum := "91e44c0f63b38c79560b54aba187a3443819ab6ebde6744cfa861a5d35d56c07", func := "greenscreen/greenscreenlaw20.TypingKeeps", spec := "typingKeeps", unfollowed := true, recurses := true, apart := false, narrowed := true }
def TypingKeepsUptoSaid : Prop := typingKeepsUptoRow.holds Try.pinned (OpenSpec.upto typingKeepsSpec)

/-- 'greenscreenlaw20.TypingRows', WHERE WHAT IT READS IS OF BULK AT MOST 1048576: true; the input reads as it did. -/
def typingRowsUptoRow : OpenClaim := { program := "ytmldhgebbgalbaa", sum := "91e44c0f63b38c79560b54aba187a3443819ab6ebde6744cfa861a5d35d56c07", func := "greenscreen/greenscreenlaw20.TypingRows", spec := "typingRows", unfollowed := true, recurses := true, apart := false, narrowed := true }
def TypingRowsUptoSaid : Prop := typingRowsUptoRow.holds Try.pinned (OpenSpec.upto typingRowsSpec)

end Rows
end Go.Proofs.Ytmldhgebbgalbaa
