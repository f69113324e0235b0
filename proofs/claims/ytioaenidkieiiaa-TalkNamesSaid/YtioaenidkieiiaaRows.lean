/-
  No cell of these rows narrows 'for every input' (looked for: loops, veiled, ifaces, maps, wideKeys, modest, calm, conditions, laid).
  DERIVED. THE GIVEN ROWS OF THIS SEAT. 7 by the template 'for every input the law returns true; each argument reads behind the call as it read before'; 0 by the template 'total and deterministic' (their statements: YtioaenidkieiiaaTotals.lean).
  GIVEN WITH THE SEED: the statements are not yours to turn. If you find one false, say at which input.
  Laid BY PROGRAM, IN A SANDBOX (cutbox-rows.mjs): the forced cells as the released guide's own fill.sh prints them over the translation aed038163bf08373… (all of the seat's roots in one cut). By AI agents, Wed Nov 11 2026. No macro, syntax, notation, axiom, sorry.
-/
import Derived.Test.YtioaenidkieiiaaChecked
import GoSem.Claim
import GoSem.ClaimJoined
import GoSem.ClaimMapViews
import Derived.JoinedTies
import Derived.KernelRfl
namespace Go.Proofs.Ytioaenidkieiiaa
/- THE CELL 'sum', in the pinned program and in every row, IS THE sha256 OF THE DUMP (.gsa) THAT YtioaenidkieiiaaProg.lean LOADS. Nothing in Lean hashes anything: it is a label: what it is worth is what the hold of that sum in a sandbox is worth. -/
noncomputable def Try.pinned : Pinned := { name := "ytioaenidkieiiaa", sum := "aed038163bf083730ab692e388cf1c9db22b20d023dc74beb126b8b58f131662", checked := Try.checked }
namespace Rows
def none {H : Type} : Left H := { results := [], args := [] }

/-- 'greenscreenlaw06.OptionPlays': WHATEVER THE INPUT: true; the input reads as it did. -/
def optionPlaysSpec : ChangeSpec := { name := "optionPlays", fn := fun _ => fun
  | [d1, d2, d3, d4] => { results := [.lit (.bool true)], args := [d1, d2, d3, d4] }
  | _ => none }
def optionPlaysRow : OpenClaim := { program := "ytioaenidkieiiaa", sum := "aed038163bf083730ab692e388cf1c9db22b20d023dc74beb126b8b58f131662", func := "greenscreen/greenscreenlaw06.OptionPlays", spec := "optionPlays", unfollowed := true, recurses := true, apart := false }
def OptionPlaysSaid : Prop := optionPlaysRow.holds Try.pinned (OpenSpec.ofChange optionPlaysSpec)

/-- ITS FALSE NEIGHBOUR: 'it returns false'. Refute it at one input. -/
def optionPlaysWrong : ChangeSpec := { name := "optionPlays", fn := fun _ => fun
  | [d1, d2, d3, d4] => { results := [.lit (.bool false)], args := [d1, d2, d3, d4] }
  | _ => none }
def OptionPlaysWrongFalsely : Prop := optionPlaysRow.holds Try.pinned (OpenSpec.ofChange optionPlaysWrong)

/-- 'greenscreenlaw06.OptionRests': WHATEVER THE INPUT: true; the input reads as it did. -/
def optionRestsSpec : ChangeSpec := { name := "optionRests", fn := fun _ => fun
  | [d1, d2, d3, d4, d5] => { results := [.lit (.bool true)], args := [d1, d2, d3, d4, d5] }
  | _ => none }
def optionRestsRow : OpenClaim := { program := "ytioaenidkieiiaa", sum := "aed038163bf083730ab692e388cf1c9db22b20d023dc74beb126b8b58f131662", func := "greenscreen/greenscreenlaw06.OptionRests", spec := "optionRests", unfollowed := true, recurses := true, apart := false }
def OptionRestsSaid : Prop := optionRestsRow.holds Try.pinned (OpenSpec.ofChange optionRestsSpec)

/-- ITS FALSE NEIGHBOUR: 'it returns false'. Refute it at one input. -/
def optionRestsWrong : ChangeSpec := { name := "optionRests", fn := fun _ => fun
  | [d1, d2, d3, d4, d5] => { results := [.lit (.bool false)], args := [d1, d2, d3, d4, d5] }
  | _ => none }
def OptionRestsWrongFalsely : Prop := optionRestsRow.holds Try.pinned (OpenSpec.ofChange optionRestsWrong)

/-- 'greenscreenlaw06.OptionMay': WHATEVER THE INPUT: true; the input reads as it did. -/
def optionMaySpec : ChangeSpec := { name := "optionMay", fn := fun _ => fun
  | [d1, d2, d3] => { results := [.lit (.bool true)], args := [d1, d2, d3] }
  | _ => none }
def optionMayRow : OpenClaim := { program := "ytioaenidkieiiaa", sum := "aed038163bf083730ab692e388cf1c9db22b20d023dc74beb126b8b58f131662", func := "greenscreen/greenscreenlaw06.OptionMay", spec := "optionMay", unfollowed := true, recurses := true, apart := false }
def OptionMaySaid : Prop := optionMayRow.holds Try.pinned (OpenSpec.ofChange optionMaySpec)

/-- ITS FALSE NEIGHBOUR: 'it returns false'. Refute it at one input. -/
def optionMayWrong : ChangeSpec := { name := "optionMay", fn := fun _ => fun
  | [d1, d2, d3] => { results := [.lit (.bool false)], args := [d1, d2, d3] }
  | _ => none }
def OptionMayWrongFalsely : Prop := optionMayRow.holds Try.pinned (OpenSpec.ofChange optionMayWrong)

/-- 'greenscreenlaw06.OptionTurns': WHATEVER THE INPUT: true; the input reads as it did. -/
def optionTurnsSpec : ChangeSpec := { name := "optionTurns", fn := fun _ => fun
  | [d1, d2] => { results := [.lit (.bool true)], args := [d1, d2] }
  | _ => none }
def optionTurnsRow : OpenClaim := { program := "ytioaenidkieiiaa", sum := "aed038163bf083730ab692e388cf1c9db22b20d023dc74beb126b8b58f131662", func := "greenscreen/greenscreenlaw06.OptionTurns", spec := "optionTurns", unfollowed := true, recurses := true, apart := false }
def OptionTurnsSaid : Prop := optionTurnsRow.holds Try.pinned (OpenSpec.ofChange optionTurnsSpec)

/-- ITS FALSE NEIGHBOUR: 'it returns false'. Refute it at one input. -/
def optionTurnsWrong : ChangeSpec := { name := "optionTurns", fn := fun _ => fun
  | [d1, d2] => { results := [.lit (.bool false)], args := [d1, d2] }
  | _ => none }
def OptionTurnsWrongFalsely : Prop := optionTurnsRow.holds Try.pinned (OpenSpec.ofChange optionTurnsWrong)

/-- 'greenscreenlaw07.TalkPlays': WHATEVER THE INPUT: true; the input reads as it did. -/
def talkPlaysSpec : ChangeSpec := { name := "talkPlays", fn := fun _ => fun
  | [d1, d2, d3, d4] => { results := [.lit (.bool true)], args := [d1, d2, d3, d4] }
  | _ => none }
def talkPlaysRow : OpenClaim := { program := "ytioaenidkieiiaa", sum := "aed038163bf083730ab692e388cf1c9db22b20d023dc74beb126b8b58f131662", func := "greenscreen/greenscreenlaw07.TalkPlays", spec := "talkPlays", apart := false }
def TalkPlaysSaid : Prop := talkPlaysRow.holds Try.pinned (OpenSpec.ofChange talkPlaysSpec)

/-- ITS FALSE NEIGHBOUR: 'it returns false'. Refute it at one input. -/
def talkPlaysWrong : ChangeSpec := { name := "talkPlays", fn := fun _ => fun
  | [d1, d2, d3, d4] => { results := [.lit (.bool false)], args := [d1, d2, d3, d4] }
  | _ => none }
def TalkPlaysWrongFalsely : Prop := talkPlaysRow.holds Try.pinned (OpenSpec.ofChange talkPlaysWrong)

/-- 'greenscreenlaw07.TalkAgrees': WHATEVER THE INPUT: true; the input reads as it did. -/
def talkAgreesSpec : ChangeSpec := { name := "talkAgrees", fn := fun _ => fun
  | [d1, d2, d3] => { results := [.lit (.bool true)], args := [d1, d2, d3] }
  | _ => none }
def talkAgreesRow : OpenClaim := { program := "ytioaenidkieiiaa", sum := "aed038163bf083730ab692e388cf1c9db22b20d023dc74beb126b8b58f131662", func := "greenscreen/greenscreenlaw07.TalkAgrees", spec := "talkAgrees", apart := false }
def TalkAgreesSaid : Prop := talkAgreesRow.holds Try.pinned (OpenSpec.ofChange talkAgreesSpec)

/-- ITS FALSE NEIGHBOUR: 'it returns false'. Refute it at one input. -/
def talkAgreesWrong : ChangeSpec := { name := "talkAgrees", fn := fun _ => fun
  | [d1, d2, d3] => { results := [.lit (.bool false)], args := [d1, d2, d3] }
  | _ => none }
def TalkAgreesWrongFalsely : Prop := talkAgreesRow.holds Try.pinned (OpenSpec.ofChange talkAgreesWrong)

/-- 'greenscreenlaw07.TalkNames': WHATEVER THE INPUT: true; the input reads as it did. -/
def talkNamesSpec : ChangeSpec := { name := "talkNames", fn := fun _ => fun
  | [d1, d2] => { results := [.lit (.bool true)], args := [d1, d2] }
  | _ => none }
def talkNamesRow : OpenClaim := { program := "ytioaenidkieiiaa", sum := "aed038163bf083730ab692e388cf1c9db22b20d023dc74beb126b8b58f131662", func := "greenscreen/greenscreenlaw07.TalkNames", spec := "talkNames", apart := false }
def TalkNamesSaid : Prop := talkNamesRow.holds Try.pinned (OpenSpec.ofChange talkNamesSpec)

/-- ITS FALSE NEIGHBOUR: 'it returns false'. Refute it at one input. -/
def talkNamesWrong : ChangeSpec := { name := "talkNames", fn := fun _ => fun
  | [d1, d2] => { results := [.lit (.bool false)], args := [d1, d2] }
  | _ => none }
def TalkNamesWrongFalsely : Prop := talkNamesRow.holds Try.pinned (OpenSpec.ofChange talkNamesWrong)

/- THE SECOND FORM. 'bulk': how many values and letters a reading holds, each counted each time it is reached (what is shared counts as often as it is met; a slice's spare places count too). A statement '..UptoSaid' is the law's where the arguments, and the package variables that the reading takes, are together of bulk at most 1048576: NARROWER than '..Said'. Prove '..Said' where nothing that the law and all that it calls make is longer than what came in: it says more and counts as full. Else prove '..UptoSaid'. A law counts once. -/
mutual
def uptoBulk {H : Type} : DataW H → Nat
  | .lit (.string bytes) => bytes.length + 1
  | .lit _ => 1
  | .nil => 1
  | .ptr d => uptoBulk d + 1
  | .slice elems spare => uptoBulkAll elems + uptoBulkAll spare + 1
  | .agg parts => uptoBulkAll parts + 1
  | .iface _ d => uptoBulk d + 1
  | .map entries => uptoBulkEntries entries + 1
  | .held _ => 1
def uptoBulkAll {H : Type} : List (DataW H) → Nat
  | [] => 0
  | d :: r => uptoBulk d + uptoBulkAll r
def uptoBulkEntries {H : Type} : List (Lit × DataW H) → Nat
  | [] => 0
  | x :: r => uptoBulkEntry x + uptoBulkEntries r
def uptoBulkEntry {H : Type} : Lit × DataW H → Nat
  | (.string bytes, d) => bytes.length + uptoBulk d + 1
  | (_, d) => uptoBulk d + 1
 end
def uptoSmall : (H : Type) → List (DataW H) → Bool := fun _ ds => decide (uptoBulkAll ds ≤ 1048576)
def OpenSpec.upto (s : _root_.Go.ChangeSpec) : _root_.Go.OpenSpec := { _root_.Go.OpenSpec.ofChange s with cond := some uptoSmall }

/-- 'greenscreenlaw06.OptionPlays', WHERE WHAT IT READS IS OF BULK AT MOST 1048576: true; the input reads as it did. -/
def optionPlaysUptoRow : OpenClaim := { program := "ytioaenidkieiiaa", sum := "aed038163bf083730ab692e388cf1c9db22b20d023dc74beb126b8b58f131662", func := "greenscreen/greenscreenlaw06.OptionPlays", spec := "optionPlays", unfollowed := true, recurses := true, apart := false, narrowed := true }
def OptionPlaysUptoSaid : Prop := optionPlaysUptoRow.holds Try.pinned (OpenSpec.upto optionPlaysSpec)

/-- 'greenscreenlaw06.OptionRests', WHERE WHAT IT READS IS OF BULK AT MOST 1048576: true; the input reads as it did. -/
def optionRestsUptoRow : OpenClaim := { program := "ytioaenidkieiiaa", sum := "aed038163bf083730ab692e388cf1c9db22b20d023dc74beb126b8b58f131662", func := "greenscreen/greenscreenlaw06.OptionRests", spec := "optionRests", unfollowed := true, recurses := true, apart := false, narrowed := true }
def OptionRestsUptoSaid : Prop := optionRestsUptoRow.holds Try.pinned (OpenSpec.upto optionRestsSpec)

/-- 'greenscreenlaw06.OptionMay', WHERE WHAT IT READS IS OF BULK AT MOST 1048576: true; the input reads as it did. -/
def optionMayUptoRow : OpenClaim := { program := "ytioaenidkieiiaa", sum := "aed038163bf083730ab692e388cf1c9db22b20d023dc74beb126b8b58f131662", func := "greenscreen/greenscreenlaw06.OptionMay", spec := "optionMay", unfollowed := true, recurses := true, apart := false, narrowed := true }
def OptionMayUptoSaid : Prop := optionMayUptoRow.holds Try.pinned (OpenSpec.upto optionMaySpec)

/-- 'greenscreenlaw06.OptionTurns', WHERE WHAT IT READS IS OF BULK AT MOST 1048576: true; the input reads as it did. -/
def optionTurnsUptoRow : OpenClaim := { program := "ytioaenidkieiiaa", sum := "aed038163bf083730ab692e388cf1c9db22b20d023dc74beb126b8b58f131662", func := "greenscreen/greenscreenlaw06.OptionTurns", spec := "optionTurns", unfollowed := true, recurses := true, apart := false, narrowed := true }
def OptionTurnsUptoSaid : Prop := optionTurnsUptoRow.holds Try.pinned (OpenSpec.upto optionTurnsSpec)

/-- 'greenscreenlaw07.TalkPlays', WHERE WHAT IT READS IS OF BULK AT MOST 1048576: true; the input reads as it did. -/
def talkPlaysUptoRow : OpenClaim := { program := "ytioaenidkieiiaa", sum := "aed038163bf083730ab692e388cf1c9db22b20d023dc74beb126b8b58f131662", func := "greenscreen/greenscreenlaw07.TalkPlays", spec := "talkPlays", apart := false, narrowed := true }
def TalkPlaysUptoSaid : Prop := talkPlaysUptoRow.holds Try.pinned (OpenSpec.upto talkPlaysSpec)

/-- 'greenscreenlaw07.TalkAgrees', WHERE WHAT IT READS IS OF BULK AT MOST 1048576: true; the input reads as it did. -/
def talkAgreesUptoRow : OpenClaim := { program := "ytioaenidkieiiaa", sum := "aed038163bf083730ab692e388cf1c9db22b20d023dc74beb126b8b58f131662", func := "greenscreen/greenscreenlaw07.TalkAgrees", spec := "talkAgrees", apart := false, narrowed := true }
def TalkAgreesUptoSaid : Prop := talkAgreesUptoRow.holds Try.pinned (OpenSpec.upto talkAgreesSpec)

/-- 'greenscreenlaw07.TalkNames', WHERE WHAT IT READS IS OF BULK AT MOST 1048576: true; the input reads as it did. -/
def talkNamesUptoRow : OpenClaim := { program := "ytioaenidkieiiaa", sum := "aed038163bf083730ab692e388cf1c9db22b20d023dc74beb126b8b58f131662", func := "greenscreen/greenscreenlaw07.TalkNames", spec := "talkNames", apart := false, narrowed := true }
def TalkNamesUptoSaid : Prop := talkNamesUptoRow.holds Try.pinned (OpenSpec.upto talkNamesSpec)

end Rows
end Go.Proofs.Ytioaenidkieiiaa
