/-
  No cell of these rows narrows 'for every input' (looked for: loops, veiled, ifaces, maps, wideKeys, modest, calm, conditions, laid).
  DERIVED. THE GIVEN ROWS OF THIS SEAT. 8 by the template 'for every input the law returns true; each argument reads behind the call as it read before'; 0 by the template 'total and deterministic' (their statements: YthkioahpnbahhaaTotals.lean).
  GIVEN WITH THE SEED: the statements are not yours to turn. If you find one false, say at which input.
  Laid BY PROGRAM, IN A SANDBOX (cutbox-rows.mjs): the forced cells as the released guide's own fill.sh prints them over the translation b477213997c76e42… (all of the seat's roots in one cut). By AI agents, Wed Nov 11 2026. No macro, syntax, notation, axiom, sorry.
-/
import Derived.Test.YthkioahpnbahhaaChecked
import GoSem.Claim
import GoSem.ClaimJoined
import GoSem.ClaimMapViews
import Derived.JoinedTies
import Derived.KernelRfl
namespace Go.Proofs.Ythkioahpnbahhaa
/- THE CELL 'sum', in the pinned program and in every row, IS THE sha256 OF THE DUMP (.gsa) THAT YthkioahpnbahhaaProg.lean LOADS. Nothing in Lean hashes anything: it is a label: what it is worth is what the hold of that sum in a sandbox is worth. -/
noncomputable def Try.pinned : Pinned := { name := "ythkioahpnbahhaa", sum := "b477213997c76e42d56bf5c76713ab128146f6ae39adc64d5c4332d6dd6d44b7", checked := Try.checked }
namespace Rows
def none {H : Type} : Left H := { results := [], args := [] }

/-- 'greenscreenlaw10.RecordPlays': WHATEVER THE INPUT: true; the input reads as it did. -/
def recordPlaysSpec : ChangeSpec := { name := "recordPlays", fn := fun _ => fun
  | [d] => { results := [.lit (.bool true)], args := [d] }
  | _ => none }
def recordPlaysRow : OpenClaim := { program := "ythkioahpnbahhaa", sum := "b477213997c76e42d56bf5c76713ab128146f6ae39adc64d5c4332d6dd6d44b7", func := "greenscreen/greenscreenlaw10.RecordPlays", spec := "recordPlays", apart := false }
def RecordPlaysSaid : Prop := recordPlaysRow.holds Try.pinned (OpenSpec.ofChange recordPlaysSpec)

/-- ITS FALSE NEIGHBOUR: 'it returns false'. Refute it at one input. -/
def recordPlaysWrong : ChangeSpec := { name := "recordPlays", fn := fun _ => fun
  | [d] => { results := [.lit (.bool false)], args := [d] }
  | _ => none }
def RecordPlaysWrongFalsely : Prop := recordPlaysRow.holds Try.pinned (OpenSpec.ofChange recordPlaysWrong)

/-- 'greenscreenlaw10.RecordSplits': WHATEVER THE INPUT: true; the input reads as it did. -/
def recordSplitsSpec : ChangeSpec := { name := "recordSplits", fn := fun _ => fun
  | [d1, d2] => { results := [.lit (.bool true)], args := [d1, d2] }
  | _ => none }
def recordSplitsRow : OpenClaim := { program := "ythkioahpnbahhaa", sum := "b477213997c76e42d56bf5c76713ab128146f6ae39adc64d5c4332d6dd6d44b7", func := "greenscreen/greenscreenlaw10.RecordSplits", spec := "recordSplits", apart := false }
def RecordSplitsSaid : Prop := recordSplitsRow.holds Try.pinned (OpenSpec.ofChange recordSplitsSpec)

/-- ITS FALSE NEIGHBOUR: 'it returns false'. Refute it at one input. -/
def recordSplitsWrong : ChangeSpec := { name := "recordSplits", fn := fun _ => fun
  | [d1, d2] => { results := [.lit (.bool false)], args := [d1, d2] }
  | _ => none }
def RecordSplitsWrongFalsely : Prop := recordSplitsRow.holds Try.pinned (OpenSpec.ofChange recordSplitsWrong)

/-- 'greenscreenlaw10.RecordDrops': WHATEVER THE INPUT: true; the input reads as it did. -/
def recordDropsSpec : ChangeSpec := { name := "recordDrops", fn := fun _ => fun
  | [d1, d2] => { results := [.lit (.bool true)], args := [d1, d2] }
  | _ => none }
def recordDropsRow : OpenClaim := { program := "ythkioahpnbahhaa", sum := "b477213997c76e42d56bf5c76713ab128146f6ae39adc64d5c4332d6dd6d44b7", func := "greenscreen/greenscreenlaw10.RecordDrops", spec := "recordDrops", apart := false }
def RecordDropsSaid : Prop := recordDropsRow.holds Try.pinned (OpenSpec.ofChange recordDropsSpec)

/-- ITS FALSE NEIGHBOUR: 'it returns false'. Refute it at one input. -/
def recordDropsWrong : ChangeSpec := { name := "recordDrops", fn := fun _ => fun
  | [d1, d2] => { results := [.lit (.bool false)], args := [d1, d2] }
  | _ => none }
def RecordDropsWrongFalsely : Prop := recordDropsRow.holds Try.pinned (OpenSpec.ofChange recordDropsWrong)

/-- 'greenscreenlaw05.IacFeeds': WHATEVER THE INPUT: true; the input reads as it did. -/
def iacFeedsSpec : ChangeSpec := { name := "iacFeeds", fn := fun _ => fun
  | [d1, d2] => { results := [.lit (.bool true)], args := [d1, d2] }
  | _ => none }
def iacFeedsRow : OpenClaim := { program := "ythkioahpnbahhaa", sum := "b477213997c76e42d56bf5c76713ab128146f6ae39adc64d5c4332d6dd6d44b7", func := "greenscreen/greenscreenlaw05.IacFeeds", spec := "iacFeeds", apart := false }
def IacFeedsSaid : Prop := iacFeedsRow.holds Try.pinned (OpenSpec.ofChange iacFeedsSpec)

/-- ITS FALSE NEIGHBOUR: 'it returns false'. Refute it at one input. -/
def iacFeedsWrong : ChangeSpec := { name := "iacFeeds", fn := fun _ => fun
  | [d1, d2] => { results := [.lit (.bool false)], args := [d1, d2] }
  | _ => none }
def IacFeedsWrongFalsely : Prop := iacFeedsRow.holds Try.pinned (OpenSpec.ofChange iacFeedsWrong)

/-- 'greenscreenlaw05.IacCuts': WHATEVER THE INPUT: true; the input reads as it did. -/
def iacCutsSpec : ChangeSpec := { name := "iacCuts", fn := fun _ => fun
  | [d1, d2] => { results := [.lit (.bool true)], args := [d1, d2] }
  | _ => none }
def iacCutsRow : OpenClaim := { program := "ythkioahpnbahhaa", sum := "b477213997c76e42d56bf5c76713ab128146f6ae39adc64d5c4332d6dd6d44b7", func := "greenscreen/greenscreenlaw05.IacCuts", spec := "iacCuts", apart := false }
def IacCutsSaid : Prop := iacCutsRow.holds Try.pinned (OpenSpec.ofChange iacCutsSpec)

/-- ITS FALSE NEIGHBOUR: 'it returns false'. Refute it at one input. -/
def iacCutsWrong : ChangeSpec := { name := "iacCuts", fn := fun _ => fun
  | [d1, d2] => { results := [.lit (.bool false)], args := [d1, d2] }
  | _ => none }
def IacCutsWrongFalsely : Prop := iacCutsRow.holds Try.pinned (OpenSpec.ofChange iacCutsWrong)

/-- 'greenscreenlaw05.IacBack': WHATEVER THE INPUT: true; the input reads as it did. -/
def iacBackSpec : ChangeSpec := { name := "iacBack", fn := fun _ => fun
  | [d1, d2] => { results := [.lit (.bool true)], args := [d1, d2] }
  | _ => none }
def iacBackRow : OpenClaim := { program := "ythkioahpnbahhaa", sum := "b477213997c76e42d56bf5c76713ab128146f6ae39adc64d5c4332d6dd6d44b7", func := "greenscreen/greenscreenlaw05.IacBack", spec := "iacBack", apart := false }
def IacBackSaid : Prop := iacBackRow.holds Try.pinned (OpenSpec.ofChange iacBackSpec)

/-- ITS FALSE NEIGHBOUR: 'it returns false'. Refute it at one input. -/
def iacBackWrong : ChangeSpec := { name := "iacBack", fn := fun _ => fun
  | [d1, d2] => { results := [.lit (.bool false)], args := [d1, d2] }
  | _ => none }
def IacBackWrongFalsely : Prop := iacBackRow.holds Try.pinned (OpenSpec.ofChange iacBackWrong)

/-- 'greenscreenlaw05.IacEscapes': WHATEVER THE INPUT: true; the input reads as it did. -/
def iacEscapesSpec : ChangeSpec := { name := "iacEscapes", fn := fun _ => fun
  | [d1, d2] => { results := [.lit (.bool true)], args := [d1, d2] }
  | _ => none }
def iacEscapesRow : OpenClaim := { program := "ythkioahpnbahhaa", sum := "b477213997c76e42d56bf5c76713ab128146f6ae39adc64d5c4332d6dd6d44b7", func := "greenscreen/greenscreenlaw05.IacEscapes", spec := "iacEscapes", apart := false }
def IacEscapesSaid : Prop := iacEscapesRow.holds Try.pinned (OpenSpec.ofChange iacEscapesSpec)

/-- ITS FALSE NEIGHBOUR: 'it returns false'. Refute it at one input. -/
def iacEscapesWrong : ChangeSpec := { name := "iacEscapes", fn := fun _ => fun
  | [d1, d2] => { results := [.lit (.bool false)], args := [d1, d2] }
  | _ => none }
def IacEscapesWrongFalsely : Prop := iacEscapesRow.holds Try.pinned (OpenSpec.ofChange iacEscapesWrong)

/-- 'greenscreenlaw10.RecordBack': WHATEVER THE INPUT: true; the input reads as it did. -/
def recordBackSpec : ChangeSpec := { name := "recordBack", fn := fun _ => fun
  | [d1, d2] => { results := [.lit (.bool true)], args := [d1, d2] }
  | _ => none }
def recordBackRow : OpenClaim := { program := "ythkioahpnbahhaa", sum := "b477213997c76e42d56bf5c76713ab128146f6ae39adc64d5c4332d6dd6d44b7", func := "greenscreen/greenscreenlaw10.RecordBack", spec := "recordBack", apart := false }
def RecordBackSaid : Prop := recordBackRow.holds Try.pinned (OpenSpec.ofChange recordBackSpec)

/-- ITS FALSE NEIGHBOUR: 'it returns false'. Refute it at one input. -/
def recordBackWrong : ChangeSpec := { name := "recordBack", fn := fun _ => fun
  | [d1, d2] => { results := [.lit (.bool false)], args := [d1, d2] }
  | _ => none }
def RecordBackWrongFalsely : Prop := recordBackRow.holds Try.pinned (OpenSpec.ofChange recordBackWrong)

/- THE SECOND FORM. 'bulk': how many values and letters a reading holds, each counted each time it is reached (what is shared counts as often as it is met; a slice's spare places count too). A statement '..UptoSaid' is the law's where the arguments, and the package variables that the reading takes, are together of bulk at most 1048576: NARROWER than '..Said'. Prove '..Said' where nothing that the law and all that it calls make is longer than what came in: it says more and counts as full. Else prove '..UptoSaid'. A law counts once. -/
mutual
def uptoBulk {H : Type} : DataW H → Nat
  | .lit (.string bytes) => bytes.length + 1
  | .lit _ => 1
  | .nil => 1
  | .ptr d => uptoBulk d + 1
  | .slice elems spare => uptoBulkAll elems + uptoBulkAll spare + 1
  | .agg parts => uptoBulkAll parts + 1
  | .iface _ d => uptoBulk d + 1
  | .map entries => uptoBulkEntries entries + 1
  | .held _ => 1
def uptoBulkAll {H : Type} : List (DataW H) → Nat
  | [] => 0
  | d :: r => uptoBulk d + uptoBulkAll r
def uptoBulkEntries {H : Type} : List (Lit × DataW H) → Nat
  | [] => 0
  | x :: r => uptoBulkEntry x + uptoBulkEntries r
def uptoBulkEntry {H : Type} : Lit × DataW H → Nat
  | (.string bytes, d) => bytes.length + uptoBulk d + 1
  | (_, d) => uptoBulk d + 1
 end
def uptoSmall : (H : Type) → List (DataW H) → Bool := fun _ ds => decide (uptoBulkAll ds ≤ 1048576)
def OpenSpec.upto (s : _root_.Go.ChangeSpec) : _root_.Go.OpenSpec := { _root_.Go.OpenSpec.ofChange s with cond := some uptoSmall }

/-- 'greenscreenlaw10.RecordPlays', WHERE WHAT IT READS IS OF BULK AT MOST 1048576: true; the input reads as it did. -/
def recordPlaysUptoRow : OpenClaim := { program := "ythkioahpnbahhaa", sum := "b477213997c76e42d56bf5c76713ab128146f6ae39adc64d5c4332d6dd6d44b7", func := "greenscreen/greenscreenlaw10.RecordPlays", spec := "recordPlays", apart := false, narrowed := true }
def RecordPlaysUptoSaid : Prop := recordPlaysUptoRow.holds Try.pinned (OpenSpec.upto recordPlaysSpec)

/-- 'greenscreenlaw10.RecordSplits', WHERE WHAT IT READS IS OF BULK AT MOST 1048576: true; the input reads as it did. -/
def recordSplitsUptoRow : OpenClaim := { program := "ythkioahpnbahhaa", sum := "b477213997c76e42d56bf5c76713ab128146f6ae39adc64d5c4332d6dd6d44b7", func := "greenscreen/greenscreenlaw10.RecordSplits", spec := "recordSplits", apart := false, narrowed := true }
def RecordSplitsUptoSaid : Prop := recordSplitsUptoRow.holds Try.pinned (OpenSpec.upto recordSplitsSpec)

/-- 'greenscreenlaw10.RecordDrops', WHERE WHAT IT READS IS OF BULK AT MOST 1048576: true; the input reads as it did. -/
def recordDropsUptoRow : OpenClaim := { program := "ythkioahpnbahhaa", sum := "b477213997c76e42d56bf5c76713ab128146f6ae39adc64d5c4332d6dd6d44b7", func := "greenscreen/greenscreenlaw10.RecordDrops", spec := "recordDrops", apart := false, narrowed := true }
def RecordDropsUptoSaid : Prop := recordDropsUptoRow.holds Try.pinned (OpenSpec.upto recordDropsSpec)

/-- 'greenscreenlaw05.IacFeeds', WHERE WHAT IT READS IS OF BULK AT MOST 1048576: true; the input reads as it did. -/
def iacFeedsUptoRow : OpenClaim := { program := "ythkioahpnbahhaa", sum := "b477213997c76e42d56bf5c76713ab128146f6ae39adc64d5c4332d6dd6d44b7", func := "greenscreen/greenscreenlaw05.IacFeeds", spec := "iacFeeds", apart := false, narrowed := true }
def IacFeedsUptoSaid : Prop := iacFeedsUptoRow.holds Try.pinned (OpenSpec.upto iacFeedsSpec)

/-- 'greenscreenlaw05.IacCuts', WHERE WHAT IT READS IS OF BULK AT MOST 1048576: true; the input reads as it did. -/
def iacCutsUptoRow : OpenClaim := { program := "ythkioahpnbahhaa", sum := "b477213997c76e42d56bf5c76713ab128146f6ae39adc64d5c4332d6dd6d44b7", func := "greenscreen/greenscreenlaw05.IacCuts", spec := "iacCuts", apart := false, narrowed := true }
def IacCutsUptoSaid : Prop := iacCutsUptoRow.holds Try.pinned (OpenSpec.upto iacCutsSpec)

/-- 'greenscreenlaw05.IacBack', WHERE WHAT IT READS IS OF BULK AT MOST 1048576: true; the input reads as it did. -/
def iacBackUptoRow : OpenClaim := { program := "ythkioahpnbahhaa", sum := "b477213997c76e42d56bf5c76713ab128146f6ae39adc64d5c4332d6dd6d44b7", func := "greenscreen/greenscreenlaw05.IacBack", spec := "iacBack", apart := false, narrowed := true }
def IacBackUptoSaid : Prop := iacBackUptoRow.holds Try.pinned (OpenSpec.upto iacBackSpec)

/-- 'greenscreenlaw05.IacEscapes', WHERE WHAT IT READS IS OF BULK AT MOST 1048576: true; the input reads as it did. -/
def iacEscapesUptoRow : OpenClaim := { program := "ythkioahpnbahhaa", sum := "b477213997c76e42d56bf5c76713ab128146f6ae39adc64d5c4332d6dd6d44b7", func := "greenscreen/greenscreenlaw05.IacEscapes", spec := "iacEscapes", apart := false, narrowed := true }
def IacEscapesUptoSaid : Prop := iacEscapesUptoRow.holds Try.pinned (OpenSpec.upto iacEscapesSpec)

/-- 'greenscreenlaw10.RecordBack', WHERE WHAT IT READS IS OF BULK AT MOST 1048576: true; the input reads as it did. -/
def recordBackUptoRow : OpenClaim := { program := "ythkioahpnbahhaa", sum := "b477213997c76e42d56bf5c76713ab128146f6ae39adc64d5c4332d6dd6d44b7", func := "greenscreen/greenscreenlaw10.RecordBack", spec := "recordBack", apart := false, narrowed := true }
def RecordBackUptoSaid : Prop := recordBackUptoRow.holds Try.pinned (OpenSpec.upto recordBackSpec)

end Rows
end Go.Proofs.Ythkioahpnbahhaa
