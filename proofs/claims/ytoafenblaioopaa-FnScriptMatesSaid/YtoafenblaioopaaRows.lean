/-
  No cell of these rows narrows 'for every input' (looked for: loops, veiled, ifaces, maps, wideKeys, modest, calm, conditions, laid).
  DERIVED. THE GIVEN ROWS OF THIS SEAT. 12 by the template 'for every input the law returns true; each argument reads behind the call as it read before'; 0 by the template 'total and deterministic' (their statements: YtoafenblaioopaaTotals.lean).
  GIVEN WITH THE SEED: the statements are not yours to turn. If you find one false, say at which input.
  Laid BY PROGRAM, IN A SANDBOX (cutbox-rows.mjs): the forced cells as the released guide's own fill.sh prints them over the translation 7399e1959cc29e82… (all of the seat's roots in one cut). By AI agents, Wed Nov 11 2026. No macro, syntax, notation, axiom, sorry.
-/
import Derived.Test.YtoafenblaioopaaChecked
import GoSem.Claim
import GoSem.ClaimJoined
import GoSem.ClaimMapViews
import Derived.JoinedTies
import Derived.KernelRfl
namespace Go.Proofs.Ytoafenblaioopaa
/- THE CELL 'sum', in the pinned program and in every row, IS THE sha256 OF THE DUMP (.gsa) THAT YtoafenblaioopaaProg.lean LOADS. Nothing in Lean hashes anything: it is a label: what it is worth is what the hold of that sum in a sandbox is worth. -/
noncomputable def Try.pinned : Pinned := { name := "ytoafenblaioopaa", sum := "7399e1959cc29e82de76c98448425738528a391f429757c4d9c518a925bb3847", checked := Try.checked }
namespace Rows
def none {H : Type} : Left H := { results := [], args := [] }

/-- 'laws.FnExactRuneScript': WHATEVER THE INPUT: true; the input reads as it did. -/
def fnExactRuneScriptSpec : ChangeSpec := { name := "fnExactRuneScript", fn := fun _ => fun
  | [d] => { results := [.lit (.bool true)], args := [d] }
  | _ => none }
def fnExactRuneScriptRow : OpenClaim := { program := "ytoafenblaioopaa", sum := "7399e1959cc29e82de76c98448425738528a391f429757c4d9c518a925bb3847", func := "loop.example/colophon/laws.FnExactRuneScript", spec := "fnExactRuneScript", unfollowed := true, recurses := true, apart := false }
def FnExactRuneScriptSaid : Prop := fnExactRuneScriptRow.holds Try.pinned (OpenSpec.ofChange fnExactRuneScriptSpec)

/-- ITS FALSE NEIGHBOUR: 'it returns false'. Refute it at one input. -/
def fnExactRuneScriptWrong : ChangeSpec := { name := "fnExactRuneScript", fn := fun _ => fun
  | [d] => { results := [.lit (.bool false)], args := [d] }
  | _ => none }
def FnExactRuneScriptWrongFalsely : Prop := fnExactRuneScriptRow.holds Try.pinned (OpenSpec.ofChange fnExactRuneScriptWrong)

/-- 'laws.FnExactLineCaret': WHATEVER THE INPUT: true; the input reads as it did. -/
def fnExactLineCaretSpec : ChangeSpec := { name := "fnExactLineCaret", fn := fun _ => fun
  | [d1, d2] => { results := [.lit (.bool true)], args := [d1, d2] }
  | _ => none }
def fnExactLineCaretRow : OpenClaim := { program := "ytoafenblaioopaa", sum := "7399e1959cc29e82de76c98448425738528a391f429757c4d9c518a925bb3847", func := "loop.example/colophon/laws.FnExactLineCaret", spec := "fnExactLineCaret", unfollowed := true, recurses := true, apart := false }
def FnExactLineCaretSaid : Prop := fnExactLineCaretRow.holds Try.pinned (OpenSpec.ofChange fnExactLineCaretSpec)

/-- ITS FALSE NEIGHBOUR: 'it returns false'. Refute it at one input. -/
def fnExactLineCaretWrong : ChangeSpec := { name := "fnExactLineCaret", fn := fun _ => fun
  | [d1, d2] => { results := [.lit (.bool false)], args := [d1, d2] }
  | _ => none }
def FnExactLineCaretWrongFalsely : Prop := fnExactLineCaretRow.holds Try.pinned (OpenSpec.ofChange fnExactLineCaretWrong)

/-- 'laws.FnExactScriptsOf': WHATEVER THE INPUT: true; the input reads as it did. -/
def fnExactScriptsOfSpec : ChangeSpec := { name := "fnExactScriptsOf", fn := fun _ => fun
  | [d] => { results := [.lit (.bool true)], args := [d] }
  | _ => none }
def fnExactScriptsOfRow : OpenClaim := { program := "ytoafenblaioopaa", sum := "7399e1959cc29e82de76c98448425738528a391f429757c4d9c518a925bb3847", func := "loop.example/colophon/laws.FnExactScriptsOf", spec := "fnExactScriptsOf", unfollowed := true, recurses := true, apart := false }
def FnExactScriptsOfSaid : Prop := fnExactScriptsOfRow.holds Try.pinned (OpenSpec.ofChange fnExactScriptsOfSpec)

/-- ITS FALSE NEIGHBOUR: 'it returns false'. Refute it at one input. -/
def fnExactScriptsOfWrong : ChangeSpec := { name := "fnExactScriptsOf", fn := fun _ => fun
  | [d] => { results := [.lit (.bool false)], args := [d] }
  | _ => none }
def FnExactScriptsOfWrongFalsely : Prop := fnExactScriptsOfRow.holds Try.pinned (OpenSpec.ofChange fnExactScriptsOfWrong)

/-- 'laws.FnExactWordAt': WHATEVER THE INPUT: true; the input reads as it did. -/
def fnExactWordAtSpec : ChangeSpec := { name := "fnExactWordAt", fn := fun _ => fun
  | [d1, d2] => { results := [.lit (.bool true)], args := [d1, d2] }
  | _ => none }
def fnExactWordAtRow : OpenClaim := { program := "ytoafenblaioopaa", sum := "7399e1959cc29e82de76c98448425738528a391f429757c4d9c518a925bb3847", func := "loop.example/colophon/laws.FnExactWordAt", spec := "fnExactWordAt", unfollowed := true, recurses := true, apart := false }
def FnExactWordAtSaid : Prop := fnExactWordAtRow.holds Try.pinned (OpenSpec.ofChange fnExactWordAtSpec)

/-- ITS FALSE NEIGHBOUR: 'it returns false'. Refute it at one input. -/
def fnExactWordAtWrong : ChangeSpec := { name := "fnExactWordAt", fn := fun _ => fun
  | [d1, d2] => { results := [.lit (.bool false)], args := [d1, d2] }
  | _ => none }
def FnExactWordAtWrongFalsely : Prop := fnExactWordAtRow.holds Try.pinned (OpenSpec.ofChange fnExactWordAtWrong)

/-- 'laws.FnExactWordCount': WHATEVER THE INPUT: true; the input reads as it did. -/
def fnExactWordCountSpec : ChangeSpec := { name := "fnExactWordCount", fn := fun _ => fun
  | [d] => { results := [.lit (.bool true)], args := [d] }
  | _ => none }
def fnExactWordCountRow : OpenClaim := { program := "ytoafenblaioopaa", sum := "7399e1959cc29e82de76c98448425738528a391f429757c4d9c518a925bb3847", func := "loop.example/colophon/laws.FnExactWordCount", spec := "fnExactWordCount", unfollowed := true, recurses := true, apart := false }
def FnExactWordCountSaid : Prop := fnExactWordCountRow.holds Try.pinned (OpenSpec.ofChange fnExactWordCountSpec)

/-- ITS FALSE NEIGHBOUR: 'it returns false'. Refute it at one input. -/
def fnExactWordCountWrong : ChangeSpec := { name := "fnExactWordCount", fn := fun _ => fun
  | [d] => { results := [.lit (.bool false)], args := [d] }
  | _ => none }
def FnExactWordCountWrongFalsely : Prop := fnExactWordCountRow.holds Try.pinned (OpenSpec.ofChange fnExactWordCountWrong)

/-- 'laws.FnExactWordStarts': WHATEVER THE INPUT: true; the input reads as it did. -/
def fnExactWordStartsSpec : ChangeSpec := { name := "fnExactWordStarts", fn := fun _ => fun
  | [d] => { results := [.lit (.bool true)], args := [d] }
  | _ => none }
def fnExactWordStartsRow : OpenClaim := { program := "ytoafenblaioopaa", sum := "7399e1959cc29e82de76c98448425738528a391f429757c4d9c518a925bb3847", func := "loop.example/colophon/laws.FnExactWordStarts", spec := "fnExactWordStarts", unfollowed := true, recurses := true, apart := false }
def FnExactWordStartsSaid : Prop := fnExactWordStartsRow.holds Try.pinned (OpenSpec.ofChange fnExactWordStartsSpec)

/-- ITS FALSE NEIGHBOUR: 'it returns false'. Refute it at one input. -/
def fnExactWordStartsWrong : ChangeSpec := { name := "fnExactWordStarts", fn := fun _ => fun
  | [d] => { results := [.lit (.bool false)], args := [d] }
  | _ => none }
def FnExactWordStartsWrongFalsely : Prop := fnExactWordStartsRow.holds Try.pinned (OpenSpec.ofChange fnExactWordStartsWrong)

/-- 'laws.FnScripts': WHATEVER THE INPUT: true; the input reads as it did. -/
def fnScriptsSpec : ChangeSpec := { name := "fnScripts", fn := fun _ => fun
  | [d] => { results := [.lit (.bool true)], args := [d] }
  | _ => none }
def fnScriptsRow : OpenClaim := { program := "ytoafenblaioopaa", sum := "7399e1959cc29e82de76c98448425738528a391f429757c4d9c518a925bb3847", func := "loop.example/colophon/laws.FnScripts", spec := "fnScripts", unfollowed := true, recurses := true, apart := false }
def FnScriptsSaid : Prop := fnScriptsRow.holds Try.pinned (OpenSpec.ofChange fnScriptsSpec)

/-- ITS FALSE NEIGHBOUR: 'it returns false'. Refute it at one input. -/
def fnScriptsWrong : ChangeSpec := { name := "fnScripts", fn := fun _ => fun
  | [d] => { results := [.lit (.bool false)], args := [d] }
  | _ => none }
def FnScriptsWrongFalsely : Prop := fnScriptsRow.holds Try.pinned (OpenSpec.ofChange fnScriptsWrong)

/-- 'laws.FnExactScriptRuns': WHATEVER THE INPUT: true; the input reads as it did. -/
def fnExactScriptRunsSpec : ChangeSpec := { name := "fnExactScriptRuns", fn := fun _ => fun
  | [d] => { results := [.lit (.bool true)], args := [d] }
  | _ => none }
def fnExactScriptRunsRow : OpenClaim := { program := "ytoafenblaioopaa", sum := "7399e1959cc29e82de76c98448425738528a391f429757c4d9c518a925bb3847", func := "loop.example/colophon/laws.FnExactScriptRuns", spec := "fnExactScriptRuns", unfollowed := true, recurses := true, apart := false }
def FnExactScriptRunsSaid : Prop := fnExactScriptRunsRow.holds Try.pinned (OpenSpec.ofChange fnExactScriptRunsSpec)

/-- ITS FALSE NEIGHBOUR: 'it returns false'. Refute it at one input. -/
def fnExactScriptRunsWrong : ChangeSpec := { name := "fnExactScriptRuns", fn := fun _ => fun
  | [d] => { results := [.lit (.bool false)], args := [d] }
  | _ => none }
def FnExactScriptRunsWrongFalsely : Prop := fnExactScriptRunsRow.holds Try.pinned (OpenSpec.ofChange fnExactScriptRunsWrong)

/-- 'laws.FnScriptMates': WHATEVER THE INPUT: true; the input reads as it did. -/
def fnScriptMatesSpec : ChangeSpec := { name := "fnScriptMates", fn := fun _ => fun
  | [d] => { results := [.lit (.bool true)], args := [d] }
  | _ => none }
def fnScriptMatesRow : OpenClaim := { program := "ytoafenblaioopaa", sum := "7399e1959cc29e82de76c98448425738528a391f429757c4d9c518a925bb3847", func := "loop.example/colophon/laws.FnScriptMates", spec := "fnScriptMates", unfollowed := true, recurses := true, apart := false }
def FnScriptMatesSaid : Prop := fnScriptMatesRow.holds Try.pinned (OpenSpec.ofChange fnScriptMatesSpec)

/-- ITS FALSE NEIGHBOUR: 'it returns false'. Refute it at one input. -/
def fnScriptMatesWrong : ChangeSpec := { name := "fnScriptMates", fn := fun _ => fun
  | [d] => { results := [.lit (.bool false)], args := [d] }
  | _ => none }
def FnScriptMatesWrongFalsely : Prop := fnScriptMatesRow.holds Try.pinned (OpenSpec.ofChange fnScriptMatesWrong)

/-- 'laws.FnWordAt': WHATEVER THE INPUT: true; the input reads as it did. -/
def fnWordAtSpec : ChangeSpec := { name := "fnWordAt", fn := fun _ => fun
  | [d] => { results := [.lit (.bool true)], args := [d] }
  | _ => none }
def fnWordAtRow : OpenClaim := { program := "ytoafenblaioopaa", sum := "7399e1959cc29e82de76c98448425738528a391f429757c4d9c518a925bb3847", func := "loop.example/colophon/laws.FnWordAt", spec := "fnWordAt", unfollowed := true, recurses := true, apart := false }
def FnWordAtSaid : Prop := fnWordAtRow.holds Try.pinned (OpenSpec.ofChange fnWordAtSpec)

/-- ITS FALSE NEIGHBOUR: 'it returns false'. Refute it at one input. -/
def fnWordAtWrong : ChangeSpec := { name := "fnWordAt", fn := fun _ => fun
  | [d] => { results := [.lit (.bool false)], args := [d] }
  | _ => none }
def FnWordAtWrongFalsely : Prop := fnWordAtRow.holds Try.pinned (OpenSpec.ofChange fnWordAtWrong)

/-- 'laws.FnWordStarts': WHATEVER THE INPUT: true; the input reads as it did. -/
def fnWordStartsSpec : ChangeSpec := { name := "fnWordStarts", fn := fun _ => fun
  | [d] => { results := [.lit (.bool true)], args := [d] }
  | _ => none }
def fnWordStartsRow : OpenClaim := { program := "ytoafenblaioopaa", sum := "7399e1959cc29e82de76c98448425738528a391f429757c4d9c518a925bb3847", func := "loop.example/colophon/laws.FnWordStarts", spec := "fnWordStarts", unfollowed := true, recurses := true, apart := false }
def FnWordStartsSaid : Prop := fnWordStartsRow.holds Try.pinned (OpenSpec.ofChange fnWordStartsSpec)

/-- ITS FALSE NEIGHBOUR: 'it returns false'. Refute it at one input. -/
def fnWordStartsWrong : ChangeSpec := { name := "fnWordStarts", fn := fun _ => fun
  | [d] => { results := [.lit (.bool false)], args := [d] }
  | _ => none }
def FnWordStartsWrongFalsely : Prop := fnWordStartsRow.holds Try.pinned (OpenSpec.ofChange fnWordStartsWrong)

/-- 'laws.FnWordCount': WHATEVER THE INPUT: true; the input reads as it did. -/
def fnWordCountSpec : ChangeSpec := { name := "fnWordCount", fn := fun _ => fun
  | [d] => { results := [.lit (.bool true)], args := [d] }
  | _ => none }
def fnWordCountRow : OpenClaim := { program := "ytoafenblaioopaa", sum := "7399e1959cc29e82de76c98448425738528a391f429757c4d9c518a925bb3847", func := "loop.example/colophon/laws.FnWordCount", spec := "fnWordCount", unfollowed := true, recurses := true, apart := false }
def FnWordCountSaid : Prop := fnWordCountRow.holds Try.pinned (OpenSpec.ofChange fnWordCountSpec)

/-- ITS FALSE NEIGHBOUR: 'it returns false'. Refute it at one input. -/
def fnWordCountWrong : ChangeSpec := { name := "fnWordCount", fn := fun _ => fun
  | [d] => { results := [.lit (.bool false)], args := [d] }
  | _ => none }
def FnWordCountWrongFalsely : Prop := fnWordCountRow.holds Try.pinned (OpenSpec.ofChange fnWordCountWrong)

/- THE SECOND FORM. 'bulk': how many values and letters a reading holds, each counted each time it is reached (what is shared counts as often as it is met; a slice's spare places count too). A statement '..UptoSaid' is the law's where the arguments, and the package variables that the reading takes, are together of bulk at most 1048576: NARROWER than '..Said'. Prove '..Said' where nothing that the law and all that it calls make is longer than what came in: it says more and counts as full. Else prove '..UptoSaid'. A law counts once. -/
mutual
def uptoBulk {H : Type} : DataW H → Nat
  | .lit (.string bytes) => bytes.length + 1
  | .lit _ => 1
  | .nil => 1
  | .ptr d => uptoBulk d + 1
  | .slice elems spare => uptoBulkAll elems + uptoBulkAll spare + 1
  | .agg parts => uptoBulkAll parts + 1
  | .iface _ d => uptoBulk d + 1
  | .map entries => uptoBulkEntries entries + 1
  | .held _ => 1
def uptoBulkAll {H : Type} : List (DataW H) → Nat
  | [] => 0
  | d :: r => uptoBulk d + uptoBulkAll r
def uptoBulkEntries {H : Type} : List (Lit × DataW H) → Nat
  | [] => 0
  | x :: r => uptoBulkEntry x + uptoBulkEntries r
def uptoBulkEntry {H : Type} : Lit × DataW H → Nat
  | (.string bytes, d) => bytes.length + uptoBulk d + 1
  | (_, d) => uptoBulk d + 1
 end
def uptoSmall : (H : Type) → List (DataW H) → Bool := fun _ ds => decide (uptoBulkAll ds ≤ 1048576)
def OpenSpec.upto (s : _root_.Go.ChangeSpec) : _root_.Go.OpenSpec := { _root_.Go.OpenSpec.ofChange s with cond := some uptoSmall }

/-- 'laws.FnExactRuneScript', WHERE WHAT IT READS IS OF BULK AT MOST 1048576: true; the input reads as it did. -/
def fnExactRuneScriptUptoRow : OpenClaim := { program := "ytoafenblaioopaa", sum := "7399e1959cc29e82de76c98448425738528a391f429757c4d9c518a925bb3847", func := "loop.example/colophon/laws.FnExactRuneScript", spec := "fnExactRuneScript", unfollowed := true, recurses := true, apart := false, narrowed := true }
def FnExactRuneScriptUptoSaid : Prop := fnExactRuneScriptUptoRow.holds Try.pinned (OpenSpec.upto fnExactRuneScriptSpec)

/-- 'laws.FnExactLineCaret', WHERE WHAT IT READS IS OF BULK AT MOST 1048576: true; the input reads as it did. -/
def fnExactLineCaretUptoRow : OpenClaim := { program := "ytoafenblaioopaa", sum := "7399e1959cc29e82de76c98448425738528a391f429757c4d9c518a925bb3847", func := "loop.example/colophon/laws.FnExactLineCaret", spec := "fnExactLineCaret", unfollowed := true, recurses := true, apart := false, narrowed := true }
def FnExactLineCaretUptoSaid : Prop := fnExactLineCaretUptoRow.holds Try.pinned (OpenSpec.upto fnExactLineCaretSpec)

/-- 'laws.FnExactScriptsOf', WHERE WHAT IT READS IS OF BULK AT MOST 1048576: true; the input reads as it did. -/
def fnExactScriptsOfUptoRow : OpenClaim := { program := "ytoafenblaioopaa", sum := "7399e1959cc29e82de76c98448425738528a391f429757c4d9c518a925bb3847", func := "loop.example/colophon/laws.FnExactScriptsOf", spec := "fnExactScriptsOf", unfollowed := true, recurses := true, apart := false, narrowed := true }
def FnExactScriptsOfUptoSaid : Prop := fnExactScriptsOfUptoRow.holds Try.pinned (OpenSpec.upto fnExactScriptsOfSpec)

/-- 'laws.FnExactWordAt', WHERE WHAT IT READS IS OF BULK AT MOST 1048576: true; the input reads as it did. -/
def fnExactWordAtUptoRow : OpenClaim := { program := "ytoafenblaioopaa", sum := "7399e1959cc29e82de76c98448425738528a391f429757c4d9c518a925bb3847", func := "loop.example/colophon/laws.FnExactWordAt", spec := "fnExactWordAt", unfollowed := true, recurses := true, apart := false, narrowed := true }
def FnExactWordAtUptoSaid : Prop := fnExactWordAtUptoRow.holds Try.pinned (OpenSpec.upto fnExactWordAtSpec)

/-- 'laws.FnExactWordCount', WHERE WHAT IT READS IS OF BULK AT MOST 1048576: true; the input reads as it did. -/
def fnExactWordCountUptoRow : OpenClaim := { program := "ytoafenblaioopaa", sum := "7399e1959cc29e82de76c98448425738528a391f429757c4d9c518a925bb3847", func := "loop.example/colophon/laws.FnExactWordCount", spec := "fnExactWordCount", unfollowed := true, recurses := true, apart := false, narrowed := true }
def FnExactWordCountUptoSaid : Prop := fnExactWordCountUptoRow.holds Try.pinned (OpenSpec.upto fnExactWordCountSpec)

/-- 'laws.FnExactWordStarts', WHERE WHAT IT READS IS OF BULK AT MOST 1048576: true; the input reads as it did. -/
def fnExactWordStartsUptoRow : OpenClaim := { program := "ytoafenblaioopaa", sum := "7399e1959cc29e82de76c98448425738528a391f429757c4d9c518a925bb3847", func := "loop.example/colophon/laws.FnExactWordStarts", spec := "fnExactWordStarts", unfollowed := true, recurses := true, apart := false, narrowed := true }
def FnExactWordStartsUptoSaid : Prop := fnExactWordStartsUptoRow.holds Try.pinned (OpenSpec.upto fnExactWordStartsSpec)

/-- 'laws.FnScripts', WHERE WHAT IT READS IS OF BULK AT MOST 1048576: true; the input reads as it did. -/
def fnScriptsUptoRow : OpenClaim := { program := "ytoafenblaioopaa", sum := "7399e1959cc29e82de76c98448425738528a391f429757c4d9c518a925bb3847", func := "loop.example/colophon/laws.FnScripts", spec := "fnScripts", unfollowed := true, recurses := true, apart := false, narrowed := true }
def FnScriptsUptoSaid : Prop := fnScriptsUptoRow.holds Try.pinned (OpenSpec.upto fnScriptsSpec)

/-- 'laws.FnExactScriptRuns', WHERE WHAT IT READS IS OF BULK AT MOST 1048576: true; the input reads as it did. -/
def fnExactScriptRunsUptoRow : OpenClaim := { program := "ytoafenblaioopaa", sum := "7399e1959cc29e82de76c98448425738528a391f429757c4d9c518a925bb3847", func := "loop.example/colophon/laws.FnExactScriptRuns", spec := "fnExactScriptRuns", unfollowed := true, recurses := true, apart := false, narrowed := true }
def FnExactScriptRunsUptoSaid : Prop := fnExactScriptRunsUptoRow.holds Try.pinned (OpenSpec.upto fnExactScriptRunsSpec)

/-- 'laws.FnScriptMates', WHERE WHAT IT READS IS OF BULK AT MOST 1048576: true; the input reads as it did. -/
def fnScriptMatesUptoRow : OpenClaim := { program := "ytoafenblaioopaa", sum := "7399e1959cc29e82de76c98448425738528a391f429757c4d9c518a925bb3847", func := "loop.example/colophon/laws.FnScriptMates", spec := "fnScriptMates", unfollowed := true, recurses := true, apart := false, narrowed := true }
def FnScriptMatesUptoSaid : Prop := fnScriptMatesUptoRow.holds Try.pinned (OpenSpec.upto fnScriptMatesSpec)

/-- 'laws.FnWordAt', WHERE WHAT IT READS IS OF BULK AT MOST 1048576: true; the input reads as it did. -/
def fnWordAtUptoRow : OpenClaim := { program := "ytoafenblaioopaa", sum := "7399e1959cc29e82de76c98448425738528a391f429757c4d9c518a925bb3847", func := "loop.example/colophon/laws.FnWordAt", spec := "fnWordAt", unfollowed := true, recurses := true, apart := false, narrowed := true }
def FnWordAtUptoSaid : Prop := fnWordAtUptoRow.holds Try.pinned (OpenSpec.upto fnWordAtSpec)

/-- 'laws.FnWordStarts', WHERE WHAT IT READS IS OF BULK AT MOST 1048576: true; the input reads as it did. -/
def fnWordStartsUptoRow : OpenClaim := { program := "ytoafenblaioopaa", sum := "7399e1959cc29e82de76c98448425738528a391f429757c4d9c518a925bb3847", func := "loop.example/colophon/laws.FnWordStarts", spec := "fnWordStarts", unfollowed := true, recurses := true, apart := false, narrowed := true }
def FnWordStartsUptoSaid : Prop := fnWordStartsUptoRow.holds Try.pinned (OpenSpec.upto fnWordStartsSpec)

/-- 'laws.FnWordCount', WHERE WHAT IT READS IS OF BULK AT MOST 1048576: true; the input reads as it did. -/
def fnWordCountUptoRow : OpenClaim := { program := "ytoafenblaioopaa", sum := "7399e1959cc29e82de76c98448425738528a391f429757c4d9c518a925bb3847", func := "loop.example/colophon/laws.FnWordCount", spec := "fnWordCount", unfollowed := true, recurses := true, apart := false, narrowed := true }
def FnWordCountUptoSaid : Prop := fnWordCountUptoRow.holds Try.pinned (OpenSpec.upto fnWordCountSpec)

end Rows
end Go.Proofs.Ytoafenblaioopaa
