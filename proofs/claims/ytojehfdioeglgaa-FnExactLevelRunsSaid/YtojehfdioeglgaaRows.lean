/-
  No cell of these rows narrows 'for every input' (looked for: loops, veiled, ifaces, maps, wideKeys, modest, calm, conditions, laid).
  DERIVED. THE GIVEN ROWS OF THIS SEAT. 6 by the template 'for every input the law returns true; each argument reads behind the call as it read before'; 0 by the template 'total and deterministic' (their statements: YtojehfdioeglgaaTotals.lean).
  GIVEN WITH THE SEED: the statements are not yours to turn. If you find one false, say at which input.
  Laid BY PROGRAM, IN A SANDBOX (cutbox-rows.mjs): the forced cells as the released guide's own fill.sh prints them over the translation b10e20a86cdada11… (all of the seat's roots in one cut). By AI agents, Wed Nov 11 2026. No macro, syntax, notation, axiom, sorry.
-/
import Derived.Test.YtojehfdioeglgaaChecked
import GoSem.Claim
import GoSem.ClaimJoined
import GoSem.ClaimMapViews
import Derived.JoinedTies
import Derived.KernelRfl
namespace Go.Proofs.Ytojehfdioeglgaa
/- THE CELL 'sum', in the pinned program and in every row, IS THE sha256 OF THE DUMP (.gsa) THAT YtojehfdioeglgaaProg.lean LOADS. Nothing in Lean hashes anything: it is a label: what it is worth is what the hold of that sum in a sandbox is worth. -/
noncomputable def Try.pinned : Pinned := { name := "ytojehfdioeglgaa", sum := "b10e20a86cdada11db0d86c3a69322897761c37975a87fd6a4709f9c5c9437a0", checked := Try.checked }
namespace Rows
def none {H : Type} : Left H := { results := [], args := [] }

/-- 'laws.FnExactLevelWeak': WHATEVER THE INPUT: true; the input reads as it did. -/
def fnExactLevelWeakSpec : ChangeSpec := { name := "fnExactLevelWeak", fn := fun _ => fun
  | [d1, d2] => { results := [.lit (.bool true)], args := [d1, d2] }
  | _ => none }
def fnExactLevelWeakRow : OpenClaim := { program := "ytojehfdioeglgaa", sum := "b10e20a86cdada11db0d86c3a69322897761c37975a87fd6a4709f9c5c9437a0", func := "loop.example/colophon/laws.FnExactLevelWeak", spec := "fnExactLevelWeak", unfollowed := true, recurses := true, apart := false }
def FnExactLevelWeakSaid : Prop := fnExactLevelWeakRow.holds Try.pinned (OpenSpec.ofChange fnExactLevelWeakSpec)

/-- ITS FALSE NEIGHBOUR: 'it returns false'. Refute it at one input. -/
def fnExactLevelWeakWrong : ChangeSpec := { name := "fnExactLevelWeak", fn := fun _ => fun
  | [d1, d2] => { results := [.lit (.bool false)], args := [d1, d2] }
  | _ => none }
def FnExactLevelWeakWrongFalsely : Prop := fnExactLevelWeakRow.holds Try.pinned (OpenSpec.ofChange fnExactLevelWeakWrong)

/-- 'laws.FnLevelWeak': WHATEVER THE INPUT: true; the input reads as it did. -/
def fnLevelWeakSpec : ChangeSpec := { name := "fnLevelWeak", fn := fun _ => fun
  | [d] => { results := [.lit (.bool true)], args := [d] }
  | _ => none }
def fnLevelWeakRow : OpenClaim := { program := "ytojehfdioeglgaa", sum := "b10e20a86cdada11db0d86c3a69322897761c37975a87fd6a4709f9c5c9437a0", func := "loop.example/colophon/laws.FnLevelWeak", spec := "fnLevelWeak", unfollowed := true, recurses := true, apart := false }
def FnLevelWeakSaid : Prop := fnLevelWeakRow.holds Try.pinned (OpenSpec.ofChange fnLevelWeakSpec)

/-- ITS FALSE NEIGHBOUR: 'it returns false'. Refute it at one input. -/
def fnLevelWeakWrong : ChangeSpec := { name := "fnLevelWeak", fn := fun _ => fun
  | [d] => { results := [.lit (.bool false)], args := [d] }
  | _ => none }
def FnLevelWeakWrongFalsely : Prop := fnLevelWeakRow.holds Try.pinned (OpenSpec.ofChange fnLevelWeakWrong)

/-- 'laws.FnExactLevelsTold': WHATEVER THE INPUT: true; the input reads as it did. -/
def fnExactLevelsToldSpec : ChangeSpec := { name := "fnExactLevelsTold", fn := fun _ => fun
  | [d1, d2] => { results := [.lit (.bool true)], args := [d1, d2] }
  | _ => none }
def fnExactLevelsToldRow : OpenClaim := { program := "ytojehfdioeglgaa", sum := "b10e20a86cdada11db0d86c3a69322897761c37975a87fd6a4709f9c5c9437a0", func := "loop.example/colophon/laws.FnExactLevelsTold", spec := "fnExactLevelsTold", unfollowed := true, recurses := true, apart := false }
def FnExactLevelsToldSaid : Prop := fnExactLevelsToldRow.holds Try.pinned (OpenSpec.ofChange fnExactLevelsToldSpec)

/-- ITS FALSE NEIGHBOUR: 'it returns false'. Refute it at one input. -/
def fnExactLevelsToldWrong : ChangeSpec := { name := "fnExactLevelsTold", fn := fun _ => fun
  | [d1, d2] => { results := [.lit (.bool false)], args := [d1, d2] }
  | _ => none }
def FnExactLevelsToldWrongFalsely : Prop := fnExactLevelsToldRow.holds Try.pinned (OpenSpec.ofChange fnExactLevelsToldWrong)

/-- 'laws.FnLevelsTold': WHATEVER THE INPUT: true; the input reads as it did. -/
def fnLevelsToldSpec : ChangeSpec := { name := "fnLevelsTold", fn := fun _ => fun
  | [d] => { results := [.lit (.bool true)], args := [d] }
  | _ => none }
def fnLevelsToldRow : OpenClaim := { program := "ytojehfdioeglgaa", sum := "b10e20a86cdada11db0d86c3a69322897761c37975a87fd6a4709f9c5c9437a0", func := "loop.example/colophon/laws.FnLevelsTold", spec := "fnLevelsTold", unfollowed := true, recurses := true, apart := false }
def FnLevelsToldSaid : Prop := fnLevelsToldRow.holds Try.pinned (OpenSpec.ofChange fnLevelsToldSpec)

/-- ITS FALSE NEIGHBOUR: 'it returns false'. Refute it at one input. -/
def fnLevelsToldWrong : ChangeSpec := { name := "fnLevelsTold", fn := fun _ => fun
  | [d] => { results := [.lit (.bool false)], args := [d] }
  | _ => none }
def FnLevelsToldWrongFalsely : Prop := fnLevelsToldRow.holds Try.pinned (OpenSpec.ofChange fnLevelsToldWrong)

/-- 'laws.FnExactLevelRuns': WHATEVER THE INPUT: true; the input reads as it did. -/
def fnExactLevelRunsSpec : ChangeSpec := { name := "fnExactLevelRuns", fn := fun _ => fun
  | [d1, d2] => { results := [.lit (.bool true)], args := [d1, d2] }
  | _ => none }
def fnExactLevelRunsRow : OpenClaim := { program := "ytojehfdioeglgaa", sum := "b10e20a86cdada11db0d86c3a69322897761c37975a87fd6a4709f9c5c9437a0", func := "loop.example/colophon/laws.FnExactLevelRuns", spec := "fnExactLevelRuns", unfollowed := true, recurses := true, apart := false }
def FnExactLevelRunsSaid : Prop := fnExactLevelRunsRow.holds Try.pinned (OpenSpec.ofChange fnExactLevelRunsSpec)

/-- ITS FALSE NEIGHBOUR: 'it returns false'. Refute it at one input. -/
def fnExactLevelRunsWrong : ChangeSpec := { name := "fnExactLevelRuns", fn := fun _ => fun
  | [d1, d2] => { results := [.lit (.bool false)], args := [d1, d2] }
  | _ => none }
def FnExactLevelRunsWrongFalsely : Prop := fnExactLevelRunsRow.holds Try.pinned (OpenSpec.ofChange fnExactLevelRunsWrong)

/-- 'laws.FnLevelRuns': WHATEVER THE INPUT: true; the input reads as it did. -/
def fnLevelRunsSpec : ChangeSpec := { name := "fnLevelRuns", fn := fun _ => fun
  | [d] => { results := [.lit (.bool true)], args := [d] }
  | _ => none }
def fnLevelRunsRow : OpenClaim := { program := "ytojehfdioeglgaa", sum := "b10e20a86cdada11db0d86c3a69322897761c37975a87fd6a4709f9c5c9437a0", func := "loop.example/colophon/laws.FnLevelRuns", spec := "fnLevelRuns", unfollowed := true, recurses := true, apart := false }
def FnLevelRunsSaid : Prop := fnLevelRunsRow.holds Try.pinned (OpenSpec.ofChange fnLevelRunsSpec)

/-- ITS FALSE NEIGHBOUR: 'it returns false'. Refute it at one input. -/
def fnLevelRunsWrong : ChangeSpec := { name := "fnLevelRuns", fn := fun _ => fun
  | [d] => { results := [.lit (.bool false)], args := [d] }
  | _ => none }
def FnLevelRunsWrongFalsely : Prop := fnLevelRunsRow.holds Try.pinned (OpenSpec.ofChange fnLevelRunsWrong)

/- THE SECOND FORM. 'bulk': how many values and letters a reading holds, each counted each time it is reached (what is shared counts as often as it is met; a slice's spare places count too). A statement '..UptoSaid' is the law's where the arguments, and the package variables that the reading takes, are together of bulk at most 1048576: NARROWER than '..Said'. Prove '..Said' where nothing that the law and all that it calls make is longer than what came in: it says more and counts as full. Else prove '..UptoSaid'. A law counts once. -/
mutual
def uptoBulk {H : Type} : DataW H → Nat
  | .lit (.string bytes) => bytes.length + 1
  | .lit _ => 1
  | .nil => 1
  | .ptr d => uptoBulk d + 1
  | .slice elems spare => uptoBulkAll elems + uptoBulkAll spare + 1
  | .agg parts => uptoBulkAll parts + 1
  | .iface _ d => uptoBulk d + 1
  | .map entries => uptoBulkEntries entries + 1
  | .held _ => 1
def uptoBulkAll {H : Type} : List (DataW H) → Nat
  | [] => 0
  | d :: r => uptoBulk d + uptoBulkAll r
def uptoBulkEntries {H : Type} : List (Lit × DataW H) → Nat
  | [] => 0
  | x :: r => uptoBulkEntry x + uptoBulkEntries r
def uptoBulkEntry {H : Type} : Lit × DataW H → Nat
  | (.string bytes, d) => bytes.length + uptoBulk d + 1
  | (_, d) => uptoBulk d + 1
 end
def uptoSmall : (H : Type) → List (DataW H) → Bool := fun _ ds => decide (uptoBulkAll ds ≤ 1048576)
def OpenSpec.upto (s : _root_.Go.ChangeSpec) : _root_.Go.OpenSpec := { _root_.Go.OpenSpec.ofChange s with cond := some uptoSmall }

/-- 'laws.FnExactLevelWeak', WHERE WHAT IT READS IS OF BULK AT MOST 1048576: true; the input reads as it did. -/
def fnExactLevelWeakUptoRow : OpenClaim := { program := "ytojehfdioeglgaa", sum := "b10e20a86cdada11db0d86c3a69322897761c37975a87fd6a4709f9c5c9437a0", func := "loop.example/colophon/laws.FnExactLevelWeak", spec := "fnExactLevelWeak", unfollowed := true, recurses := true, apart := false, narrowed := true }
def FnExactLevelWeakUptoSaid : Prop := fnExactLevelWeakUptoRow.holds Try.pinned (OpenSpec.upto fnExactLevelWeakSpec)

/-- 'laws.FnLevelWeak', WHERE WHAT IT READS IS OF BULK AT MOST 1048576: true; the input reads as it did. -/
def fnLevelWeakUptoRow : OpenClaim := { program := "ytojehfdioeglgaa", sum := "b10e20a86cdada11db0d86c3a69322897761c37975a87fd6a4709f9c5c9437a0", func := "loop.example/colophon/laws.FnLevelWeak", spec := "fnLevelWeak", unfollowed := true, recurses := true, apart := false, narrowed := true }
def FnLevelWeakUptoSaid : Prop := fnLevelWeakUptoRow.holds Try.pinned (OpenSpec.upto fnLevelWeakSpec)

/-- 'laws.FnExactLevelsTold', WHERE WHAT IT READS IS OF BULK AT MOST 1048576: true; the input reads as it did. -/
def fnExactLevelsToldUptoRow : OpenClaim := { program := "ytojehfdioeglgaa", sum := "b10e20a86cdada11db0d86c3a69322897761c37975a87fd6a4709f9c5c9437a0", func := "loop.example/colophon/laws.FnExactLevelsTold", spec := "fnExactLevelsTold", unfollowed := true, recurses := true, apart := false, narrowed := true }
def FnExactLevelsToldUptoSaid : Prop := fnExactLevelsToldUptoRow.holds Try.pinned (OpenSpec.upto fnExactLevelsToldSpec)

/-- 'laws.FnLevelsTold', WHERE WHAT IT READS IS OF BULK AT MOST 1048576: true; the input reads as it did. -/
def fnLevelsToldUptoRow : OpenClaim := { program := "ytojehfdioeglgaa", sum := "b10e20a86cdada11db0d86c3a69322897761c37975a87fd6a4709f9c5c9437a0", func := "loop.example/colophon/laws.FnLevelsTold", spec := "fnLevelsTold", unfollowed := true, recurses := true, apart := false, narrowed := true }
def FnLevelsToldUptoSaid : Prop := fnLevelsToldUptoRow.holds Try.pinned (OpenSpec.upto fnLevelsToldSpec)

/-- 'laws.FnExactLevelRuns', WHERE WHAT IT READS IS OF BULK AT MOST 1048576: true; the input reads as it did. -/
def fnExactLevelRunsUptoRow : OpenClaim := { program := "ytojehfdioeglgaa", sum := "b10e20a86cdada11db0d86c3a69322897761c37975a87fd6a4709f9c5c9437a0", func := "loop.example/colophon/laws.FnExactLevelRuns", spec := "fnExactLevelRuns", unfollowed := true, recurses := true, apart := false, narrowed := true }
def FnExactLevelRunsUptoSaid : Prop := fnExactLevelRunsUptoRow.holds Try.pinned (OpenSpec.upto fnExactLevelRunsSpec)

/-- 'laws.FnLevelRuns', WHERE WHAT IT READS IS OF BULK AT MOST 1048576: true; the input reads as it did. -/
def fnLevelRunsUptoRow : OpenClaim := { program := "ytojehfdioeglgaa", sum := "b10e20a86cdada11db0d86c3a69322897761c37975a87fd6a4709f9c5c9437a0", func := "loop.example/colophon/laws.FnLevelRuns", spec := "fnLevelRuns", unfollowed := true, recurses := true, apart := false, narrowed := true }
def FnLevelRunsUptoSaid : Prop := fnLevelRunsUptoRow.holds Try.pinned (OpenSpec.upto fnLevelRunsSpec)

end Rows
end Go.Proofs.Ytojehfdioeglgaa
