/-
  No cell of these rows narrows 'for every input' (looked for: loops, veiled, ifaces, maps, wideKeys, modest, calm, conditions, laid).
  DERIVED. THE GIVEN ROWS OF THIS SEAT. 8 by the template 'for every input the law returns true; each argument reads behind the call as it read before'; 0 by the template 'total and deterministic' (their statements: YtmcdcogedcbndaaGreatTotals.lean).
  GIVEN WITH THE SEED: the statements are not yours to turn. If you find one false, say at which input.
  Laid BY PROGRAM, IN A SANDBOX (cutbox-rows.mjs): the forced cells as the released guide's own fill.sh prints them over the translation f22102f3e2c5f41e… (all of the seat's roots in one cut). By AI agents, Wed Nov 11 2026. No macro, syntax, notation, axiom, sorry.
-/
import Derived.Test.YtmcdcogedcbndaaGreatChecked
import GoSem.Claim
import GoSem.ClaimJoined
import GoSem.ClaimMapViews
import Derived.JoinedTies
import Derived.KernelRfl
namespace Go.Proofs.YtmcdcogedcbndaaGreat
/- THE CELL 'sum', in the pinned program and in every row, IS THE sha256 OF THE DUMP (.gsa) THAT YtmcdcogedcbndaaGreatProg.lean LOADS. Nothing in Lean hashes anything: it is a label: what it is worth is what the hold of that sum in a sandbox is worth. -/
noncomputable def Tryz.pinned : Pinned := { name := "ytmcdcogedcbndaagreat", sum := "f22102f3e2c5f41ef944ca04d2bf530d812b1bf253ca32d99aaf62b271b0cee1", checked := Tryz.checked }
namespace Rows
def none {H : Type} : Left H := { results := [], args := [] }

/-- 'laws.FnExactFillLines': WHATEVER THE INPUT: true; the input reads as it did. -/
def fnExactFillLinesSpec : ChangeSpec := { name := "fnExactFillLines", fn := fun _ => fun
  | [d1, d2, d3, d4] => { results := [.lit (.bool true)], args := [d1, d2, d3, d4] }
  | _ => none }
def fnExactFillLinesRow : OpenClaim := { program := "ytmcdcogedcbndaagreat", sum := "f22102f3e2c5f41ef944ca04d2bf530d812b1bf253ca32d99aaf62b271b0cee1", func := "loop.example/colophon/laws.FnExactFillLines", spec := "fnExactFillLines", unfollowed := true, recurses := true, apart := false }
def FnExactFillLinesSaid : Prop := fnExactFillLinesRow.holds Tryz.pinned (OpenSpec.ofChange fnExactFillLinesSpec)

/-- ITS FALSE NEIGHBOUR: 'it returns false'. Refute it at one input. -/
def fnExactFillLinesWrong : ChangeSpec := { name := "fnExactFillLines", fn := fun _ => fun
  | [d1, d2, d3, d4] => { results := [.lit (.bool false)], args := [d1, d2, d3, d4] }
  | _ => none }
def FnExactFillLinesWrongFalsely : Prop := fnExactFillLinesRow.holds Tryz.pinned (OpenSpec.ofChange fnExactFillLinesWrong)

/-- 'laws.FnFillMust': WHATEVER THE INPUT: true; the input reads as it did. -/
def fnFillMustSpec : ChangeSpec := { name := "fnFillMust", fn := fun _ => fun
  | [d] => { results := [.lit (.bool true)], args := [d] }
  | _ => none }
def fnFillMustRow : OpenClaim := { program := "ytmcdcogedcbndaagreat", sum := "f22102f3e2c5f41ef944ca04d2bf530d812b1bf253ca32d99aaf62b271b0cee1", func := "loop.example/colophon/laws.FnFillMust", spec := "fnFillMust", unfollowed := true, recurses := true, apart := false }
def FnFillMustSaid : Prop := fnFillMustRow.holds Tryz.pinned (OpenSpec.ofChange fnFillMustSpec)

/-- ITS FALSE NEIGHBOUR: 'it returns false'. Refute it at one input. -/
def fnFillMustWrong : ChangeSpec := { name := "fnFillMust", fn := fun _ => fun
  | [d] => { results := [.lit (.bool false)], args := [d] }
  | _ => none }
def FnFillMustWrongFalsely : Prop := fnFillMustRow.holds Tryz.pinned (OpenSpec.ofChange fnFillMustWrong)

/-- 'laws.FnFillAll': WHATEVER THE INPUT: true; the input reads as it did. -/
def fnFillAllSpec : ChangeSpec := { name := "fnFillAll", fn := fun _ => fun
  | [d] => { results := [.lit (.bool true)], args := [d] }
  | _ => none }
def fnFillAllRow : OpenClaim := { program := "ytmcdcogedcbndaagreat", sum := "f22102f3e2c5f41ef944ca04d2bf530d812b1bf253ca32d99aaf62b271b0cee1", func := "loop.example/colophon/laws.FnFillAll", spec := "fnFillAll", unfollowed := true, recurses := true, apart := false }
def FnFillAllSaid : Prop := fnFillAllRow.holds Tryz.pinned (OpenSpec.ofChange fnFillAllSpec)

/-- ITS FALSE NEIGHBOUR: 'it returns false'. Refute it at one input. -/
def fnFillAllWrong : ChangeSpec := { name := "fnFillAll", fn := fun _ => fun
  | [d] => { results := [.lit (.bool false)], args := [d] }
  | _ => none }
def FnFillAllWrongFalsely : Prop := fnFillAllRow.holds Tryz.pinned (OpenSpec.ofChange fnFillAllWrong)

/-- 'laws.FnFillWider': WHATEVER THE INPUT: true; the input reads as it did. -/
def fnFillWiderSpec : ChangeSpec := { name := "fnFillWider", fn := fun _ => fun
  | [d1, d2] => { results := [.lit (.bool true)], args := [d1, d2] }
  | _ => none }
def fnFillWiderRow : OpenClaim := { program := "ytmcdcogedcbndaagreat", sum := "f22102f3e2c5f41ef944ca04d2bf530d812b1bf253ca32d99aaf62b271b0cee1", func := "loop.example/colophon/laws.FnFillWider", spec := "fnFillWider", unfollowed := true, recurses := true, apart := false }
def FnFillWiderSaid : Prop := fnFillWiderRow.holds Tryz.pinned (OpenSpec.ofChange fnFillWiderSpec)

/-- ITS FALSE NEIGHBOUR: 'it returns false'. Refute it at one input. -/
def fnFillWiderWrong : ChangeSpec := { name := "fnFillWider", fn := fun _ => fun
  | [d1, d2] => { results := [.lit (.bool false)], args := [d1, d2] }
  | _ => none }
def FnFillWiderWrongFalsely : Prop := fnFillWiderRow.holds Tryz.pinned (OpenSpec.ofChange fnFillWiderWrong)

/-- 'laws.FnFillGreedy': WHATEVER THE INPUT: true; the input reads as it did. -/
def fnFillGreedySpec : ChangeSpec := { name := "fnFillGreedy", fn := fun _ => fun
  | [d] => { results := [.lit (.bool true)], args := [d] }
  | _ => none }
def fnFillGreedyRow : OpenClaim := { program := "ytmcdcogedcbndaagreat", sum := "f22102f3e2c5f41ef944ca04d2bf530d812b1bf253ca32d99aaf62b271b0cee1", func := "loop.example/colophon/laws.FnFillGreedy", spec := "fnFillGreedy", unfollowed := true, recurses := true, apart := false }
def FnFillGreedySaid : Prop := fnFillGreedyRow.holds Tryz.pinned (OpenSpec.ofChange fnFillGreedySpec)

/-- ITS FALSE NEIGHBOUR: 'it returns false'. Refute it at one input. -/
def fnFillGreedyWrong : ChangeSpec := { name := "fnFillGreedy", fn := fun _ => fun
  | [d] => { results := [.lit (.bool false)], args := [d] }
  | _ => none }
def FnFillGreedyWrongFalsely : Prop := fnFillGreedyRow.holds Tryz.pinned (OpenSpec.ofChange fnFillGreedyWrong)

/-- 'laws.FnFillForced': WHATEVER THE INPUT: true; the input reads as it did. -/
def fnFillForcedSpec : ChangeSpec := { name := "fnFillForced", fn := fun _ => fun
  | [d] => { results := [.lit (.bool true)], args := [d] }
  | _ => none }
def fnFillForcedRow : OpenClaim := { program := "ytmcdcogedcbndaagreat", sum := "f22102f3e2c5f41ef944ca04d2bf530d812b1bf253ca32d99aaf62b271b0cee1", func := "loop.example/colophon/laws.FnFillForced", spec := "fnFillForced", unfollowed := true, recurses := true, apart := false }
def FnFillForcedSaid : Prop := fnFillForcedRow.holds Tryz.pinned (OpenSpec.ofChange fnFillForcedSpec)

/-- ITS FALSE NEIGHBOUR: 'it returns false'. Refute it at one input. -/
def fnFillForcedWrong : ChangeSpec := { name := "fnFillForced", fn := fun _ => fun
  | [d] => { results := [.lit (.bool false)], args := [d] }
  | _ => none }
def FnFillForcedWrongFalsely : Prop := fnFillForcedRow.holds Tryz.pinned (OpenSpec.ofChange fnFillForcedWrong)

/-- 'laws.FnFillFew': WHATEVER THE INPUT: true; the input reads as it did. -/
def fnFillFewSpec : ChangeSpec := { name := "fnFillFew", fn := fun _ => fun
  | [d] => { results := [.lit (.bool true)], args := [d] }
  | _ => none }
def fnFillFewRow : OpenClaim := { program := "ytmcdcogedcbndaagreat", sum := "f22102f3e2c5f41ef944ca04d2bf530d812b1bf253ca32d99aaf62b271b0cee1", func := "loop.example/colophon/laws.FnFillFew", spec := "fnFillFew", unfollowed := true, recurses := true, apart := false }
def FnFillFewSaid : Prop := fnFillFewRow.holds Tryz.pinned (OpenSpec.ofChange fnFillFewSpec)

/-- ITS FALSE NEIGHBOUR: 'it returns false'. Refute it at one input. -/
def fnFillFewWrong : ChangeSpec := { name := "fnFillFew", fn := fun _ => fun
  | [d] => { results := [.lit (.bool false)], args := [d] }
  | _ => none }
def FnFillFewWrongFalsely : Prop := fnFillFewRow.holds Tryz.pinned (OpenSpec.ofChange fnFillFewWrong)

/-- 'laws.FnFillBest': WHATEVER THE INPUT: true; the input reads as it did. -/
def fnFillBestSpec : ChangeSpec := { name := "fnFillBest", fn := fun _ => fun
  | [d] => { results := [.lit (.bool true)], args := [d] }
  | _ => none }
def fnFillBestRow : OpenClaim := { program := "ytmcdcogedcbndaagreat", sum := "f22102f3e2c5f41ef944ca04d2bf530d812b1bf253ca32d99aaf62b271b0cee1", func := "loop.example/colophon/laws.FnFillBest", spec := "fnFillBest", unfollowed := true, recurses := true, apart := false }
def FnFillBestSaid : Prop := fnFillBestRow.holds Tryz.pinned (OpenSpec.ofChange fnFillBestSpec)

/-- ITS FALSE NEIGHBOUR: 'it returns false'. Refute it at one input. -/
def fnFillBestWrong : ChangeSpec := { name := "fnFillBest", fn := fun _ => fun
  | [d] => { results := [.lit (.bool false)], args := [d] }
  | _ => none }
def FnFillBestWrongFalsely : Prop := fnFillBestRow.holds Tryz.pinned (OpenSpec.ofChange fnFillBestWrong)

/- THE SECOND FORM. 'bulk': how many values and letters a reading holds, each counted each time it is reached (what is shared counts as often as it is met; a slice's spare places count too). A statement '..UptoSaid' is the law's where the arguments, and the package variables that the reading takes, are together of bulk at most 1048576: NARROWER than '..Said'. Prove '..Said' where nothing that the law and all that it calls make is longer than what came in: it says more and counts as full. Else prove '..UptoSaid'. A law counts once. -/
mutual
def uptoBulk {H : Type} : DataW H → Nat
  | .lit (.string bytes) => bytes.length + 1
  | .lit _ => 1
  | .nil => 1
  | .ptr d => uptoBulk d + 1
  | .slice elems spare => uptoBulkAll elems + uptoBulkAll spare + 1
  | .agg parts => uptoBulkAll parts + 1
  | .iface _ d => uptoBulk d + 1
  | .map entries => uptoBulkEntries entries + 1
  | .held _ => 1
def uptoBulkAll {H : Type} : List (DataW H) → Nat
  | [] => 0
  | d :: r => uptoBulk d + uptoBulkAll r
def uptoBulkEntries {H : Type} : List (Lit × DataW H) → Nat
  | [] => 0
  | x :: r => uptoBulkEntry x + uptoBulkEntries r
def uptoBulkEntry {H : Type} : Lit × DataW H → Nat
  | (.string bytes, d) => bytes.length + uptoBulk d + 1
  | (_, d) => uptoBulk d + 1
 end
def uptoSmall : (H : Type) → List (DataW H) → Bool := fun _ ds => decide (uptoBulkAll ds ≤ 1048576)
def OpenSpec.upto (s : _root_.Go.ChangeSpec) : _root_.Go.OpenSpec := { _root_.Go.OpenSpec.ofChange s with cond := some uptoSmall }

/-- 'laws.FnExactFillLines', WHERE WHAT IT READS IS OF BULK AT MOST 1048576: true; the input reads as it did. -/
def fnExactFillLinesUptoRow : OpenClaim := { program := "ytmcdcogedcbndaagreat", sum := "f22102f3e2c5f41ef944ca04d2bf530d812b1bf253ca32d99aaf62b271b0cee1", func := "loop.example/colophon/laws.FnExactFillLines", spec := "fnExactFillLines", unfollowed := true, recurses := true, apart := false, narrowed := true }
def FnExactFillLinesUptoSaid : Prop := fnExactFillLinesUptoRow.holds Tryz.pinned (OpenSpec.upto fnExactFillLinesSpec)

/-- 'laws.FnFillMust', WHERE WHAT IT READS IS OF BULK AT MOST 1048576: true; the input reads as it did. -/
def fnFillMustUptoRow : OpenClaim := { program := "ytmcdcogedcbndaagreat", sum := "f22102f3e2c5f41ef944ca04d2bf530d812b1bf253ca32d99aaf62b271b0cee1", func := "loop.example/colophon/laws.FnFillMust", spec := "fnFillMust", unfollowed := true, recurses := true, apart := false, narrowed := true }
def FnFillMustUptoSaid : Prop := fnFillMustUptoRow.holds Tryz.pinned (OpenSpec.upto fnFillMustSpec)

/-- 'laws.FnFillAll', WHERE WHAT IT READS IS OF BULK AT MOST 1048576: true; the input reads as it did. -/
def fnFillAllUptoRow : OpenClaim := { program := "ytmcdcogedcbndaagreat", sum := "f22102f3e2c5f41ef944ca04d2bf530d812b1bf253ca32d99aaf62b271b0cee1", func := "loop.example/colophon/laws.FnFillAll", spec := "fnFillAll", unfollowed := true, recurses := true, apart := false, narrowed := true }
def FnFillAllUptoSaid : Prop := fnFillAllUptoRow.holds Tryz.pinned (OpenSpec.upto fnFillAllSpec)

/-- 'laws.FnFillWider', WHERE WHAT IT READS IS OF BULK AT MOST 1048576: true; the input reads as it did. -/
def fnFillWiderUptoRow : OpenClaim := { program := "ytmcdcogedcbndaagreat", sum := "f22102f3e2c5f41ef944ca04d2bf530d812b1bf253ca32d99aaf62b271b0cee1", func := "loop.example/colophon/laws.FnFillWider", spec := "fnFillWider", unfollowed := true, recurses := true, apart := false, narrowed := true }
def FnFillWiderUptoSaid : Prop := fnFillWiderUptoRow.holds Tryz.pinned (OpenSpec.upto fnFillWiderSpec)

/-- 'laws.FnFillGreedy', WHERE WHAT IT READS IS OF BULK AT MOST 1048576: true; the input reads as it did. -/
def fnFillGreedyUptoRow : OpenClaim := { program := "ytmcdcogedcbndaagreat", sum := "f22102f3e2c5f41ef944ca04d2bf530d812b1bf253ca32d99aaf62b271b0cee1", func := "loop.example/colophon/laws.FnFillGreedy", spec := "fnFillGreedy", unfollowed := true, recurses := true, apart := false, narrowed := true }
def FnFillGreedyUptoSaid : Prop := fnFillGreedyUptoRow.holds Tryz.pinned (OpenSpec.upto fnFillGreedySpec)

/-- 'laws.FnFillForced', WHERE WHAT IT READS IS OF BULK AT MOST 1048576: true; the input reads as it did. -/
def fnFillForcedUptoRow : OpenClaim := { program := "ytmcdcogedcbndaagreat", sum := "f22102f3e2c5f41ef944ca04d2bf530d812b1bf253ca32d99aaf62b271b0cee1", func := "loop.example/colophon/laws.FnFillForced", spec := "fnFillForced", unfollowed := true, recurses := true, apart := false, narrowed := true }
def FnFillForcedUptoSaid : Prop := fnFillForcedUptoRow.holds Tryz.pinned (OpenSpec.upto fnFillForcedSpec)

/-- 'laws.FnFillFew', WHERE WHAT IT READS IS OF BULK AT MOST 1048576: true; the input reads as it did. -/
def fnFillFewUptoRow : OpenClaim := { program := "ytmcdcogedcbndaagreat", sum := "f22102f3e2c5f41ef944ca04d2bf530d812b1bf253ca32d99aaf62b271b0cee1", func := "loop.example/colophon/laws.FnFillFew", spec := "fnFillFew", unfollowed := true, recurses := true, apart := false, narrowed := true }
def FnFillFewUptoSaid : Prop := fnFillFewUptoRow.holds Tryz.pinned (OpenSpec.upto fnFillFewSpec)

/-- 'laws.FnFillBest', WHERE WHAT IT READS IS OF BULK AT MOST 1048576: true; the input reads as it did. -/
def fnFillBestUptoRow : OpenClaim := { program := "ytmcdcogedcbndaagreat", sum := "f22102f3e2c5f41ef944ca04d2bf530d812b1bf253ca32d99aaf62b271b0cee1", func := "loop.example/colophon/laws.FnFillBest", spec := "fnFillBest", unfollowed := true, recurses := true, apart := false, narrowed := true }
def FnFillBestUptoSaid : Prop := fnFillBestUptoRow.holds Tryz.pinned (OpenSpec.upto fnFillBestSpec)

end Rows
end Go.Proofs.YtmcdcogedcbndaaGreat
