/-
  No cell of these rows narrows 'for every input' (looked for: loops, veiled, ifaces, maps, wideKeys, modest, calm, conditions, laid).
  DERIVED. THE GIVEN ROWS OF THIS SEAT. 8 by the template 'for every input the law returns true; each argument reads behind the call as it read before'; 0 by the template 'total and deterministic' (their statements: YtpmkkidljmedaaaTotals.lean).
  GIVEN WITH THE SEED: the statements are not yours to turn. If you find one false, say at which input.
  Laid BY PROGRAM, IN A SANDBOX (cutbox-rows.mjs): the forced cells as the released guide's own fill.sh prints them over the translation 5807eb6b7b438d52… (all of the seat's roots in one cut). By AI agents, Wed Nov 11 2026. No macro, syntax, notation, axiom, sorry.
-/
import Derived.Test.YtpmkkidljmedaaaChecked
import GoSem.Claim
import GoSem.ClaimJoined
import GoSem.ClaimMapViews
import Derived.JoinedTies
import Derived.KernelRfl
namespace Go.Proofs.Ytpmkkidljmedaaa
/- THE CELL 'sum', in the pinned program and in every row, IS THE sha256 OF THE DUMP (.gsa) THAT YtpmkkidljmedaaaProg.lean LOADS. Nothing in Lean hashes anything: it is a label: what it is worth is what the hold of that sum in a sandbox is worth. -/
noncomputable def Try.pinned : Pinned := { name := "ytpmkkidljmedaaa", sum := "5807eb6b7b438d5248f2ec8c2d75bb9df2b816743846d8ce07604649dd3e10cf", checked := Try.checked }
namespace Rows
def none {H : Type} : Left H := { results := [], args := [] }

/-- 'headroomlaw16.DftAll': WHATEVER THE INPUT: true; the input reads as it did. -/
def dftAllSpec : ChangeSpec := { name := "dftAll", fn := fun _ => fun
  | [d1, d2] => { results := [.lit (.bool true)], args := [d1, d2] }
  | _ => none }
def dftAllRow : OpenClaim := { program := "ytpmkkidljmedaaa", sum := "5807eb6b7b438d5248f2ec8c2d75bb9df2b816743846d8ce07604649dd3e10cf", func := "headroom/headroomlaw16.DftAll", spec := "dftAll", unfollowed := true, recurses := true, apart := false }
def DftAllSaid : Prop := dftAllRow.holds Try.pinned (OpenSpec.ofChange dftAllSpec)

/-- ITS FALSE NEIGHBOUR: 'it returns false'. Refute it at one input. -/
def dftAllWrong : ChangeSpec := { name := "dftAll", fn := fun _ => fun
  | [d1, d2] => { results := [.lit (.bool false)], args := [d1, d2] }
  | _ => none }
def DftAllWrongFalsely : Prop := dftAllRow.holds Try.pinned (OpenSpec.ofChange dftAllWrong)

/-- 'headroomlaw19.WindowWeighs': WHATEVER THE INPUT: true; the input reads as it did. -/
def windowWeighsSpec : ChangeSpec := { name := "windowWeighs", fn := fun _ => fun
  | [d1, d2, d3, d4] => { results := [.lit (.bool true)], args := [d1, d2, d3, d4] }
  | _ => none }
def windowWeighsRow : OpenClaim := { program := "ytpmkkidljmedaaa", sum := "5807eb6b7b438d5248f2ec8c2d75bb9df2b816743846d8ce07604649dd3e10cf", func := "headroom/headroomlaw19.WindowWeighs", spec := "windowWeighs", unfollowed := true, recurses := true, apart := false }
def WindowWeighsSaid : Prop := windowWeighsRow.holds Try.pinned (OpenSpec.ofChange windowWeighsSpec)

/-- ITS FALSE NEIGHBOUR: 'it returns false'. Refute it at one input. -/
def windowWeighsWrong : ChangeSpec := { name := "windowWeighs", fn := fun _ => fun
  | [d1, d2, d3, d4] => { results := [.lit (.bool false)], args := [d1, d2, d3, d4] }
  | _ => none }
def WindowWeighsWrongFalsely : Prop := windowWeighsRow.holds Try.pinned (OpenSpec.ofChange windowWeighsWrong)

/-- 'headroomlaw19.WindowLess': WHATEVER THE INPUT: true; the input reads as it did. -/
def windowLessSpec : ChangeSpec := { name := "windowLess", fn := fun _ => fun
  | [d1, d2, d3, d4] => { results := [.lit (.bool true)], args := [d1, d2, d3, d4] }
  | _ => none }
def windowLessRow : OpenClaim := { program := "ytpmkkidljmedaaa", sum := "5807eb6b7b438d5248f2ec8c2d75bb9df2b816743846d8ce07604649dd3e10cf", func := "headroom/headroomlaw19.WindowLess", spec := "windowLess", unfollowed := true, recurses := true, apart := false }
def WindowLessSaid : Prop := windowLessRow.holds Try.pinned (OpenSpec.ofChange windowLessSpec)

/-- ITS FALSE NEIGHBOUR: 'it returns false'. Refute it at one input. -/
def windowLessWrong : ChangeSpec := { name := "windowLess", fn := fun _ => fun
  | [d1, d2, d3, d4] => { results := [.lit (.bool false)], args := [d1, d2, d3, d4] }
  | _ => none }
def WindowLessWrongFalsely : Prop := windowLessRow.holds Try.pinned (OpenSpec.ofChange windowLessWrong)

/-- 'headroomlaw16.DftSum': WHATEVER THE INPUT: true; the input reads as it did. -/
def dftSumSpec : ChangeSpec := { name := "dftSum", fn := fun _ => fun
  | [d1, d2] => { results := [.lit (.bool true)], args := [d1, d2] }
  | _ => none }
def dftSumRow : OpenClaim := { program := "ytpmkkidljmedaaa", sum := "5807eb6b7b438d5248f2ec8c2d75bb9df2b816743846d8ce07604649dd3e10cf", func := "headroom/headroomlaw16.DftSum", spec := "dftSum", unfollowed := true, recurses := true, apart := false }
def DftSumSaid : Prop := dftSumRow.holds Try.pinned (OpenSpec.ofChange dftSumSpec)

/-- ITS FALSE NEIGHBOUR: 'it returns false'. Refute it at one input. -/
def dftSumWrong : ChangeSpec := { name := "dftSum", fn := fun _ => fun
  | [d1, d2] => { results := [.lit (.bool false)], args := [d1, d2] }
  | _ => none }
def DftSumWrongFalsely : Prop := dftSumRow.holds Try.pinned (OpenSpec.ofChange dftSumWrong)

/-- 'headroomlaw12.SplitRuns': WHATEVER THE INPUT: true; the input reads as it did. -/
def splitRunsSpec : ChangeSpec := { name := "splitRuns", fn := fun _ => fun
  | [d1, d2, d3, d4] => { results := [.lit (.bool true)], args := [d1, d2, d3, d4] }
  | _ => none }
def splitRunsRow : OpenClaim := { program := "ytpmkkidljmedaaa", sum := "5807eb6b7b438d5248f2ec8c2d75bb9df2b816743846d8ce07604649dd3e10cf", func := "headroom/headroomlaw12.SplitRuns", spec := "splitRuns", unfollowed := true, recurses := true, apart := false }
def SplitRunsSaid : Prop := splitRunsRow.holds Try.pinned (OpenSpec.ofChange splitRunsSpec)

/-- ITS FALSE NEIGHBOUR: 'it returns false'. Refute it at one input. -/
def splitRunsWrong : ChangeSpec := { name := "splitRuns", fn := fun _ => fun
  | [d1, d2, d3, d4] => { results := [.lit (.bool false)], args := [d1, d2, d3, d4] }
  | _ => none }
def SplitRunsWrongFalsely : Prop := splitRunsRow.holds Try.pinned (OpenSpec.ofChange splitRunsWrong)

/-- 'headroomlaw12.SplitSame': WHATEVER THE INPUT: true; the input reads as it did. -/
def splitSameSpec : ChangeSpec := { name := "splitSame", fn := fun _ => fun
  | [d1, d2, d3, d4, d5] => { results := [.lit (.bool true)], args := [d1, d2, d3, d4, d5] }
  | _ => none }
def splitSameRow : OpenClaim := { program := "ytpmkkidljmedaaa", sum := "5807eb6b7b438d5248f2ec8c2d75bb9df2b816743846d8ce07604649dd3e10cf", func := "headroom/headroomlaw12.SplitSame", spec := "splitSame", unfollowed := true, recurses := true, apart := false }
def SplitSameSaid : Prop := splitSameRow.holds Try.pinned (OpenSpec.ofChange splitSameSpec)

/-- ITS FALSE NEIGHBOUR: 'it returns false'. Refute it at one input. -/
def splitSameWrong : ChangeSpec := { name := "splitSame", fn := fun _ => fun
  | [d1, d2, d3, d4, d5] => { results := [.lit (.bool false)], args := [d1, d2, d3, d4, d5] }
  | _ => none }
def SplitSameWrongFalsely : Prop := splitSameRow.holds Try.pinned (OpenSpec.ofChange splitSameWrong)

/-- 'headroomlaw12.SplitWithin': WHATEVER THE INPUT: true; the input reads as it did. -/
def splitWithinSpec : ChangeSpec := { name := "splitWithin", fn := fun _ => fun
  | [d1, d2, d3, d4] => { results := [.lit (.bool true)], args := [d1, d2, d3, d4] }
  | _ => none }
def splitWithinRow : OpenClaim := { program := "ytpmkkidljmedaaa", sum := "5807eb6b7b438d5248f2ec8c2d75bb9df2b816743846d8ce07604649dd3e10cf", func := "headroom/headroomlaw12.SplitWithin", spec := "splitWithin", unfollowed := true, recurses := true, apart := false }
def SplitWithinSaid : Prop := splitWithinRow.holds Try.pinned (OpenSpec.ofChange splitWithinSpec)

/-- ITS FALSE NEIGHBOUR: 'it returns false'. Refute it at one input. -/
def splitWithinWrong : ChangeSpec := { name := "splitWithin", fn := fun _ => fun
  | [d1, d2, d3, d4] => { results := [.lit (.bool false)], args := [d1, d2, d3, d4] }
  | _ => none }
def SplitWithinWrongFalsely : Prop := splitWithinRow.holds Try.pinned (OpenSpec.ofChange splitWithinWrong)

/-- 'headroomlaw12.SplitJoins': WHATEVER THE INPUT: true; the input reads as it did. -/
def splitJoinsSpec : ChangeSpec := { name := "splitJoins", fn := fun _ => fun
  | [d1, d2, d3, d4, d5, d6, d7, d8, d9] => { results := [.lit (.bool true)], args := [d1, d2, d3, d4, d5, d6, d7, d8, d9] }
  | _ => none }
def splitJoinsRow : OpenClaim := { program := "ytpmkkidljmedaaa", sum := "5807eb6b7b438d5248f2ec8c2d75bb9df2b816743846d8ce07604649dd3e10cf", func := "headroom/headroomlaw12.SplitJoins", spec := "splitJoins", unfollowed := true, recurses := true, apart := false }
def SplitJoinsSaid : Prop := splitJoinsRow.holds Try.pinned (OpenSpec.ofChange splitJoinsSpec)

/-- ITS FALSE NEIGHBOUR: 'it returns false'. Refute it at one input. -/
def splitJoinsWrong : ChangeSpec := { name := "splitJoins", fn := fun _ => fun
  | [d1, d2, d3, d4, d5, d6, d7, d8, d9] => { results := [.lit (.bool false)], args := [d1, d2, d3, d4, d5, d6, d7, d8, d9] }
  | _ => none }
def SplitJoinsWrongFalsely : Prop := splitJoinsRow.holds Try.pinned (OpenSpec.ofChange splitJoinsWrong)

/- THE SECOND FORM. 'bulk': how many values and letters a reading holds, each counted each time it is reached (what is shared counts as often as it is met; a slice's spare places count too). A statement '..UptoSaid' is the law's where the arguments, and the package variables that the reading takes, are together of bulk at most 1048576: NARROWER than '..Said'. Prove '..Said' where nothing that the law and all that it calls make is longer than what came in: it says more and counts as full. Else prove '..UptoSaid'. A law counts once. -/
mutual
def uptoBulk {H : Type} : DataW H → Nat
  | .lit (.string bytes) => bytes.length + 1
  | .lit _ => 1
  | .nil => 1
  | .ptr d => uptoBulk d + 1
  | .slice elems spare => uptoBulkAll elems + uptoBulkAll spare + 1
  | .agg parts => uptoBulkAll parts + 1
  | .iface _ d => uptoBulk d + 1
  | .map entries => uptoBulkEntries entries + 1
  | .held _ => 1
def uptoBulkAll {H : Type} : List (DataW H) → Nat
  | [] => 0
  | d :: r => uptoBulk d + uptoBulkAll r
def uptoBulkEntries {H : Type} : List (Lit × DataW H) → Nat
  | [] => 0
  | x :: r => uptoBulkEntry x + uptoBulkEntries r
def uptoBulkEntry {H : Type} : Lit × DataW H → Nat
  | (.string bytes, d) => bytes.length + uptoBulk d + 1
  | (_, d) => uptoBulk d + 1
 end
def uptoSmall : (H : Type) → List (DataW H) → Bool := fun _ ds => decide (uptoBulkAll ds ≤ 1048576)
def OpenSpec.upto (s : _root_.Go.ChangeSpec) : _root_.Go.OpenSpec := { _root_.Go.OpenSpec.ofChange s with cond := some uptoSmall }

/-- 'headroomlaw16.DftAll', WHERE WHAT IT READS IS OF BULK AT MOST 1048576: true; the input reads as it did. -/
def dftAllUptoRow : OpenClaim := { program := "ytpmkkidljmedaaa", sum := "5807eb6b7b438d5248f2ec8c2d75bb9df2b816743846d8ce07604649dd3e10cf", func := "headroom/headroomlaw16.DftAll", spec := "dftAll", unfollowed := true, recurses := true, apart := false, narrowed := true }
def DftAllUptoSaid : Prop := dftAllUptoRow.holds Try.pinned (OpenSpec.upto dftAllSpec)

/-- 'headroomlaw19.WindowWeighs', WHERE WHAT IT READS IS OF BULK AT MOST 1048576: true; the input reads as it did. -/
def windowWeighsUptoRow : OpenClaim := { program := "ytpmkkidljmedaaa", sum := "5807eb6b7b438d5248f2ec8c2d75bb9df2b816743846d8ce07604649dd3e10cf", func := "headroom/headroomlaw19.WindowWeighs", spec := "windowWeighs", unfollowed := true, recurses := true, apart := false, narrowed := true }
def WindowWeighsUptoSaid : Prop := windowWeighsUptoRow.holds Try.pinned (OpenSpec.upto windowWeighsSpec)

/-- 'headroomlaw19.WindowLess', WHERE WHAT IT READS IS OF BULK AT MOST 1048576: true; the input reads as it did. -/
def windowLessUptoRow : OpenClaim := { program := "ytpmkkidljmedaaa", sum := "5807eb6b7b438d5248f2ec8c2d75bb9df2b816743846d8ce07604649dd3e10cf", func := "headroom/headroomlaw19.WindowLess", spec := "windowLess", unfollowed := true, recurses := true, apart := false, narrowed := true }
def WindowLessUptoSaid : Prop := windowLessUptoRow.holds Try.pinned (OpenSpec.upto windowLessSpec)

/-- 'headroomlaw16.DftSum', WHERE WHAT IT READS IS OF BULK AT MOST 1048576: true; the input reads as it did. -/
def dftSumUptoRow : OpenClaim := { program := "ytpmkkidljmedaaa", sum := "5807eb6b7b438d5248f2ec8c2d75bb9df2b816743846d8ce07604649dd3e10cf", func := "headroom/headroomlaw16.DftSum", spec := "dftSum", unfollowed := true, recurses := true, apart := false, narrowed := true }
def DftSumUptoSaid : Prop := dftSumUptoRow.holds Try.pinned (OpenSpec.upto dftSumSpec)

/-- 'headroomlaw12.SplitRuns', WHERE WHAT IT READS IS OF BULK AT MOST 1048576: true; the input reads as it did. -/
def splitRunsUptoRow : OpenClaim := { program := "ytpmkkidljmedaaa", sum := "5807eb6b7b438d5248f2ec8c2d75bb9df2b816743846d8ce07604649dd3e10cf", func := "headroom/headroomlaw12.SplitRuns", spec := "splitRuns", unfollowed := true, recurses := true, apart := false, narrowed := true }
def SplitRunsUptoSaid : Prop := splitRunsUptoRow.holds Try.pinned (OpenSpec.upto splitRunsSpec)

/-- 'headroomlaw12.SplitSame', WHERE WHAT IT READS IS OF BULK AT MOST 1048576: true; the input reads as it did. -/
def splitSameUptoRow : OpenClaim := { program := "ytpmkkidljmedaaa", sum := "5807eb6b7b438d5248f2ec8c2d75bb9df2b816743846d8ce07604649dd3e10cf", func := "headroom/headroomlaw12.SplitSame", spec := "splitSame", unfollowed := true, recurses := true, apart := false, narrowed := true }
def SplitSameUptoSaid : Prop := splitSameUptoRow.holds Try.pinned (OpenSpec.upto splitSameSpec)

/-- 'headroomlaw12.SplitWithin', WHERE WHAT IT READS IS OF BULK AT MOST 1048576: true; the input reads as it did. -/
def splitWithinUptoRow : OpenClaim := { program := "ytpmkkidljmedaaa", sum := "5807eb6b7b438d5248f2ec8c2d75bb9df2b816743846d8ce07604649dd3e10cf", func := "headroom/headroomlaw12.SplitWithin", spec := "splitWithin", unfollowed := true, recurses := true, apart := false, narrowed := true }
def SplitWithinUptoSaid : Prop := splitWithinUptoRow.holds Try.pinned (OpenSpec.upto splitWithinSpec)

/-- 'headroomlaw12.SplitJoins', WHERE WHAT IT READS IS OF BULK AT MOST 1048576: true; the input reads as it did. -/
def splitJoinsUptoRow : OpenClaim := { program := "ytpmkkidljmedaaa", sum := "5807eb6b7b438d5248f2ec8c2d75bb9df2b816743846d8ce07604649dd3e10cf", func := "headroom/headroomlaw12.SplitJoins", spec := "splitJoins", unfollowed := true, recurses := true, apart := false, narrowed := true }
def SplitJoinsUptoSaid : Prop := splitJoinsUptoRow.holds Try.pinned (OpenSpec.upto splitJoinsSpec)

end Rows
end Go.Proofs.Ytpmkkidljmedaaa
