/-
  NARROWER THAN 'FOR EVERY INPUT', by the rows' own cells (each row's printed sentence says how): PlanBuilds: loops.
  DERIVED. THE GIVEN ROWS OF THIS SEAT. 10 by the template 'for every input the law returns true; each argument reads behind the call as it read before'; 0 by the template 'total and deterministic' (their statements: YtephecognbbaoaaTotals.lean).
  GIVEN WITH THE SEED: the statements are not yours to turn. If you find one false, say at which input.
  Laid BY PROGRAM, IN A SANDBOX (cutbox-rows.mjs): the forced cells as the released guide's own fill.sh prints them over the translation 8730ceea33baa7b3… (all of the seat's roots in one cut). By AI agents, Wed Nov 11 2026. No macro, syntax, notation, axiom, sorry.
-/
import Derived.Test.YtephecognbbaoaaChecked
import GoSem.Claim
import GoSem.ClaimJoined
import GoSem.ClaimMapViews
import Derived.JoinedTies
import Derived.KernelRfl
namespace Go.Proofs.Ytephecognbbaoaa
/- THE CELL 'sum', in the pinned program and in every row, IS THE sha256 OF THE DUMP (.gsa) THAT YtephecognbbaoaaProg.lean LOADS. Nothing in Lean hashes anything: it is a label: what it is worth is what the hold of that sum in a sandbox is worth. -/
noncomputable def Try.pinned : Pinned := { name := "ytephecognbbaoaa", sum := "8730ceea33baa7b3ee27172f2d9b9374a23bcc6c912b9a900d0d7e850ac5140c", checked := Try.checked }
namespace Rows
def none {H : Type} : Left H := { results := [], args := [] }

/-- 'signpostlaw.WireWrites': WHATEVER THE INPUT: true; the input reads as it did. -/
def wireWritesSpec : ChangeSpec := { name := "wireWrites", fn := fun _ => fun
  | [d] => { results := [.lit (.bool true)], args := [d] }
  | _ => none }
def wireWritesRow : OpenClaim := { program := "ytephecognbbaoaa", sum := "8730ceea33baa7b3ee27172f2d9b9374a23bcc6c912b9a900d0d7e850ac5140c", func := "signpost/signpostlaw.WireWrites", spec := "wireWrites", unfollowed := true, recurses := true, plainKeys := false, apart := false }
def WireWritesSaid : Prop := wireWritesRow.holds Try.pinned (OpenSpec.ofChange wireWritesSpec)

/-- ITS FALSE NEIGHBOUR: 'it returns false'. Refute it at one input. -/
def wireWritesWrong : ChangeSpec := { name := "wireWrites", fn := fun _ => fun
  | [d] => { results := [.lit (.bool false)], args := [d] }
  | _ => none }
def WireWritesWrongFalsely : Prop := wireWritesRow.holds Try.pinned (OpenSpec.ofChange wireWritesWrong)

/-- 'signpostlaw.WireReads': WHATEVER THE INPUT: true; the input reads as it did. -/
def wireReadsSpec : ChangeSpec := { name := "wireReads", fn := fun _ => fun
  | [d] => { results := [.lit (.bool true)], args := [d] }
  | _ => none }
def wireReadsRow : OpenClaim := { program := "ytephecognbbaoaa", sum := "8730ceea33baa7b3ee27172f2d9b9374a23bcc6c912b9a900d0d7e850ac5140c", func := "signpost/signpostlaw.WireReads", spec := "wireReads", unfollowed := true, recurses := true, plainKeys := false, apart := false }
def WireReadsSaid : Prop := wireReadsRow.holds Try.pinned (OpenSpec.ofChange wireReadsSpec)

/-- ITS FALSE NEIGHBOUR: 'it returns false'. Refute it at one input. -/
def wireReadsWrong : ChangeSpec := { name := "wireReads", fn := fun _ => fun
  | [d] => { results := [.lit (.bool false)], args := [d] }
  | _ => none }
def WireReadsWrongFalsely : Prop := wireReadsRow.holds Try.pinned (OpenSpec.ofChange wireReadsWrong)

/-- 'signpostlaw.WireBack': WHATEVER THE INPUT: true; the input reads as it did. -/
def wireBackSpec : ChangeSpec := { name := "wireBack", fn := fun _ => fun
  | [d1, d2, d3, d4] => { results := [.lit (.bool true)], args := [d1, d2, d3, d4] }
  | _ => none }
def wireBackRow : OpenClaim := { program := "ytephecognbbaoaa", sum := "8730ceea33baa7b3ee27172f2d9b9374a23bcc6c912b9a900d0d7e850ac5140c", func := "signpost/signpostlaw.WireBack", spec := "wireBack", unfollowed := true, recurses := true, plainKeys := false, apart := false }
def WireBackSaid : Prop := wireBackRow.holds Try.pinned (OpenSpec.ofChange wireBackSpec)

/-- ITS FALSE NEIGHBOUR: 'it returns false'. Refute it at one input. -/
def wireBackWrong : ChangeSpec := { name := "wireBack", fn := fun _ => fun
  | [d1, d2, d3, d4] => { results := [.lit (.bool false)], args := [d1, d2, d3, d4] }
  | _ => none }
def WireBackWrongFalsely : Prop := wireBackRow.holds Try.pinned (OpenSpec.ofChange wireBackWrong)

/-- 'signpostlaw.AlgebraHolds': WHATEVER THE INPUT: true; the input reads as it did. -/
def algebraHoldsSpec : ChangeSpec := { name := "algebraHolds", fn := fun _ => fun
  | [d1, d2] => { results := [.lit (.bool true)], args := [d1, d2] }
  | _ => none }
def algebraHoldsRow : OpenClaim := { program := "ytephecognbbaoaa", sum := "8730ceea33baa7b3ee27172f2d9b9374a23bcc6c912b9a900d0d7e850ac5140c", func := "signpost/signpostlaw.AlgebraHolds", spec := "algebraHolds", unfollowed := true, recurses := true, plainKeys := false, apart := false }
def AlgebraHoldsSaid : Prop := algebraHoldsRow.holds Try.pinned (OpenSpec.ofChange algebraHoldsSpec)

/-- ITS FALSE NEIGHBOUR: 'it returns false'. Refute it at one input. -/
def algebraHoldsWrong : ChangeSpec := { name := "algebraHolds", fn := fun _ => fun
  | [d1, d2] => { results := [.lit (.bool false)], args := [d1, d2] }
  | _ => none }
def AlgebraHoldsWrongFalsely : Prop := algebraHoldsRow.holds Try.pinned (OpenSpec.ofChange algebraHoldsWrong)

/-- 'signpostlaw.AlgebraTrue': WHATEVER THE INPUT: true; the input reads as it did. -/
def algebraTrueSpec : ChangeSpec := { name := "algebraTrue", fn := fun _ => fun
  | [d1, d2] => { results := [.lit (.bool true)], args := [d1, d2] }
  | _ => none }
def algebraTrueRow : OpenClaim := { program := "ytephecognbbaoaa", sum := "8730ceea33baa7b3ee27172f2d9b9374a23bcc6c912b9a900d0d7e850ac5140c", func := "signpost/signpostlaw.AlgebraTrue", spec := "algebraTrue", unfollowed := true, recurses := true, plainKeys := false, apart := false }
def AlgebraTrueSaid : Prop := algebraTrueRow.holds Try.pinned (OpenSpec.ofChange algebraTrueSpec)

/-- ITS FALSE NEIGHBOUR: 'it returns false'. Refute it at one input. -/
def algebraTrueWrong : ChangeSpec := { name := "algebraTrue", fn := fun _ => fun
  | [d1, d2] => { results := [.lit (.bool false)], args := [d1, d2] }
  | _ => none }
def AlgebraTrueWrongFalsely : Prop := algebraTrueRow.holds Try.pinned (OpenSpec.ofChange algebraTrueWrong)

/-- 'signpostlaw.AlgebraLaws': WHATEVER THE INPUT: true; the input reads as it did. -/
def algebraLawsSpec : ChangeSpec := { name := "algebraLaws", fn := fun _ => fun
  | [d] => { results := [.lit (.bool true)], args := [d] }
  | _ => none }
def algebraLawsRow : OpenClaim := { program := "ytephecognbbaoaa", sum := "8730ceea33baa7b3ee27172f2d9b9374a23bcc6c912b9a900d0d7e850ac5140c", func := "signpost/signpostlaw.AlgebraLaws", spec := "algebraLaws", unfollowed := true, recurses := true, plainKeys := false, apart := false }
def AlgebraLawsSaid : Prop := algebraLawsRow.holds Try.pinned (OpenSpec.ofChange algebraLawsSpec)

/-- ITS FALSE NEIGHBOUR: 'it returns false'. Refute it at one input. -/
def algebraLawsWrong : ChangeSpec := { name := "algebraLaws", fn := fun _ => fun
  | [d] => { results := [.lit (.bool false)], args := [d] }
  | _ => none }
def AlgebraLawsWrongFalsely : Prop := algebraLawsRow.holds Try.pinned (OpenSpec.ofChange algebraLawsWrong)

/-- 'signpostlaw.PlanBuilds': WHATEVER THE INPUT: true; the input reads as it did. -/
def planBuildsSpec : ChangeSpec := { name := "planBuilds", fn := fun _ => fun
  | [d] => { results := [.lit (.bool true)], args := [d] }
  | _ => none }
def planBuildsRow : OpenClaim := { program := "ytephecognbbaoaa", sum := "8730ceea33baa7b3ee27172f2d9b9374a23bcc6c912b9a900d0d7e850ac5140c", func := "signpost/signpostlaw.PlanBuilds", spec := "planBuilds", unfollowed := true, recurses := true, loops := true, plainKeys := false, apart := false }
def PlanBuildsSaid : Prop := planBuildsRow.holds Try.pinned (OpenSpec.ofChange planBuildsSpec)

/-- ITS FALSE NEIGHBOUR: 'it returns false'. Refute it at one input. -/
def planBuildsWrong : ChangeSpec := { name := "planBuilds", fn := fun _ => fun
  | [d] => { results := [.lit (.bool false)], args := [d] }
  | _ => none }
def PlanBuildsWrongFalsely : Prop := planBuildsRow.holds Try.pinned (OpenSpec.ofChange planBuildsWrong)

/-- 'signpostlaw.TableTells': WHATEVER THE INPUT: true; the input reads as it did. -/
def tableTellsSpec : ChangeSpec := { name := "tableTells", fn := fun _ => fun
  | [d1, d2, d3, d4, d5] => { results := [.lit (.bool true)], args := [d1, d2, d3, d4, d5] }
  | _ => none }
def tableTellsRow : OpenClaim := { program := "ytephecognbbaoaa", sum := "8730ceea33baa7b3ee27172f2d9b9374a23bcc6c912b9a900d0d7e850ac5140c", func := "signpost/signpostlaw.TableTells", spec := "tableTells", unfollowed := true, recurses := true, plainKeys := false, apart := false }
def TableTellsSaid : Prop := tableTellsRow.holds Try.pinned (OpenSpec.ofChange tableTellsSpec)

/-- ITS FALSE NEIGHBOUR: 'it returns false'. Refute it at one input. -/
def tableTellsWrong : ChangeSpec := { name := "tableTells", fn := fun _ => fun
  | [d1, d2, d3, d4, d5] => { results := [.lit (.bool false)], args := [d1, d2, d3, d4, d5] }
  | _ => none }
def TableTellsWrongFalsely : Prop := tableTellsRow.holds Try.pinned (OpenSpec.ofChange tableTellsWrong)

/-- 'signpostlaw.TableWeighs': WHATEVER THE INPUT: true; the input reads as it did. -/
def tableWeighsSpec : ChangeSpec := { name := "tableWeighs", fn := fun _ => fun
  | [d1, d2, d3, d4] => { results := [.lit (.bool true)], args := [d1, d2, d3, d4] }
  | _ => none }
def tableWeighsRow : OpenClaim := { program := "ytephecognbbaoaa", sum := "8730ceea33baa7b3ee27172f2d9b9374a23bcc6c912b9a900d0d7e850ac5140c", func := "signpost/signpostlaw.TableWeighs", spec := "tableWeighs", unfollowed := true, recurses := true, plainKeys := false, apart := false }
def TableWeighsSaid : Prop := tableWeighsRow.holds Try.pinned (OpenSpec.ofChange tableWeighsSpec)

/-- ITS FALSE NEIGHBOUR: 'it returns false'. Refute it at one input. -/
def tableWeighsWrong : ChangeSpec := { name := "tableWeighs", fn := fun _ => fun
  | [d1, d2, d3, d4] => { results := [.lit (.bool false)], args := [d1, d2, d3, d4] }
  | _ => none }
def TableWeighsWrongFalsely : Prop := tableWeighsRow.holds Try.pinned (OpenSpec.ofChange tableWeighsWrong)

/-- 'signpostlaw.NetSettles': WHATEVER THE INPUT: true; the input reads as it did. -/
def netSettlesSpec : ChangeSpec := { name := "netSettles", fn := fun _ => fun
  | [d1, d2, d3] => { results := [.lit (.bool true)], args := [d1, d2, d3] }
  | _ => none }
def netSettlesRow : OpenClaim := { program := "ytephecognbbaoaa", sum := "8730ceea33baa7b3ee27172f2d9b9374a23bcc6c912b9a900d0d7e850ac5140c", func := "signpost/signpostlaw.NetSettles", spec := "netSettles", unfollowed := true, recurses := true, plainKeys := false, apart := false }
def NetSettlesSaid : Prop := netSettlesRow.holds Try.pinned (OpenSpec.ofChange netSettlesSpec)

/-- ITS FALSE NEIGHBOUR: 'it returns false'. Refute it at one input. -/
def netSettlesWrong : ChangeSpec := { name := "netSettles", fn := fun _ => fun
  | [d1, d2, d3] => { results := [.lit (.bool false)], args := [d1, d2, d3] }
  | _ => none }
def NetSettlesWrongFalsely : Prop := netSettlesRow.holds Try.pinned (OpenSpec.ofChange netSettlesWrong)

/- THE SECOND FORM. 'bulk': how many values and letters a reading holds, each counted each time it is reached (what is shared counts as often as it is met; a slice's spare places count too). A statement '..UptoSaid' is the law's where the arguments, and the package variables that the reading takes, are together of bulk at most 1048576: NARROWER than '..Said'. Prove '..Said' where nothing that the law and all that it calls make is longer than what came in: it says more and counts as full. Else prove '..UptoSaid'. A law counts once. -/
mutual
def uptoBulk {H : Type} : DataW H → Nat
  | .lit (.string bytes) => bytes.length + 1
  | .lit _ => 1
  | .nil => 1
  | .ptr d => uptoBulk d + 1
  | .slice elems spare => uptoBulkAll elems + uptoBulkAll spare + 1
  | .agg parts => uptoBulkAll parts + 1
  | .iface _ d => uptoBulk d + 1
  | .map entries => uptoBulkEntries entries + 1
  | .held _ => 1
def uptoBulkAll {H : Type} : List (DataW H) → Nat
  | [] => 0
  | d :: r => uptoBulk d + uptoBulkAll r
def uptoBulkEntries {H : Type} : List (Lit × DataW H) → Nat
  | [] => 0
  | x :: r => uptoBulkEntry x + uptoBulkEntries r
def uptoBulkEntry {H : Type} : Lit × DataW H → Nat
  | (.string bytes, d) => bytes.length + uptoBulk d + 1
  | (_, d) => uptoBulk d + 1
 end
def uptoSmall : (H : Type) → List (DataW H) → Bool := fun _ ds => decide (uptoBulkAll ds ≤ 1048576)
def OpenSpec.upto (s : _root_.Go.ChangeSpec) : _root_.Go.OpenSpec := { _root_.Go.OpenSpec.ofChange s with cond := some uptoSmall }

/-- 'signpostlaw.WireWrites', WHERE WHAT IT READS IS OF BULK AT MOST 1048576: true; the input reads as it did. -/
def wireWritesUptoRow : OpenClaim := { program := "ytephecognbbaoaa", sum := "8730ceea33baa7b3ee27172f2d9b9374a23bcc6c912b9a900d0d7e850ac5140c", func := "signpost/signpostlaw.WireWrites", spec := "wireWrites", unfollowed := true, recurses := true, plainKeys := false, apart := false, narrowed := true }
def WireWritesUptoSaid : Prop := wireWritesUptoRow.holds Try.pinned (OpenSpec.upto wireWritesSpec)

/-- 'signpostlaw.WireReads', WHERE WHAT IT READS IS OF BULK AT MOST 1048576: true; the input reads as it did. -/
def wireReadsUptoRow : OpenClaim := { program := "ytephecognbbaoaa", sum := "8730ceea33baa7b3ee27172f2d9b9374a23bcc6c912b9a900d0d7e850ac5140c", func := "signpost/signpostlaw.WireReads", spec := "wireReads", unfollowed := true, recurses := true, plainKeys := false, apart := false, narrowed := true }
def WireReadsUptoSaid : Prop := wireReadsUptoRow.holds Try.pinned (OpenSpec.upto wireReadsSpec)

/-- 'signpostlaw.WireBack', WHERE WHAT IT READS IS OF BULK AT MOST 1048576: true; the input reads as it did. -/
def wireBackUptoRow : OpenClaim := { program := "ytephecognbbaoaa", sum := "8730ceea33baa7b3ee27172f2d9b9374a23bcc6c912b9a900d0d7e850ac5140c", func := "signpost/signpostlaw.WireBack", spec := "wireBack", unfollowed := true, recurses := true, plainKeys := false, apart := false, narrowed := true }
def WireBackUptoSaid : Prop := wireBackUptoRow.holds Try.pinned (OpenSpec.upto wireBackSpec)

/-- 'signpostlaw.AlgebraHolds', WHERE WHAT IT READS IS OF BULK AT MOST 1048576: true; the input reads as it did. -/
def algebraHoldsUptoRow : OpenClaim := { program := "ytephecognbbaoaa", sum := "8730ceea33baa7b3ee27172f2d9b9374a23bcc6c912b9a900d0d7e850ac5140c", func := "signpost/signpostlaw.AlgebraHolds", spec := "algebraHolds", unfollowed := true, recurses := true, plainKeys := false, apart := false, narrowed := true }
def AlgebraHoldsUptoSaid : Prop := algebraHoldsUptoRow.holds Try.pinned (OpenSpec.upto algebraHoldsSpec)

/-- 'signpostlaw.AlgebraTrue', WHERE WHAT IT READS IS OF BULK AT MOST 1048576: true; the input reads as it did. -/
def algebraTrueUptoRow : OpenClaim := { program := "ytephecognbbaoaa", sum := "8730ceea33baa7b3ee27172f2d9b9374a23bcc6c912b9a900d0d7e850ac5140c", func := "signpost/signpostlaw.AlgebraTrue", spec := "algebraTrue", unfollowed := true, recurses := true, plainKeys := false, apart := false, narrowed := true }
def AlgebraTrueUptoSaid : Prop := algebraTrueUptoRow.holds Try.pinned (OpenSpec.upto algebraTrueSpec)

/-- 'signpostlaw.AlgebraLaws', WHERE WHAT IT READS IS OF BULK AT MOST 1048576: true; the input reads as it did. -/
def algebraLawsUptoRow : OpenClaim := { program := "ytephecognbbaoaa", sum := "8730ceea33baa7b3ee27172f2d9b9374a23bcc6c912b9a900d0d7e850ac5140c", func := "signpost/signpostlaw.AlgebraLaws", spec := "algebraLaws", unfollowed := true, recurses := true, plainKeys := false, apart := false, narrowed := true }
def AlgebraLawsUptoSaid : Prop := algebraLawsUptoRow.holds Try.pinned (OpenSpec.upto algebraLawsSpec)

/-- 'signpostlaw.PlanBuilds', WHERE WHAT IT READS IS OF BULK AT MOST 1048576: true; the input reads as it did. -/
def planBuildsUptoRow : OpenClaim := { program := "ytephecognbbaoaa", sum := "8730ceea33baa7b3ee27172f2d9b9374a23bcc6c912b9a900d0d7e850ac5140c", func := "signpost/signpostlaw.PlanBuilds", spec := "planBuilds", unfollowed := true, recurses := true, loops := true, plainKeys := false, apart := false, narrowed := true }
def PlanBuildsUptoSaid : Prop := planBuildsUptoRow.holds Try.pinned (OpenSpec.upto planBuildsSpec)

/-- 'signpostlaw.TableTells', WHERE WHAT IT READS IS OF BULK AT MOST 1048576: true; the input reads as it did. -/
def tableTellsUptoRow : OpenClaim := { program := "ytephecognbbaoaa", sum := "8730ceea33baa7b3ee27172f2d9b9374a23bcc6c912b9a900d0d7e850ac5140c", func := "signpost/signpostlaw.TableTells", spec := "tableTells", unfollowed := true, recurses := true, plainKeys := false, apart := false, narrowed := true }
def TableTellsUptoSaid : Prop := tableTellsUptoRow.holds Try.pinned (OpenSpec.upto tableTellsSpec)

/-- 'signpostlaw.TableWeighs', WHERE WHAT IT READS IS OF BULK AT MOST 1048576: true; the input reads as it did. -/
def tableWeighsUptoRow : OpenClaim := { program := "ytephecognbbaoaa", sum := "8730ceea33baa7b3ee27172f2d9b9374a23bcc6c912b9a900d0d7e850ac5140c", func := "signpost/signpostlaw.TableWeighs", spec := "tableWeighs", unfollowed := true, recurses := true, plainKeys := false, apart := false, narrowed := true }
def TableWeighsUptoSaid : Prop := tableWeighsUptoRow.holds Try.pinned (OpenSpec.upto tableWeighsSpec)

/-- 'signpostlaw.NetSettles', WHERE WHAT IT READS IS OF BULK AT MOST 1048576: true; the input reads as it did. -/
def netSettlesUptoRow : OpenClaim := { program := "ytephecognbbaoaa", sum := "8730ceea33baa7b3ee27172f2d9b9374a23bcc6c912b9a900d0d7e850ac5140c", func := "signpost/signpostlaw.NetSettles", spec := "netSettles", unfollowed := true, recurses := true, plainKeys := false, apart := false, narrowed := true }
def NetSettlesUptoSaid : Prop := netSettlesUptoRow.holds Try.pinned (OpenSpec.upto netSettlesSpec)

end Rows
end Go.Proofs.Ytephecognbbaoaa
