/-
  NARROWER THAN 'FOR EVERY INPUT', by the rows' own cells (each row's printed sentence says how): PlanLawful: loops.
  DERIVED. THE GIVEN ROWS OF THIS SEAT. 11 by the template 'for every input the law returns true; each argument reads behind the call as it read before'; 0 by the template 'total and deterministic' (their statements: YtephecognbbaoabTotals.lean).
  GIVEN WITH THE SEED: the statements are not yours to turn. If you find one false, say at which input.
  Laid BY PROGRAM, IN A SANDBOX (cutbox-rows.mjs): the forced cells as the released guide's own fill.sh prints them over the translation 49c390851938105a… (all of the seat's roots in one cut). By AI agents, Wed Nov 11 2026. No macro, syntax, notation, axiom, sorry.
-/
import Derived.Test.YtephecognbbaoabChecked
import GoSem.Claim
import GoSem.ClaimJoined
import GoSem.ClaimMapViews
import Derived.JoinedTies
import Derived.KernelRfl
namespace Go.Proofs.Ytephecognbbaoab
/- THE CELL 'sum', in the pinned program and in every row, IS THE sha256 OF THE DUMP (.gsa) THAT YtephecognbbaoabProg.lean LOADS. Nothing in Lean hashes anything: it is a label: what it is worth is what the hold of that sum in a sandbox is worth. -/
noncomputable def Try.pinned : Pinned := { name := "ytephecognbbaoab", sum := "49c390851938105a94f4498d1cda6891ba1b541824d55ef7963727cc32833208", checked := Try.checked }
namespace Rows
def none {H : Type} : Left H := { results := [], args := [] }

/-- 'signpostlaw.PlanLawful': WHATEVER THE INPUT: true; the input reads as it did. -/
def planLawfulSpec : ChangeSpec := { name := "planLawful", fn := fun _ => fun
  | [d] => { results := [.lit (.bool true)], args := [d] }
  | _ => none }
def planLawfulRow : OpenClaim := { program := "ytephecognbbaoab", sum := "49c390851938105a94f4498d1cda6891ba1b541824d55ef7963727cc32833208", func := "signpost/signpostlaw.PlanLawful", spec := "planLawful", unfollowed := true, recurses := true, loops := true, plainKeys := false, apart := false }
def PlanLawfulSaid : Prop := planLawfulRow.holds Try.pinned (OpenSpec.ofChange planLawfulSpec)

/-- ITS FALSE NEIGHBOUR: 'it returns false'. Refute it at one input. -/
def planLawfulWrong : ChangeSpec := { name := "planLawful", fn := fun _ => fun
  | [d] => { results := [.lit (.bool false)], args := [d] }
  | _ => none }
def PlanLawfulWrongFalsely : Prop := planLawfulRow.holds Try.pinned (OpenSpec.ofChange planLawfulWrong)

/-- 'signpostlaw.NetRounds': WHATEVER THE INPUT: true; the input reads as it did. -/
def netRoundsSpec : ChangeSpec := { name := "netRounds", fn := fun _ => fun
  | [d1, d2] => { results := [.lit (.bool true)], args := [d1, d2] }
  | _ => none }
def netRoundsRow : OpenClaim := { program := "ytephecognbbaoab", sum := "49c390851938105a94f4498d1cda6891ba1b541824d55ef7963727cc32833208", func := "signpost/signpostlaw.NetRounds", spec := "netRounds", unfollowed := true, recurses := true, plainKeys := false, apart := false }
def NetRoundsSaid : Prop := netRoundsRow.holds Try.pinned (OpenSpec.ofChange netRoundsSpec)

/-- ITS FALSE NEIGHBOUR: 'it returns false'. Refute it at one input. -/
def netRoundsWrong : ChangeSpec := { name := "netRounds", fn := fun _ => fun
  | [d1, d2] => { results := [.lit (.bool false)], args := [d1, d2] }
  | _ => none }
def NetRoundsWrongFalsely : Prop := netRoundsRow.holds Try.pinned (OpenSpec.ofChange netRoundsWrong)

/-- 'signpostlaw.AsyncRuns': WHATEVER THE INPUT: true; the input reads as it did. -/
def asyncRunsSpec : ChangeSpec := { name := "asyncRuns", fn := fun _ => fun
  | [d1, d2, d3] => { results := [.lit (.bool true)], args := [d1, d2, d3] }
  | _ => none }
def asyncRunsRow : OpenClaim := { program := "ytephecognbbaoab", sum := "49c390851938105a94f4498d1cda6891ba1b541824d55ef7963727cc32833208", func := "signpost/signpostlaw.AsyncRuns", spec := "asyncRuns", unfollowed := true, recurses := true, plainKeys := false, apart := false }
def AsyncRunsSaid : Prop := asyncRunsRow.holds Try.pinned (OpenSpec.ofChange asyncRunsSpec)

/-- ITS FALSE NEIGHBOUR: 'it returns false'. Refute it at one input. -/
def asyncRunsWrong : ChangeSpec := { name := "asyncRuns", fn := fun _ => fun
  | [d1, d2, d3] => { results := [.lit (.bool false)], args := [d1, d2, d3] }
  | _ => none }
def AsyncRunsWrongFalsely : Prop := asyncRunsRow.holds Try.pinned (OpenSpec.ofChange asyncRunsWrong)

/-- 'signpostlaw.AsyncCycles': WHATEVER THE INPUT: true; the input reads as it did. -/
def asyncCyclesSpec : ChangeSpec := { name := "asyncCycles", fn := fun _ => fun
  | [d1, d2] => { results := [.lit (.bool true)], args := [d1, d2] }
  | _ => none }
def asyncCyclesRow : OpenClaim := { program := "ytephecognbbaoab", sum := "49c390851938105a94f4498d1cda6891ba1b541824d55ef7963727cc32833208", func := "signpost/signpostlaw.AsyncCycles", spec := "asyncCycles", unfollowed := true, recurses := true, plainKeys := false, apart := false }
def AsyncCyclesSaid : Prop := asyncCyclesRow.holds Try.pinned (OpenSpec.ofChange asyncCyclesSpec)

/-- ITS FALSE NEIGHBOUR: 'it returns false'. Refute it at one input. -/
def asyncCyclesWrong : ChangeSpec := { name := "asyncCycles", fn := fun _ => fun
  | [d1, d2] => { results := [.lit (.bool false)], args := [d1, d2] }
  | _ => none }
def AsyncCyclesWrongFalsely : Prop := asyncCyclesRow.holds Try.pinned (OpenSpec.ofChange asyncCyclesWrong)

/-- 'signpostlaw.NetAlways': WHATEVER THE INPUT: true; the input reads as it did. -/
def netAlwaysSpec : ChangeSpec := { name := "netAlways", fn := fun _ => fun
  | [d1, d2, d3] => { results := [.lit (.bool true)], args := [d1, d2, d3] }
  | _ => none }
def netAlwaysRow : OpenClaim := { program := "ytephecognbbaoab", sum := "49c390851938105a94f4498d1cda6891ba1b541824d55ef7963727cc32833208", func := "signpost/signpostlaw.NetAlways", spec := "netAlways", unfollowed := true, recurses := true, plainKeys := false, apart := false }
def NetAlwaysSaid : Prop := netAlwaysRow.holds Try.pinned (OpenSpec.ofChange netAlwaysSpec)

/-- ITS FALSE NEIGHBOUR: 'it returns false'. Refute it at one input. -/
def netAlwaysWrong : ChangeSpec := { name := "netAlways", fn := fun _ => fun
  | [d1, d2, d3] => { results := [.lit (.bool false)], args := [d1, d2, d3] }
  | _ => none }
def NetAlwaysWrongFalsely : Prop := netAlwaysRow.holds Try.pinned (OpenSpec.ofChange netAlwaysWrong)

/-- 'signpostlaw.PathRounds': WHATEVER THE INPUT: true; the input reads as it did. -/
def pathRoundsSpec : ChangeSpec := { name := "pathRounds", fn := fun _ => fun
  | [d1, d2, d3] => { results := [.lit (.bool true)], args := [d1, d2, d3] }
  | _ => none }
def pathRoundsRow : OpenClaim := { program := "ytephecognbbaoab", sum := "49c390851938105a94f4498d1cda6891ba1b541824d55ef7963727cc32833208", func := "signpost/signpostlaw.PathRounds", spec := "pathRounds", unfollowed := true, recurses := true, plainKeys := false, apart := false }
def PathRoundsSaid : Prop := pathRoundsRow.holds Try.pinned (OpenSpec.ofChange pathRoundsSpec)

/-- ITS FALSE NEIGHBOUR: 'it returns false'. Refute it at one input. -/
def pathRoundsWrong : ChangeSpec := { name := "pathRounds", fn := fun _ => fun
  | [d1, d2, d3] => { results := [.lit (.bool false)], args := [d1, d2, d3] }
  | _ => none }
def PathRoundsWrongFalsely : Prop := pathRoundsRow.holds Try.pinned (OpenSpec.ofChange pathRoundsWrong)

/-- 'signpostlaw.PathBests': WHATEVER THE INPUT: true; the input reads as it did. -/
def pathBestsSpec : ChangeSpec := { name := "pathBests", fn := fun _ => fun
  | [d1, d2, d3, d4, d5] => { results := [.lit (.bool true)], args := [d1, d2, d3, d4, d5] }
  | _ => none }
def pathBestsRow : OpenClaim := { program := "ytephecognbbaoab", sum := "49c390851938105a94f4498d1cda6891ba1b541824d55ef7963727cc32833208", func := "signpost/signpostlaw.PathBests", spec := "pathBests", unfollowed := true, recurses := true, plainKeys := false, apart := false }
def PathBestsSaid : Prop := pathBestsRow.holds Try.pinned (OpenSpec.ofChange pathBestsSpec)

/-- ITS FALSE NEIGHBOUR: 'it returns false'. Refute it at one input. -/
def pathBestsWrong : ChangeSpec := { name := "pathBests", fn := fun _ => fun
  | [d1, d2, d3, d4, d5] => { results := [.lit (.bool false)], args := [d1, d2, d3, d4, d5] }
  | _ => none }
def PathBestsWrongFalsely : Prop := pathBestsRow.holds Try.pinned (OpenSpec.ofChange pathBestsWrong)

/-- 'signpostlaw.AsyncSettles': WHATEVER THE INPUT: true; the input reads as it did. -/
def asyncSettlesSpec : ChangeSpec := { name := "asyncSettles", fn := fun _ => fun
  | [d1, d2, d3] => { results := [.lit (.bool true)], args := [d1, d2, d3] }
  | _ => none }
def asyncSettlesRow : OpenClaim := { program := "ytephecognbbaoab", sum := "49c390851938105a94f4498d1cda6891ba1b541824d55ef7963727cc32833208", func := "signpost/signpostlaw.AsyncSettles", spec := "asyncSettles", unfollowed := true, recurses := true, plainKeys := false, apart := false }
def AsyncSettlesSaid : Prop := asyncSettlesRow.holds Try.pinned (OpenSpec.ofChange asyncSettlesSpec)

/-- ITS FALSE NEIGHBOUR: 'it returns false'. Refute it at one input. -/
def asyncSettlesWrong : ChangeSpec := { name := "asyncSettles", fn := fun _ => fun
  | [d1, d2, d3] => { results := [.lit (.bool false)], args := [d1, d2, d3] }
  | _ => none }
def AsyncSettlesWrongFalsely : Prop := asyncSettlesRow.holds Try.pinned (OpenSpec.ofChange asyncSettlesWrong)

/-- 'signpostlaw.TableLeads': WHATEVER THE INPUT: true; the input reads as it did. -/
def tableLeadsSpec : ChangeSpec := { name := "tableLeads", fn := fun _ => fun
  | [d1, d2, d3, d4] => { results := [.lit (.bool true)], args := [d1, d2, d3, d4] }
  | _ => none }
def tableLeadsRow : OpenClaim := { program := "ytephecognbbaoab", sum := "49c390851938105a94f4498d1cda6891ba1b541824d55ef7963727cc32833208", func := "signpost/signpostlaw.TableLeads", spec := "tableLeads", unfollowed := true, recurses := true, plainKeys := false, apart := false }
def TableLeadsSaid : Prop := tableLeadsRow.holds Try.pinned (OpenSpec.ofChange tableLeadsSpec)

/-- ITS FALSE NEIGHBOUR: 'it returns false'. Refute it at one input. -/
def tableLeadsWrong : ChangeSpec := { name := "tableLeads", fn := fun _ => fun
  | [d1, d2, d3, d4] => { results := [.lit (.bool false)], args := [d1, d2, d3, d4] }
  | _ => none }
def TableLeadsWrongFalsely : Prop := tableLeadsRow.holds Try.pinned (OpenSpec.ofChange tableLeadsWrong)

/-- 'signpostlaw.PathAlways': WHATEVER THE INPUT: true; the input reads as it did. -/
def pathAlwaysSpec : ChangeSpec := { name := "pathAlways", fn := fun _ => fun
  | [d1, d2, d3] => { results := [.lit (.bool true)], args := [d1, d2, d3] }
  | _ => none }
def pathAlwaysRow : OpenClaim := { program := "ytephecognbbaoab", sum := "49c390851938105a94f4498d1cda6891ba1b541824d55ef7963727cc32833208", func := "signpost/signpostlaw.PathAlways", spec := "pathAlways", unfollowed := true, recurses := true, plainKeys := false, apart := false }
def PathAlwaysSaid : Prop := pathAlwaysRow.holds Try.pinned (OpenSpec.ofChange pathAlwaysSpec)

/-- ITS FALSE NEIGHBOUR: 'it returns false'. Refute it at one input. -/
def pathAlwaysWrong : ChangeSpec := { name := "pathAlways", fn := fun _ => fun
  | [d1, d2, d3] => { results := [.lit (.bool false)], args := [d1, d2, d3] }
  | _ => none }
def PathAlwaysWrongFalsely : Prop := pathAlwaysRow.holds Try.pinned (OpenSpec.ofChange pathAlwaysWrong)

/-- 'signpostlaw.EngineSpoilt': WHATEVER THE INPUT: true; the input reads as it did. -/
def engineSpoiltSpec : ChangeSpec := { name := "engineSpoilt", fn := fun _ => fun
  | [d1, d2, d3, d4, d5] => { results := [.lit (.bool true)], args := [d1, d2, d3, d4, d5] }
  | _ => none }
def engineSpoiltRow : OpenClaim := { program := "ytephecognbbaoab", sum := "49c390851938105a94f4498d1cda6891ba1b541824d55ef7963727cc32833208", func := "signpost/signpostlaw.EngineSpoilt", spec := "engineSpoilt", unfollowed := true, recurses := true, plainKeys := false, apart := false }
def EngineSpoiltSaid : Prop := engineSpoiltRow.holds Try.pinned (OpenSpec.ofChange engineSpoiltSpec)

/-- ITS FALSE NEIGHBOUR: 'it returns false'. Refute it at one input. -/
def engineSpoiltWrong : ChangeSpec := { name := "engineSpoilt", fn := fun _ => fun
  | [d1, d2, d3, d4, d5] => { results := [.lit (.bool false)], args := [d1, d2, d3, d4, d5] }
  | _ => none }
def EngineSpoiltWrongFalsely : Prop := engineSpoiltRow.holds Try.pinned (OpenSpec.ofChange engineSpoiltWrong)

/- THE SECOND FORM. 'bulk': how many values and letters a reading holds, each counted each time it is reached (what is shared counts as often as it is met; a slice's spare places count too). A statement '..UptoSaid' is the law's where the arguments, and the package variables that the reading takes, are together of bulk at most 1048576: NARROWER than '..Said'. Prove '..Said' where nothing that the law and all that it calls make is longer than what came in: it says more and counts as full. Else prove '..UptoSaid'. A law counts once. -/
mutual
def uptoBulk {H : Type} : DataW H → Nat
  | .lit (.string bytes) => bytes.length + 1
  | .lit _ => 1
  | .nil => 1
  | .ptr d => uptoBulk d + 1
  | .slice elems spare => uptoBulkAll elems + uptoBulkAll spare + 1
  | .agg parts => uptoBulkAll parts + 1
  | .iface _ d => uptoBulk d + 1
  | .map entries => uptoBulkEntries entries + 1
  | .held _ => 1
def uptoBulkAll {H : Type} : List (DataW H) → Nat
  | [] => 0
  | d :: r => uptoBulk d + uptoBulkAll r
def uptoBulkEntries {H : Type} : List (Lit × DataW H) → Nat
  | [] => 0
  | x :: r => uptoBulkEntry x + uptoBulkEntries r
def uptoBulkEntry {H : Type} : Lit × DataW H → Nat
  | (.string bytes, d) => bytes.length + uptoBulk d + 1
  | (_, d) => uptoBulk d + 1
 end
def uptoSmall : (H : Type) → List (DataW H) → Bool := fun _ ds => decide (uptoBulkAll ds ≤ 1048576)
def OpenSpec.upto (s : _root_.Go.ChangeSpec) : _root_.Go.OpenSpec := { _root_.Go.OpenSpec.ofChange s with cond := some uptoSmall }

/-- 'signpostlaw.PlanLawful', WHERE WHAT IT READS IS OF BULK AT MOST 1048576: true; the input reads as it did. -/
def planLawfulUptoRow : OpenClaim := { program := "ytephecognbbaoab", sum := "49c390851938105a94f4498d1cda6891ba1b541824d55ef7963727cc32833208", func := "signpost/signpostlaw.PlanLawful", spec := "planLawful", unfollowed := true, recurses := true, loops := true, plainKeys := false, apart := false, narrowed := true }
def PlanLawfulUptoSaid : Prop := planLawfulUptoRow.holds Try.pinned (OpenSpec.upto planLawfulSpec)

/-- 'signpostlaw.NetRounds', WHERE WHAT IT READS IS OF BULK AT MOST 1048576: true; the input reads as it did. -/
def netRoundsUptoRow : OpenClaim := { program := "ytephecognbbaoab", sum := "49c390851938105a94f4498d1cda6891ba1b541824d55ef7963727cc32833208", func := "signpost/signpostlaw.NetRounds", spec := "netRounds", unfollowed := true, recurses := true, plainKeys := false, apart := false, narrowed := true }
def NetRoundsUptoSaid : Prop := netRoundsUptoRow.holds Try.pinned (OpenSpec.upto netRoundsSpec)

/-- 'signpostlaw.AsyncRuns', WHERE WHAT IT READS IS OF BULK AT MOST 1048576: true; the input reads as it did. -/
def asyncRunsUptoRow : OpenClaim := { program := "ytephecognbbaoab", sum := "49c390851938105a94f4498d1cda6891ba1b541824d55ef7963727cc32833208", func := "signpost/signpostlaw.AsyncRuns", spec := "asyncRuns", unfollowed := true, recurses := true, plainKeys := false, apart := false, narrowed := true }
def AsyncRunsUptoSaid : Prop := asyncRunsUptoRow.holds Try.pinned (OpenSpec.upto asyncRunsSpec)

/-- 'signpostlaw.AsyncCycles', WHERE WHAT IT READS IS OF BULK AT MOST 1048576: true; the input reads as it did. -/
def asyncCyclesUptoRow : OpenClaim := { program := "ytephecognbbaoab", sum := "49c390851938105a94f4498d1cda6891ba1b541824d55ef7963727cc32833208", func := "signpost/signpostlaw.AsyncCycles", spec := "asyncCycles", unfollowed := true, recurses := true, plainKeys := false, apart := false, narrowed := true }
def AsyncCyclesUptoSaid : Prop := asyncCyclesUptoRow.holds Try.pinned (OpenSpec.upto asyncCyclesSpec)

/-- 'signpostlaw.NetAlways', WHERE WHAT IT READS IS OF BULK AT MOST 1048576: true; the input reads as it did. -/
def netAlwaysUptoRow : OpenClaim := { program := "ytephecognbbaoab", sum := "49c390851938105a94f4498d1cda6891ba1b541824d55ef7963727cc32833208", func := "signpost/signpostlaw.NetAlways", spec := "netAlways", unfollowed := true, recurses := true, plainKeys := false, apart := false, narrowed := true }
def NetAlwaysUptoSaid : Prop := netAlwaysUptoRow.holds Try.pinned (OpenSpec.upto netAlwaysSpec)

/-- 'signpostlaw.PathRounds', WHERE WHAT IT READS IS OF BULK AT MOST 1048576: true; the input reads as it did. -/
def pathRoundsUptoRow : OpenClaim := { program := "ytephecognbbaoab", sum := "49c390851938105a94f4498d1cda6891ba1b541824d55ef7963727cc32833208", func := "signpost/signpostlaw.PathRounds", spec := "pathRounds", unfollowed := true, recurses := true, plainKeys := false, apart := false, narrowed := true }
def PathRoundsUptoSaid : Prop := pathRoundsUptoRow.holds Try.pinned (OpenSpec.upto pathRoundsSpec)

/-- 'signpostlaw.PathBests', WHERE WHAT IT READS IS OF BULK AT MOST 1048576: true; the input reads as it did. -/
def pathBestsUptoRow : OpenClaim := { program := "ytephecognbbaoab", sum := "49c390851938105a94f4498d1cda6891ba1b541824d55ef7963727cc32833208", func := "signpost/signpostlaw.PathBests", spec := "pathBests", unfollowed := true, recurses := true, plainKeys := false, apart := false, narrowed := true }
def PathBestsUptoSaid : Prop := pathBestsUptoRow.holds Try.pinned (OpenSpec.upto pathBestsSpec)

/-- 'signpostlaw.AsyncSettles', WHERE WHAT IT READS IS OF BULK AT MOST 1048576: true; the input reads as it did. -/
def asyncSettlesUptoRow : OpenClaim := { program := "ytephecognbbaoab", sum := "49c390851938105a94f4498d1cda6891ba1b541824d55ef7963727cc32833208", func := "signpost/signpostlaw.AsyncSettles", spec := "asyncSettles", unfollowed := true, recurses := true, plainKeys := false, apart := false, narrowed := true }
def AsyncSettlesUptoSaid : Prop := asyncSettlesUptoRow.holds Try.pinned (OpenSpec.upto asyncSettlesSpec)

/-- 'signpostlaw.TableLeads', WHERE WHAT IT READS IS OF BULK AT MOST 1048576: true; the input reads as it did. -/
def tableLeadsUptoRow : OpenClaim := { program := "ytephecognbbaoab", sum := "49c390851938105a94f4498d1cda6891ba1b541824d55ef7963727cc32833208", func := "signpost/signpostlaw.TableLeads", spec := "tableLeads", unfollowed := true, recurses := true, plainKeys := false, apart := false, narrowed := true }
def TableLeadsUptoSaid : Prop := tableLeadsUptoRow.holds Try.pinned (OpenSpec.upto tableLeadsSpec)

/-- 'signpostlaw.PathAlways', WHERE WHAT IT READS IS OF BULK AT MOST 1048576: true; the input reads as it did. -/
def pathAlwaysUptoRow : OpenClaim := { program := "ytephecognbbaoab", sum := "49c390851938105a94f4498d1cda6891ba1b541824d55ef7963727cc32833208", func := "signpost/signpostlaw.PathAlways", spec := "pathAlways", unfollowed := true, recurses := true, plainKeys := false, apart := false, narrowed := true }
def PathAlwaysUptoSaid : Prop := pathAlwaysUptoRow.holds Try.pinned (OpenSpec.upto pathAlwaysSpec)

/-- 'signpostlaw.EngineSpoilt', WHERE WHAT IT READS IS OF BULK AT MOST 1048576: true; the input reads as it did. -/
def engineSpoiltUptoRow : OpenClaim := { program := "ytephecognbbaoab", sum := "49c390851938105a94f4498d1cda6891ba1b541824d55ef7963727cc32833208", func := "signpost/signpostlaw.EngineSpoilt", spec := "engineSpoilt", unfollowed := true, recurses := true, plainKeys := false, apart := false, narrowed := true }
def EngineSpoiltUptoSaid : Prop := engineSpoiltUptoRow.holds Try.pinned (OpenSpec.upto engineSpoiltSpec)

end Rows
end Go.Proofs.Ytephecognbbaoab
