/- Turns that are handed to a law. -/
import Derived.Test.YtephecognbbaoabRn
import Derived.Test.YtephecognbbaoabYa
namespace Go.Proofs.Ytephecognbbaoab
open Go
set_option linter.all false
set_option maxRecDepth 100000
set_option maxHeartbeats 4000000

theorem readsBools {W : World} : Reads Try.prog W 125 (fun l : List Bool => [boolsA l]) (fun l => l.length ≤ 140737488355328) :=
  Reads.map (X := List Bool) (fun x => x) (fun _ => rfl) (fun x h => by
      have h4 : x.length * Try.prog.bytesOf 4 ≤ reachBytes := h.2
      have h5 : Try.prog.bytesOf 4 = 1 := by kernel_rfl
      have h3 : reachBytes = 140737488351232 := rfl
      rw [h5, h3] at h4
      omega)
    (Reads.slice Try.underlying125 (k := 1) (by kernel_rfl) (by omega) (fun _ => rfl) (Reads.bool Try.underlying4))

theorem readsTrn {W : World} : Reads Try.prog W 127 trnC TrnOk := by
  have h0 := Reads.struct (P := Try.prog) (W := W) (t := 127) (n := 1 + (1 + 0)) Try.underlying127 (by kernel_rfl) (ReadsF.cons (k := 1) rfl (by kernel_rfl) readsBools (ReadsF.cons (k := 1) rfl (by kernel_rfl) readsState ReadsF.nil))
  exact Reads.map (X := List Bool × List (List Int) × Unit) (fun x => (⟨x.1, x.2.1⟩ : Trn)) (fun _ => rfl) (fun x h => ⟨h.1, h.2.1⟩) h0

theorem readsTrns {W : World} : Reads Try.prog W 50 (fun l : List Trn => [trnsA l]) TsOk := by
  have h2 := Reads.slice (P := Try.prog) (W := W) (t := 50) (k := 2) Try.underlying50 (by kernel_rfl) (by omega) (fun _ => rfl) (readsTrn (W := W))
  refine Reads.map (X := List Trn) (fun x => x) (fun _ => rfl) (fun x h => ⟨?_, h.1⟩) h2
  have h1 : x.length * Try.prog.bytesOf 127 ≤ reachBytes := h.2
  have h2 : Try.prog.bytesOf 127 = 48 := by kernel_rfl
  have h3 : reachBytes = 140737488351232 := rfl
  rw [h2, h3] at h1
  omega
end Go.Proofs.Ytephecognbbaoab
