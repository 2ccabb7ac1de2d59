/- Routes that are handed to a law. -/
import Derived.Test.YtephecognbbaoabRn
import Derived.Test.YtephecognbbaoabUa
namespace Go.Proofs.Ytephecognbbaoab
open Go
set_option linter.all false
set_option maxRecDepth 100000
set_option maxHeartbeats 4000000

theorem readsRt {W : World} : Reads Try.prog W 77 rtC RtOk := by
  have h0 := Reads.struct (P := Try.prog) (W := W) (t := 77) (n := 1 + (1 + 0)) Try.underlying77 (by kernel_rfl) (ReadsF.cons (k := 1) rfl (by kernel_rfl) (Reads.int Try.underlying3) (ReadsF.cons (k := 1) rfl (by kernel_rfl) readsInts ReadsF.nil))
  exact Reads.map (X := Int × List Int × Unit) (fun x => (⟨x.1, x.2.1⟩ : Rt)) (fun _ => rfl) (fun x h => ⟨h.1, h.2.1⟩) h0

theorem readsRts {W : World} : Reads Try.prog W 65 (fun l : List (List Rt) => [rtsC l]) RtsOk :=
  Reads.map (X := List (List Rt)) (fun x => x) (fun _ => rfl) (fun x h => by
      have h1 : x.length * Try.prog.bytesOf 94 ≤ reachBytes := h.2
      have h2 : Try.prog.bytesOf 94 = 24 := by kernel_rfl
      have h3 : reachBytes = 140737488351232 := rfl
      rw [h2, h3] at h1
      refine ⟨by omega, fun r hr => ⟨?_, (h.1 r hr).1⟩⟩
      have h4 : r.length * Try.prog.bytesOf 77 ≤ reachBytes := (h.1 r hr).2
      have h5 : Try.prog.bytesOf 77 = 32 := by kernel_rfl
      rw [h5, h3] at h4
      omega)
    (Reads.slice Try.underlying65 (k := 1) (by kernel_rfl) (by omega) (fun _ => rfl) (Reads.slice Try.underlying94 (k := 2) (by kernel_rfl) (by omega) (fun _ => rfl) readsRt))
end Go.Proofs.Ytephecognbbaoab
