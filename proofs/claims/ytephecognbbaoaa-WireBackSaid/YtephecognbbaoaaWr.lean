/- Packets that are handed to a law. -/
import Derived.Test.YtephecognbbaoaaWd
namespace Go.Proofs.Ytephecognbbaoaa
open Go
set_option linter.all false
set_option maxRecDepth 100000

theorem readsPacket {W : World} : Reads Try.prog W 24 packetC (fun p => p.routes.length ≤ 17592186044000) :=
  Reads.map (X := Int × Int × List Int × Unit) (fun x => (⟨x.1, x.2.1, x.2.2.1⟩ : Packet)) (fun _ => rfl) (fun x h => by
      have h1 : x.2.2.1.length * Try.prog.bytesOf 3 ≤ reachBytes := h.2.2.1.2
      have h2 : Try.prog.bytesOf 3 = 8 := by kernel_rfl
      have h3 : reachBytes = 140737488351232 := rfl
      rw [h2, h3] at h1
      show x.2.2.1.length ≤ _
      omega)
    (Reads.struct Try.underlying24 (by kernel_rfl) (ReadsF.cons (k := 1) rfl (by kernel_rfl) (Reads.int Try.underlying3) (ReadsF.cons (k := 1) rfl (by kernel_rfl) (Reads.int Try.underlying3)
      (ReadsF.cons (k := 1) rfl (by kernel_rfl) (Reads.slice Try.underlying22 (k := 1) (by kernel_rfl) (by omega) (fun _ => rfl) (Reads.int Try.underlying3)) ReadsF.nil))))
end Go.Proofs.Ytephecognbbaoaa
