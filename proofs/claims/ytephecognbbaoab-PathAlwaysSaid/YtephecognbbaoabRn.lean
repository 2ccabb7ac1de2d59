/- Nets and states that are handed to a law. -/
import Derived.Test.YtephecognbbaoabNd
import Derived.Test.YtephecognbbaoabRa
namespace Go.Proofs.Ytephecognbbaoab
open Go
set_option linter.all false
set_option maxRecDepth 100000
set_option maxHeartbeats 4000000

theorem readsLinks {W : World} : Reads Try.prog W 38 (fun l : List Lnk => [linksV l]) (fun l => l.length ≤ 5864062014634 ∧ ∀ x ∈ l, I64 x.fr ∧ I64 x.dst ∧ I64 x.edge) := by
  have h0 := Reads.struct (P := Try.prog) (W := W) (t := 84) (n := 1 + (1 + (1 + 0))) Try.underlying84 (by kernel_rfl) (ReadsF.cons (k := 1) rfl (by kernel_rfl) (Reads.int Try.underlying3) (ReadsF.cons (k := 1) rfl (by kernel_rfl) (Reads.int Try.underlying3) (ReadsF.cons (k := 1) rfl (by kernel_rfl) (Reads.int Try.underlying3) ReadsF.nil)))
  have h1 : Reads Try.prog W 84 lnkC (fun x => I64 x.fr ∧ I64 x.dst ∧ I64 x.edge) := Reads.map (X := Int × Int × Int × Unit) (fun x => (⟨x.1, x.2.1, x.2.2.1⟩ : Lnk)) (fun _ => rfl) (fun x h => ⟨h.1, h.2.1, h.2.2.1⟩) h0
  have h2 := Reads.slice (P := Try.prog) (W := W) (t := 38) (k := 3) Try.underlying38 (by kernel_rfl) (by omega) (fun _ => rfl) h1
  refine Reads.map (X := List Lnk) (fun x => x) (fun _ => rfl) (fun x h => ⟨?_, h.1⟩) h2
  have h1 : x.length * Try.prog.bytesOf 84 ≤ reachBytes := h.2
  have h2 : Try.prog.bytesOf 84 = 24 := by kernel_rfl
  have h3 : reachBytes = 140737488351232 := rfl
  rw [h2, h3] at h1
  omega

theorem readsNet {W : World} : Reads Try.prog W 40 netC NetOk := by
  have h0 := Reads.struct (P := Try.prog) (W := W) (t := 40) (n := 3 + (1 + (1 + 0))) Try.underlying40 (by kernel_rfl) (ReadsF.cons (k := 3) rfl (by kernel_rfl) readsAlg (ReadsF.cons (k := 1) rfl (by kernel_rfl) (Reads.int Try.underlying3) (ReadsF.cons (k := 1) rfl (by kernel_rfl) readsLinks ReadsF.nil)))
  refine Reads.map (X := Alg × Int × List Lnk × Unit) (fun x => (⟨x.1, x.2.1, x.2.2.1⟩ : Net)) (fun _ => rfl) (fun x h => ?_) h0
  obtain ⟨h1, h2, h3, _⟩ := h
  exact ⟨h1, h2, h3.1, h3.2⟩

theorem readsState {W : World} : Reads Try.prog W 27 (fun l : List (List Int) => [rowsC l]) StOk :=
  Reads.map (X := List (List Int)) (fun x => x) (fun _ => rfl) (fun x h => ⟨h.1, h.2⟩) readsRows

theorem readsInts {W : World} : Reads Try.prog W 22 (fun l : List Int => [intsA l]) (fun l => l.length ≤ 17592186044000) :=
  Reads.map (X := List Int) (fun x => x) (fun _ => rfl) (fun x h => by
      have h4 : x.length * Try.prog.bytesOf 3 ≤ reachBytes := h.2
      have h5 : Try.prog.bytesOf 3 = 8 := by kernel_rfl
      have h3 : reachBytes = 140737488351232 := rfl
      rw [h5, h3] at h4
      omega)
    (Reads.slice Try.underlying22 (k := 1) (by kernel_rfl) (by omega) (fun _ => rfl) (Reads.int Try.underlying3))
end Go.Proofs.Ytephecognbbaoab
