/- Algebras that are handed to a law. -/
import Derived.Test.YtephecognbbaoabAl
import Derived.Test.YtephecognbbaoabRd
namespace Go.Proofs.Ytephecognbbaoab
open Go
set_option linter.all false
set_option maxRecDepth 100000
set_option maxHeartbeats 4000000

/-- What is known of a broken law that came in. -/
def BrkOk (b : Brk) : Prop := I64 b.law ∧ I64 b.a ∧ I64 b.b ∧ I64 b.c ∧ I64 b.edge

theorem readsRows {W : World} : Reads Try.prog W 27 (fun l : List (List Int) => [rowsC l]) (fun l => l.length ≤ 5864062014634 ∧ ∀ r ∈ l, r.length ≤ 17592186044000) :=
  Reads.map (X := List (List Int)) (fun x => x) (fun _ => rfl) (fun x h => by
      have h1 : x.length * Try.prog.bytesOf 22 ≤ reachBytes := h.2
      have h2 : Try.prog.bytesOf 22 = 24 := by kernel_rfl
      have h3 : reachBytes = 140737488351232 := rfl
      rw [h2, h3] at h1
      refine ⟨by omega, fun r hr => ?_⟩
      have h4 : r.length * Try.prog.bytesOf 3 ≤ reachBytes := (h.1 r hr).2
      have h5 : Try.prog.bytesOf 3 = 8 := by kernel_rfl
      rw [h5, h3] at h4
      omega)
    (Reads.slice Try.underlying27 (k := 1) (by kernel_rfl) (by omega) (fun _ => rfl) (Reads.slice Try.underlying22 (k := 1) (by kernel_rfl) (by omega) (fun _ => rfl) (Reads.int Try.underlying3)))

theorem readsAlg {W : World} : Reads Try.prog W 29 algC AlgOk := by
  have h0 := Reads.struct (P := Try.prog) (W := W) (t := 29) (n := 1 + (1 + (1 + 0))) Try.underlying29 (by kernel_rfl) (ReadsF.cons (k := 1) rfl (by kernel_rfl) (Reads.int Try.underlying3) (ReadsF.cons (k := 1) rfl (by kernel_rfl) readsRows (ReadsF.cons (k := 1) rfl (by kernel_rfl) readsRows ReadsF.nil)))
  refine Reads.map (X := Int × List (List Int) × List (List Int) × Unit) (fun x => (⟨x.1, x.2.1, x.2.2.1⟩ : Alg)) (fun _ => rfl) (fun x h => ?_) h0
  obtain ⟨h1, h2, h3, _⟩ := h
  refine ⟨h2.1, h3.1, h1, fun r hr => ?_⟩
  rcases List.mem_append.1 hr with g | g
  · exact h2.2 r g
  · exact h3.2 r g

theorem readsBrk {W : World} : Reads Try.prog W 34 brkC BrkOk :=
  Reads.map (X := Int × Int × Int × Int × Int × Unit) (fun x => (⟨x.1, x.2.1, x.2.2.1, x.2.2.2.1, x.2.2.2.2.1⟩ : Brk)) (fun _ => rfl) (fun x h => ⟨h.1, h.2.1, h.2.2.1, h.2.2.2.1, h.2.2.2.2.1⟩)
    (Reads.struct Try.underlying34 (by kernel_rfl) (ReadsF.cons (k := 1) rfl (by kernel_rfl) (Reads.int Try.underlying3) (ReadsF.cons (k := 1) rfl (by kernel_rfl) (Reads.int Try.underlying3)
      (ReadsF.cons (k := 1) rfl (by kernel_rfl) (Reads.int Try.underlying3) (ReadsF.cons (k := 1) rfl (by kernel_rfl) (Reads.int Try.underlying3) (ReadsF.cons (k := 1) rfl (by kernel_rfl) (Reads.int Try.underlying3) ReadsF.nil))))))

end Go.Proofs.Ytephecognbbaoab
