/- Plans that are handed to a law. -/
import Derived.Test.YtephecognbbaoaaBa
import Derived.Test.YtephecognbbaoaaRd
namespace Go.Proofs.Ytephecognbbaoaa
open Go
set_option linter.all false
set_option maxRecDepth 100000
set_option maxHeartbeats 4000000

theorem readsPlB {W : World} : ∀ B : Nat, ReadsB Try.prog W B 54 plC PlOk
  | 0 => .zero
  | B + 1 => by
    have hp : ReadsB Try.prog W B 52 (fun l : List Pl => [plsA l]) (fun l => (∀ x ∈ l, PlOk x) ∧ l.length * Try.prog.bytesOf 54 ≤ reachBytes) :=
      (ReadsB.slice (k := 4) Try.underlying52 (by kernel_rfl) (by omega) plC_length (readsPlB B)).less (by omega)
    have he : Reads Try.prog W 22 (fun l : List Int => [intsA l]) (fun l => (∀ x ∈ l, I64 x) ∧ l.length * Try.prog.bytesOf 3 ≤ reachBytes) := Reads.slice Try.underlying22 (k := 1) (by kernel_rfl) (by omega) (fun _ => rfl) (Reads.int Try.underlying3)
    have h0 := ReadsB.struct (P := Try.prog) (W := W) (t := 54) (n := 1 + (1 + (1 + (1 + 0)))) Try.underlying54 (by kernel_rfl)
      (ReadsFB.cons (k := 1) rfl (by kernel_rfl) ((Reads.int Try.underlying3).toB B) (ReadsFB.cons (k := 1) rfl (by kernel_rfl) ((Reads.int Try.underlying3).toB B) (ReadsFB.cons (k := 1) rfl (by kernel_rfl) (he.toB B) (ReadsFB.cons (k := 1) rfl (by kernel_rfl) hp ReadsFB.nil))))
    refine ReadsB.map (X := Int × Int × List Int × List Pl × Unit) (fun x => Pl.mk x.1 x.2.1 x.2.2.1 x.2.2.2.1) (fun x => plC_mk _ _ _ _) (fun x h => ?_) h0
    obtain ⟨h1, h2, h3, h4, _⟩ := h
    have h5 : Try.prog.bytesOf 54 = 64 := by kernel_rfl
    have h6 : Try.prog.bytesOf 3 = 8 := by kernel_rfl
    have h7 : reachBytes = 140737488351232 := rfl
    have h8 := h3.2
    have h9 := h4.2
    rw [h6, h7] at h8
    rw [h5, h7] at h9
    exact .mk _ _ _ _ h1 h2 (by omega) h3.1 (by omega) h4.1

theorem readsPl {W : World} : Reads Try.prog W 54 plC PlOk := .ofB readsPlB
end Go.Proofs.Ytephecognbbaoaa
