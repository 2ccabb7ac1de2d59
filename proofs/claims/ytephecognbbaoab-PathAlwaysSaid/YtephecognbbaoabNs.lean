/- A state beside an errno, told as it must be. -/
import Derived.Test.YtephecognbbaoabNm
namespace Go.Proofs.Ytephecognbbaoab
open Go
set_option linter.all false
set_option maxRecDepth 100000
set_option maxHeartbeats 4000000

theorem stateIs_good (x : List (List Int)) (hx : StOk x) (S : Store) : ACalls Try.prog 28 [rowsC x, intA1 0, intA1 0, rowsC x] S fun r σ' => σ' = S ∧ r = .c (.bool true) := by
  have h := stateIs_calls x x 0 0 hx S
  rw [show (decide ((0 : Int) = 0) && decide (x = if (0 : Int) = 0 then x else [])) = true by simp] at h
  exact h

theorem stateIs_bad (e : Int) (S : Store) : ACalls Try.prog 28 [rowsC [], intA1 e, intA1 e, .c (.slice none 0 0)] S fun r σ' => σ' = S ∧ r = .c (.bool true) := by
  have h := (stateIs_calls [] [] e e ⟨by simp, fun r hr => by cases hr⟩ S).argW (args := [rowsC [], intA1 e, intA1 e, .c (.slice none 0 0)]) (.cons (.refl _) (.cons (.refl _) (.cons (.refl _) (.cons .nil .nil))))
  rw [show (decide (e = e) && decide (([] : List (List Int)) = if e = 0 then [] else [])) = true by simp] at h
  exact h
end Go.Proofs.Ytephecognbbaoab
