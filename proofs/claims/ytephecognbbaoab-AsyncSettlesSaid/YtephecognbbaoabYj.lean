/- Schedules: what must be in any case. -/
import Derived.Test.YtephecognbbaoabYd
import Derived.Test.YtephecognbbaoabYe
import Derived.Test.YtephecognbbaoabNm
namespace Go.Proofs.Ytephecognbbaoab
open Go
set_option linter.all false
set_option maxRecDepth 100000
set_option maxHeartbeats 4000000

def twoT : List Trn := [⟨[true, false], [[1, 1], [1, 1]]⟩, ⟨[false, true], [[1, 1], [1, 1]]⟩]
theorem twoT_ok : TsOk twoT := ⟨by decide, fun u hu => by
  have h : u = ⟨[true, false], [[1, 1], [1, 1]]⟩ ∨ u = ⟨[false, true], [[1, 1], [1, 1]]⟩ := by simpa [twoT] using hu
  rcases h with rfl | rfl <;> exact ⟨by decide, ⟨by decide, by decide⟩⟩⟩
theorem twoT_check : checkT twoN twoT = 0 := by decide +kernel
theorem twoT_run : runC twoN [[2, 2], [2, 2]] twoT = .tup [statesA [[[2, 2], [2, 2]], [[0, 2], [2, 2]], [[0, 2], [1, 0]]], intA1 0] := by
  have h1 : errT twoN [[2, 2], [2, 2]] twoT = 0 := by decide +kernel
  have h2 : runA twoN [[2, 2], [2, 2]] twoT = [[[2, 2], [2, 2]], [[0, 2], [2, 2]], [[0, 2], [1, 0]]] := by decide +kernel
  rw [runC, h1, if_pos rfl, h2]
theorem twoT_cycles : cyclesErr twoN twoT = .tup [intA1 1, intA1 0] := by
  have h2 : cyclesA twoN twoT = 1 := by decide +kernel
  rw [cyclesErr, twoT_check, if_pos rfl, h2]

theorem asyncBegun_calls (σ : Store) : ACalls Try.prog 32 [] σ fun r σ' => σ' = σ ∧ r = .c (.bool true) := by
  have hR := run_calls twoN [[2, 2], [2, 2]] twoT twoN_ok ⟨by decide, by decide⟩ twoT_ok
  rw [twoT_run] at hR
  have hC := cycles_calls twoN twoT twoN_ok twoT_ok
  rw [twoT_cycles] at hC
  have hK2 := asyncCheck_calls twoN twoT twoN_ok twoT_ok
  rw [twoT_check] at hK2
  have hE : ∀ S, ACalls Try.prog 35 [rowsC [[0, 2], [1, 0]], rowsC [[0, 2], [1, 0]]] S fun r σ' => σ' = S ∧ r = .c (.bool true) := fun S => sameState_calls [[0, 2], [1, 0]] [[0, 2], [1, 0]] ⟨by decide, by decide⟩ S
  refine ACalls.cutX ?_
  refine ACalls_of_awp Try.func32 rfl Try.results32 ?_
  simp only [List.length_cons, List.length_nil, Try.ntmps32, Nat.reduceAdd, Nat.reduceSub, enterA]
  (repeat' (first|(refine g_s fun K hK=>?_)|(refine g_b ?_)|(refine g_r ?_)|(refine g_k ?_;simp only[thenQ,blockQ])|(refine g_e ?_;simp only[thenQ,blockQ,↓reduceIte,Nat.reduceEqDiff])|(refine g_c (fun h=>?_) (fun h=>?_)<;>(try simp only[go_sem] at h)<;>(try exact g_f))|((first|refine g_t ?_|refine g_G ?_|refine g_U ?_|refine g_A ?_|refine (two_calls _).use ?_|refine g_q (fun τ=>two_calls _) ?_|refine (hR _).use ?_|refine g_q (fun τ=>hR _) ?_|refine (hC _).use ?_|refine g_q (fun τ=>hC _) ?_|refine (hK2 _).use ?_|refine g_q (fun τ=>hK2 _) ?_|refine (hE _).use ?_|refine g_q (fun τ=>hE _) ?_|refine g_W ?_);(try simp -implicitDefEqProofs only[go_sem]))|(with_reducible refine hK _ _ ?_;clear hK K)|(clear hK K;first|(with_reducible refine hK _ _ ?_;clear hK K)|(clear hK K;with_reducible refine hK _ _ ?_;clear hK K)|(clear hK K;clear hK K;with_reducible refine hK _ _ ?_;clear hK K))|(with_reducible refine splitB_intro (fun h=>?_) (fun h=>?_)<;>(try simp only[go_sem] at h)<;>(try exact g_f)<;>(try simp -implicitDefEqProofs only[go_sem]))|(with_reducible refine And.intro (fun h=>?_) (fun h=>?_)<;>(try simp only[go_sem] at h)<;>(try exact g_f))|(with_reducible refine And.intro ?_ ?_;· exact g_x)|(with_reducible intro h;(try simp only[go_sem] at h);(try exact g_f))))
  exact CutQ_c (τ := []) (by simp) rfl
end Go.Proofs.Ytephecognbbaoab
