/- Tables: what must be in any case. -/
import Derived.Test.YtephecognbbaoabTh
import Derived.Test.YtephecognbbaoabTe
import Derived.Test.YtephecognbbaoabTb
import Derived.Test.YtephecognbbaoabNs
namespace Go.Proofs.Ytephecognbbaoab
open Go
set_option linter.all false
set_option maxRecDepth 100000
set_option maxHeartbeats 4000000

theorem twoN_table : tableC twoN [[0, 1], [1, 0]] = .tup [rowsC [[-1, 1], [0, -1]], intA1 0] := by
  have h1 : fitA twoN [[0, 1], [1, 0]] = 0 := by decide +kernel
  have h2 : tableA twoN [[0, 1], [1, 0]] = [[-1, 1], [0, -1]] := by decide +kernel
  rw [tableC, h1, if_pos rfl, h2]
theorem twoN_walk : walkC twoN [[-1, 1], [0, -1]] 0 1 = .tup [intsA [0, 1], .c (.bool true), intA1 0] := by
  have h1 : walkErr twoN [[-1, 1], [0, -1]] 0 1 = 0 := by decide +kernel
  have h2 : walkF [[-1, 1], [0, -1]] 1 7 0 [0] = ([0, 1], true) := by decide +kernel
  rw [walkC, walkA, h1, if_pos rfl, h2]
theorem twoN_weigh : weighC twoN [0, 1] = .tup [intA1 1, intA1 0] := by
  have h1 : weighErr twoN [0, 1] = 0 := by decide +kernel
  have h2 : (weighA twoN [0, 1]).1 = 1 := by decide +kernel
  rw [weighC, weighV, h1, if_pos rfl, h2]
theorem twoN_paths : pathsC twoN 1 0 = .tup [intA1 1, intA1 0] := by
  have h1 : pathsErr twoN 1 0 = 0 := by decide +kernel
  have h2 : pathsF twoN 0 6 [1] = 1 := by decide +kernel
  rw [pathsC, pathsV, h1, if_pos rfl, h2]

theorem tableBegun_calls (σ : Store) : ACalls Try.prog 54 [] σ fun r σ' => σ' = σ ∧ r = .c (.bool true) := by
  have hT := table_calls twoN [[0, 1], [1, 0]] twoN_ok ⟨by decide, by decide⟩
  rw [twoN_table] at hT
  have hW := walk_calls twoN [[-1, 1], [0, -1]] twoN_ok ⟨by decide, by decide⟩ 0 1
  rw [twoN_walk] at hW
  have hG := weigh_calls twoN [0, 1] twoN_ok (by decide)
  rw [twoN_weigh] at hG
  have hP := paths_calls twoN twoN_ok 1 0
  rw [twoN_paths] at hP
  have hE : ∀ S, ACalls Try.prog 35 [rowsC [[-1, 1], [0, -1]], rowsC [[-1, 1], [0, -1]]] S fun r σ' => σ' = S ∧ r = .c (.bool true) := fun S => sameState_calls [[-1, 1], [0, -1]] [[-1, 1], [0, -1]] ⟨by decide, by decide⟩ S
  refine ACalls.cutX ?_
  refine ACalls_of_awp Try.func54 rfl Try.results54 ?_
  simp only [List.length_cons, List.length_nil, Try.ntmps54, Nat.reduceAdd, Nat.reduceSub, enterA]
  (repeat' (first|(refine g_s fun K hK=>?_)|(refine g_b ?_)|(refine g_r ?_)|(refine g_k ?_;simp only[thenQ,blockQ])|(refine g_e ?_;simp only[thenQ,blockQ,↓reduceIte,Nat.reduceEqDiff])|(refine g_c (fun h=>?_) (fun h=>?_)<;>(try simp only[go_sem] at h)<;>(try exact g_f))|((first|refine g_t ?_|refine g_G ?_|refine g_U ?_|refine g_A ?_|refine (two_calls _).use ?_|refine g_q (fun τ=>two_calls _) ?_|refine (hT _).use ?_|refine g_q (fun τ=>hT _) ?_|refine (hW _).use ?_|refine g_q (fun τ=>hW _) ?_|refine (hG _).use ?_|refine g_q (fun τ=>hG _) ?_|refine (hP _).use ?_|refine g_q (fun τ=>hP _) ?_|refine (hE _).use ?_|refine g_q (fun τ=>hE _) ?_|refine g_W ?_);(try simp -implicitDefEqProofs only[go_sem]))|(with_reducible refine hK _ _ ?_;clear hK K)|(clear hK K;first|(with_reducible refine hK _ _ ?_;clear hK K)|(clear hK K;with_reducible refine hK _ _ ?_;clear hK K)|(clear hK K;clear hK K;with_reducible refine hK _ _ ?_;clear hK K))|(with_reducible refine splitB_intro (fun h=>?_) (fun h=>?_)<;>(try simp only[go_sem] at h)<;>(try exact g_f)<;>(try simp -implicitDefEqProofs only[go_sem]))|(with_reducible refine And.intro (fun h=>?_) (fun h=>?_)<;>(try simp only[go_sem] at h)<;>(try exact g_f))|(with_reducible refine And.intro ?_ ?_;· exact g_x)|(with_reducible intro h;(try simp only[go_sem] at h);(try exact g_f))))
  exact CutQ_c (τ := []) (by simp) rfl

theorem walkF_length (t : List (List Int)) (to : Int) : ∀ (f : Nat) (a : Int) (out : List Int), (walkF t to f a out).1.length ≤ out.length + f
  | 0, _, out => Nat.le_refl _
  | f + 1, a, out => by
    rw [walkF]
    split
    · exact Nat.le_add_right _ _
    · split
      · exact Nat.le_add_right _ _
      · have := walkF_length t to f (at2 t a to) (out ++ [at2 t a to])
        rw [List.length_append, List.length_singleton] at this
        omega

theorem table_stOk {n : Net} (hn : NetIn n) (x : List (List Int)) : StOk (tableA n x) := by
  have := hn.n6
  refine ⟨by simp [tableA, ints_length]; omega, fun r hr => ?_⟩
  obtain ⟨i, hi, rfl⟩ := List.mem_map.1 hr
  simp [ints_length]; omega
end Go.Proofs.Ytephecognbbaoab
