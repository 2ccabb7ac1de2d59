/- Which of so many things a raw number speaks of. -/
import Derived.Test.YtephecognbbaoabSy
namespace Go.Proofs.Ytephecognbbaoab
open Go
set_option linter.all false
set_option maxRecDepth 100000
set_option maxHeartbeats 4000000

theorem choose_calls (c n : Int) (hc : I64 c) (hn : 0 < n ∧ n ≤ 1000000) (σ : Store) : ACalls Try.prog 55 [intA1 c, intA1 n] σ fun r σ' => σ' = σ ∧ r = intA1 ((if c < 0 then -(c + 1) else c) % n) := by
  unfold I64 at hc
  refine ACalls_of_awp Try.func55 rfl Try.results55 ?_
  simp only [List.length_cons, List.length_nil, Try.ntmps55, Nat.reduceAdd, Nat.reduceSub, enterA]
  (repeat' (first|(refine g_s fun K hK=>?_)|(refine g_b ?_)|(refine g_r ?_)|(refine g_k ?_;simp only[thenQ,blockQ])|(refine g_e ?_;simp only[thenQ,blockQ,↓reduceIte,Nat.reduceEqDiff])|(refine g_c (fun h=>?_) (fun h=>?_)<;>(try simp only[go_sem] at h)<;>(try exact g_f))|((first|refine g_t ?_|refine g_g ?_|refine g_U ?_|refine g_A ?_|refine g_W ?_);(try simp -implicitDefEqProofs only[go_sem]))|(with_reducible refine hK _ _ ?_;clear hK K)|(clear hK K;first|(with_reducible refine hK _ _ ?_;clear hK K)|(clear hK K;with_reducible refine hK _ _ ?_;clear hK K)|(clear hK K;clear hK K;with_reducible refine hK _ _ ?_;clear hK K))|(with_reducible refine splitB_intro (fun h=>?_) (fun h=>?_)<;>(try simp only[go_sem] at h)<;>(try exact g_f)<;>(try simp -implicitDefEqProofs only[go_sem]))|(with_reducible refine And.intro (fun h=>?_) (fun h=>?_)<;>(try simp only[go_sem] at h)<;>(try exact g_f))|(with_reducible refine And.intro ?_ ?_;· exact g_x)|(with_reducible intro h;(try simp only[go_sem] at h);(try exact g_f))))
  · rw [if_pos h, Int.tmod_eq_emod_of_nonneg (by omega)]
    congr 3
    omega
  · rw [if_neg (by omega), Int.tmod_eq_emod_of_nonneg (by omega)]
end Go.Proofs.Ytephecognbbaoab
