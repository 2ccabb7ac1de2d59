/- Plans: the first look. -/
import Derived.Test.YtephecognbbaoaaBq
import Derived.Test.YtephecognbbaoaaSt
import Derived.Test.YtephecognbbaoaaAl
namespace Go.Proofs.Ytephecognbbaoaa
open Go
set_option linter.all false
set_option maxRecDepth 100000
set_option maxHeartbeats 4000000

theorem sameAlgebra_calls (a b : Alg) (ha : StOk a.best) (ha2 : StOk a.edges) (σ : Store) : ACalls Try.prog 35 [.agg (algC a), .agg (algC b)] σ fun r σ' => σ' = σ ∧ r = .c (.bool (decide (a = b))) := by
  have h1 := sameState_calls a.best b.best ha
  have h2 := sameState_calls a.edges b.edges ha2
  obtain ⟨s, best, edges⟩ := a
  obtain ⟨s', best', edges'⟩ := b
  have e : decide ((⟨s, best, edges⟩ : Alg) = ⟨s', best', edges'⟩) = (decide (s = s') && (decide (best = best') && decide (edges = edges'))) := by simp
  rw [e]
  simp only at h1 h2
  refine ACalls.cutX ?_
  refine ACalls_of_awp Try.func35 rfl Try.results35 ?_
  simp only [List.length_cons, List.length_nil, Try.ntmps35, Nat.reduceAdd, Nat.reduceSub, enterA]
  refine AWP_seq_k fun K hK => ?_
  (refine AWP_region ?_; simp -implicitDefEqProofs only [go_sem])
  refine hK _ _ ?_; clear hK K
  refine AWP_freezeP 2 rfl (by simp only [st0]; rfl) ?_
  simp only [ss0, List.set_cons_zero]
  refine AWP_freezeP 3 rfl (by simp only [st1]; rfl) ?_
  simp only [ss1, List.set_cons_zero, List.set_cons_succ]
  by_cases hs : s = s'
  · by_cases hb : best = best'
    · rw [decide_eq_true hb] at h1
      (repeat' (first|(refine g_s fun K hK=>?_)|(refine g_b ?_)|(refine g_r ?_)|(refine g_k ?_;simp only[thenQ,blockQ])|(refine g_e ?_;simp only[thenQ,blockQ,↓reduceIte,Nat.reduceEqDiff])|(refine g_c (fun h=>?_) (fun h=>?_)<;>(try simp only[go_sem] at h)<;>(try exact g_f))|((first|refine g_t ?_|refine g_g ?_|refine g_U ?_|refine g_A ?_|refine (h1 _).use ?_|refine g_q (fun τ=>h1 _) ?_|refine (h2 _).use ?_|refine g_q (fun τ=>h2 _) ?_|refine g_W ?_);(try simp -implicitDefEqProofs only[go_sem,hs]))|(with_reducible refine hK _ _ ?_;clear hK K)|(clear hK K;first|(with_reducible refine hK _ _ ?_;clear hK K)|(clear hK K;with_reducible refine hK _ _ ?_;clear hK K)|(clear hK K;clear hK K;with_reducible refine hK _ _ ?_;clear hK K))|(with_reducible refine splitB_intro (fun h=>?_) (fun h=>?_)<;>(try simp only[go_sem] at h)<;>(try exact g_f)<;>(try simp -implicitDefEqProofs only[go_sem,hs]))|(with_reducible refine And.intro (fun h=>?_) (fun h=>?_)<;>(try simp only[go_sem] at h)<;>(try exact g_f))|(with_reducible refine And.intro ?_ ?_;· exact g_x)|(with_reducible intro h;(try simp only[go_sem] at h);(try exact g_f))))
      refine CutQ_c rfl ?_
      simp [hs, hb]
    · rw [decide_eq_false hb] at h1
      (repeat' (first|(refine g_s fun K hK=>?_)|(refine g_b ?_)|(refine g_r ?_)|(refine g_k ?_;simp only[thenQ,blockQ])|(refine g_e ?_;simp only[thenQ,blockQ,↓reduceIte,Nat.reduceEqDiff])|(refine g_c (fun h=>?_) (fun h=>?_)<;>(try simp only[go_sem] at h)<;>(try exact g_f))|((first|refine g_t ?_|refine g_g ?_|refine g_U ?_|refine g_A ?_|refine (h1 _).use ?_|refine g_q (fun τ=>h1 _) ?_|refine g_W ?_);(try simp -implicitDefEqProofs only[go_sem,hs]))|(with_reducible refine hK _ _ ?_;clear hK K)|(clear hK K;first|(with_reducible refine hK _ _ ?_;clear hK K)|(clear hK K;with_reducible refine hK _ _ ?_;clear hK K)|(clear hK K;clear hK K;with_reducible refine hK _ _ ?_;clear hK K))|(with_reducible refine splitB_intro (fun h=>?_) (fun h=>?_)<;>(try simp only[go_sem] at h)<;>(try exact g_f)<;>(try simp -implicitDefEqProofs only[go_sem,hs]))|(with_reducible refine And.intro (fun h=>?_) (fun h=>?_)<;>(try simp only[go_sem] at h)<;>(try exact g_f))|(with_reducible refine And.intro ?_ ?_;· exact g_x)|(with_reducible intro h;(try simp only[go_sem] at h);(try exact g_f))))
      refine CutQ_c rfl ?_
      simp [hb]
  · (repeat' (first|(refine g_s fun K hK=>?_)|(refine g_b ?_)|(refine g_r ?_)|(refine g_k ?_;simp only[thenQ,blockQ])|(refine g_e ?_;simp only[thenQ,blockQ,↓reduceIte,Nat.reduceEqDiff])|(refine g_c (fun h=>?_) (fun h=>?_)<;>(try simp only[go_sem] at h)<;>(try exact g_f))|((first|refine g_t ?_|refine g_g ?_|refine g_U ?_|refine g_A ?_|refine g_W ?_);(try simp -implicitDefEqProofs only[go_sem,hs]))|(with_reducible refine hK _ _ ?_;clear hK K)|(clear hK K;first|(with_reducible refine hK _ _ ?_;clear hK K)|(clear hK K;with_reducible refine hK _ _ ?_;clear hK K)|(clear hK K;clear hK K;with_reducible refine hK _ _ ?_;clear hK K))|(with_reducible refine splitB_intro (fun h=>?_) (fun h=>?_)<;>(try simp only[go_sem] at h)<;>(try exact g_f)<;>(try simp -implicitDefEqProofs only[go_sem,hs]))|(with_reducible refine And.intro (fun h=>?_) (fun h=>?_)<;>(try simp only[go_sem] at h)<;>(try exact g_f))|(with_reducible refine And.intro ?_ ?_;· exact g_x)|(with_reducible intro h;(try simp only[go_sem] at h);(try exact g_f))))
    refine CutQ_c rfl ?_
    simp [hs]

def planX : Pl := .mk 1 1 [1] []
def planY : Pl := .mk 1 1 [] []
theorem planX_built : builtP planX = (hopsX, 0) := by decide +kernel
theorem planY_check : errP planY = 0 := by decide +kernel
theorem planX_ok : PlOk planX := .mk 1 1 [1] [] (by unfold I64; decide) (by unfold I64; decide) (by decide) (by unfold I64; decide) (by decide) (fun x hx => by cases hx)
theorem planY_ok : PlOk planY := .mk 1 1 [] [] (by unfold I64; decide) (by unfold I64; decide) (by decide) (fun x hx => by cases hx) (by decide) (fun x hx => by cases hx)

theorem planBegun_calls (σ : Store) : ACalls Try.prog 33 [] σ fun r σ' => σ' = σ ∧ r = .c (.bool true) := by
  have hX := planBuild_calls planX planX_ok
  have hY := planCheck_calls planY planY_ok
  have hH := hops_calls
  have hS := sameAlgebra_calls hopsX hopsX ⟨by decide, by decide⟩ ⟨by decide, by decide⟩
  rw [planX_built] at hX
  rw [planY_check] at hY
  rw [decide_eq_true rfl] at hS
  have hX : ∀ S, ACalls Try.prog 31 [.agg [intA1 1, intA1 1, intsA [1], .sl []]] S fun r S' => S' = S ∧ r = builtC (hopsX, 0) := hX
  have hY : ∀ S, ACalls Try.prog 34 [.agg [intA1 1, intA1 1, .sl [], .sl []]] S fun r S' => S' = S ∧ r = intA1 0 := hY
  have hXn : ∀ S, ACalls Try.prog 31 [.agg [intA1 1, intA1 1, intsA [1], .c (.slice none 0 0)]] S fun r S' => S' = S ∧ r = builtC (hopsX, 0) := fun S => (hX S).argW (.cons (.agg (.cons (.refl _) (.cons (.refl _) (.cons (.refl _) (.cons .nil .nil))))) .nil)
  have hYn : ∀ S, ACalls Try.prog 34 [.agg [intA1 1, intA1 1, .c (.slice none 0 0), .c (.slice none 0 0)]] S fun r S' => S' = S ∧ r = intA1 0 := fun S => (hY S).argW (.cons (.agg (.cons (.refl _) (.cons (.refl _) (.cons .nil (.cons .nil .nil))))) .nil)
  refine ACalls.cutX ?_
  refine ACalls_of_awp Try.func33 rfl Try.results33 ?_
  simp only [List.length_cons, List.length_nil, Try.ntmps33, Nat.reduceAdd, Nat.reduceSub, enterA]
  (repeat' (first|(refine g_s fun K hK=>?_)|(refine g_b ?_)|(refine g_r ?_)|(refine g_k ?_;simp only[thenQ,blockQ])|(refine g_e ?_;simp only[thenQ,blockQ,↓reduceIte,Nat.reduceEqDiff])|(refine g_c (fun h=>?_) (fun h=>?_)<;>(try simp only[go_sem] at h)<;>(try exact g_f))|((first|refine g_t ?_|refine g_G ?_|refine g_U ?_|refine g_A ?_|refine (hXn _).use ?_|refine g_q (fun τ=>hXn _) ?_|refine (hYn _).use ?_|refine g_q (fun τ=>hYn _) ?_|refine (hH _).use ?_|refine g_q (fun τ=>hH _) ?_|refine (hS _).use ?_|refine g_q (fun τ=>hS _) ?_|refine g_W ?_);(try simp -implicitDefEqProofs only[go_sem,hopsX, builtC, algC, List.map_cons, List.map_nil]))|(with_reducible refine hK _ _ ?_;clear hK K)|(clear hK K;first|(with_reducible refine hK _ _ ?_;clear hK K)|(clear hK K;with_reducible refine hK _ _ ?_;clear hK K)|(clear hK K;clear hK K;with_reducible refine hK _ _ ?_;clear hK K))|(with_reducible refine splitB_intro (fun h=>?_) (fun h=>?_)<;>(try simp only[go_sem] at h)<;>(try exact g_f)<;>(try simp -implicitDefEqProofs only[go_sem,hopsX, builtC, algC, List.map_cons, List.map_nil]))|(with_reducible refine And.intro (fun h=>?_) (fun h=>?_)<;>(try simp only[go_sem] at h)<;>(try exact g_f))|(with_reducible refine And.intro ?_ ?_;· exact g_x)|(with_reducible intro h;(try simp only[go_sem] at h);(try exact g_f))))
  exact CutQ_c rfl rfl
end Go.Proofs.Ytephecognbbaoaa
