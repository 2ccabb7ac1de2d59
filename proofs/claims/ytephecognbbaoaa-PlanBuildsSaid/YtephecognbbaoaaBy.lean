/- The law PlanBuilds, walked. -/
import Derived.Test.YtephecognbbaoaaBt
import Derived.Test.YtephecognbbaoaaBu
namespace Go.Proofs.Ytephecognbbaoaa
open Go
set_option linter.all false
set_option maxRecDepth 100000
set_option maxHeartbeats 4000000

theorem builtC_calls (p : Pl) (ok : PlOk p) (hw : wideP p = false) (σ : Store) : ACalls Try.prog 70 [.agg (plC p)] σ fun r σ' => σ' = σ ∧ r = .tup [.agg (algC (resP p)), intA1 (checkP p)] :=
  ACalls.deep ((built_calls p ok hw σ).mono (by
    rintro r S' ⟨τ, e, h⟩
    subst e
    exact DeepQ_of rfl (.tupL (.cons (.aggL (.cons (.c _) (.cons (.rows _) (.cons (.rows _) .nil)))) (.cons (.c _) .nil))) (builtQ_deep h fun b hb => hb)))

theorem buildOf_calls (p : Pl) (ok : PlOk p) (σ : Store) : ACalls Try.prog 32 [.agg (plC p)] σ fun r σ' => σ' = σ ∧ r = builtC (builtP p) := by
  have hD := deepOf_calls 4 (by omega) p ok
  have hW := wideOf_calls p ok
  have hc4 : ((4 : Nat) : Int) = 4 := rfl
  rw [hc4] at hD
  have hB := fun hw => builtC_calls p ok hw
  have hr : ∀ h : ¬ (4 < deepP p 4 ∨ wideP p = true), builtP p = (resP p, checkP p) := fun h => by
    rw [builtP, errP, if_neg h, resP]
    by_cases hc : checkP p = 0
    · rw [if_pos hc, if_pos hc, hc]
    · rw [if_neg hc, if_neg hc]
      rfl
  have hr2 : 4 < deepP p 4 ∨ wideP p = true → builtP p = (⟨0, [], []⟩, 2) := fun h => by
    rw [builtP, errP, if_pos h]
    rfl
  obtain ⟨D, hDd⟩ : ∃ D, deepP p 4 = D := ⟨_, rfl⟩
  obtain ⟨W, hWd⟩ : ∃ W, wideP p = W := ⟨_, rfl⟩
  obtain ⟨R, hRd⟩ : ∃ R, resP p = R := ⟨_, rfl⟩
  obtain ⟨C, hCd⟩ : ∃ C, checkP p = C := ⟨_, rfl⟩
  obtain ⟨BP, hBP⟩ : ∃ BP, builtP p = BP := ⟨_, rfl⟩
  rw [hDd] at hD hr hr2
  rw [hWd] at hW hr hr2 hB
  rw [hRd, hCd] at hr
  rw [hBP] at hr hr2 ⊢
  simp only [hRd, hCd] at hB
  obtain ⟨k, n, e, ps⟩ := p
  rw [plC_mk] at hD hW hB ⊢
  refine ACalls.cutX ?_
  by_cases h4 : 4 < D
  · rw [hr2 (.inl h4)]
    refine ACalls_of_awp Try.func32 rfl Try.results32 ?_
    simp only [List.length_cons, List.length_nil, Try.ntmps32, Nat.reduceAdd, Nat.reduceSub, enterA]
    refine AWP_seq_k fun K hK => ?_
    (refine AWP_region ?_; simp -implicitDefEqProofs only [go_sem])
    refine hK _ _ ?_; clear hK K
    refine AWP_freezeP 1 rfl (by simp only [st0]; rfl) ?_
    simp only [ss0, List.set_cons_zero]
    (repeat' (first|(refine g_s fun K hK=>?_)|(refine g_b ?_)|(refine g_r ?_)|(refine g_k ?_;simp only[thenQ,blockQ])|(refine g_e ?_;simp only[thenQ,blockQ,↓reduceIte,Nat.reduceEqDiff])|(refine g_c (fun h=>?_) (fun h=>?_)<;>(try simp only[go_sem] at h)<;>(try exact g_f))|((first|refine g_t ?_|refine g_g ?_|refine g_U ?_|refine g_A ?_|refine (hD _).use ?_|refine g_q (fun τ=>hD _) ?_|refine g_W ?_);(try simp -implicitDefEqProofs only[go_sem]))|(with_reducible refine hK _ _ ?_;clear hK K)|(clear hK K;first|(with_reducible refine hK _ _ ?_;clear hK K)|(clear hK K;with_reducible refine hK _ _ ?_;clear hK K)|(clear hK K;clear hK K;with_reducible refine hK _ _ ?_;clear hK K))|(with_reducible refine splitB_intro (fun h=>?_) (fun h=>?_)<;>(try simp only[go_sem] at h)<;>(try exact g_f)<;>(try simp -implicitDefEqProofs only[go_sem]))|(with_reducible refine And.intro (fun h=>?_) (fun h=>?_)<;>(try simp only[go_sem] at h)<;>(try exact g_f))|(with_reducible refine And.intro ?_ ?_;· exact g_x)|(with_reducible intro h;(try simp only[go_sem] at h);(try exact g_f))))
    exact CutQ_w rfl (.tupL (.cons (.aggL (.cons (.c _) (.cons (.c _) (.cons (.c _) .nil)))) (.cons (.c _) .nil))) (.tup (.cons (.agg (.cons (.refl _) (.cons .nil (.cons .nil .nil)))) (.cons (.refl _) .nil)))
  · cases W
    · rw [hr (by simp [h4])]
      have hB := hB rfl
      refine ACalls_of_awp Try.func32 rfl Try.results32 ?_
      simp only [List.length_cons, List.length_nil, Try.ntmps32, Nat.reduceAdd, Nat.reduceSub, enterA]
      refine AWP_seq_k fun K hK => ?_
      (refine AWP_region ?_; simp -implicitDefEqProofs only [go_sem])
      refine hK _ _ ?_; clear hK K
      refine AWP_freezeP 1 rfl (by simp only [st0]; rfl) ?_
      simp only [ss0, List.set_cons_zero]
      (repeat' (first|(refine g_s fun K hK=>?_)|(refine g_b ?_)|(refine g_r ?_)|(refine g_k ?_;simp only[thenQ,blockQ])|(refine g_e ?_;simp only[thenQ,blockQ,↓reduceIte,Nat.reduceEqDiff])|(refine g_c (fun h=>?_) (fun h=>?_)<;>(try simp only[go_sem] at h)<;>(try exact g_f))|((first|refine g_t ?_|refine g_g ?_|refine g_U ?_|refine g_A ?_|refine (hD _).use ?_|refine g_q (fun τ=>hD _) ?_|refine (hW _).use ?_|refine g_q (fun τ=>hW _) ?_|refine (hB _).use ?_|refine g_q (fun τ=>hB _) ?_|refine g_W ?_);(try simp -implicitDefEqProofs only[go_sem]))|(with_reducible refine hK _ _ ?_;clear hK K)|(clear hK K;first|(with_reducible refine hK _ _ ?_;clear hK K)|(clear hK K;with_reducible refine hK _ _ ?_;clear hK K)|(clear hK K;clear hK K;with_reducible refine hK _ _ ?_;clear hK K))|(with_reducible refine splitB_intro (fun h=>?_) (fun h=>?_)<;>(try simp only[go_sem] at h)<;>(try exact g_f)<;>(try simp -implicitDefEqProofs only[go_sem]))|(with_reducible refine And.intro (fun h=>?_) (fun h=>?_)<;>(try simp only[go_sem] at h)<;>(try exact g_f))|(with_reducible refine And.intro ?_ ?_;· exact g_x)|(with_reducible intro h;(try simp only[go_sem] at h);(try exact g_f))))
      exact CutQ_w rfl (.tupL (.cons (.aggL (.cons (.c _) (.cons (.rows _) (.cons (.rows _) .nil)))) (.cons (.c _) .nil))) (.eq rfl)
    · rw [hr2 (.inr rfl)]
      refine ACalls_of_awp Try.func32 rfl Try.results32 ?_
      simp only [List.length_cons, List.length_nil, Try.ntmps32, Nat.reduceAdd, Nat.reduceSub, enterA]
      refine AWP_seq_k fun K hK => ?_
      (refine AWP_region ?_; simp -implicitDefEqProofs only [go_sem])
      refine hK _ _ ?_; clear hK K
      refine AWP_freezeP 1 rfl (by simp only [st0]; rfl) ?_
      simp only [ss0, List.set_cons_zero]
      (repeat' (first|(refine g_s fun K hK=>?_)|(refine g_b ?_)|(refine g_r ?_)|(refine g_k ?_;simp only[thenQ,blockQ])|(refine g_e ?_;simp only[thenQ,blockQ,↓reduceIte,Nat.reduceEqDiff])|(refine g_c (fun h=>?_) (fun h=>?_)<;>(try simp only[go_sem] at h)<;>(try exact g_f))|((first|refine g_t ?_|refine g_g ?_|refine g_U ?_|refine g_A ?_|refine (hD _).use ?_|refine g_q (fun τ=>hD _) ?_|refine (hW _).use ?_|refine g_q (fun τ=>hW _) ?_|refine g_W ?_);(try simp -implicitDefEqProofs only[go_sem]))|(with_reducible refine hK _ _ ?_;clear hK K)|(clear hK K;first|(with_reducible refine hK _ _ ?_;clear hK K)|(clear hK K;with_reducible refine hK _ _ ?_;clear hK K)|(clear hK K;clear hK K;with_reducible refine hK _ _ ?_;clear hK K))|(with_reducible refine splitB_intro (fun h=>?_) (fun h=>?_)<;>(try simp only[go_sem] at h)<;>(try exact g_f)<;>(try simp -implicitDefEqProofs only[go_sem]))|(with_reducible refine And.intro (fun h=>?_) (fun h=>?_)<;>(try simp only[go_sem] at h)<;>(try exact g_f))|(with_reducible refine And.intro ?_ ?_;· exact g_x)|(with_reducible intro h;(try simp only[go_sem] at h);(try exact g_f))))
      exact CutQ_w rfl (.tupL (.cons (.aggL (.cons (.c _) (.cons (.c _) (.cons (.c _) .nil)))) (.cons (.c _) .nil))) (.tup (.cons (.agg (.cons (.refl _) (.cons .nil (.cons .nil .nil)))) (.cons (.refl _) .nil)))

theorem built_st (p : Pl) : StOk (builtP p).1.best ∧ StOk (builtP p).1.edges := by
  unfold builtP
  by_cases h : errP p = 0
  · rw [if_pos h]
    have hr := right_built h
    have h2 := hr.s24
    have h3 := hr.e8
    have h4 := hr.bl
    exact ⟨⟨by show (buildP p).best.length ≤ _; omega, fun r hr' => by have := hr.row r (List.mem_append_left _ hr'); omega⟩, ⟨by show (buildP p).edges.length ≤ _; omega, fun r hr' => by have := hr.row r (List.mem_append_right _ hr'); omega⟩⟩
  · rw [if_neg h]
    exact ⟨⟨Nat.zero_le _, fun r hr => by cases hr⟩, ⟨Nat.zero_le _, fun r hr => by cases hr⟩⟩

theorem planBuilds_calls (p : Pl) (ok : PlOk p) (σ : Store) : ACalls Try.prog 9 [.agg (plC p)] σ fun r σ' => σ' = σ ∧ r = .c (.bool true) := by
  have hB := planBuild_calls p ok
  have hO := buildOf_calls p ok
  have hC := planCheck_calls p ok
  have hst := built_st p
  have hS := sameAlgebra_calls (builtP p).1 (builtP p).1 hst.1 hst.2
  rw [decide_eq_true rfl] at hS
  have he : (builtP p).2 = errP p := by
    unfold builtP
    by_cases h : errP p = 0
    · rw [if_pos h, h]
    · rw [if_neg h]
  obtain ⟨⟨a, e⟩, hae⟩ : ∃ ae, builtP p = ae := ⟨_, rfl⟩
  rw [hae] at hB hO hS he
  rw [← he] at hC
  simp only at hS hC
  unfold builtC at hB hO
  obtain ⟨k, n, ed, ps⟩ := p
  rw [plC_mk] at hB hO hC ⊢
  refine ACalls.cutX ?_
  refine ACalls_of_awp Try.func9 rfl Try.results9 ?_
  simp only [List.length_cons, List.length_nil, Try.ntmps9, Nat.reduceAdd, Nat.reduceSub, enterA]
  refine AWP_seq_k fun K hK => ?_
  (refine AWP_region ?_; simp -implicitDefEqProofs only [go_sem])
  refine hK _ _ ?_; clear hK K
  refine AWP_freezeP 1 rfl (by simp only [st0]; rfl) ?_
  simp only [ss0, List.set_cons_zero]
  (repeat' (first|(refine g_s fun K hK=>?_)|(refine g_b ?_)|(refine g_r ?_)|(refine g_k ?_;simp only[thenQ,blockQ])|(refine g_e ?_;simp only[thenQ,blockQ,↓reduceIte,Nat.reduceEqDiff])|(refine g_c (fun h=>?_) (fun h=>?_)<;>(try simp only[go_sem] at h)<;>(try exact g_f))|((first|refine g_t ?_|refine g_g ?_|refine g_U ?_|refine g_A ?_|refine (planBegun_calls _).use ?_|refine g_q (fun τ=>planBegun_calls _) ?_|refine (hB _).use ?_|refine g_q (fun τ=>hB _) ?_|refine (hO _).use ?_|refine g_q (fun τ=>hO _) ?_|refine (hC _).use ?_|refine g_q (fun τ=>hC _) ?_|refine (hS _).use ?_|refine g_q (fun τ=>hS _) ?_|refine g_W ?_);(try simp -implicitDefEqProofs only[go_sem,algC]))|(with_reducible refine hK _ _ ?_;clear hK K)|(clear hK K;first|(with_reducible refine hK _ _ ?_;clear hK K)|(clear hK K;with_reducible refine hK _ _ ?_;clear hK K)|(clear hK K;clear hK K;with_reducible refine hK _ _ ?_;clear hK K))|(with_reducible refine splitB_intro (fun h=>?_) (fun h=>?_)<;>(try simp only[go_sem] at h)<;>(try exact g_f)<;>(try simp -implicitDefEqProofs only[go_sem,algC]))|(with_reducible refine And.intro (fun h=>?_) (fun h=>?_)<;>(try simp only[go_sem] at h)<;>(try exact g_f))|(with_reducible refine And.intro ?_ ?_;· exact g_x)|(with_reducible intro h;(try simp only[go_sem] at h);(try exact g_f))))
  all_goals (refine CutQ_c rfl ?_; simp)
end Go.Proofs.Ytephecognbbaoaa
