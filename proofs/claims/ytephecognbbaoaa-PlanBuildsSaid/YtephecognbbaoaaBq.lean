/- Plans: Check and Build, as the program has them. -/
import Derived.Test.YtephecognbbaoaaBp
namespace Go.Proofs.Ytephecognbbaoaa
open Go
set_option linter.all false
set_option maxRecDepth 100000
set_option maxHeartbeats 4000000

theorem pcheck_calls : ∀ (p : Pl), PlOk p → ∀ σ : Store, ACalls Try.prog 73 [.agg (plC p)] σ fun r σ' => σ' = σ ∧ r = intA1 (checkP p) := by
  refine Pl.ind fun k n e ps ih ok σ => ?_
  have hO := fun h => own_calls' k n e ps ok h
  cases ok with
  | mk _ _ _ _ hk hn he hev hpl hp =>
  rw [checkP, plC_mk]
  rw [plC_mk] at hO
  refine ACalls.cutX ?_
  refine ACalls_of_awp Try.func73 rfl Try.results73 ?_
  simp only [List.length_cons, List.length_nil, Try.ntmps73, Nat.reduceAdd, Nat.reduceSub, enterA]
  refine AWP_seq_k fun K hK => ?_
  (refine AWP_region ?_; simp -implicitDefEqProofs only [go_sem])
  refine hK _ _ ?_; clear hK K
  refine AWP_freezeP 1 rfl (by simp only [st0]; rfl) ?_
  simp only [ss0, List.set_cons_zero]
  (repeat' (first|(refine g_s fun K hK=>?_)|(refine g_b ?_)|(refine g_r ?_)|(refine g_k ?_;simp only[thenQ,blockQ])|(refine g_e ?_;simp only[thenQ,blockQ,↓reduceIte,Nat.reduceEqDiff])|(refine g_c (fun h=>?_) (fun h=>?_)<;>(try simp only[go_sem] at h)<;>(try exact g_f))|((first|refine g_t ?_|refine g_g ?_|refine g_U ?_|refine g_A ?_|refine g_W ?_);(try simp -implicitDefEqProofs only[go_sem]))|(with_reducible refine hK _ _ ?_;clear hK K)|(clear hK K;first|(with_reducible refine hK _ _ ?_;clear hK K)|(clear hK K;with_reducible refine hK _ _ ?_;clear hK K)|(clear hK K;clear hK K;with_reducible refine hK _ _ ?_;clear hK K))|(with_reducible refine splitB_intro (fun h=>?_) (fun h=>?_)<;>(try simp only[go_sem] at h)<;>(try exact g_f)<;>(try simp -implicitDefEqProofs only[go_sem]))|(with_reducible refine And.intro (fun h=>?_) (fun h=>?_)<;>(try simp only[go_sem] at h)<;>(try exact g_f))|(with_reducible refine And.intro ?_ ?_;· exact g_x)|(with_reducible intro h;(try simp only[go_sem] at h);(try exact g_f))))
  have hJ := hK
  clear hK
  refine AWP_each ps (fun _ r _ => checkL ps = checkL r) (fun q _ _ => [(9, intA1 q)]) (fun _ _ τ => σ ++ (.dead :: τ)) () [] rfl rfl (ALe_of ?_) ?_ ?_
  · simp -implicitDefEqProofs only [go_sem]
  · rintro q r _ τ hq0 hq1 h3 L hL
    have hmem := at0_mem ps hq0 hq1
    obtain ⟨x, hx⟩ : ∃ x, at0 ps q = x := ⟨_, rfl⟩
    rw [hx] at h3 hmem
    rw [checkL] at h3
    have ihx := ih x hmem (hp x hmem)
    obtain ⟨D, hD⟩ : ∃ D, checkP x = D := ⟨_, rfl⟩
    rw [hD] at ihx h3
    obtain ⟨k', n', e', ps'⟩ := x
    rw [plC_mk] at ihx
    simp -implicitDefEqProofs only [go_sem]
    by_cases hd : D = 0
    · rw [if_neg (not_not_intro hd)] at h3
      subst hd
      (repeat' (first|(refine g_s fun K hK=>?_)|(refine g_b ?_)|(refine g_r ?_)|(refine g_k ?_;simp only[thenQ,blockQ])|(refine g_e ?_;simp only[thenQ,blockQ,↓reduceIte,Nat.reduceEqDiff])|(refine g_c (fun h=>?_) (fun h=>?_)<;>(try simp only[go_sem] at h)<;>(try exact g_f))|((first|refine g_t ?_|refine g_g ?_|refine g_U ?_|refine g_A ?_|refine (ihx _).use ?_|refine g_q (fun τ=>ihx _) ?_|refine g_W ?_);(try simp -implicitDefEqProofs only[go_sem,hx]))|(with_reducible refine hK _ _ ?_;clear hK K)|(clear hK K;first|(with_reducible refine hK _ _ ?_;clear hK K)|(clear hK K;with_reducible refine hK _ _ ?_;clear hK K)|(clear hK K;clear hK K;with_reducible refine hK _ _ ?_;clear hK K))|(with_reducible refine splitB_intro (fun h=>?_) (fun h=>?_)<;>(try simp only[go_sem] at h)<;>(try exact g_f)<;>(try simp -implicitDefEqProofs only[go_sem,hx]))|(with_reducible refine And.intro (fun h=>?_) (fun h=>?_)<;>(try simp only[go_sem] at h)<;>(try exact g_f))|(with_reducible refine And.intro ?_ ?_;· exact g_x)|(with_reducible intro h;(try simp only[go_sem] at h);(try exact g_f))))
      refine hL () (τ ++ [.cells 4 [plC (.mk k' n' e' ps')]]) _ _ h3 (ALe_of ?_) ?_
      · simp -implicitDefEqProofs only [go_sem]
      · simp [plC_mk, plsA, intsA, intA1]
    · rw [if_pos hd] at h3
      (repeat' (first|(refine g_s fun K hK=>?_)|(refine g_b ?_)|(refine g_r ?_)|(refine g_k ?_;simp only[thenQ,blockQ])|(refine g_e ?_;simp only[thenQ,blockQ,↓reduceIte,Nat.reduceEqDiff])|(refine g_c (fun h=>?_) (fun h=>?_)<;>(try simp only[go_sem] at h)<;>(try exact g_f))|((first|refine g_t ?_|refine g_g ?_|refine g_U ?_|refine g_A ?_|refine (ihx _).use ?_|refine g_q (fun τ=>ihx _) ?_|refine g_W ?_);(try simp -implicitDefEqProofs only[go_sem,hx, hd]))|(with_reducible refine hK _ _ ?_;clear hK K)|(clear hK K;first|(with_reducible refine hK _ _ ?_;clear hK K)|(clear hK K;with_reducible refine hK _ _ ?_;clear hK K)|(clear hK K;clear hK K;with_reducible refine hK _ _ ?_;clear hK K))|(with_reducible refine splitB_intro (fun h=>?_) (fun h=>?_)<;>(try simp only[go_sem] at h)<;>(try exact g_f)<;>(try simp -implicitDefEqProofs only[go_sem,hx, hd]))|(with_reducible refine And.intro (fun h=>?_) (fun h=>?_)<;>(try simp only[go_sem] at h)<;>(try exact g_f))|(with_reducible refine And.intro ?_ ?_;· exact g_x)|(with_reducible intro h;(try simp only[go_sem] at h);(try exact g_f))))
      refine CutQ_c (τ := .dead :: (τ ++ [.cells 4 [plC (.mk k' n' e' ps')]])) (by simp [plC_mk, plsA, intsA, intA1]) ?_
      rw [h3, if_pos hd]
  · rintro q _ τ hq h3 L
    have h3 : checkL ps = 0 := by rw [h3, checkL]
    have hO := hO (checkL_mem h3)
    simp -implicitDefEqProofs only [go_sem]
    (repeat' (first|(refine g_s fun K hK=>?_)|(refine g_b ?_)|(refine g_r ?_)|(refine g_k ?_;simp only[thenQ,blockQ])|(refine g_e ?_;simp only[thenQ,blockQ,↓reduceIte,Nat.reduceEqDiff])|(refine g_c (fun h=>?_) (fun h=>?_)<;>(try simp only[go_sem] at h)<;>(try exact g_f))|((first|refine g_t ?_|refine g_g ?_|refine g_U ?_|refine g_A ?_|refine g_W ?_);(try simp -implicitDefEqProofs only[go_sem]))|(with_reducible refine hK _ _ ?_;clear hK K)|(clear hK K;first|(with_reducible refine hK _ _ ?_;clear hK K)|(clear hK K;with_reducible refine hK _ _ ?_;clear hK K)|(clear hK K;clear hK K;with_reducible refine hK _ _ ?_;clear hK K))|(with_reducible refine splitB_intro (fun h=>?_) (fun h=>?_)<;>(try simp only[go_sem] at h)<;>(try exact g_f)<;>(try simp -implicitDefEqProofs only[go_sem]))|(with_reducible refine And.intro (fun h=>?_) (fun h=>?_)<;>(try simp only[go_sem] at h)<;>(try exact g_f))|(with_reducible refine And.intro ?_ ?_;· exact g_x)|(with_reducible intro h;(try simp only[go_sem] at h);(try exact g_f))))
    refine hJ _ _ ?_
    clear hJ
    (repeat' (first|(refine g_s fun K hK=>?_)|(refine g_b ?_)|(refine g_r ?_)|(refine g_k ?_;simp only[thenQ,blockQ])|(refine g_e ?_;simp only[thenQ,blockQ,↓reduceIte,Nat.reduceEqDiff])|(refine g_c (fun h=>?_) (fun h=>?_)<;>(try simp only[go_sem] at h)<;>(try exact g_f))|((first|refine g_t ?_|refine g_g ?_|refine g_U ?_|refine g_A ?_|refine (hO _).use ?_|refine g_q (fun τ=>hO _) ?_|refine g_W ?_);(try simp -implicitDefEqProofs only[go_sem]))|(with_reducible refine hK _ _ ?_;clear hK K)|(clear hK K;first|(with_reducible refine hK _ _ ?_;clear hK K)|(clear hK K;with_reducible refine hK _ _ ?_;clear hK K)|(clear hK K;clear hK K;with_reducible refine hK _ _ ?_;clear hK K))|(with_reducible refine splitB_intro (fun h=>?_) (fun h=>?_)<;>(try simp only[go_sem] at h)<;>(try exact g_f)<;>(try simp -implicitDefEqProofs only[go_sem]))|(with_reducible refine And.intro (fun h=>?_) (fun h=>?_)<;>(try simp only[go_sem] at h)<;>(try exact g_f))|(with_reducible refine And.intro ?_ ?_;· exact g_x)|(with_reducible intro h;(try simp only[go_sem] at h);(try exact g_f))))
    refine CutQ_c rfl ?_
    rw [h3, if_neg (by decide)]

theorem planCheck_calls (p : Pl) (ok : PlOk p) (σ : Store) : ACalls Try.prog 34 [.agg (plC p)] σ fun r σ' => σ' = σ ∧ r = intA1 (errP p) := by
  have hD := deep_calls 4 (by omega) p ok
  have hW := wide_calls p ok
  have hC := pcheck_calls p ok
  rw [errP]
  have hc4 : ((4 : Nat) : Int) = 4 := rfl
  rw [hc4] at hD
  obtain ⟨D, hDd⟩ : ∃ D, deepP p 4 = D := ⟨_, rfl⟩
  obtain ⟨W, hWd⟩ : ∃ W, wideP p = W := ⟨_, rfl⟩
  obtain ⟨C, hCd⟩ : ∃ C, checkP p = C := ⟨_, rfl⟩
  rw [hDd] at hD ⊢
  rw [hWd] at hW ⊢
  rw [hCd] at hC ⊢
  obtain ⟨k, n, e, ps⟩ := p
  rw [plC_mk] at hD hW hC ⊢
  refine ACalls.cutX ?_
  by_cases h4 : 4 < D
  · rw [if_pos (Or.inl h4)]
    refine ACalls_of_awp Try.func34 rfl Try.results34 ?_
    simp only [List.length_cons, List.length_nil, Try.ntmps34, Nat.reduceAdd, Nat.reduceSub, enterA]
    refine AWP_seq_k fun K hK => ?_
    (refine AWP_region ?_; simp -implicitDefEqProofs only [go_sem])
    refine hK _ _ ?_; clear hK K
    refine AWP_freezeP 1 rfl (by simp only [st0]; rfl) ?_
    simp only [ss0, List.set_cons_zero]
    (repeat' (first|(refine g_s fun K hK=>?_)|(refine g_b ?_)|(refine g_r ?_)|(refine g_k ?_;simp only[thenQ,blockQ])|(refine g_e ?_;simp only[thenQ,blockQ,↓reduceIte,Nat.reduceEqDiff])|(refine g_c (fun h=>?_) (fun h=>?_)<;>(try simp only[go_sem] at h)<;>(try exact g_f))|((first|refine g_t ?_|refine g_g ?_|refine g_U ?_|refine g_A ?_|refine (hD _).use ?_|refine g_q (fun τ=>hD _) ?_|refine g_W ?_);(try simp -implicitDefEqProofs only[go_sem,h4]))|(with_reducible refine hK _ _ ?_;clear hK K)|(clear hK K;first|(with_reducible refine hK _ _ ?_;clear hK K)|(clear hK K;with_reducible refine hK _ _ ?_;clear hK K)|(clear hK K;clear hK K;with_reducible refine hK _ _ ?_;clear hK K))|(with_reducible refine splitB_intro (fun h=>?_) (fun h=>?_)<;>(try simp only[go_sem] at h)<;>(try exact g_f)<;>(try simp -implicitDefEqProofs only[go_sem,h4]))|(with_reducible refine And.intro (fun h=>?_) (fun h=>?_)<;>(try simp only[go_sem] at h)<;>(try exact g_f))|(with_reducible refine And.intro ?_ ?_;· exact g_x)|(with_reducible intro h;(try simp only[go_sem] at h);(try exact g_f))))
    exact CutQ_c rfl rfl
  · cases W
    · rw [if_neg (by rw [not_or]; exact ⟨h4, by decide⟩)]
      refine ACalls_of_awp Try.func34 rfl Try.results34 ?_
      simp only [List.length_cons, List.length_nil, Try.ntmps34, Nat.reduceAdd, Nat.reduceSub, enterA]
      refine AWP_seq_k fun K hK => ?_
      (refine AWP_region ?_; simp -implicitDefEqProofs only [go_sem])
      refine hK _ _ ?_; clear hK K
      refine AWP_freezeP 1 rfl (by simp only [st0]; rfl) ?_
      simp only [ss0, List.set_cons_zero]
      (repeat' (first|(refine g_s fun K hK=>?_)|(refine g_b ?_)|(refine g_r ?_)|(refine g_k ?_;simp only[thenQ,blockQ])|(refine g_e ?_;simp only[thenQ,blockQ,↓reduceIte,Nat.reduceEqDiff])|(refine g_c (fun h=>?_) (fun h=>?_)<;>(try simp only[go_sem] at h)<;>(try exact g_f))|((first|refine g_t ?_|refine g_g ?_|refine g_U ?_|refine g_A ?_|refine (hD _).use ?_|refine g_q (fun τ=>hD _) ?_|refine (hW _).use ?_|refine g_q (fun τ=>hW _) ?_|refine (hC _).use ?_|refine g_q (fun τ=>hC _) ?_|refine g_W ?_);(try simp -implicitDefEqProofs only[go_sem,h4]))|(with_reducible refine hK _ _ ?_;clear hK K)|(clear hK K;first|(with_reducible refine hK _ _ ?_;clear hK K)|(clear hK K;with_reducible refine hK _ _ ?_;clear hK K)|(clear hK K;clear hK K;with_reducible refine hK _ _ ?_;clear hK K))|(with_reducible refine splitB_intro (fun h=>?_) (fun h=>?_)<;>(try simp only[go_sem] at h)<;>(try exact g_f)<;>(try simp -implicitDefEqProofs only[go_sem,h4]))|(with_reducible refine And.intro (fun h=>?_) (fun h=>?_)<;>(try simp only[go_sem] at h)<;>(try exact g_f))|(with_reducible refine And.intro ?_ ?_;· exact g_x)|(with_reducible intro h;(try simp only[go_sem] at h);(try exact g_f))))
      exact CutQ_c rfl rfl
    · rw [if_pos (Or.inr rfl)]
      refine ACalls_of_awp Try.func34 rfl Try.results34 ?_
      simp only [List.length_cons, List.length_nil, Try.ntmps34, Nat.reduceAdd, Nat.reduceSub, enterA]
      refine AWP_seq_k fun K hK => ?_
      (refine AWP_region ?_; simp -implicitDefEqProofs only [go_sem])
      refine hK _ _ ?_; clear hK K
      refine AWP_freezeP 1 rfl (by simp only [st0]; rfl) ?_
      simp only [ss0, List.set_cons_zero]
      (repeat' (first|(refine g_s fun K hK=>?_)|(refine g_b ?_)|(refine g_r ?_)|(refine g_k ?_;simp only[thenQ,blockQ])|(refine g_e ?_;simp only[thenQ,blockQ,↓reduceIte,Nat.reduceEqDiff])|(refine g_c (fun h=>?_) (fun h=>?_)<;>(try simp only[go_sem] at h)<;>(try exact g_f))|((first|refine g_t ?_|refine g_g ?_|refine g_U ?_|refine g_A ?_|refine (hD _).use ?_|refine g_q (fun τ=>hD _) ?_|refine (hW _).use ?_|refine g_q (fun τ=>hW _) ?_|refine g_W ?_);(try simp -implicitDefEqProofs only[go_sem,h4]))|(with_reducible refine hK _ _ ?_;clear hK K)|(clear hK K;first|(with_reducible refine hK _ _ ?_;clear hK K)|(clear hK K;with_reducible refine hK _ _ ?_;clear hK K)|(clear hK K;clear hK K;with_reducible refine hK _ _ ?_;clear hK K))|(with_reducible refine splitB_intro (fun h=>?_) (fun h=>?_)<;>(try simp only[go_sem] at h)<;>(try exact g_f)<;>(try simp -implicitDefEqProofs only[go_sem,h4]))|(with_reducible refine And.intro (fun h=>?_) (fun h=>?_)<;>(try simp only[go_sem] at h)<;>(try exact g_f))|(with_reducible refine And.intro ?_ ?_;· exact g_x)|(with_reducible intro h;(try simp only[go_sem] at h);(try exact g_f))))
      exact CutQ_c rfl rfl

def builtP (p : Pl) : Alg × Int := if errP p = 0 then (buildP p, 0) else (⟨0, [], []⟩, errP p)
def builtC (x : Alg × Int) : AV := .tup [.agg (algC x.1), intA1 x.2]

theorem buildC_calls (p : Pl) (ok : PlOk p) (he : errP p = 0) (σ : Store) : ACalls Try.prog 67 [.agg (plC p)] σ fun r σ' => σ' = σ ∧ r = .agg (algC (buildP p)) :=
  ACalls.deep ((build_calls p ok (errP_zero he).2 (errP_zero he).1 σ).mono (by
    rintro r S' ⟨τ, e, h⟩
    subst e
    exact DeepQ_of rfl (.aggL (.cons (.c _) (.cons (.rows _) (.cons (.rows _) .nil)))) (algW_of h fun b hb => hb)))

theorem planBuild_calls (p : Pl) (ok : PlOk p) (σ : Store) : ACalls Try.prog 31 [.agg (plC p)] σ fun r σ' => σ' = σ ∧ r = builtC (builtP p) := by
  have hC := planCheck_calls p ok
  by_cases he : errP p = 0
  · have hB := buildC_calls p ok he
    rw [builtP, if_pos he]
    rw [he] at hC
    obtain ⟨A, hA⟩ : ∃ A, buildP p = A := ⟨_, rfl⟩
    rw [hA] at hB ⊢
    obtain ⟨k, n, e, ps⟩ := p
    rw [plC_mk] at hC hB ⊢
    refine ACalls.cutX ?_
    refine ACalls_of_awp Try.func31 rfl Try.results31 ?_
    simp only [List.length_cons, List.length_nil, Try.ntmps31, Nat.reduceAdd, Nat.reduceSub, enterA]
    refine AWP_seq_k fun K hK => ?_
    (refine AWP_region ?_; simp -implicitDefEqProofs only [go_sem])
    refine hK _ _ ?_; clear hK K
    refine AWP_freezeP 1 rfl (by simp only [st0]; rfl) ?_
    simp only [ss0, List.set_cons_zero]
    (repeat' (first|(refine g_s fun K hK=>?_)|(refine g_b ?_)|(refine g_r ?_)|(refine g_k ?_;simp only[thenQ,blockQ])|(refine g_e ?_;simp only[thenQ,blockQ,↓reduceIte,Nat.reduceEqDiff])|(refine g_c (fun h=>?_) (fun h=>?_)<;>(try simp only[go_sem] at h)<;>(try exact g_f))|((first|refine g_t ?_|refine g_g ?_|refine g_U ?_|refine g_A ?_|refine (hC _).use ?_|refine g_q (fun τ=>hC _) ?_|refine (hB _).use ?_|refine g_q (fun τ=>hB _) ?_|refine g_W ?_);(try simp -implicitDefEqProofs only[go_sem]))|(with_reducible refine hK _ _ ?_;clear hK K)|(clear hK K;first|(with_reducible refine hK _ _ ?_;clear hK K)|(clear hK K;with_reducible refine hK _ _ ?_;clear hK K)|(clear hK K;clear hK K;with_reducible refine hK _ _ ?_;clear hK K))|(with_reducible refine splitB_intro (fun h=>?_) (fun h=>?_)<;>(try simp only[go_sem] at h)<;>(try exact g_f)<;>(try simp -implicitDefEqProofs only[go_sem]))|(with_reducible refine And.intro (fun h=>?_) (fun h=>?_)<;>(try simp only[go_sem] at h)<;>(try exact g_f))|(with_reducible refine And.intro ?_ ?_;· exact g_x)|(with_reducible intro h;(try simp only[go_sem] at h);(try exact g_f))))
    exact CutQ_w rfl (.tupL (.cons (.aggL (.cons (.c _) (.cons (.rows _) (.cons (.rows _) .nil)))) (.cons (.c _) .nil))) (.eq rfl)
  · rw [builtP, if_neg he]
    obtain ⟨E, hE⟩ : ∃ E, errP p = E := ⟨_, rfl⟩
    rw [hE] at hC he ⊢
    obtain ⟨k, n, e, ps⟩ := p
    rw [plC_mk] at hC ⊢
    refine ACalls.cutX ?_
    refine ACalls_of_awp Try.func31 rfl Try.results31 ?_
    simp only [List.length_cons, List.length_nil, Try.ntmps31, Nat.reduceAdd, Nat.reduceSub, enterA]
    refine AWP_seq_k fun K hK => ?_
    (refine AWP_region ?_; simp -implicitDefEqProofs only [go_sem])
    refine hK _ _ ?_; clear hK K
    refine AWP_freezeP 1 rfl (by simp only [st0]; rfl) ?_
    simp only [ss0, List.set_cons_zero]
    (repeat' (first|(refine g_s fun K hK=>?_)|(refine g_b ?_)|(refine g_r ?_)|(refine g_k ?_;simp only[thenQ,blockQ])|(refine g_e ?_;simp only[thenQ,blockQ,↓reduceIte,Nat.reduceEqDiff])|(refine g_c (fun h=>?_) (fun h=>?_)<;>(try simp only[go_sem] at h)<;>(try exact g_f))|((first|refine g_t ?_|refine g_g ?_|refine g_U ?_|refine g_A ?_|refine (hC _).use ?_|refine g_q (fun τ=>hC _) ?_|refine g_W ?_);(try simp -implicitDefEqProofs only[go_sem,he]))|(with_reducible refine hK _ _ ?_;clear hK K)|(clear hK K;first|(with_reducible refine hK _ _ ?_;clear hK K)|(clear hK K;with_reducible refine hK _ _ ?_;clear hK K)|(clear hK K;clear hK K;with_reducible refine hK _ _ ?_;clear hK K))|(with_reducible refine splitB_intro (fun h=>?_) (fun h=>?_)<;>(try simp only[go_sem] at h)<;>(try exact g_f)<;>(try simp -implicitDefEqProofs only[go_sem,he]))|(with_reducible refine And.intro (fun h=>?_) (fun h=>?_)<;>(try simp only[go_sem] at h)<;>(try exact g_f))|(with_reducible refine And.intro ?_ ?_;· exact g_x)|(with_reducible intro h;(try simp only[go_sem] at h);(try exact g_f))))
    exact CutQ_w rfl (.tupL (.cons (.aggL (.cons (.c _) (.cons (.c _) (.cons (.c _) .nil)))) (.cons (.c _) .nil))) (.tup (.cons (.agg (.cons (.refl _) (.cons .nil (.cons .nil .nil)))) (.cons (.refl _) .nil)))
end Go.Proofs.Ytephecognbbaoaa
