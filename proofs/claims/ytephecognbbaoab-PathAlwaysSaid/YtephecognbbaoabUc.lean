/- Routes with paths: the better of two, and what a link makes of one. -/
import Derived.Test.YtephecognbbaoabUb
import Derived.Test.YtephecognbbaoabDp
namespace Go.Proofs.Ytephecognbbaoab
open Go
set_option linter.all false
set_option maxRecDepth 100000
set_option maxHeartbeats 4000000

theorem best_calls (n : Net) (a b : Rt) (hn : NetIn n) (ha : RightR n a) (hb : RightR n b) (hpa : a.p.length ≤ 17592186044000) (hpb : b.p.length ≤ 17592186044000) (σ : Store) :
    ACalls Try.prog 107 [.agg (netC n), .agg (rtC a), .agg (rtC b)] σ fun r σ' => σ' = σ ∧ r = .agg (rtC (bestR n a b)) := by
  have s2 := hn.alg.s2
  have s24 := hn.alg.s24
  have hi : I64 (n.alg.size - 1) := by unfold I64; omega
  have fin : ∀ {S τ : Store} {r : Rt} {x : Rt}, S = σ ++ τ → r = x → CutQ σ (.agg (rtC x)) (.agg [intA1 r.w, intsA r.p]) S := fun {S τ r x} h1 h2 => by
    rw [h2]
    exact CutQ_w h1 (.aggL (.cons (.c _) (.cons (.ints _) .nil))) (.eq rfl)
  have hVa := fun S => pvalid_calls n a hi S
  have hVb := fun S => pvalid_calls n b hi S
  have hbest := hn.alg.best_len ha.w.1 ha.w.2
  have w0 := ha.w.1
  have w1 := ha.w.2
  have v0 := hb.w.1
  have v1 := hb.w.2
  have hbl := hn.alg.bl
  have hb2 : at0 (at0 n.alg.best a.w) b.w = bestA n a.w b.w := rfl
  refine ACalls.cutX ?_
  refine ACalls_of_awp Try.func107 rfl Try.results107 ?_
  simp only [List.length_cons, List.length_nil, Try.ntmps107, Nat.reduceAdd, Nat.reduceSub, enterA]
  refine AWP_seq_k fun K hK => ?_
  (refine AWP_region ?_; simp -implicitDefEqProofs only [go_sem])
  refine hK _ _ ?_; clear hK K
  refine AWP_freezeP 3 rfl (by simp only [st0]; rfl) ?_
  simp only [ss0, List.set_cons_zero]
  refine AWP_freezeP 4 rfl (by simp only [st1]; rfl) ?_
  simp only [ss1, List.set_cons_zero, List.set_cons_succ]
  refine AWP_freezeP 5 rfl (by simp only [st1]; rfl) ?_
  simp only [ss1, List.set_cons_zero, List.set_cons_succ]
  by_cases h1 : a.w = n.alg.size - 1
  · rw [decide_eq_false (not_not_intro h1)] at hVa
    (repeat' (first|(refine g_s fun K hK=>?_)|(refine g_b ?_)|(refine g_r ?_)|(refine g_k ?_;simp only[thenQ,blockQ])|(refine g_e ?_;simp only[thenQ,blockQ,↓reduceIte,Nat.reduceEqDiff])|(refine g_c (fun h=>?_) (fun h=>?_)<;>(try simp only[go_sem] at h)<;>(try exact g_f))|((first|refine g_t ?_|refine g_g ?_|refine g_U ?_|refine g_A ?_|refine (hVa _).use ?_|refine g_q (fun τ=>hVa _) ?_|refine g_W ?_);(try simp -implicitDefEqProofs only[go_sem]))|(with_reducible refine hK _ _ ?_;clear hK K)|(clear hK K;first|(with_reducible refine hK _ _ ?_;clear hK K)|(clear hK K;with_reducible refine hK _ _ ?_;clear hK K)|(clear hK K;clear hK K;with_reducible refine hK _ _ ?_;clear hK K))|(with_reducible refine splitB_intro (fun h=>?_) (fun h=>?_)<;>(try simp only[go_sem] at h)<;>(try exact g_f)<;>(try simp -implicitDefEqProofs only[go_sem]))|(with_reducible refine And.intro (fun h=>?_) (fun h=>?_)<;>(try simp only[go_sem] at h)<;>(try exact g_f))|(with_reducible refine And.intro ?_ ?_;· exact g_x)|(with_reducible intro h;(try simp only[go_sem] at h);(try exact g_f))))
    refine fin rfl ?_
    rw [bestR, firstA, if_pos (Or.inl h1), decide_eq_false (not_not_intro h1), if_neg (by decide)]
  · rw [decide_eq_true h1] at hVa
    by_cases h2 : b.w = n.alg.size - 1
    · rw [decide_eq_false (not_not_intro h2)] at hVb
      (repeat' (first|(refine g_s fun K hK=>?_)|(refine g_b ?_)|(refine g_r ?_)|(refine g_k ?_;simp only[thenQ,blockQ])|(refine g_e ?_;simp only[thenQ,blockQ,↓reduceIte,Nat.reduceEqDiff])|(refine g_c (fun h=>?_) (fun h=>?_)<;>(try simp only[go_sem] at h)<;>(try exact g_f))|((first|refine g_t ?_|refine g_g ?_|refine g_U ?_|refine g_A ?_|refine (hVa _).use ?_|refine g_q (fun τ=>hVa _) ?_|refine (hVb _).use ?_|refine g_q (fun τ=>hVb _) ?_|refine g_W ?_);(try simp -implicitDefEqProofs only[go_sem]))|(with_reducible refine hK _ _ ?_;clear hK K)|(clear hK K;first|(with_reducible refine hK _ _ ?_;clear hK K)|(clear hK K;with_reducible refine hK _ _ ?_;clear hK K)|(clear hK K;clear hK K;with_reducible refine hK _ _ ?_;clear hK K))|(with_reducible refine splitB_intro (fun h=>?_) (fun h=>?_)<;>(try simp only[go_sem] at h)<;>(try exact g_f)<;>(try simp -implicitDefEqProofs only[go_sem]))|(with_reducible refine And.intro (fun h=>?_) (fun h=>?_)<;>(try simp only[go_sem] at h)<;>(try exact g_f))|(with_reducible refine And.intro ?_ ?_;· exact g_x)|(with_reducible intro h;(try simp only[go_sem] at h);(try exact g_f))))
      refine fin rfl ?_
      rw [bestR, firstA, if_pos (Or.inr h2), decide_eq_true h1, if_pos rfl]
    · rw [decide_eq_true h2] at hVb
      have h12 : ¬ (a.w = n.alg.size - 1 ∨ b.w = n.alg.size - 1) := by rw [not_or]; exact ⟨h1, h2⟩
      rw [bestR, firstA, if_neg h12]
      by_cases h3 : a.w = b.w
      · rw [if_neg (not_not_intro h3)]
        by_cases h4 : a.p.length = b.p.length
        · rw [if_neg (not_not_intro h4), ← cmpL_lex h4]
          have hC := compare_calls a.p b.p (by omega) (by omega) h4
          obtain ⟨c, hc⟩ : ∃ c, cmpL a.p b.p = c := ⟨_, rfl⟩
          rw [hc] at hC ⊢
          by_cases h5 : c ≤ 0
          · rw [decide_eq_true h5, if_pos rfl]
            (repeat' (first|(refine g_s fun K hK=>?_)|(refine g_b ?_)|(refine g_r ?_)|(refine g_k ?_;simp only[thenQ,blockQ])|(refine g_e ?_;simp only[thenQ,blockQ,↓reduceIte,Nat.reduceEqDiff])|(refine g_c (fun h=>?_) (fun h=>?_)<;>(try simp only[go_sem] at h)<;>(try exact g_f))|((first|refine g_t ?_|refine g_g ?_|refine g_U ?_|refine g_A ?_|refine (hVa _).use ?_|refine g_q (fun τ=>hVa _) ?_|refine (hVb _).use ?_|refine g_q (fun τ=>hVb _) ?_|refine (hC _).use ?_|refine g_q (fun τ=>hC _) ?_|refine g_W ?_);(try simp -implicitDefEqProofs only[go_sem]))|(with_reducible refine hK _ _ ?_;clear hK K)|(clear hK K;first|(with_reducible refine hK _ _ ?_;clear hK K)|(clear hK K;with_reducible refine hK _ _ ?_;clear hK K)|(clear hK K;clear hK K;with_reducible refine hK _ _ ?_;clear hK K))|(with_reducible refine splitB_intro (fun h=>?_) (fun h=>?_)<;>(try simp only[go_sem] at h)<;>(try exact g_f)<;>(try simp -implicitDefEqProofs only[go_sem]))|(with_reducible refine And.intro (fun h=>?_) (fun h=>?_)<;>(try simp only[go_sem] at h)<;>(try exact g_f))|(with_reducible refine And.intro ?_ ?_;· exact g_x)|(with_reducible intro h;(try simp only[go_sem] at h);(try exact g_f))))
            exact fin rfl rfl
          · rw [decide_eq_false h5, if_neg (by decide)]
            (repeat' (first|(refine g_s fun K hK=>?_)|(refine g_b ?_)|(refine g_r ?_)|(refine g_k ?_;simp only[thenQ,blockQ])|(refine g_e ?_;simp only[thenQ,blockQ,↓reduceIte,Nat.reduceEqDiff])|(refine g_c (fun h=>?_) (fun h=>?_)<;>(try simp only[go_sem] at h)<;>(try exact g_f))|((first|refine g_t ?_|refine g_g ?_|refine g_U ?_|refine g_A ?_|refine (hVa _).use ?_|refine g_q (fun τ=>hVa _) ?_|refine (hVb _).use ?_|refine g_q (fun τ=>hVb _) ?_|refine (hC _).use ?_|refine g_q (fun τ=>hC _) ?_|refine g_W ?_);(try simp -implicitDefEqProofs only[go_sem]))|(with_reducible refine hK _ _ ?_;clear hK K)|(clear hK K;first|(with_reducible refine hK _ _ ?_;clear hK K)|(clear hK K;with_reducible refine hK _ _ ?_;clear hK K)|(clear hK K;clear hK K;with_reducible refine hK _ _ ?_;clear hK K))|(with_reducible refine splitB_intro (fun h=>?_) (fun h=>?_)<;>(try simp only[go_sem] at h)<;>(try exact g_f)<;>(try simp -implicitDefEqProofs only[go_sem]))|(with_reducible refine And.intro (fun h=>?_) (fun h=>?_)<;>(try simp only[go_sem] at h)<;>(try exact g_f))|(with_reducible refine And.intro ?_ ?_;· exact g_x)|(with_reducible intro h;(try simp only[go_sem] at h);(try exact g_f))))
            exact fin rfl rfl
        · rw [if_pos h4]
          by_cases h5 : a.p.length < b.p.length
          · rw [decide_eq_true h5, if_pos rfl]
            (repeat' (first|(refine g_s fun K hK=>?_)|(refine g_b ?_)|(refine g_r ?_)|(refine g_k ?_;simp only[thenQ,blockQ])|(refine g_e ?_;simp only[thenQ,blockQ,↓reduceIte,Nat.reduceEqDiff])|(refine g_c (fun h=>?_) (fun h=>?_)<;>(try simp only[go_sem] at h)<;>(try exact g_f))|((first|refine g_t ?_|refine g_g ?_|refine g_U ?_|refine g_A ?_|refine (hVa _).use ?_|refine g_q (fun τ=>hVa _) ?_|refine (hVb _).use ?_|refine g_q (fun τ=>hVb _) ?_|refine g_W ?_);(try simp -implicitDefEqProofs only[go_sem]))|(with_reducible refine hK _ _ ?_;clear hK K)|(clear hK K;first|(with_reducible refine hK _ _ ?_;clear hK K)|(clear hK K;with_reducible refine hK _ _ ?_;clear hK K)|(clear hK K;clear hK K;with_reducible refine hK _ _ ?_;clear hK K))|(with_reducible refine splitB_intro (fun h=>?_) (fun h=>?_)<;>(try simp only[go_sem] at h)<;>(try exact g_f)<;>(try simp -implicitDefEqProofs only[go_sem]))|(with_reducible refine And.intro (fun h=>?_) (fun h=>?_)<;>(try simp only[go_sem] at h)<;>(try exact g_f))|(with_reducible refine And.intro ?_ ?_;· exact g_x)|(with_reducible intro h;(try simp only[go_sem] at h);(try exact g_f))))
            exact fin rfl rfl
          · rw [decide_eq_false h5, if_neg (by decide)]
            (repeat' (first|(refine g_s fun K hK=>?_)|(refine g_b ?_)|(refine g_r ?_)|(refine g_k ?_;simp only[thenQ,blockQ])|(refine g_e ?_;simp only[thenQ,blockQ,↓reduceIte,Nat.reduceEqDiff])|(refine g_c (fun h=>?_) (fun h=>?_)<;>(try simp only[go_sem] at h)<;>(try exact g_f))|((first|refine g_t ?_|refine g_g ?_|refine g_U ?_|refine g_A ?_|refine (hVa _).use ?_|refine g_q (fun τ=>hVa _) ?_|refine (hVb _).use ?_|refine g_q (fun τ=>hVb _) ?_|refine g_W ?_);(try simp -implicitDefEqProofs only[go_sem]))|(with_reducible refine hK _ _ ?_;clear hK K)|(clear hK K;first|(with_reducible refine hK _ _ ?_;clear hK K)|(clear hK K;with_reducible refine hK _ _ ?_;clear hK K)|(clear hK K;clear hK K;with_reducible refine hK _ _ ?_;clear hK K))|(with_reducible refine splitB_intro (fun h=>?_) (fun h=>?_)<;>(try simp only[go_sem] at h)<;>(try exact g_f)<;>(try simp -implicitDefEqProofs only[go_sem]))|(with_reducible refine And.intro (fun h=>?_) (fun h=>?_)<;>(try simp only[go_sem] at h)<;>(try exact g_f))|(with_reducible refine And.intro ?_ ?_;· exact g_x)|(with_reducible intro h;(try simp only[go_sem] at h);(try exact g_f))))
            exact fin rfl rfl
      · rw [if_pos h3]
        by_cases h5 : bestA n a.w b.w = a.w
        · rw [decide_eq_true h5, if_pos rfl]
          (repeat' (first|(refine g_s fun K hK=>?_)|(refine g_b ?_)|(refine g_r ?_)|(refine g_k ?_;simp only[thenQ,blockQ])|(refine g_e ?_;simp only[thenQ,blockQ,↓reduceIte,Nat.reduceEqDiff])|(refine g_c (fun h=>?_) (fun h=>?_)<;>(try simp only[go_sem] at h)<;>(try exact g_f))|((first|refine g_t ?_|refine g_g ?_|refine g_U ?_|refine g_A ?_|refine (hVa _).use ?_|refine g_q (fun τ=>hVa _) ?_|refine (hVb _).use ?_|refine g_q (fun τ=>hVb _) ?_|refine g_W ?_);(try simp -implicitDefEqProofs only[go_sem,hb2]))|(with_reducible refine hK _ _ ?_;clear hK K)|(clear hK K;first|(with_reducible refine hK _ _ ?_;clear hK K)|(clear hK K;with_reducible refine hK _ _ ?_;clear hK K)|(clear hK K;clear hK K;with_reducible refine hK _ _ ?_;clear hK K))|(with_reducible refine splitB_intro (fun h=>?_) (fun h=>?_)<;>(try simp only[go_sem] at h)<;>(try exact g_f)<;>(try simp -implicitDefEqProofs only[go_sem,hb2]))|(with_reducible refine And.intro (fun h=>?_) (fun h=>?_)<;>(try simp only[go_sem] at h)<;>(try exact g_f))|(with_reducible refine And.intro ?_ ?_;· exact g_x)|(with_reducible intro h;(try simp only[go_sem] at h);(try exact g_f))))
          exact fin rfl rfl
        · rw [decide_eq_false h5, if_neg (by decide)]
          (repeat' (first|(refine g_s fun K hK=>?_)|(refine g_b ?_)|(refine g_r ?_)|(refine g_k ?_;simp only[thenQ,blockQ])|(refine g_e ?_;simp only[thenQ,blockQ,↓reduceIte,Nat.reduceEqDiff])|(refine g_c (fun h=>?_) (fun h=>?_)<;>(try simp only[go_sem] at h)<;>(try exact g_f))|((first|refine g_t ?_|refine g_g ?_|refine g_U ?_|refine g_A ?_|refine (hVa _).use ?_|refine g_q (fun τ=>hVa _) ?_|refine (hVb _).use ?_|refine g_q (fun τ=>hVb _) ?_|refine g_W ?_);(try simp -implicitDefEqProofs only[go_sem,hb2]))|(with_reducible refine hK _ _ ?_;clear hK K)|(clear hK K;first|(with_reducible refine hK _ _ ?_;clear hK K)|(clear hK K;with_reducible refine hK _ _ ?_;clear hK K)|(clear hK K;clear hK K;with_reducible refine hK _ _ ?_;clear hK K))|(with_reducible refine splitB_intro (fun h=>?_) (fun h=>?_)<;>(try simp only[go_sem] at h)<;>(try exact g_f)<;>(try simp -implicitDefEqProofs only[go_sem,hb2]))|(with_reducible refine And.intro (fun h=>?_) (fun h=>?_)<;>(try simp only[go_sem] at h)<;>(try exact g_f))|(with_reducible refine And.intro ?_ ?_;· exact g_x)|(with_reducible intro h;(try simp only[go_sem] at h);(try exact g_f))))
          exact fin rfl rfl

theorem extend_calls (n : Net) (l : Lnk) (r : Rt) (hn : NetIn n) (hl : LnkIn n l) (hr : RightR n r) (hp : r.p.length ≤ 100) (σ : Store) :
    ACalls Try.prog 109 [.agg (netC n), .agg (lnkC l), .agg (rtC r)] σ fun r' σ' => σ' = σ ∧ r' = .agg (rtC (extR n l.fr l.edge r)) := by
  have s2 := hn.alg.s2
  have s24 := hn.alg.s24
  have hi : I64 (n.alg.size - 1) := by unfold I64; omega
  have hV := fun S => pvalid_calls n r hi S
  have hC := contains_calls r.p l.fr (by omega)
  have hN := pnone_calls n hi
  have hel := hn.alg.edge_len hl.e0 hl.e1
  have e0 := hl.e0
  have e1 := hl.e1
  have w0 := hr.w.1
  have w1 := hr.w.2
  have hov : at0 (at0 n.alg.edges l.edge) r.w = overA n l.edge r.w := rfl
  obtain ⟨v, hv⟩ : ∃ v, overA n l.edge r.w = v := ⟨_, rfl⟩
  rw [hv] at hov
  have finN : ∀ {S τ : Store}, S = σ ++ τ → DeepQ σ (.agg (rtC (invR n))) (.agg [intA1 (n.alg.size - 1), intsA []]) S := fun {S τ} h1 => DeepQ_of h1 (.aggL (.cons (.c _) (.cons (.ints []) .nil))) (.same _)
  unfold rtC invR at hN
  refine ACalls.deep ?_
  rw [extR, hv]
  refine ACalls_of_awp Try.func109 rfl Try.results109 ?_
  simp only [List.length_cons, List.length_nil, Try.ntmps109, Nat.reduceAdd, Nat.reduceSub, enterA]
  refine AWP_seq_k fun K hK => ?_
  (refine AWP_region ?_; simp -implicitDefEqProofs only [go_sem])
  refine hK _ _ ?_; clear hK K
  refine AWP_freezeP 3 rfl (by simp only [st0]; rfl) ?_
  simp only [ss0, List.set_cons_zero]
  refine AWP_freezeP 4 rfl (by simp only [st1]; rfl) ?_
  simp only [ss1, List.set_cons_zero, List.set_cons_succ]
  refine AWP_freezeP 5 rfl (by simp only [st1]; rfl) ?_
  simp only [ss1, List.set_cons_zero, List.set_cons_succ]
  by_cases h1 : r.w = n.alg.size - 1
  · rw [decide_eq_false (not_not_intro h1)] at hV
    rw [if_pos (Or.inl h1)]
    (repeat' (first|(refine g_s fun K hK=>?_)|(refine g_b ?_)|(refine g_r ?_)|(refine g_k ?_;simp only[thenQ,blockQ])|(refine g_e ?_;simp only[thenQ,blockQ,↓reduceIte,Nat.reduceEqDiff])|(refine g_c (fun h=>?_) (fun h=>?_)<;>(try simp only[go_sem] at h)<;>(try exact g_f))|((first|refine g_t ?_|refine g_g ?_|refine g_U ?_|refine g_A ?_|refine (hV _).use ?_|refine g_q (fun τ=>hV _) ?_|refine (hN _).use ?_|refine g_q (fun τ=>hN _) ?_|refine g_W ?_);(try simp -implicitDefEqProofs only[go_sem]))|(with_reducible refine hK _ _ ?_;clear hK K)|(clear hK K;first|(with_reducible refine hK _ _ ?_;clear hK K)|(clear hK K;with_reducible refine hK _ _ ?_;clear hK K)|(clear hK K;clear hK K;with_reducible refine hK _ _ ?_;clear hK K))|(with_reducible refine splitB_intro (fun h=>?_) (fun h=>?_)<;>(try simp only[go_sem] at h)<;>(try exact g_f)<;>(try simp -implicitDefEqProofs only[go_sem]))|(with_reducible refine And.intro (fun h=>?_) (fun h=>?_)<;>(try simp only[go_sem] at h)<;>(try exact g_f))|(with_reducible refine And.intro ?_ ?_;· exact g_x)|(with_reducible intro h;(try simp only[go_sem] at h);(try exact g_f))))
    exact finN rfl
  · rw [decide_eq_true h1] at hV
    by_cases h2 : l.fr ∈ r.p
    · rw [if_pos (Or.inr (Or.inl h2))]
      rw [decide_eq_true h2] at hC
      (repeat' (first|(refine g_s fun K hK=>?_)|(refine g_b ?_)|(refine g_r ?_)|(refine g_k ?_;simp only[thenQ,blockQ])|(refine g_e ?_;simp only[thenQ,blockQ,↓reduceIte,Nat.reduceEqDiff])|(refine g_c (fun h=>?_) (fun h=>?_)<;>(try simp only[go_sem] at h)<;>(try exact g_f))|((first|refine g_t ?_|refine g_g ?_|refine g_U ?_|refine g_A ?_|refine (hV _).use ?_|refine g_q (fun τ=>hV _) ?_|refine (hC _).use ?_|refine g_q (fun τ=>hC _) ?_|refine (hN _).use ?_|refine g_q (fun τ=>hN _) ?_|refine g_W ?_);(try simp -implicitDefEqProofs only[go_sem]))|(with_reducible refine hK _ _ ?_;clear hK K)|(clear hK K;first|(with_reducible refine hK _ _ ?_;clear hK K)|(clear hK K;with_reducible refine hK _ _ ?_;clear hK K)|(clear hK K;clear hK K;with_reducible refine hK _ _ ?_;clear hK K))|(with_reducible refine splitB_intro (fun h=>?_) (fun h=>?_)<;>(try simp only[go_sem] at h)<;>(try exact g_f)<;>(try simp -implicitDefEqProofs only[go_sem]))|(with_reducible refine And.intro (fun h=>?_) (fun h=>?_)<;>(try simp only[go_sem] at h)<;>(try exact g_f))|(with_reducible refine And.intro ?_ ?_;· exact g_x)|(with_reducible intro h;(try simp only[go_sem] at h);(try exact g_f))))
      exact finN rfl
    · rw [decide_eq_false h2] at hC
      by_cases h3 : v = n.alg.size - 1
      · rw [if_pos (Or.inr (Or.inr h3))]
        (repeat' (first|(refine g_s fun K hK=>?_)|(refine g_b ?_)|(refine g_r ?_)|(refine g_k ?_;simp only[thenQ,blockQ])|(refine g_e ?_;simp only[thenQ,blockQ,↓reduceIte,Nat.reduceEqDiff])|(refine g_c (fun h=>?_) (fun h=>?_)<;>(try simp only[go_sem] at h)<;>(try exact g_f))|((first|refine g_t ?_|refine g_g ?_|refine g_U ?_|refine g_A ?_|refine (hV _).use ?_|refine g_q (fun τ=>hV _) ?_|refine (hC _).use ?_|refine g_q (fun τ=>hC _) ?_|refine (hN _).use ?_|refine g_q (fun τ=>hN _) ?_|refine (invalid_calls n.alg hi _).use ?_|refine g_q (fun τ=>invalid_calls n.alg hi _) ?_|refine g_W ?_);(try simp -implicitDefEqProofs only[go_sem,hov]))|(with_reducible refine hK _ _ ?_;clear hK K)|(clear hK K;first|(with_reducible refine hK _ _ ?_;clear hK K)|(clear hK K;with_reducible refine hK _ _ ?_;clear hK K)|(clear hK K;clear hK K;with_reducible refine hK _ _ ?_;clear hK K))|(with_reducible refine splitB_intro (fun h=>?_) (fun h=>?_)<;>(try simp only[go_sem] at h)<;>(try exact g_f)<;>(try simp -implicitDefEqProofs only[go_sem,hov]))|(with_reducible refine And.intro (fun h=>?_) (fun h=>?_)<;>(try simp only[go_sem] at h)<;>(try exact g_f))|(with_reducible refine And.intro ?_ ?_;· exact g_x)|(with_reducible intro h;(try simp only[go_sem] at h);(try exact g_f))))
        exact finN rfl
      · rw [if_neg (by rw [not_or, not_or]; exact ⟨h1, h2, h3⟩)]
        (repeat' (first|(refine g_s fun K hK=>?_)|(refine g_b ?_)|(refine g_r ?_)|(refine g_k ?_;simp only[thenQ,blockQ])|(refine g_e ?_;simp only[thenQ,blockQ,↓reduceIte,Nat.reduceEqDiff])|(refine g_c (fun h=>?_) (fun h=>?_)<;>(try simp only[go_sem] at h)<;>(try exact g_f))|((first|refine g_t ?_|refine g_g ?_|refine g_U ?_|refine g_A ?_|refine (hV _).use ?_|refine g_q (fun τ=>hV _) ?_|refine (hC _).use ?_|refine g_q (fun τ=>hC _) ?_|refine (hN _).use ?_|refine g_q (fun τ=>hN _) ?_|refine (invalid_calls n.alg hi _).use ?_|refine g_q (fun τ=>invalid_calls n.alg hi _) ?_|refine g_W ?_);(try simp -implicitDefEqProofs only[go_sem,hov]))|(with_reducible refine hK _ _ ?_;clear hK K)|(clear hK K;first|(with_reducible refine hK _ _ ?_;clear hK K)|(clear hK K;with_reducible refine hK _ _ ?_;clear hK K)|(clear hK K;clear hK K;with_reducible refine hK _ _ ?_;clear hK K))|(with_reducible refine splitB_intro (fun h=>?_) (fun h=>?_)<;>(try simp only[go_sem] at h)<;>(try exact g_f)<;>(try simp -implicitDefEqProofs only[go_sem,hov]))|(with_reducible refine And.intro (fun h=>?_) (fun h=>?_)<;>(try simp only[go_sem] at h)<;>(try exact g_f))|(with_reducible refine And.intro ?_ ?_;· exact g_x)|(with_reducible intro h;(try simp only[go_sem] at h);(try exact g_f))))
        refine DeepQ_of rfl (.aggL (.cons (.c _) (.cons (.ints (l.fr :: r.p)) .nil))) ?_
        exact .aggL (.cons (.same _) (.cons (Deep.ownW (es := (l.fr :: r.p).map intC) (Nat.le_add_right _ _) (by rw [st1]; rfl) (by simp) (.same _)) .nil))

end Go.Proofs.Ytephecognbbaoab
