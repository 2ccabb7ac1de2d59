/- Routes with paths, as the document tells them: when one is right, the better of two, what a link makes of one. -/
import Derived.Test.YtephecognbbaoabUc
namespace Go.Proofs.Ytephecognbbaoab
open Go
set_option linter.all false
set_option maxRecDepth 100000
set_option maxHeartbeats 4000000

theorem isRight_calls (n : Net) (r : Rt) (hn : NetIn n) (hp : r.p.length ≤ 17592186044000) (σ : Store) : ACalls Try.prog 49 [.agg (netC n), .agg (rtC r)] σ fun r' σ' => σ' = σ ∧ r' = .c (.bool (rightB n r)) := by
  have n1 := hn.n1
  have n6 := hn.n6
  have s2 := hn.alg.s2
  have s24 := hn.alg.s24
  have hI : ∀ v S, ACalls Try.prog 78 [.agg (netC n), intA1 v] S fun r σ' => σ' = S ∧ r = .c (.bool (inR v 0 (n.nodes - 1))) := fun v S => isNode_calls n v (by unfold I64; omega) S
  have hB : ∀ S, ACalls Try.prog 77 [intA1 r.w, intA1 0, intA1 (n.alg.size - 1)] S fun r' σ' => σ' = S ∧ r' = .c (.bool (inR r.w 0 (n.alg.size - 1))) := fun S => between_calls r.w 0 (n.alg.size - 1) S
  refine ACalls.cutX ?_
  by_cases h1 : inR r.w 0 (n.alg.size - 1) = true
  · by_cases h2 : r.w = n.alg.size - 1
    · refine ACalls_of_awp Try.func49 rfl Try.results49 ?_
      simp only [List.length_cons, List.length_nil, Try.ntmps49, Nat.reduceAdd, Nat.reduceSub, enterA]
      refine AWP_seq_k fun K hK => ?_
      (refine AWP_region ?_; simp -implicitDefEqProofs only [go_sem])
      refine hK _ _ ?_; clear hK K
      refine AWP_freezeP 2 rfl (by simp only [st0]; rfl) ?_
      simp only [ss0, List.set_cons_zero]
      refine AWP_freezeP 3 rfl (by simp only [st1]; rfl) ?_
      simp only [ss1, List.set_cons_zero, List.set_cons_succ]
      (repeat' (first|(refine g_s fun K hK=>?_)|(refine g_b ?_)|(refine g_r ?_)|(refine g_k ?_;simp only[thenQ,blockQ])|(refine g_e ?_;simp only[thenQ,blockQ,↓reduceIte,Nat.reduceEqDiff])|(refine g_c (fun h=>?_) (fun h=>?_)<;>(try simp only[go_sem] at h)<;>(try exact g_f))|((first|refine g_t ?_|refine g_g ?_|refine g_U ?_|refine g_A ?_|refine (hB _).use ?_|refine g_q (fun τ=>hB _) ?_|refine g_W ?_);(try simp -implicitDefEqProofs only[go_sem,h1]))|(with_reducible refine hK _ _ ?_;clear hK K)|(clear hK K;first|(with_reducible refine hK _ _ ?_;clear hK K)|(clear hK K;with_reducible refine hK _ _ ?_;clear hK K)|(clear hK K;clear hK K;with_reducible refine hK _ _ ?_;clear hK K))|(with_reducible refine splitB_intro (fun h=>?_) (fun h=>?_)<;>(try simp only[go_sem] at h)<;>(try exact g_f)<;>(try simp -implicitDefEqProofs only[go_sem,h1]))|(with_reducible refine And.intro (fun h=>?_) (fun h=>?_)<;>(try simp only[go_sem] at h)<;>(try exact g_f))|(with_reducible refine And.intro ?_ ?_;· exact g_x)|(with_reducible intro h;(try simp only[go_sem] at h);(try exact g_f))))
      refine CutQ_c rfl ?_
      rw [rightB, h1, if_pos h2, Bool.true_and]
      cases hpp : r.p <;> simp
      omega
    · rw [rightB_in h1 h2]
      refine ACalls_of_awp Try.func49 rfl Try.results49 ?_
      simp only [List.length_cons, List.length_nil, Try.ntmps49, Nat.reduceAdd, Nat.reduceSub, enterA]
      refine AWP_seq_k fun K hK => ?_
      (refine AWP_region ?_; simp -implicitDefEqProofs only [go_sem])
      refine hK _ _ ?_; clear hK K
      refine AWP_freezeP 2 rfl (by simp only [st0]; rfl) ?_
      simp only [ss0, List.set_cons_zero]
      refine AWP_freezeP 3 rfl (by simp only [st1]; rfl) ?_
      simp only [ss1, List.set_cons_zero, List.set_cons_succ]
      (repeat' (first|(refine g_s fun K hK=>?_)|(refine g_b ?_)|(refine g_r ?_)|(refine g_k ?_;simp only[thenQ,blockQ])|(refine g_e ?_;simp only[thenQ,blockQ,↓reduceIte,Nat.reduceEqDiff])|(refine g_c (fun h=>?_) (fun h=>?_)<;>(try simp only[go_sem] at h)<;>(try exact g_f))|((first|refine g_t ?_|refine g_g ?_|refine g_U ?_|refine g_A ?_|refine (hB _).use ?_|refine g_q (fun τ=>hB _) ?_|refine g_W ?_);(try simp -implicitDefEqProofs only[go_sem,h1, h2]))|(with_reducible refine hK _ _ ?_;clear hK K)|(clear hK K;first|(with_reducible refine hK _ _ ?_;clear hK K)|(clear hK K;with_reducible refine hK _ _ ?_;clear hK K)|(clear hK K;clear hK K;with_reducible refine hK _ _ ?_;clear hK K))|(with_reducible refine splitB_intro (fun h=>?_) (fun h=>?_)<;>(try simp only[go_sem] at h)<;>(try exact g_f)<;>(try simp -implicitDefEqProofs only[go_sem,h1, h2]))|(with_reducible refine And.intro (fun h=>?_) (fun h=>?_)<;>(try simp only[go_sem] at h)<;>(try exact g_f))|(with_reducible refine And.intro ?_ ?_;· exact g_x)|(with_reducible intro h;(try simp only[go_sem] at h);(try exact g_f))))
      have hJ := hK
      clear hK
      refine AWP_each r.p (fun k s (pre : List Int) => r.p = pre ++ s ∧ (pre.length : Int) = k ∧ pre.Nodup ∧ pre.all (fun k => inR k 0 (n.nodes - 1)) = true) (fun k _ _ => [(5, intA1 k)]) (fun _ _ _ => σ ++ [.dead, .dead]) [] [] ⟨rfl, rfl, List.nodup_nil, rfl⟩ rfl (ALe_of ?_) ?_ ?_
      · simp -implicitDefEqProofs only [go_sem]
      · rintro k s pre τ hk0 hk1 ⟨h3, h4, h5, h6⟩ L hL
        obtain ⟨i, hi0⟩ : ∃ i, at0 r.p k = i := ⟨_, rfl⟩
        rw [hi0] at h3
        have htk : r.p.take k.toNat = pre := by
          rw [h3, ← h4]
          simp
        have hcut := take_ints r.p k.toNat
        rw [htk] at hcut
        have hH := has_calls pre i (by have := congrArg List.length h3; simp at this; omega)
        have hNd : (r.p).Nodup → i ∉ pre := fun hd => by
          rw [h3] at hd
          have := List.nodup_append.1 hd
          exact fun hm => (this.2.2 i hm i (by simp)) rfl
        have hall : r.p.all (fun k => inR k 0 (n.nodes - 1)) = (inR i 0 (n.nodes - 1) && s.all (fun k => inR k 0 (n.nodes - 1))) := by
          rw [h3, List.all_append, h6, List.all_cons, Bool.true_and]
        simp -implicitDefEqProofs only [go_sem]
        by_cases hin : inR i 0 (n.nodes - 1) = true
        · by_cases hm : i ∈ pre
          · (repeat' (first|(refine g_s fun K hK=>?_)|(refine g_b ?_)|(refine g_r ?_)|(refine g_k ?_;simp only[thenQ,blockQ])|(refine g_e ?_;simp only[thenQ,blockQ,↓reduceIte,Nat.reduceEqDiff])|(refine g_c (fun h=>?_) (fun h=>?_)<;>(try simp only[go_sem] at h)<;>(try exact g_f))|((first|refine g_t ?_|refine g_g ?_|refine g_U ?_|refine g_A ?_|refine (hI _ _).use ?_|refine g_q (fun τ=>hI _ _) ?_|refine (hH _).use ?_|refine g_q (fun τ=>hH _) ?_|refine g_W ?_);(try simp -implicitDefEqProofs only[go_sem,hi0, hin, hm, hcut]))|(with_reducible refine hK _ _ ?_;clear hK K)|(clear hK K;first|(with_reducible refine hK _ _ ?_;clear hK K)|(clear hK K;with_reducible refine hK _ _ ?_;clear hK K)|(clear hK K;clear hK K;with_reducible refine hK _ _ ?_;clear hK K))|(with_reducible refine splitB_intro (fun h=>?_) (fun h=>?_)<;>(try simp only[go_sem] at h)<;>(try exact g_f)<;>(try simp -implicitDefEqProofs only[go_sem,hi0, hin, hm, hcut]))|(with_reducible refine And.intro (fun h=>?_) (fun h=>?_)<;>(try simp only[go_sem] at h)<;>(try exact g_f))|(with_reducible refine And.intro ?_ ?_;· exact g_x)|(with_reducible intro h;(try simp only[go_sem] at h);(try exact g_f))))
            refine CutQ_c rfl ?_
            rw [decide_eq_false (fun hd => hNd hd hm), Bool.and_false, Bool.and_false]
          · (repeat' (first|(refine g_s fun K hK=>?_)|(refine g_b ?_)|(refine g_r ?_)|(refine g_k ?_;simp only[thenQ,blockQ])|(refine g_e ?_;simp only[thenQ,blockQ,↓reduceIte,Nat.reduceEqDiff])|(refine g_c (fun h=>?_) (fun h=>?_)<;>(try simp only[go_sem] at h)<;>(try exact g_f))|((first|refine g_t ?_|refine g_g ?_|refine g_U ?_|refine g_A ?_|refine (hI _ _).use ?_|refine g_q (fun τ=>hI _ _) ?_|refine (hH _).use ?_|refine g_q (fun τ=>hH _) ?_|refine g_W ?_);(try simp -implicitDefEqProofs only[go_sem,hi0, hin, hm, hcut]))|(with_reducible refine hK _ _ ?_;clear hK K)|(clear hK K;first|(with_reducible refine hK _ _ ?_;clear hK K)|(clear hK K;with_reducible refine hK _ _ ?_;clear hK K)|(clear hK K;clear hK K;with_reducible refine hK _ _ ?_;clear hK K))|(with_reducible refine splitB_intro (fun h=>?_) (fun h=>?_)<;>(try simp only[go_sem] at h)<;>(try exact g_f)<;>(try simp -implicitDefEqProofs only[go_sem,hi0, hin, hm, hcut]))|(with_reducible refine And.intro (fun h=>?_) (fun h=>?_)<;>(try simp only[go_sem] at h)<;>(try exact g_f))|(with_reducible refine And.intro ?_ ?_;· exact g_x)|(with_reducible intro h;(try simp only[go_sem] at h);(try exact g_f))))
            refine hL (pre ++ [i]) [] _ _ ⟨by rw [h3]; simp, by simp; omega, ?_, by rw [List.all_append, h6]; simp [hin]⟩ (ALe_of ?_) rfl
            · refine List.nodup_append.2 ⟨h5, by simp, fun x hx y hy => ?_⟩
              rw [List.mem_singleton.1 hy]
              rintro rfl
              exact hm hx
            · simp -implicitDefEqProofs only [go_sem]
        · have hin : inR i 0 (n.nodes - 1) = false := by simpa using hin
          (repeat' (first|(refine g_s fun K hK=>?_)|(refine g_b ?_)|(refine g_r ?_)|(refine g_k ?_;simp only[thenQ,blockQ])|(refine g_e ?_;simp only[thenQ,blockQ,↓reduceIte,Nat.reduceEqDiff])|(refine g_c (fun h=>?_) (fun h=>?_)<;>(try simp only[go_sem] at h)<;>(try exact g_f))|((first|refine g_t ?_|refine g_g ?_|refine g_U ?_|refine g_A ?_|refine (hI _ _).use ?_|refine g_q (fun τ=>hI _ _) ?_|refine g_W ?_);(try simp -implicitDefEqProofs only[go_sem,hi0, hin]))|(with_reducible refine hK _ _ ?_;clear hK K)|(clear hK K;first|(with_reducible refine hK _ _ ?_;clear hK K)|(clear hK K;with_reducible refine hK _ _ ?_;clear hK K)|(clear hK K;clear hK K;with_reducible refine hK _ _ ?_;clear hK K))|(with_reducible refine splitB_intro (fun h=>?_) (fun h=>?_)<;>(try simp only[go_sem] at h)<;>(try exact g_f)<;>(try simp -implicitDefEqProofs only[go_sem,hi0, hin]))|(with_reducible refine And.intro (fun h=>?_) (fun h=>?_)<;>(try simp only[go_sem] at h)<;>(try exact g_f))|(with_reducible refine And.intro ?_ ?_;· exact g_x)|(with_reducible intro h;(try simp only[go_sem] at h);(try exact g_f))))
          refine CutQ_c rfl ?_
          rw [hall, hin, Bool.false_and, Bool.false_and, Bool.and_false]
      · rintro k pre τ hk ⟨h3, h4, h5, h6⟩ L
        rw [List.append_nil] at h3
        simp -implicitDefEqProofs only [go_sem]
        (repeat' (first|(refine g_s fun K hK=>?_)|(refine g_b ?_)|(refine g_r ?_)|(refine g_k ?_;simp only[thenQ,blockQ])|(refine g_e ?_;simp only[thenQ,blockQ,↓reduceIte,Nat.reduceEqDiff])|(refine g_c (fun h=>?_) (fun h=>?_)<;>(try simp only[go_sem] at h)<;>(try exact g_f))|((first|refine g_t ?_|refine g_g ?_|refine g_U ?_|refine g_A ?_|refine g_W ?_);(try simp -implicitDefEqProofs only[go_sem]))|(with_reducible refine hK _ _ ?_;clear hK K)|(clear hK K;first|(with_reducible refine hK _ _ ?_;clear hK K)|(clear hK K;with_reducible refine hK _ _ ?_;clear hK K)|(clear hK K;clear hK K;with_reducible refine hK _ _ ?_;clear hK K))|(with_reducible refine splitB_intro (fun h=>?_) (fun h=>?_)<;>(try simp only[go_sem] at h)<;>(try exact g_f)<;>(try simp -implicitDefEqProofs only[go_sem]))|(with_reducible refine And.intro (fun h=>?_) (fun h=>?_)<;>(try simp only[go_sem] at h)<;>(try exact g_f))|(with_reducible refine And.intro ?_ ?_;· exact g_x)|(with_reducible intro h;(try simp only[go_sem] at h);(try exact g_f))))
        refine hJ _ _ ?_
        clear hJ
        (repeat' (first|(refine g_s fun K hK=>?_)|(refine g_b ?_)|(refine g_r ?_)|(refine g_k ?_;simp only[thenQ,blockQ])|(refine g_e ?_;simp only[thenQ,blockQ,↓reduceIte,Nat.reduceEqDiff])|(refine g_c (fun h=>?_) (fun h=>?_)<;>(try simp only[go_sem] at h)<;>(try exact g_f))|((first|refine g_t ?_|refine g_g ?_|refine g_U ?_|refine g_A ?_|refine g_W ?_);(try simp -implicitDefEqProofs only[go_sem]))|(with_reducible refine hK _ _ ?_;clear hK K)|(clear hK K;first|(with_reducible refine hK _ _ ?_;clear hK K)|(clear hK K;with_reducible refine hK _ _ ?_;clear hK K)|(clear hK K;clear hK K;with_reducible refine hK _ _ ?_;clear hK K))|(with_reducible refine splitB_intro (fun h=>?_) (fun h=>?_)<;>(try simp only[go_sem] at h)<;>(try exact g_f)<;>(try simp -implicitDefEqProofs only[go_sem]))|(with_reducible refine And.intro (fun h=>?_) (fun h=>?_)<;>(try simp only[go_sem] at h)<;>(try exact g_f))|(with_reducible refine And.intro ?_ ?_;· exact g_x)|(with_reducible intro h;(try simp only[go_sem] at h);(try exact g_f))))
        refine CutQ_c rfl ?_
        rw [h3, h6, decide_eq_true h5]
        cases pre <;> simp
  · have h1 : inR r.w 0 (n.alg.size - 1) = false := by simpa using h1
    refine ACalls_of_awp Try.func49 rfl Try.results49 ?_
    simp only [List.length_cons, List.length_nil, Try.ntmps49, Nat.reduceAdd, Nat.reduceSub, enterA]
    refine AWP_seq_k fun K hK => ?_
    (refine AWP_region ?_; simp -implicitDefEqProofs only [go_sem])
    refine hK _ _ ?_; clear hK K
    refine AWP_freezeP 2 rfl (by simp only [st0]; rfl) ?_
    simp only [ss0, List.set_cons_zero]
    refine AWP_freezeP 3 rfl (by simp only [st1]; rfl) ?_
    simp only [ss1, List.set_cons_zero, List.set_cons_succ]
    (repeat' (first|(refine g_s fun K hK=>?_)|(refine g_b ?_)|(refine g_r ?_)|(refine g_k ?_;simp only[thenQ,blockQ])|(refine g_e ?_;simp only[thenQ,blockQ,↓reduceIte,Nat.reduceEqDiff])|(refine g_c (fun h=>?_) (fun h=>?_)<;>(try simp only[go_sem] at h)<;>(try exact g_f))|((first|refine g_t ?_|refine g_g ?_|refine g_U ?_|refine g_A ?_|refine (hB _).use ?_|refine g_q (fun τ=>hB _) ?_|refine g_W ?_);(try simp -implicitDefEqProofs only[go_sem,h1]))|(with_reducible refine hK _ _ ?_;clear hK K)|(clear hK K;first|(with_reducible refine hK _ _ ?_;clear hK K)|(clear hK K;with_reducible refine hK _ _ ?_;clear hK K)|(clear hK K;clear hK K;with_reducible refine hK _ _ ?_;clear hK K))|(with_reducible refine splitB_intro (fun h=>?_) (fun h=>?_)<;>(try simp only[go_sem] at h)<;>(try exact g_f)<;>(try simp -implicitDefEqProofs only[go_sem,h1]))|(with_reducible refine And.intro (fun h=>?_) (fun h=>?_)<;>(try simp only[go_sem] at h)<;>(try exact g_f))|(with_reducible refine And.intro ?_ ?_;· exact g_x)|(with_reducible intro h;(try simp only[go_sem] at h);(try exact g_f))))
    refine CutQ_c rfl ?_
    rw [rightB, h1, Bool.false_and]

theorem first_calls (n : Net) (a b : Rt) (hn : NetIn n) (ha : RightR n a) (hb : RightR n b) (hpa : a.p.length ≤ 17592186044000) (hpb : b.p.length ≤ 17592186044000) (σ : Store) :
    ACalls Try.prog 110 [.agg (netC n), .agg (rtC a), .agg (rtC b)] σ fun r σ' => σ' = σ ∧ r = .c (.bool (firstA n a b)) := by
  have s2 := hn.alg.s2
  have s24 := hn.alg.s24
  have hi : I64 (n.alg.size - 1) := by unfold I64; omega
  have hVa := fun S => risValid_calls n a hi S
  have hVb := fun S => risValid_calls n b hi S
  have hbest := hn.alg.best_len ha.w.1 ha.w.2
  have w0 := ha.w.1
  have w1 := ha.w.2
  have v0 := hb.w.1
  have v1 := hb.w.2
  have hbl := hn.alg.bl
  have hb2 : at0 (at0 n.alg.best a.w) b.w = bestA n a.w b.w := rfl
  refine ACalls.cutX ?_
  refine ACalls_of_awp Try.func110 rfl Try.results110 ?_
  simp only [List.length_cons, List.length_nil, Try.ntmps110, Nat.reduceAdd, Nat.reduceSub, enterA]
  refine AWP_seq_k fun K hK => ?_
  (refine AWP_region ?_; simp -implicitDefEqProofs only [go_sem])
  refine hK _ _ ?_; clear hK K
  refine AWP_freezeP 3 rfl (by simp only [st0]; rfl) ?_
  simp only [ss0, List.set_cons_zero]
  refine AWP_freezeP 4 rfl (by simp only [st1]; rfl) ?_
  simp only [ss1, List.set_cons_zero, List.set_cons_succ]
  refine AWP_freezeP 5 rfl (by simp only [st1]; rfl) ?_
  simp only [ss1, List.set_cons_zero, List.set_cons_succ]
  by_cases h1 : a.w = n.alg.size - 1
  · rw [decide_eq_false (not_not_intro h1)] at hVa
    (repeat' (first|(refine g_s fun K hK=>?_)|(refine g_b ?_)|(refine g_r ?_)|(refine g_k ?_;simp only[thenQ,blockQ])|(refine g_e ?_;simp only[thenQ,blockQ,↓reduceIte,Nat.reduceEqDiff])|(refine g_c (fun h=>?_) (fun h=>?_)<;>(try simp only[go_sem] at h)<;>(try exact g_f))|((first|refine g_t ?_|refine g_g ?_|refine g_U ?_|refine g_A ?_|refine (hVa _).use ?_|refine g_q (fun τ=>hVa _) ?_|refine g_W ?_);(try simp -implicitDefEqProofs only[go_sem]))|(with_reducible refine hK _ _ ?_;clear hK K)|(clear hK K;first|(with_reducible refine hK _ _ ?_;clear hK K)|(clear hK K;with_reducible refine hK _ _ ?_;clear hK K)|(clear hK K;clear hK K;with_reducible refine hK _ _ ?_;clear hK K))|(with_reducible refine splitB_intro (fun h=>?_) (fun h=>?_)<;>(try simp only[go_sem] at h)<;>(try exact g_f)<;>(try simp -implicitDefEqProofs only[go_sem]))|(with_reducible refine And.intro (fun h=>?_) (fun h=>?_)<;>(try simp only[go_sem] at h)<;>(try exact g_f))|(with_reducible refine And.intro ?_ ?_;· exact g_x)|(with_reducible intro h;(try simp only[go_sem] at h);(try exact g_f))))
    refine CutQ_c rfl ?_
    rw [firstA, if_pos (Or.inl h1), decide_eq_false (not_not_intro h1)]
  · rw [decide_eq_true h1] at hVa
    by_cases h2 : b.w = n.alg.size - 1
    · rw [decide_eq_false (not_not_intro h2)] at hVb
      (repeat' (first|(refine g_s fun K hK=>?_)|(refine g_b ?_)|(refine g_r ?_)|(refine g_k ?_;simp only[thenQ,blockQ])|(refine g_e ?_;simp only[thenQ,blockQ,↓reduceIte,Nat.reduceEqDiff])|(refine g_c (fun h=>?_) (fun h=>?_)<;>(try simp only[go_sem] at h)<;>(try exact g_f))|((first|refine g_t ?_|refine g_g ?_|refine g_U ?_|refine g_A ?_|refine (hVa _).use ?_|refine g_q (fun τ=>hVa _) ?_|refine (hVb _).use ?_|refine g_q (fun τ=>hVb _) ?_|refine g_W ?_);(try simp -implicitDefEqProofs only[go_sem]))|(with_reducible refine hK _ _ ?_;clear hK K)|(clear hK K;first|(with_reducible refine hK _ _ ?_;clear hK K)|(clear hK K;with_reducible refine hK _ _ ?_;clear hK K)|(clear hK K;clear hK K;with_reducible refine hK _ _ ?_;clear hK K))|(with_reducible refine splitB_intro (fun h=>?_) (fun h=>?_)<;>(try simp only[go_sem] at h)<;>(try exact g_f)<;>(try simp -implicitDefEqProofs only[go_sem]))|(with_reducible refine And.intro (fun h=>?_) (fun h=>?_)<;>(try simp only[go_sem] at h)<;>(try exact g_f))|(with_reducible refine And.intro ?_ ?_;· exact g_x)|(with_reducible intro h;(try simp only[go_sem] at h);(try exact g_f))))
      refine CutQ_c rfl ?_
      rw [firstA, if_pos (Or.inr h2), decide_eq_true h1]
    · rw [decide_eq_true h2] at hVb
      have h12 : ¬ (a.w = n.alg.size - 1 ∨ b.w = n.alg.size - 1) := by rw [not_or]; exact ⟨h1, h2⟩
      rw [firstA, if_neg h12]
      by_cases h3 : a.w = b.w
      · rw [if_neg (not_not_intro h3)]
        by_cases h4 : a.p.length = b.p.length
        · rw [if_neg (not_not_intro h4)]
          (repeat' (first|(refine g_s fun K hK=>?_)|(refine g_b ?_)|(refine g_r ?_)|(refine g_k ?_;simp only[thenQ,blockQ])|(refine g_e ?_;simp only[thenQ,blockQ,↓reduceIte,Nat.reduceEqDiff])|(refine g_c (fun h=>?_) (fun h=>?_)<;>(try simp only[go_sem] at h)<;>(try exact g_f))|((first|refine g_t ?_|refine g_g ?_|refine g_U ?_|refine g_A ?_|refine (hVa _).use ?_|refine g_q (fun τ=>hVa _) ?_|refine (hVb _).use ?_|refine g_q (fun τ=>hVb _) ?_|refine g_W ?_);(try simp -implicitDefEqProofs only[go_sem]))|(with_reducible refine hK _ _ ?_;clear hK K)|(clear hK K;first|(with_reducible refine hK _ _ ?_;clear hK K)|(clear hK K;with_reducible refine hK _ _ ?_;clear hK K)|(clear hK K;clear hK K;with_reducible refine hK _ _ ?_;clear hK K))|(with_reducible refine splitB_intro (fun h=>?_) (fun h=>?_)<;>(try simp only[go_sem] at h)<;>(try exact g_f)<;>(try simp -implicitDefEqProofs only[go_sem]))|(with_reducible refine And.intro (fun h=>?_) (fun h=>?_)<;>(try simp only[go_sem] at h)<;>(try exact g_f))|(with_reducible refine And.intro ?_ ?_;· exact g_x)|(with_reducible intro h;(try simp only[go_sem] at h);(try exact g_f))))
          have hJ := hK
          clear hK
          refine AWP_for (a.p.length : Int) (fun k _ => a.p.take k.toNat = b.p.take k.toNat) (fun k _ _ => [(7, intA1 k)]) (fun _ _ _ => σ ++ [.dead, .dead, .dead]) () [] (by omega) rfl rfl (ALe_of ?_) ?_
          · simp -implicitDefEqProofs only [go_sem]
          · rintro k _ τ hk0 hk1 h5 L hL
            obtain ⟨x, hx⟩ : ∃ x, at0 a.p k = x := ⟨_, rfl⟩
            obtain ⟨y, hy⟩ : ∃ y, at0 b.p k = y := ⟨_, rfl⟩
            simp -implicitDefEqProofs only [go_sem]
            by_cases hlt : k < a.p.length
            · by_cases hxy : x = y
              · (repeat' (first|(refine g_s fun K hK=>?_)|(refine g_b ?_)|(refine g_r ?_)|(refine g_k ?_;simp only[thenQ,blockQ])|(refine g_e ?_;simp only[thenQ,blockQ,↓reduceIte,Nat.reduceEqDiff])|(refine g_c (fun h=>?_) (fun h=>?_)<;>(try simp only[go_sem] at h)<;>(try exact g_f))|((first|refine g_t ?_|refine g_g ?_|refine g_U ?_|refine g_A ?_|refine g_W ?_);(try simp -implicitDefEqProofs only[go_sem,hx, hy]))|(with_reducible refine hK _ _ ?_;clear hK K)|(clear hK K;first|(with_reducible refine hK _ _ ?_;clear hK K)|(clear hK K;with_reducible refine hK _ _ ?_;clear hK K)|(clear hK K;clear hK K;with_reducible refine hK _ _ ?_;clear hK K))|(with_reducible refine splitB_intro (fun h=>?_) (fun h=>?_)<;>(try simp only[go_sem] at h)<;>(try exact g_f)<;>(try simp -implicitDefEqProofs only[go_sem,hx, hy]))|(with_reducible refine And.intro (fun h=>?_) (fun h=>?_)<;>(try simp only[go_sem] at h)<;>(try exact g_f))|(with_reducible refine And.intro ?_ ?_;· exact g_x)|(with_reducible intro h;(try simp only[go_sem] at h);(try exact g_f))))
                refine hL hlt () [] _ _ ?_ (ALe_of ?_) rfl
                · rw [take_at a.p hk0 hlt, take_at b.p hk0 (by omega), h5, hx, hy, hxy]
                · simp -implicitDefEqProofs only [go_sem]
              · have hkk : ((k.toNat : Nat) : Int) = k := by omega
                have hl := lex_at h4 k.toNat (by omega) h5 (by rw [hkk, hx, hy]; exact hxy)
                rw [hkk, hx, hy] at hl
                (repeat' (first|(refine g_s fun K hK=>?_)|(refine g_b ?_)|(refine g_r ?_)|(refine g_k ?_;simp only[thenQ,blockQ])|(refine g_e ?_;simp only[thenQ,blockQ,↓reduceIte,Nat.reduceEqDiff])|(refine g_c (fun h=>?_) (fun h=>?_)<;>(try simp only[go_sem] at h)<;>(try exact g_f))|((first|refine g_t ?_|refine g_g ?_|refine g_U ?_|refine g_A ?_|refine g_W ?_);(try simp -implicitDefEqProofs only[go_sem,hx, hy]))|(with_reducible refine hK _ _ ?_;clear hK K)|(clear hK K;first|(with_reducible refine hK _ _ ?_;clear hK K)|(clear hK K;with_reducible refine hK _ _ ?_;clear hK K)|(clear hK K;clear hK K;with_reducible refine hK _ _ ?_;clear hK K))|(with_reducible refine splitB_intro (fun h=>?_) (fun h=>?_)<;>(try simp only[go_sem] at h)<;>(try exact g_f)<;>(try simp -implicitDefEqProofs only[go_sem,hx, hy]))|(with_reducible refine And.intro (fun h=>?_) (fun h=>?_)<;>(try simp only[go_sem] at h)<;>(try exact g_f))|(with_reducible refine And.intro ?_ ?_;· exact g_x)|(with_reducible intro h;(try simp only[go_sem] at h);(try exact g_f))))
                exact CutQ_c rfl (by rw [hl])
            · have he : a.p = b.p := by
                rw [List.take_of_length_le (by omega), List.take_of_length_le (by omega)] at h5
                exact h5
              (repeat' (first|(refine g_s fun K hK=>?_)|(refine g_b ?_)|(refine g_r ?_)|(refine g_k ?_;simp only[thenQ,blockQ])|(refine g_e ?_;simp only[thenQ,blockQ,↓reduceIte,Nat.reduceEqDiff])|(refine g_c (fun h=>?_) (fun h=>?_)<;>(try simp only[go_sem] at h)<;>(try exact g_f))|((first|refine g_t ?_|refine g_g ?_|refine g_U ?_|refine g_A ?_|refine g_W ?_);(try simp -implicitDefEqProofs only[go_sem]))|(with_reducible refine hK _ _ ?_;clear hK K)|(clear hK K;first|(with_reducible refine hK _ _ ?_;clear hK K)|(clear hK K;with_reducible refine hK _ _ ?_;clear hK K)|(clear hK K;clear hK K;with_reducible refine hK _ _ ?_;clear hK K))|(with_reducible refine splitB_intro (fun h=>?_) (fun h=>?_)<;>(try simp only[go_sem] at h)<;>(try exact g_f)<;>(try simp -implicitDefEqProofs only[go_sem]))|(with_reducible refine And.intro (fun h=>?_) (fun h=>?_)<;>(try simp only[go_sem] at h)<;>(try exact g_f))|(with_reducible refine And.intro ?_ ?_;· exact g_x)|(with_reducible intro h;(try simp only[go_sem] at h);(try exact g_f))))
              refine hJ _ _ ?_
              clear hJ
              (repeat' (first|(refine g_s fun K hK=>?_)|(refine g_b ?_)|(refine g_r ?_)|(refine g_k ?_;simp only[thenQ,blockQ])|(refine g_e ?_;simp only[thenQ,blockQ,↓reduceIte,Nat.reduceEqDiff])|(refine g_c (fun h=>?_) (fun h=>?_)<;>(try simp only[go_sem] at h)<;>(try exact g_f))|((first|refine g_t ?_|refine g_g ?_|refine g_U ?_|refine g_A ?_|refine g_W ?_);(try simp -implicitDefEqProofs only[go_sem]))|(with_reducible refine hK _ _ ?_;clear hK K)|(clear hK K;first|(with_reducible refine hK _ _ ?_;clear hK K)|(clear hK K;with_reducible refine hK _ _ ?_;clear hK K)|(clear hK K;clear hK K;with_reducible refine hK _ _ ?_;clear hK K))|(with_reducible refine splitB_intro (fun h=>?_) (fun h=>?_)<;>(try simp only[go_sem] at h)<;>(try exact g_f)<;>(try simp -implicitDefEqProofs only[go_sem]))|(with_reducible refine And.intro (fun h=>?_) (fun h=>?_)<;>(try simp only[go_sem] at h)<;>(try exact g_f))|(with_reducible refine And.intro ?_ ?_;· exact g_x)|(with_reducible intro h;(try simp only[go_sem] at h);(try exact g_f))))
              exact CutQ_c rfl (by rw [he, lex_refl])
        · rw [if_pos h4]
          (repeat' (first|(refine g_s fun K hK=>?_)|(refine g_b ?_)|(refine g_r ?_)|(refine g_k ?_;simp only[thenQ,blockQ])|(refine g_e ?_;simp only[thenQ,blockQ,↓reduceIte,Nat.reduceEqDiff])|(refine g_c (fun h=>?_) (fun h=>?_)<;>(try simp only[go_sem] at h)<;>(try exact g_f))|((first|refine g_t ?_|refine g_g ?_|refine g_U ?_|refine g_A ?_|refine (hVa _).use ?_|refine g_q (fun τ=>hVa _) ?_|refine (hVb _).use ?_|refine g_q (fun τ=>hVb _) ?_|refine g_W ?_);(try simp -implicitDefEqProofs only[go_sem]))|(with_reducible refine hK _ _ ?_;clear hK K)|(clear hK K;first|(with_reducible refine hK _ _ ?_;clear hK K)|(clear hK K;with_reducible refine hK _ _ ?_;clear hK K)|(clear hK K;clear hK K;with_reducible refine hK _ _ ?_;clear hK K))|(with_reducible refine splitB_intro (fun h=>?_) (fun h=>?_)<;>(try simp only[go_sem] at h)<;>(try exact g_f)<;>(try simp -implicitDefEqProofs only[go_sem]))|(with_reducible refine And.intro (fun h=>?_) (fun h=>?_)<;>(try simp only[go_sem] at h)<;>(try exact g_f))|(with_reducible refine And.intro ?_ ?_;· exact g_x)|(with_reducible intro h;(try simp only[go_sem] at h);(try exact g_f))))
          refine CutQ_c rfl ?_
          congr 1
          simp
      · rw [if_pos h3]
        (repeat' (first|(refine g_s fun K hK=>?_)|(refine g_b ?_)|(refine g_r ?_)|(refine g_k ?_;simp only[thenQ,blockQ])|(refine g_e ?_;simp only[thenQ,blockQ,↓reduceIte,Nat.reduceEqDiff])|(refine g_c (fun h=>?_) (fun h=>?_)<;>(try simp only[go_sem] at h)<;>(try exact g_f))|((first|refine g_t ?_|refine g_g ?_|refine g_U ?_|refine g_A ?_|refine (hVa _).use ?_|refine g_q (fun τ=>hVa _) ?_|refine (hVb _).use ?_|refine g_q (fun τ=>hVb _) ?_|refine g_W ?_);(try simp -implicitDefEqProofs only[go_sem,hb2]))|(with_reducible refine hK _ _ ?_;clear hK K)|(clear hK K;first|(with_reducible refine hK _ _ ?_;clear hK K)|(clear hK K;with_reducible refine hK _ _ ?_;clear hK K)|(clear hK K;clear hK K;with_reducible refine hK _ _ ?_;clear hK K))|(with_reducible refine splitB_intro (fun h=>?_) (fun h=>?_)<;>(try simp only[go_sem] at h)<;>(try exact g_f)<;>(try simp -implicitDefEqProofs only[go_sem,hb2]))|(with_reducible refine And.intro (fun h=>?_) (fun h=>?_)<;>(try simp only[go_sem] at h)<;>(try exact g_f))|(with_reducible refine And.intro ?_ ?_;· exact g_x)|(with_reducible intro h;(try simp only[go_sem] at h);(try exact g_f))))
        refine CutQ_c rfl ?_
        by_cases hq : bestA n a.w b.w = a.w <;> simp [hq]

theorem bestOf_calls (n : Net) (a b : Rt) (hn : NetIn n) (ha : RightR n a) (hb : RightR n b) (hpa : a.p.length ≤ 17592186044000) (hpb : b.p.length ≤ 17592186044000) (σ : Store) :
    ACalls Try.prog 50 [.agg (netC n), .agg (rtC a), .agg (rtC b)] σ fun r σ' => σ' = σ ∧ r = .agg (rtC (bestR n a b)) := by
  have fin : ∀ {S τ : Store} {r : Rt} {x : Rt}, S = σ ++ τ → r = x → CutQ σ (.agg (rtC x)) (.agg [intA1 r.w, intsA r.p]) S := fun {S τ r x} h1 h2 => by
    rw [h2]
    exact CutQ_w h1 (.aggL (.cons (.c _) (.cons (.ints _) .nil))) (.eq rfl)
  have hF := first_calls n a b hn ha hb hpa hpb
  refine ACalls.cutX ?_
  refine ACalls_of_awp Try.func50 rfl Try.results50 ?_
  simp only [List.length_cons, List.length_nil, Try.ntmps50, Nat.reduceAdd, Nat.reduceSub, enterA]
  refine AWP_seq_k fun K hK => ?_
  (refine AWP_region ?_; simp -implicitDefEqProofs only [go_sem])
  refine hK _ _ ?_; clear hK K
  refine AWP_freezeP 3 rfl (by simp only [st0]; rfl) ?_
  simp only [ss0, List.set_cons_zero]
  refine AWP_freezeP 4 rfl (by simp only [st1]; rfl) ?_
  simp only [ss1, List.set_cons_zero, List.set_cons_succ]
  refine AWP_freezeP 5 rfl (by simp only [st1]; rfl) ?_
  simp only [ss1, List.set_cons_zero, List.set_cons_succ]
  cases hf : firstA n a b
  · rw [hf] at hF
    (repeat' (first|(refine g_s fun K hK=>?_)|(refine g_b ?_)|(refine g_r ?_)|(refine g_k ?_;simp only[thenQ,blockQ])|(refine g_e ?_;simp only[thenQ,blockQ,↓reduceIte,Nat.reduceEqDiff])|(refine g_c (fun h=>?_) (fun h=>?_)<;>(try simp only[go_sem] at h)<;>(try exact g_f))|((first|refine g_t ?_|refine g_g ?_|refine g_U ?_|refine g_A ?_|refine (hF _).use ?_|refine g_q (fun τ=>hF _) ?_|refine g_W ?_);(try simp -implicitDefEqProofs only[go_sem]))|(with_reducible refine hK _ _ ?_;clear hK K)|(clear hK K;first|(with_reducible refine hK _ _ ?_;clear hK K)|(clear hK K;with_reducible refine hK _ _ ?_;clear hK K)|(clear hK K;clear hK K;with_reducible refine hK _ _ ?_;clear hK K))|(with_reducible refine splitB_intro (fun h=>?_) (fun h=>?_)<;>(try simp only[go_sem] at h)<;>(try exact g_f)<;>(try simp -implicitDefEqProofs only[go_sem]))|(with_reducible refine And.intro (fun h=>?_) (fun h=>?_)<;>(try simp only[go_sem] at h)<;>(try exact g_f))|(with_reducible refine And.intro ?_ ?_;· exact g_x)|(with_reducible intro h;(try simp only[go_sem] at h);(try exact g_f))))
    exact fin rfl (by rw [bestR, hf, if_neg (by decide)])
  · rw [hf] at hF
    (repeat' (first|(refine g_s fun K hK=>?_)|(refine g_b ?_)|(refine g_r ?_)|(refine g_k ?_;simp only[thenQ,blockQ])|(refine g_e ?_;simp only[thenQ,blockQ,↓reduceIte,Nat.reduceEqDiff])|(refine g_c (fun h=>?_) (fun h=>?_)<;>(try simp only[go_sem] at h)<;>(try exact g_f))|((first|refine g_t ?_|refine g_g ?_|refine g_U ?_|refine g_A ?_|refine (hF _).use ?_|refine g_q (fun τ=>hF _) ?_|refine g_W ?_);(try simp -implicitDefEqProofs only[go_sem]))|(with_reducible refine hK _ _ ?_;clear hK K)|(clear hK K;first|(with_reducible refine hK _ _ ?_;clear hK K)|(clear hK K;with_reducible refine hK _ _ ?_;clear hK K)|(clear hK K;clear hK K;with_reducible refine hK _ _ ?_;clear hK K))|(with_reducible refine splitB_intro (fun h=>?_) (fun h=>?_)<;>(try simp only[go_sem] at h)<;>(try exact g_f)<;>(try simp -implicitDefEqProofs only[go_sem]))|(with_reducible refine And.intro (fun h=>?_) (fun h=>?_)<;>(try simp only[go_sem] at h)<;>(try exact g_f))|(with_reducible refine And.intro ?_ ?_;· exact g_x)|(with_reducible intro h;(try simp only[go_sem] at h);(try exact g_f))))
    exact fin rfl (by rw [bestR, hf, if_pos rfl])

theorem extendOf_calls (n : Net) (i e : Int) (r : Rt) (hn : NetIn n) (e0 : 0 ≤ e) (e1 : e < n.alg.edges.length) (hr : RightR n r) (hp : r.p.length ≤ 100) (σ : Store) :
    ACalls Try.prog 52 [.agg (netC n), intA1 i, intA1 e, .agg (rtC r)] σ fun r' σ' => σ' = σ ∧ r' = .agg (rtC (extR n i e r)) := by
  have s2 := hn.alg.s2
  have s24 := hn.alg.s24
  have hi : I64 (n.alg.size - 1) := by unfold I64; omega
  have hV := fun S => risValid_calls n r hi S
  have hC := has_calls r.p i (by omega)
  have hel := hn.alg.edge_len e0 e1
  have w0 := hr.w.1
  have w1 := hr.w.2
  have hov : at0 (at0 n.alg.edges e) r.w = overA n e r.w := rfl
  obtain ⟨v, hv⟩ : ∃ v, overA n e r.w = v := ⟨_, rfl⟩
  rw [hv] at hov
  have finN : ∀ {S τ : Store}, S = σ ++ τ → DeepQ σ (.agg (rtC (invR n))) (.agg [intA1 (n.alg.size - 1), .c (.slice none 0 0)]) S := fun {S τ} h1 => DeepQ_of h1 (.aggL (.cons (.c _) (.cons (.ints []) .nil))) (.aggL (.cons (.same _) (.cons .nil .nil)))
  refine ACalls.deep ?_
  rw [extR, hv]
  refine ACalls_of_awp Try.func52 rfl Try.results52 ?_
  simp only [List.length_cons, List.length_nil, Try.ntmps52, Nat.reduceAdd, Nat.reduceSub, enterA]
  refine AWP_seq_k fun K hK => ?_
  (refine AWP_region ?_; simp -implicitDefEqProofs only [go_sem])
  refine hK _ _ ?_; clear hK K
  refine AWP_freezeP 4 rfl (by simp only [st0]; rfl) ?_
  simp only [ss0, List.set_cons_zero]
  refine AWP_freezeP 7 rfl (by simp only [st1]; rfl) ?_
  simp only [ss1, List.set_cons_zero, List.set_cons_succ]
  by_cases h1 : r.w = n.alg.size - 1
  · rw [decide_eq_false (not_not_intro h1)] at hV
    rw [if_pos (Or.inl h1)]
    (repeat' (first|(refine g_s fun K hK=>?_)|(refine g_b ?_)|(refine g_r ?_)|(refine g_k ?_;simp only[thenQ,blockQ])|(refine g_e ?_;simp only[thenQ,blockQ,↓reduceIte,Nat.reduceEqDiff])|(refine g_c (fun h=>?_) (fun h=>?_)<;>(try simp only[go_sem] at h)<;>(try exact g_f))|((first|refine g_t ?_|refine g_g ?_|refine g_U ?_|refine g_A ?_|refine (hV _).use ?_|refine g_q (fun τ=>hV _) ?_|refine g_W ?_);(try simp -implicitDefEqProofs only[go_sem]))|(with_reducible refine hK _ _ ?_;clear hK K)|(clear hK K;first|(with_reducible refine hK _ _ ?_;clear hK K)|(clear hK K;with_reducible refine hK _ _ ?_;clear hK K)|(clear hK K;clear hK K;with_reducible refine hK _ _ ?_;clear hK K))|(with_reducible refine splitB_intro (fun h=>?_) (fun h=>?_)<;>(try simp only[go_sem] at h)<;>(try exact g_f)<;>(try simp -implicitDefEqProofs only[go_sem]))|(with_reducible refine And.intro (fun h=>?_) (fun h=>?_)<;>(try simp only[go_sem] at h)<;>(try exact g_f))|(with_reducible refine And.intro ?_ ?_;· exact g_x)|(with_reducible intro h;(try simp only[go_sem] at h);(try exact g_f))))
    exact finN rfl
  · rw [decide_eq_true h1] at hV
    by_cases h2 : i ∈ r.p
    · rw [if_pos (Or.inr (Or.inl h2))]
      rw [decide_eq_true h2] at hC
      (repeat' (first|(refine g_s fun K hK=>?_)|(refine g_b ?_)|(refine g_r ?_)|(refine g_k ?_;simp only[thenQ,blockQ])|(refine g_e ?_;simp only[thenQ,blockQ,↓reduceIte,Nat.reduceEqDiff])|(refine g_c (fun h=>?_) (fun h=>?_)<;>(try simp only[go_sem] at h)<;>(try exact g_f))|((first|refine g_t ?_|refine g_g ?_|refine g_U ?_|refine g_A ?_|refine (hV _).use ?_|refine g_q (fun τ=>hV _) ?_|refine (hC _).use ?_|refine g_q (fun τ=>hC _) ?_|refine g_W ?_);(try simp -implicitDefEqProofs only[go_sem]))|(with_reducible refine hK _ _ ?_;clear hK K)|(clear hK K;first|(with_reducible refine hK _ _ ?_;clear hK K)|(clear hK K;with_reducible refine hK _ _ ?_;clear hK K)|(clear hK K;clear hK K;with_reducible refine hK _ _ ?_;clear hK K))|(with_reducible refine splitB_intro (fun h=>?_) (fun h=>?_)<;>(try simp only[go_sem] at h)<;>(try exact g_f)<;>(try simp -implicitDefEqProofs only[go_sem]))|(with_reducible refine And.intro (fun h=>?_) (fun h=>?_)<;>(try simp only[go_sem] at h)<;>(try exact g_f))|(with_reducible refine And.intro ?_ ?_;· exact g_x)|(with_reducible intro h;(try simp only[go_sem] at h);(try exact g_f))))
      exact finN rfl
    · rw [decide_eq_false h2] at hC
      by_cases h3 : v = n.alg.size - 1
      · rw [if_pos (Or.inr (Or.inr h3))]
        (repeat' (first|(refine g_s fun K hK=>?_)|(refine g_b ?_)|(refine g_r ?_)|(refine g_k ?_;simp only[thenQ,blockQ])|(refine g_e ?_;simp only[thenQ,blockQ,↓reduceIte,Nat.reduceEqDiff])|(refine g_c (fun h=>?_) (fun h=>?_)<;>(try simp only[go_sem] at h)<;>(try exact g_f))|((first|refine g_t ?_|refine g_g ?_|refine g_U ?_|refine g_A ?_|refine (hV _).use ?_|refine g_q (fun τ=>hV _) ?_|refine (hC _).use ?_|refine g_q (fun τ=>hC _) ?_|refine g_W ?_);(try simp -implicitDefEqProofs only[go_sem,hov]))|(with_reducible refine hK _ _ ?_;clear hK K)|(clear hK K;first|(with_reducible refine hK _ _ ?_;clear hK K)|(clear hK K;with_reducible refine hK _ _ ?_;clear hK K)|(clear hK K;clear hK K;with_reducible refine hK _ _ ?_;clear hK K))|(with_reducible refine splitB_intro (fun h=>?_) (fun h=>?_)<;>(try simp only[go_sem] at h)<;>(try exact g_f)<;>(try simp -implicitDefEqProofs only[go_sem,hov]))|(with_reducible refine And.intro (fun h=>?_) (fun h=>?_)<;>(try simp only[go_sem] at h)<;>(try exact g_f))|(with_reducible refine And.intro ?_ ?_;· exact g_x)|(with_reducible intro h;(try simp only[go_sem] at h);(try exact g_f))))
        exact finN rfl
      · rw [if_neg (by rw [not_or, not_or]; exact ⟨h1, h2, h3⟩)]
        (repeat' (first|(refine g_s fun K hK=>?_)|(refine g_b ?_)|(refine g_r ?_)|(refine g_k ?_;simp only[thenQ,blockQ])|(refine g_e ?_;simp only[thenQ,blockQ,↓reduceIte,Nat.reduceEqDiff])|(refine g_c (fun h=>?_) (fun h=>?_)<;>(try simp only[go_sem] at h)<;>(try exact g_f))|((first|refine g_t ?_|refine g_G ?_|refine AWP_drawW true tab_mixed (by decide +kernel) ?_|refine (hV _).use ?_|refine g_q (fun τ=>hV _) ?_|refine (hC _).use ?_|refine g_q (fun τ=>hC _) ?_);(try simp -implicitDefEqProofs only[go_sem,hov]))|(with_reducible refine hK _ _ ?_;clear hK K)|(clear hK K;first|(with_reducible refine hK _ _ ?_;clear hK K)|(clear hK K;with_reducible refine hK _ _ ?_;clear hK K)|(clear hK K;clear hK K;with_reducible refine hK _ _ ?_;clear hK K))|(with_reducible refine splitB_intro (fun h=>?_) (fun h=>?_)<;>(try simp only[go_sem] at h)<;>(try exact g_f)<;>(try simp -implicitDefEqProofs only[go_sem,hov]))|(with_reducible refine And.intro (fun h=>?_) (fun h=>?_)<;>(try simp only[go_sem] at h)<;>(try exact g_f))|(with_reducible refine And.intro ?_ ?_;· exact g_x)|(with_reducible intro h;(try simp only[go_sem] at h);(try exact g_f))))
        refine DeepQ_of rfl (.aggL (.cons (.c _) (.cons (.ints (i :: r.p)) .nil))) ?_
        exact .aggL (.cons (.same _) (.cons (Deep.ownW (es := (i :: r.p).map intC) (Nat.le_add_right _ _) (by rw [st1]; rfl) (by simp) (.same _)) .nil))
end Go.Proofs.Ytephecognbbaoab
