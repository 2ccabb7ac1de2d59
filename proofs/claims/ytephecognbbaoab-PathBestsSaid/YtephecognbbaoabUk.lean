/- The law PathBests, walked. -/
import Derived.Test.YtephecognbbaoabUw
import Derived.Test.YtephecognbbaoabUe
import Derived.Test.YtephecognbbaoabUv
namespace Go.Proofs.Ytephecognbbaoab
open Go
set_option linter.all false
set_option maxRecDepth 100000
set_option maxHeartbeats 4000000

theorem routeIs_good (r : Rt) (hl : r.p.length ≤ 1000000000000000000) (σ : Store) : ACalls Try.prog 53 [.agg (rtC r), intA1 0, intA1 0, .agg (rtC r)] σ fun r' σ' => σ' = σ ∧ r' = .c (.bool true) := by
  have hS := sameRoute_calls r r hl
  rw [decide_eq_true rfl] at hS
  refine ACalls.cutX ?_
  refine ACalls_of_awp Try.func53 rfl Try.results53 ?_
  simp only [List.length_cons, List.length_nil, Try.ntmps53, Nat.reduceAdd, Nat.reduceSub, enterA]
  (repeat' (first|(refine g_s fun K hK=>?_)|(refine g_b ?_)|(refine g_r ?_)|(refine g_k ?_;simp only[thenQ,blockQ])|(refine g_e ?_;simp only[thenQ,blockQ,↓reduceIte,Nat.reduceEqDiff])|(refine g_c (fun h=>?_) (fun h=>?_)<;>(try simp only[go_sem] at h)<;>(try exact g_f))|((first|refine g_t ?_|refine g_g ?_|refine g_U ?_|refine g_A ?_|refine (hS _).use ?_|refine g_q (fun τ=>hS _) ?_|refine g_W ?_);(try simp -implicitDefEqProofs only[go_sem]))|(with_reducible refine hK _ _ ?_;clear hK K)|(clear hK K;first|(with_reducible refine hK _ _ ?_;clear hK K)|(clear hK K;with_reducible refine hK _ _ ?_;clear hK K)|(clear hK K;clear hK K;with_reducible refine hK _ _ ?_;clear hK K))|(with_reducible refine splitB_intro (fun h=>?_) (fun h=>?_)<;>(try simp only[go_sem] at h)<;>(try exact g_f)<;>(try simp -implicitDefEqProofs only[go_sem]))|(with_reducible refine And.intro (fun h=>?_) (fun h=>?_)<;>(try simp only[go_sem] at h)<;>(try exact g_f))|(with_reducible refine And.intro ?_ ?_;· exact g_x)|(with_reducible intro h;(try simp only[go_sem] at h);(try exact g_f))))
  exact CutQ_c (τ := [.cells 2 [rtC r], .cells 2 [rtC r]]) (by simp [rtC, intA1, intsA]) rfl

theorem routeIs_bad (e : Int) (he : e ≠ 0) (σ : Store) : ACalls Try.prog 53 [.agg (rtC noR), intA1 e, intA1 e, .agg [intA1 0, .c (.slice none 0 0)]] σ fun r' σ' => σ' = σ ∧ r' = .c (.bool true) := by
  have hS : ∀ S, ACalls Try.prog 102 [.agg (rtC noR), .agg [intA1 0, .c (.slice none 0 0)]] S fun r σ' => σ' = S ∧ r = .c (.bool true) := fun S =>
    (sameRoute_calls noR noR (by decide) S).argW (.cons (.refl _) (.cons (.agg (.cons (.refl _) (.cons .nil .nil))) .nil))
  refine ACalls.cutX ?_
  refine ACalls_of_awp Try.func53 rfl Try.results53 ?_
  simp only [List.length_cons, List.length_nil, Try.ntmps53, Nat.reduceAdd, Nat.reduceSub, enterA]
  (repeat' (first|(refine g_s fun K hK=>?_)|(refine g_b ?_)|(refine g_r ?_)|(refine g_k ?_;simp only[thenQ,blockQ])|(refine g_e ?_;simp only[thenQ,blockQ,↓reduceIte,Nat.reduceEqDiff])|(refine g_c (fun h=>?_) (fun h=>?_)<;>(try simp only[go_sem] at h)<;>(try exact g_f))|((first|refine g_t ?_|refine g_g ?_|refine g_U ?_|refine g_A ?_|refine (hS _).use ?_|refine g_q (fun τ=>hS _) ?_|refine g_W ?_);(try simp -implicitDefEqProofs only[go_sem]))|(with_reducible refine hK _ _ ?_;clear hK K)|(clear hK K;first|(with_reducible refine hK _ _ ?_;clear hK K)|(clear hK K;with_reducible refine hK _ _ ?_;clear hK K)|(clear hK K;clear hK K;with_reducible refine hK _ _ ?_;clear hK K))|(with_reducible refine splitB_intro (fun h=>?_) (fun h=>?_)<;>(try simp only[go_sem] at h)<;>(try exact g_f)<;>(try simp -implicitDefEqProofs only[go_sem]))|(with_reducible refine And.intro (fun h=>?_) (fun h=>?_)<;>(try simp only[go_sem] at h)<;>(try exact g_f))|(with_reducible refine And.intro ?_ ?_;· exact g_x)|(with_reducible intro h;(try simp only[go_sem] at h);(try exact g_f))))
  exact CutQ_c (τ := [.cells 2 [rtC noR], .cells 2 [[intA1 0, .c (.slice none 0 0)]]]) (by simp [rtC, intA1, intsA]) (by simp)

theorem pathBests_calls (n : Net) (a b : Rt) (i l : Int) (okn : NetOk n) (oka : RtOk a) (okb : RtOk b) (hi : I64 i) (hl64 : I64 l) (σ : Store) : ACalls Try.prog 9 [.agg (netC n), .agg (rtC a), .agg (rtC b), intA1 i, intA1 l] σ fun r σ' => σ' = σ ∧ r = .c (.bool true) := by
  have hl := okn.len
  have hpa := oka.p
  have hpb := okb.p
  have hB := pathBest_calls n a b okn hpa hpb
  have hX := pathExtend_calls n i l a okn hpa
  have hC := checkNet_calls n okn
  have hP := pathBegun_calls
  have fin : ∀ {S τ : Store}, S = σ ++ τ → CutQ σ (.c (.bool true)) (.c (.bool true)) S := fun {S τ} h => CutQ_c h rfl
  unfold rtE at hB hX
  refine ACalls.cutX ?_
  refine ACalls_of_awp Try.func9 rfl Try.results9 ?_
  simp only [List.length_cons, List.length_nil, Try.ntmps9, Nat.reduceAdd, Nat.reduceSub, enterA]
  refine AWP_seq_k fun K hK => ?_
  (refine AWP_region ?_; simp -implicitDefEqProofs only [go_sem])
  refine hK _ _ ?_; clear hK K
  refine AWP_freezeP 5 rfl (by simp only [st0]; rfl) ?_
  simp only [ss0, List.set_cons_zero]
  refine AWP_freezeP 6 rfl (by simp only [st1]; rfl) ?_
  simp only [ss1, List.set_cons_zero, List.set_cons_succ]
  refine AWP_freezeP 7 rfl (by simp only [st1]; rfl) ?_
  simp only [ss1, List.set_cons_zero, List.set_cons_succ]
  by_cases h0 : checkN n = 0
  · have hn := netIn_of h0
    have s2 := hn.alg.s2
    have s24 := hn.alg.s24
    have hi64 : I64 (n.alg.size - 1) := by unfold I64; omega
    have hRa := isRight_calls n a hn hpa
    have hRb := isRight_calls n b hn hpb
    have hV := fun S => risValid_calls n a hi64 S
    rw [bestPA, if_neg (not_not_intro h0)] at hB
    rw [extPA, if_neg (not_not_intro h0)] at hX
    rw [h0] at hC
    have hnoC : rtC noR = [intA1 0, intsA []] := rfl
    cases ha : rightB n a
    · rw [ha] at hRa hX hB
      rw [if_neg (by decide)] at hB
      by_cases he : 0 ≤ l ∧ l < n.links.length
      · rw [if_pos he] at hX
        obtain ⟨he0, he1⟩ := he
        obtain ⟨lk, hla⟩ : ∃ lk, at0 n.links l = lk := ⟨_, rfl⟩
        rw [hla] at hX
        by_cases hf : lk.fr = i
        · rw [if_pos hf, if_neg (by decide)] at hX
          (repeat' (first|(refine g_s fun K hK=>?_)|(refine g_b ?_)|(refine g_r ?_)|(refine g_k ?_;simp only[thenQ,blockQ])|(refine g_e ?_;simp only[thenQ,blockQ,↓reduceIte,Nat.reduceEqDiff])|(refine g_c (fun h=>?_) (fun h=>?_)<;>(try simp only[go_sem] at h)<;>(try exact g_f))|((first|refine g_t ?_|refine g_g ?_|refine g_U ?_|refine g_A ?_|refine (hB _).use ?_|refine g_q (fun τ=>hB _) ?_|refine (hX _).use ?_|refine g_q (fun τ=>hX _) ?_|refine (hC _).use ?_|refine g_q (fun τ=>hC _) ?_|refine (hRa _).use ?_|refine g_q (fun τ=>hRa _) ?_|refine (hP _).use ?_|refine g_q (fun τ=>hP _) ?_|refine (routeIs_bad 4 (by decide) _).use ?_|refine g_q (fun τ=>routeIs_bad 4 (by decide) _) ?_|refine g_W ?_);(try simp -implicitDefEqProofs only[go_sem,hla, hf]))|(with_reducible refine hK _ _ ?_;clear hK K)|(clear hK K;first|(with_reducible refine hK _ _ ?_;clear hK K)|(clear hK K;with_reducible refine hK _ _ ?_;clear hK K)|(clear hK K;clear hK K;with_reducible refine hK _ _ ?_;clear hK K))|(with_reducible refine splitB_intro (fun h=>?_) (fun h=>?_)<;>(try simp only[go_sem] at h)<;>(try exact g_f)<;>(try simp -implicitDefEqProofs only[go_sem,hla, hf]))|(with_reducible refine And.intro (fun h=>?_) (fun h=>?_)<;>(try simp only[go_sem] at h)<;>(try exact g_f))|(with_reducible refine And.intro ?_ ?_;· exact g_x)|(with_reducible intro h;(try simp only[go_sem] at h);(try exact g_f))))
          all_goals exact fin rfl
        · rw [if_neg hf] at hX
          (repeat' (first|(refine g_s fun K hK=>?_)|(refine g_b ?_)|(refine g_r ?_)|(refine g_k ?_;simp only[thenQ,blockQ])|(refine g_e ?_;simp only[thenQ,blockQ,↓reduceIte,Nat.reduceEqDiff])|(refine g_c (fun h=>?_) (fun h=>?_)<;>(try simp only[go_sem] at h)<;>(try exact g_f))|((first|refine g_t ?_|refine g_g ?_|refine g_U ?_|refine g_A ?_|refine (hB _).use ?_|refine g_q (fun τ=>hB _) ?_|refine (hX _).use ?_|refine g_q (fun τ=>hX _) ?_|refine (hC _).use ?_|refine g_q (fun τ=>hC _) ?_|refine (hRa _).use ?_|refine g_q (fun τ=>hRa _) ?_|refine (hP _).use ?_|refine g_q (fun τ=>hP _) ?_|refine (routeIs_bad 4 (by decide) _).use ?_|refine g_q (fun τ=>routeIs_bad 4 (by decide) _) ?_|refine (routeIs_bad 1 (by decide) _).use ?_|refine g_q (fun τ=>routeIs_bad 1 (by decide) _) ?_|refine g_W ?_);(try simp -implicitDefEqProofs only[go_sem,hla]))|(with_reducible refine hK _ _ ?_;clear hK K)|(clear hK K;first|(with_reducible refine hK _ _ ?_;clear hK K)|(clear hK K;with_reducible refine hK _ _ ?_;clear hK K)|(clear hK K;clear hK K;with_reducible refine hK _ _ ?_;clear hK K))|(with_reducible refine splitB_intro (fun h=>?_) (fun h=>?_)<;>(try simp only[go_sem] at h)<;>(try exact g_f)<;>(try simp -implicitDefEqProofs only[go_sem,hla]))|(with_reducible refine And.intro (fun h=>?_) (fun h=>?_)<;>(try simp only[go_sem] at h)<;>(try exact g_f))|(with_reducible refine And.intro ?_ ?_;· exact g_x)|(with_reducible intro h;(try simp only[go_sem] at h);(try exact g_f))))
          all_goals exact fin rfl
      · rw [if_neg he] at hX
        (repeat' (first|(refine g_s fun K hK=>?_)|(refine g_b ?_)|(refine g_r ?_)|(refine g_k ?_;simp only[thenQ,blockQ])|(refine g_e ?_;simp only[thenQ,blockQ,↓reduceIte,Nat.reduceEqDiff])|(refine g_c (fun h=>?_) (fun h=>?_)<;>(try simp only[go_sem] at h)<;>(try exact g_f))|((first|refine g_t ?_|refine g_g ?_|refine g_U ?_|refine g_A ?_|refine (hB _).use ?_|refine g_q (fun τ=>hB _) ?_|refine (hX _).use ?_|refine g_q (fun τ=>hX _) ?_|refine (hC _).use ?_|refine g_q (fun τ=>hC _) ?_|refine (hRa _).use ?_|refine g_q (fun τ=>hRa _) ?_|refine (hP _).use ?_|refine g_q (fun τ=>hP _) ?_|refine (routeIs_bad 4 (by decide) _).use ?_|refine g_q (fun τ=>routeIs_bad 4 (by decide) _) ?_|refine (routeIs_bad 5 (by decide) _).use ?_|refine g_q (fun τ=>routeIs_bad 5 (by decide) _) ?_|refine g_W ?_);(try simp -implicitDefEqProofs only[go_sem]))|(with_reducible refine hK _ _ ?_;clear hK K)|(clear hK K;first|(with_reducible refine hK _ _ ?_;clear hK K)|(clear hK K;with_reducible refine hK _ _ ?_;clear hK K)|(clear hK K;clear hK K;with_reducible refine hK _ _ ?_;clear hK K))|(with_reducible refine splitB_intro (fun h=>?_) (fun h=>?_)<;>(try simp only[go_sem] at h)<;>(try exact g_f)<;>(try simp -implicitDefEqProofs only[go_sem]))|(with_reducible refine And.intro (fun h=>?_) (fun h=>?_)<;>(try simp only[go_sem] at h)<;>(try exact g_f))|(with_reducible refine And.intro ?_ ?_;· exact g_x)|(with_reducible intro h;(try simp only[go_sem] at h);(try exact g_f))))
        all_goals exact fin rfl
    · have ra := rightB_iff.1 ha
      have h6a := right_len hn ra
      rw [ha] at hRa hX hB
      rw [if_pos rfl] at hB
      cases hb : rightB n b
      · rw [hb] at hRb hB
        rw [if_neg (by decide)] at hB
        by_cases he : 0 ≤ l ∧ l < n.links.length
        · rw [if_pos he] at hX
          obtain ⟨he0, he1⟩ := he
          have hmem := at0_mem n.links he0 he1
          obtain ⟨lk, hla⟩ : ∃ lk, at0 n.links l = lk := ⟨_, rfl⟩
          rw [hla] at hX hmem
          have hlk := hn.lnk lk hmem
          by_cases hf : lk.fr = i
          · rw [if_pos hf, if_pos rfl] at hX
            have hxr := right_ext hn (i := i) (by rw [← hf]; exact ⟨hlk.f0, hlk.f1⟩) ⟨hlk.e0, hlk.e1⟩ ra
            have h6x := right_len hn hxr
            have hXO := extendOf_calls n i lk.edge a hn hlk.e0 hlk.e1 ra (by omega)
            obtain ⟨X, hXd⟩ : ∃ X, extR n i lk.edge a = X := ⟨_, rfl⟩
            rw [hXd] at hX hXO h6x
            have hGX := routeIs_good X (by omega)
            by_cases hv : a.w = n.alg.size - 1
            · rw [decide_eq_false (not_not_intro hv)] at hV
              rw [if_neg (by rw [not_and]; intro h; exact absurd hv h)] at hX
              (repeat' (first|(refine g_s fun K hK=>?_)|(refine g_b ?_)|(refine g_r ?_)|(refine g_k ?_;simp only[thenQ,blockQ])|(refine g_e ?_;simp only[thenQ,blockQ,↓reduceIte,Nat.reduceEqDiff])|(refine g_c (fun h=>?_) (fun h=>?_)<;>(try simp only[go_sem] at h)<;>(try exact g_f))|((first|refine g_t ?_|refine g_g ?_|refine g_U ?_|refine g_A ?_|refine (hB _).use ?_|refine g_q (fun τ=>hB _) ?_|refine (hX _).use ?_|refine g_q (fun τ=>hX _) ?_|refine (hC _).use ?_|refine g_q (fun τ=>hC _) ?_|refine (hRa _).use ?_|refine g_q (fun τ=>hRa _) ?_|refine (hV _).use ?_|refine g_q (fun τ=>hV _) ?_|refine (hP _).use ?_|refine g_q (fun τ=>hP _) ?_|refine (hRb _).use ?_|refine g_q (fun τ=>hRb _) ?_|refine (routeIs_bad 4 (by decide) _).use ?_|refine g_q (fun τ=>routeIs_bad 4 (by decide) _) ?_|refine (hXO _).use ?_|refine g_q (fun τ=>hXO _) ?_|refine (hGX _).use ?_|refine g_q (fun τ=>hGX _) ?_|refine g_W ?_);(try simp -implicitDefEqProofs only[go_sem,hla, hf]))|(with_reducible refine hK _ _ ?_;clear hK K)|(clear hK K;first|(with_reducible refine hK _ _ ?_;clear hK K)|(clear hK K;with_reducible refine hK _ _ ?_;clear hK K)|(clear hK K;clear hK K;with_reducible refine hK _ _ ?_;clear hK K))|(with_reducible refine splitB_intro (fun h=>?_) (fun h=>?_)<;>(try simp only[go_sem] at h)<;>(try exact g_f)<;>(try simp -implicitDefEqProofs only[go_sem,hla, hf]))|(with_reducible refine And.intro (fun h=>?_) (fun h=>?_)<;>(try simp only[go_sem] at h)<;>(try exact g_f))|(with_reducible refine And.intro ?_ ?_;· exact g_x)|(with_reducible intro h;(try simp only[go_sem] at h);(try exact g_f))))
              all_goals exact fin rfl
            · rw [decide_eq_true hv] at hV
              have hpl : 0 < a.p.length := List.length_pos_iff.2 (ra.ne hv)
              by_cases hd : at0 a.p 0 = lk.dst
              · rw [if_neg (by rw [not_and]; intro _; exact not_not_intro hd)] at hX
                (repeat' (first|(refine g_s fun K hK=>?_)|(refine g_b ?_)|(refine g_r ?_)|(refine g_k ?_;simp only[thenQ,blockQ])|(refine g_e ?_;simp only[thenQ,blockQ,↓reduceIte,Nat.reduceEqDiff])|(refine g_c (fun h=>?_) (fun h=>?_)<;>(try simp only[go_sem] at h)<;>(try exact g_f))|((first|refine g_t ?_|refine g_g ?_|refine g_U ?_|refine g_A ?_|refine (hB _).use ?_|refine g_q (fun τ=>hB _) ?_|refine (hX _).use ?_|refine g_q (fun τ=>hX _) ?_|refine (hC _).use ?_|refine g_q (fun τ=>hC _) ?_|refine (hRa _).use ?_|refine g_q (fun τ=>hRa _) ?_|refine (hV _).use ?_|refine g_q (fun τ=>hV _) ?_|refine (hP _).use ?_|refine g_q (fun τ=>hP _) ?_|refine (hRb _).use ?_|refine g_q (fun τ=>hRb _) ?_|refine (routeIs_bad 4 (by decide) _).use ?_|refine g_q (fun τ=>routeIs_bad 4 (by decide) _) ?_|refine (hXO _).use ?_|refine g_q (fun τ=>hXO _) ?_|refine (hGX _).use ?_|refine g_q (fun τ=>hGX _) ?_|refine g_W ?_);(try simp -implicitDefEqProofs only[go_sem,hla, hf, hd]))|(with_reducible refine hK _ _ ?_;clear hK K)|(clear hK K;first|(with_reducible refine hK _ _ ?_;clear hK K)|(clear hK K;with_reducible refine hK _ _ ?_;clear hK K)|(clear hK K;clear hK K;with_reducible refine hK _ _ ?_;clear hK K))|(with_reducible refine splitB_intro (fun h=>?_) (fun h=>?_)<;>(try simp only[go_sem] at h)<;>(try exact g_f)<;>(try simp -implicitDefEqProofs only[go_sem,hla, hf, hd]))|(with_reducible refine And.intro (fun h=>?_) (fun h=>?_)<;>(try simp only[go_sem] at h)<;>(try exact g_f))|(with_reducible refine And.intro ?_ ?_;· exact g_x)|(with_reducible intro h;(try simp only[go_sem] at h);(try exact g_f))))
                all_goals exact fin rfl
              · rw [if_pos ⟨hv, hd⟩] at hX
                (repeat' (first|(refine g_s fun K hK=>?_)|(refine g_b ?_)|(refine g_r ?_)|(refine g_k ?_;simp only[thenQ,blockQ])|(refine g_e ?_;simp only[thenQ,blockQ,↓reduceIte,Nat.reduceEqDiff])|(refine g_c (fun h=>?_) (fun h=>?_)<;>(try simp only[go_sem] at h)<;>(try exact g_f))|((first|refine g_t ?_|refine g_g ?_|refine g_U ?_|refine g_A ?_|refine (hB _).use ?_|refine g_q (fun τ=>hB _) ?_|refine (hX _).use ?_|refine g_q (fun τ=>hX _) ?_|refine (hC _).use ?_|refine g_q (fun τ=>hC _) ?_|refine (hRa _).use ?_|refine g_q (fun τ=>hRa _) ?_|refine (hV _).use ?_|refine g_q (fun τ=>hV _) ?_|refine (hP _).use ?_|refine g_q (fun τ=>hP _) ?_|refine (hRb _).use ?_|refine g_q (fun τ=>hRb _) ?_|refine (routeIs_bad 4 (by decide) _).use ?_|refine g_q (fun τ=>routeIs_bad 4 (by decide) _) ?_|refine g_W ?_);(try simp -implicitDefEqProofs only[go_sem,hla, hf]))|(with_reducible refine hK _ _ ?_;clear hK K)|(clear hK K;first|(with_reducible refine hK _ _ ?_;clear hK K)|(clear hK K;with_reducible refine hK _ _ ?_;clear hK K)|(clear hK K;clear hK K;with_reducible refine hK _ _ ?_;clear hK K))|(with_reducible refine splitB_intro (fun h=>?_) (fun h=>?_)<;>(try simp only[go_sem] at h)<;>(try exact g_f)<;>(try simp -implicitDefEqProofs only[go_sem,hla, hf]))|(with_reducible refine And.intro (fun h=>?_) (fun h=>?_)<;>(try simp only[go_sem] at h)<;>(try exact g_f))|(with_reducible refine And.intro ?_ ?_;· exact g_x)|(with_reducible intro h;(try simp only[go_sem] at h);(try exact g_f))))
                all_goals exact fin rfl
          · rw [if_neg hf] at hX
            (repeat' (first|(refine g_s fun K hK=>?_)|(refine g_b ?_)|(refine g_r ?_)|(refine g_k ?_;simp only[thenQ,blockQ])|(refine g_e ?_;simp only[thenQ,blockQ,↓reduceIte,Nat.reduceEqDiff])|(refine g_c (fun h=>?_) (fun h=>?_)<;>(try simp only[go_sem] at h)<;>(try exact g_f))|((first|refine g_t ?_|refine g_g ?_|refine g_U ?_|refine g_A ?_|refine (hB _).use ?_|refine g_q (fun τ=>hB _) ?_|refine (hX _).use ?_|refine g_q (fun τ=>hX _) ?_|refine (hC _).use ?_|refine g_q (fun τ=>hC _) ?_|refine (hRa _).use ?_|refine g_q (fun τ=>hRa _) ?_|refine (hV _).use ?_|refine g_q (fun τ=>hV _) ?_|refine (hP _).use ?_|refine g_q (fun τ=>hP _) ?_|refine (hRb _).use ?_|refine g_q (fun τ=>hRb _) ?_|refine (routeIs_bad 4 (by decide) _).use ?_|refine g_q (fun τ=>routeIs_bad 4 (by decide) _) ?_|refine (routeIs_bad 1 (by decide) _).use ?_|refine g_q (fun τ=>routeIs_bad 1 (by decide) _) ?_|refine g_W ?_);(try simp -implicitDefEqProofs only[go_sem,hla]))|(with_reducible refine hK _ _ ?_;clear hK K)|(clear hK K;first|(with_reducible refine hK _ _ ?_;clear hK K)|(clear hK K;with_reducible refine hK _ _ ?_;clear hK K)|(clear hK K;clear hK K;with_reducible refine hK _ _ ?_;clear hK K))|(with_reducible refine splitB_intro (fun h=>?_) (fun h=>?_)<;>(try simp only[go_sem] at h)<;>(try exact g_f)<;>(try simp -implicitDefEqProofs only[go_sem,hla]))|(with_reducible refine And.intro (fun h=>?_) (fun h=>?_)<;>(try simp only[go_sem] at h)<;>(try exact g_f))|(with_reducible refine And.intro ?_ ?_;· exact g_x)|(with_reducible intro h;(try simp only[go_sem] at h);(try exact g_f))))
            all_goals exact fin rfl
        · rw [if_neg he] at hX
          (repeat' (first|(refine g_s fun K hK=>?_)|(refine g_b ?_)|(refine g_r ?_)|(refine g_k ?_;simp only[thenQ,blockQ])|(refine g_e ?_;simp only[thenQ,blockQ,↓reduceIte,Nat.reduceEqDiff])|(refine g_c (fun h=>?_) (fun h=>?_)<;>(try simp only[go_sem] at h)<;>(try exact g_f))|((first|refine g_t ?_|refine g_g ?_|refine g_U ?_|refine g_A ?_|refine (hB _).use ?_|refine g_q (fun τ=>hB _) ?_|refine (hX _).use ?_|refine g_q (fun τ=>hX _) ?_|refine (hC _).use ?_|refine g_q (fun τ=>hC _) ?_|refine (hRa _).use ?_|refine g_q (fun τ=>hRa _) ?_|refine (hV _).use ?_|refine g_q (fun τ=>hV _) ?_|refine (hP _).use ?_|refine g_q (fun τ=>hP _) ?_|refine (hRb _).use ?_|refine g_q (fun τ=>hRb _) ?_|refine (routeIs_bad 4 (by decide) _).use ?_|refine g_q (fun τ=>routeIs_bad 4 (by decide) _) ?_|refine (routeIs_bad 5 (by decide) _).use ?_|refine g_q (fun τ=>routeIs_bad 5 (by decide) _) ?_|refine g_W ?_);(try simp -implicitDefEqProofs only[go_sem]))|(with_reducible refine hK _ _ ?_;clear hK K)|(clear hK K;first|(with_reducible refine hK _ _ ?_;clear hK K)|(clear hK K;with_reducible refine hK _ _ ?_;clear hK K)|(clear hK K;clear hK K;with_reducible refine hK _ _ ?_;clear hK K))|(with_reducible refine splitB_intro (fun h=>?_) (fun h=>?_)<;>(try simp only[go_sem] at h)<;>(try exact g_f)<;>(try simp -implicitDefEqProofs only[go_sem]))|(with_reducible refine And.intro (fun h=>?_) (fun h=>?_)<;>(try simp only[go_sem] at h)<;>(try exact g_f))|(with_reducible refine And.intro ?_ ?_;· exact g_x)|(with_reducible intro h;(try simp only[go_sem] at h);(try exact g_f))))
          all_goals exact fin rfl
      · have rb := rightB_iff.1 hb
        rw [hb] at hRb hB
        rw [if_pos rfl] at hB
        have hBO := bestOf_calls n a b hn ra rb hpa hpb
        have h6b := right_len hn (bestR_facts hn ra rb).1
        obtain ⟨B, hBd⟩ : ∃ B, bestR n a b = B := ⟨_, rfl⟩
        rw [hBd] at hB hBO h6b
        have hGB := routeIs_good B (by omega)
        by_cases he : 0 ≤ l ∧ l < n.links.length
        · rw [if_pos he] at hX
          obtain ⟨he0, he1⟩ := he
          have hmem := at0_mem n.links he0 he1
          obtain ⟨lk, hla⟩ : ∃ lk, at0 n.links l = lk := ⟨_, rfl⟩
          rw [hla] at hX hmem
          have hlk := hn.lnk lk hmem
          by_cases hf : lk.fr = i
          · rw [if_pos hf, if_pos rfl] at hX
            have hxr := right_ext hn (i := i) (by rw [← hf]; exact ⟨hlk.f0, hlk.f1⟩) ⟨hlk.e0, hlk.e1⟩ ra
            have h6x := right_len hn hxr
            have hXO := extendOf_calls n i lk.edge a hn hlk.e0 hlk.e1 ra (by omega)
            obtain ⟨X, hXd⟩ : ∃ X, extR n i lk.edge a = X := ⟨_, rfl⟩
            rw [hXd] at hX hXO h6x
            have hGX := routeIs_good X (by omega)
            by_cases hv : a.w = n.alg.size - 1
            · rw [decide_eq_false (not_not_intro hv)] at hV
              rw [if_neg (by rw [not_and]; intro h; exact absurd hv h)] at hX
              (repeat' (first|(refine g_s fun K hK=>?_)|(refine g_b ?_)|(refine g_r ?_)|(refine g_k ?_;simp only[thenQ,blockQ])|(refine g_e ?_;simp only[thenQ,blockQ,↓reduceIte,Nat.reduceEqDiff])|(refine g_c (fun h=>?_) (fun h=>?_)<;>(try simp only[go_sem] at h)<;>(try exact g_f))|((first|refine g_t ?_|refine g_g ?_|refine g_U ?_|refine g_A ?_|refine (hB _).use ?_|refine g_q (fun τ=>hB _) ?_|refine (hX _).use ?_|refine g_q (fun τ=>hX _) ?_|refine (hC _).use ?_|refine g_q (fun τ=>hC _) ?_|refine (hRa _).use ?_|refine g_q (fun τ=>hRa _) ?_|refine (hV _).use ?_|refine g_q (fun τ=>hV _) ?_|refine (hP _).use ?_|refine g_q (fun τ=>hP _) ?_|refine (hRb _).use ?_|refine g_q (fun τ=>hRb _) ?_|refine (hBO _).use ?_|refine g_q (fun τ=>hBO _) ?_|refine (hGB _).use ?_|refine g_q (fun τ=>hGB _) ?_|refine (hXO _).use ?_|refine g_q (fun τ=>hXO _) ?_|refine (hGX _).use ?_|refine g_q (fun τ=>hGX _) ?_|refine g_W ?_);(try simp -implicitDefEqProofs only[go_sem,hla, hf]))|(with_reducible refine hK _ _ ?_;clear hK K)|(clear hK K;first|(with_reducible refine hK _ _ ?_;clear hK K)|(clear hK K;with_reducible refine hK _ _ ?_;clear hK K)|(clear hK K;clear hK K;with_reducible refine hK _ _ ?_;clear hK K))|(with_reducible refine splitB_intro (fun h=>?_) (fun h=>?_)<;>(try simp only[go_sem] at h)<;>(try exact g_f)<;>(try simp -implicitDefEqProofs only[go_sem,hla, hf]))|(with_reducible refine And.intro (fun h=>?_) (fun h=>?_)<;>(try simp only[go_sem] at h)<;>(try exact g_f))|(with_reducible refine And.intro ?_ ?_;· exact g_x)|(with_reducible intro h;(try simp only[go_sem] at h);(try exact g_f))))
              all_goals exact fin rfl
            · rw [decide_eq_true hv] at hV
              have hpl : 0 < a.p.length := List.length_pos_iff.2 (ra.ne hv)
              by_cases hd : at0 a.p 0 = lk.dst
              · rw [if_neg (by rw [not_and]; intro _; exact not_not_intro hd)] at hX
                (repeat' (first|(refine g_s fun K hK=>?_)|(refine g_b ?_)|(refine g_r ?_)|(refine g_k ?_;simp only[thenQ,blockQ])|(refine g_e ?_;simp only[thenQ,blockQ,↓reduceIte,Nat.reduceEqDiff])|(refine g_c (fun h=>?_) (fun h=>?_)<;>(try simp only[go_sem] at h)<;>(try exact g_f))|((first|refine g_t ?_|refine g_g ?_|refine g_U ?_|refine g_A ?_|refine (hB _).use ?_|refine g_q (fun τ=>hB _) ?_|refine (hX _).use ?_|refine g_q (fun τ=>hX _) ?_|refine (hC _).use ?_|refine g_q (fun τ=>hC _) ?_|refine (hRa _).use ?_|refine g_q (fun τ=>hRa _) ?_|refine (hV _).use ?_|refine g_q (fun τ=>hV _) ?_|refine (hP _).use ?_|refine g_q (fun τ=>hP _) ?_|refine (hRb _).use ?_|refine g_q (fun τ=>hRb _) ?_|refine (hBO _).use ?_|refine g_q (fun τ=>hBO _) ?_|refine (hGB _).use ?_|refine g_q (fun τ=>hGB _) ?_|refine (hXO _).use ?_|refine g_q (fun τ=>hXO _) ?_|refine (hGX _).use ?_|refine g_q (fun τ=>hGX _) ?_|refine g_W ?_);(try simp -implicitDefEqProofs only[go_sem,hla, hf, hd]))|(with_reducible refine hK _ _ ?_;clear hK K)|(clear hK K;first|(with_reducible refine hK _ _ ?_;clear hK K)|(clear hK K;with_reducible refine hK _ _ ?_;clear hK K)|(clear hK K;clear hK K;with_reducible refine hK _ _ ?_;clear hK K))|(with_reducible refine splitB_intro (fun h=>?_) (fun h=>?_)<;>(try simp only[go_sem] at h)<;>(try exact g_f)<;>(try simp -implicitDefEqProofs only[go_sem,hla, hf, hd]))|(with_reducible refine And.intro (fun h=>?_) (fun h=>?_)<;>(try simp only[go_sem] at h)<;>(try exact g_f))|(with_reducible refine And.intro ?_ ?_;· exact g_x)|(with_reducible intro h;(try simp only[go_sem] at h);(try exact g_f))))
                all_goals exact fin rfl
              · rw [if_pos ⟨hv, hd⟩] at hX
                (repeat' (first|(refine g_s fun K hK=>?_)|(refine g_b ?_)|(refine g_r ?_)|(refine g_k ?_;simp only[thenQ,blockQ])|(refine g_e ?_;simp only[thenQ,blockQ,↓reduceIte,Nat.reduceEqDiff])|(refine g_c (fun h=>?_) (fun h=>?_)<;>(try simp only[go_sem] at h)<;>(try exact g_f))|((first|refine g_t ?_|refine g_g ?_|refine g_U ?_|refine g_A ?_|refine (hB _).use ?_|refine g_q (fun τ=>hB _) ?_|refine (hX _).use ?_|refine g_q (fun τ=>hX _) ?_|refine (hC _).use ?_|refine g_q (fun τ=>hC _) ?_|refine (hRa _).use ?_|refine g_q (fun τ=>hRa _) ?_|refine (hV _).use ?_|refine g_q (fun τ=>hV _) ?_|refine (hP _).use ?_|refine g_q (fun τ=>hP _) ?_|refine (hRb _).use ?_|refine g_q (fun τ=>hRb _) ?_|refine (hBO _).use ?_|refine g_q (fun τ=>hBO _) ?_|refine (hGB _).use ?_|refine g_q (fun τ=>hGB _) ?_|refine (routeIs_bad 4 (by decide) _).use ?_|refine g_q (fun τ=>routeIs_bad 4 (by decide) _) ?_|refine g_W ?_);(try simp -implicitDefEqProofs only[go_sem,hla, hf]))|(with_reducible refine hK _ _ ?_;clear hK K)|(clear hK K;first|(with_reducible refine hK _ _ ?_;clear hK K)|(clear hK K;with_reducible refine hK _ _ ?_;clear hK K)|(clear hK K;clear hK K;with_reducible refine hK _ _ ?_;clear hK K))|(with_reducible refine splitB_intro (fun h=>?_) (fun h=>?_)<;>(try simp only[go_sem] at h)<;>(try exact g_f)<;>(try simp -implicitDefEqProofs only[go_sem,hla, hf]))|(with_reducible refine And.intro (fun h=>?_) (fun h=>?_)<;>(try simp only[go_sem] at h)<;>(try exact g_f))|(with_reducible refine And.intro ?_ ?_;· exact g_x)|(with_reducible intro h;(try simp only[go_sem] at h);(try exact g_f))))
                all_goals exact fin rfl
          · rw [if_neg hf] at hX
            (repeat' (first|(refine g_s fun K hK=>?_)|(refine g_b ?_)|(refine g_r ?_)|(refine g_k ?_;simp only[thenQ,blockQ])|(refine g_e ?_;simp only[thenQ,blockQ,↓reduceIte,Nat.reduceEqDiff])|(refine g_c (fun h=>?_) (fun h=>?_)<;>(try simp only[go_sem] at h)<;>(try exact g_f))|((first|refine g_t ?_|refine g_g ?_|refine g_U ?_|refine g_A ?_|refine (hB _).use ?_|refine g_q (fun τ=>hB _) ?_|refine (hX _).use ?_|refine g_q (fun τ=>hX _) ?_|refine (hC _).use ?_|refine g_q (fun τ=>hC _) ?_|refine (hRa _).use ?_|refine g_q (fun τ=>hRa _) ?_|refine (hV _).use ?_|refine g_q (fun τ=>hV _) ?_|refine (hP _).use ?_|refine g_q (fun τ=>hP _) ?_|refine (hRb _).use ?_|refine g_q (fun τ=>hRb _) ?_|refine (hBO _).use ?_|refine g_q (fun τ=>hBO _) ?_|refine (hGB _).use ?_|refine g_q (fun τ=>hGB _) ?_|refine (routeIs_bad 1 (by decide) _).use ?_|refine g_q (fun τ=>routeIs_bad 1 (by decide) _) ?_|refine g_W ?_);(try simp -implicitDefEqProofs only[go_sem,hla]))|(with_reducible refine hK _ _ ?_;clear hK K)|(clear hK K;first|(with_reducible refine hK _ _ ?_;clear hK K)|(clear hK K;with_reducible refine hK _ _ ?_;clear hK K)|(clear hK K;clear hK K;with_reducible refine hK _ _ ?_;clear hK K))|(with_reducible refine splitB_intro (fun h=>?_) (fun h=>?_)<;>(try simp only[go_sem] at h)<;>(try exact g_f)<;>(try simp -implicitDefEqProofs only[go_sem,hla]))|(with_reducible refine And.intro (fun h=>?_) (fun h=>?_)<;>(try simp only[go_sem] at h)<;>(try exact g_f))|(with_reducible refine And.intro ?_ ?_;· exact g_x)|(with_reducible intro h;(try simp only[go_sem] at h);(try exact g_f))))
            all_goals exact fin rfl
        · rw [if_neg he] at hX
          (repeat' (first|(refine g_s fun K hK=>?_)|(refine g_b ?_)|(refine g_r ?_)|(refine g_k ?_;simp only[thenQ,blockQ])|(refine g_e ?_;simp only[thenQ,blockQ,↓reduceIte,Nat.reduceEqDiff])|(refine g_c (fun h=>?_) (fun h=>?_)<;>(try simp only[go_sem] at h)<;>(try exact g_f))|((first|refine g_t ?_|refine g_g ?_|refine g_U ?_|refine g_A ?_|refine (hB _).use ?_|refine g_q (fun τ=>hB _) ?_|refine (hX _).use ?_|refine g_q (fun τ=>hX _) ?_|refine (hC _).use ?_|refine g_q (fun τ=>hC _) ?_|refine (hRa _).use ?_|refine g_q (fun τ=>hRa _) ?_|refine (hV _).use ?_|refine g_q (fun τ=>hV _) ?_|refine (hP _).use ?_|refine g_q (fun τ=>hP _) ?_|refine (hRb _).use ?_|refine g_q (fun τ=>hRb _) ?_|refine (hBO _).use ?_|refine g_q (fun τ=>hBO _) ?_|refine (hGB _).use ?_|refine g_q (fun τ=>hGB _) ?_|refine (routeIs_bad 5 (by decide) _).use ?_|refine g_q (fun τ=>routeIs_bad 5 (by decide) _) ?_|refine g_W ?_);(try simp -implicitDefEqProofs only[go_sem]))|(with_reducible refine hK _ _ ?_;clear hK K)|(clear hK K;first|(with_reducible refine hK _ _ ?_;clear hK K)|(clear hK K;with_reducible refine hK _ _ ?_;clear hK K)|(clear hK K;clear hK K;with_reducible refine hK _ _ ?_;clear hK K))|(with_reducible refine splitB_intro (fun h=>?_) (fun h=>?_)<;>(try simp only[go_sem] at h)<;>(try exact g_f)<;>(try simp -implicitDefEqProofs only[go_sem]))|(with_reducible refine And.intro (fun h=>?_) (fun h=>?_)<;>(try simp only[go_sem] at h)<;>(try exact g_f))|(with_reducible refine And.intro ?_ ?_;· exact g_x)|(with_reducible intro h;(try simp only[go_sem] at h);(try exact g_f))))
          all_goals exact fin rfl
  · rw [bestPA, if_pos h0] at hB
    rw [extPA, if_pos h0] at hX
    obtain ⟨e, he⟩ : ∃ e, checkN n = e := ⟨_, rfl⟩
    rw [he] at h0 hB hX hC
    (repeat' (first|(refine g_s fun K hK=>?_)|(refine g_b ?_)|(refine g_r ?_)|(refine g_k ?_;simp only[thenQ,blockQ])|(refine g_e ?_;simp only[thenQ,blockQ,↓reduceIte,Nat.reduceEqDiff])|(refine g_c (fun h=>?_) (fun h=>?_)<;>(try simp only[go_sem] at h)<;>(try exact g_f))|((first|refine g_t ?_|refine g_g ?_|refine g_U ?_|refine g_A ?_|refine (hB _).use ?_|refine g_q (fun τ=>hB _) ?_|refine (hX _).use ?_|refine g_q (fun τ=>hX _) ?_|refine (hC _).use ?_|refine g_q (fun τ=>hC _) ?_|refine (hP _).use ?_|refine g_q (fun τ=>hP _) ?_|refine (routeIs_bad e h0 _).use ?_|refine g_q (fun τ=>routeIs_bad e h0 _) ?_|refine g_W ?_);(try simp -implicitDefEqProofs only[go_sem]))|(with_reducible refine hK _ _ ?_;clear hK K)|(clear hK K;first|(with_reducible refine hK _ _ ?_;clear hK K)|(clear hK K;with_reducible refine hK _ _ ?_;clear hK K)|(clear hK K;clear hK K;with_reducible refine hK _ _ ?_;clear hK K))|(with_reducible refine splitB_intro (fun h=>?_) (fun h=>?_)<;>(try simp only[go_sem] at h)<;>(try exact g_f)<;>(try simp -implicitDefEqProofs only[go_sem]))|(with_reducible refine And.intro (fun h=>?_) (fun h=>?_)<;>(try simp only[go_sem] at h)<;>(try exact g_f))|(with_reducible refine And.intro ?_ ?_;· exact g_x)|(with_reducible intro h;(try simp only[go_sem] at h);(try exact g_f))))
    all_goals exact fin rfl
end Go.Proofs.Ytephecognbbaoab
