/- Routes with paths, as the document tells them: fit states, settling; what must be in any case; the law PathRounds. -/
import Derived.Test.YtephecognbbaoabUf
import Derived.Test.YtephecognbbaoabUh
import Derived.Test.YtephecognbbaoabNm
namespace Go.Proofs.Ytephecognbbaoab
open Go
set_option linter.all false
set_option maxRecDepth 100000
set_option maxHeartbeats 4000000

theorem fitPaths_calls (n : Net) (x : List (List Rt)) (okn : NetOk n) (ok : RtsOk x) (σ : Store) : ACalls Try.prog 41 [.agg (netC n), rtsC x] σ fun r σ' => σ' = σ ∧ r = intA1 (fitPErr n x) := by
  have hlen := ok.len
  have hC := checkNet_calls n okn
  refine ACalls.cutX ?_
  by_cases h0 : checkN n = 0
  · have hn := netIn_of h0
    have n1 := hn.n1
    have n6 := hn.n6
    have s2 := hn.alg.s2
    have s24 := hn.alg.s24
    have hi64 : I64 (n.alg.size - 1) := by unfold I64; omega
    rw [h0] at hC
    refine ACalls_of_awp Try.func41 rfl Try.results41 ?_
    simp only [List.length_cons, List.length_nil, Try.ntmps41, Nat.reduceAdd, Nat.reduceSub, enterA]
    refine AWP_seq_k fun K hK => ?_
    (refine AWP_region ?_; simp -implicitDefEqProofs only [go_sem])
    refine hK _ _ ?_; clear hK K
    refine AWP_freezeP 2 rfl (by simp only [st0]; rfl) ?_
    simp only [ss0, List.set_cons_zero]
    (repeat' (first|(refine g_s fun K hK=>?_)|(refine g_b ?_)|(refine g_r ?_)|(refine g_k ?_;simp only[thenQ,blockQ])|(refine g_e ?_;simp only[thenQ,blockQ,↓reduceIte,Nat.reduceEqDiff])|(refine g_c (fun h=>?_) (fun h=>?_)<;>(try simp only[go_sem] at h)<;>(try exact g_f))|((first|refine g_t ?_|refine g_g ?_|refine g_U ?_|refine g_A ?_|refine (hC _).use ?_|refine g_q (fun τ=>hC _) ?_|refine g_W ?_);(try simp -implicitDefEqProofs only[go_sem]))|(with_reducible refine hK _ _ ?_;clear hK K)|(clear hK K;first|(with_reducible refine hK _ _ ?_;clear hK K)|(clear hK K;with_reducible refine hK _ _ ?_;clear hK K)|(clear hK K;clear hK K;with_reducible refine hK _ _ ?_;clear hK K))|(with_reducible refine splitB_intro (fun h=>?_) (fun h=>?_)<;>(try simp only[go_sem] at h)<;>(try exact g_f)<;>(try simp -implicitDefEqProofs only[go_sem]))|(with_reducible refine And.intro (fun h=>?_) (fun h=>?_)<;>(try simp only[go_sem] at h)<;>(try exact g_f))|(with_reducible refine And.intro ?_ ?_;· exact g_x)|(with_reducible intro h;(try simp only[go_sem] at h);(try exact g_f))))
    · refine CutQ_c rfl ?_
      rw [fitPErr, if_neg (not_not_intro h0), if_pos (.inl (by assumption))]
    have hxl : (x.length : Int) = n.nodes := by assumption
    have hJ := hK
    clear hK
    refine AWP_each x (fun _ r _ => (x.any fun r => decide ((r.length : Int) ≠ n.nodes)) = r.any fun r => decide ((r.length : Int) ≠ n.nodes)) (fun k _ _ => [(6, intA1 k)]) (fun _ _ _ => σ ++ [.dead]) () [] rfl rfl (ALe_of ?_) ?_ ?_
    · simp -implicitDefEqProofs only [go_sem]
    · rintro k r _ τ hk0 hk1 hH L hL
      obtain ⟨w, hw⟩ : ∃ w, at0 x k = w := ⟨_, rfl⟩
      rw [hw, List.any_cons] at hH
      simp -implicitDefEqProofs only [go_sem]
      (repeat' (first|(refine g_s fun K hK=>?_)|(refine g_b ?_)|(refine g_r ?_)|(refine g_k ?_;simp only[thenQ,blockQ])|(refine g_e ?_;simp only[thenQ,blockQ,↓reduceIte,Nat.reduceEqDiff])|(refine g_c (fun h=>?_) (fun h=>?_)<;>(try simp only[go_sem] at h)<;>(try exact g_f))|((first|refine g_t ?_|refine g_g ?_|refine g_U ?_|refine g_A ?_|refine g_W ?_);(try simp -implicitDefEqProofs only[go_sem,hw]))|(with_reducible refine hK _ _ ?_;clear hK K)|(clear hK K;first|(with_reducible refine hK _ _ ?_;clear hK K)|(clear hK K;with_reducible refine hK _ _ ?_;clear hK K)|(clear hK K;clear hK K;with_reducible refine hK _ _ ?_;clear hK K))|(with_reducible refine splitB_intro (fun h=>?_) (fun h=>?_)<;>(try simp only[go_sem] at h)<;>(try exact g_f)<;>(try simp -implicitDefEqProofs only[go_sem,hw]))|(with_reducible refine And.intro (fun h=>?_) (fun h=>?_)<;>(try simp only[go_sem] at h)<;>(try exact g_f))|(with_reducible refine And.intro ?_ ?_;· exact g_x)|(with_reducible intro h;(try simp only[go_sem] at h);(try exact g_f))))
      · refine CutQ_c rfl ?_
        rw [fitPErr, if_neg (not_not_intro h0), if_pos (.inr (by rw [hH, decide_eq_true h, Bool.true_or]))]
      · refine hL () [] _ _ (by rw [hH, decide_eq_false (not_not_intro h), Bool.false_or]) (ALe_of ?_) rfl
        simp -implicitDefEqProofs only [go_sem]
    · rintro k _ τ hk hH L
      have hrow : ∀ r ∈ x, (r.length : Int) = n.nodes := fun r hr => by
        apply Classical.byContradiction
        intro hc
        have h1 : (x.any fun r => decide ((r.length : Int) ≠ n.nodes)) = true := List.any_eq_true.2 ⟨r, hr, decide_eq_true hc⟩
        rw [hH] at h1
        cases h1
      obtain ⟨V, hV⟩ : ∃ V, ((ints n.nodes).all fun i => (ints n.nodes).all fun j => fitOneB n (at2R x i j) i j) = V := ⟨_, rfl⟩
      simp -implicitDefEqProofs only [go_sem]
      (repeat' (first|(refine g_s fun K hK=>?_)|(refine g_b ?_)|(refine g_r ?_)|(refine g_k ?_;simp only[thenQ,blockQ])|(refine g_e ?_;simp only[thenQ,blockQ,↓reduceIte,Nat.reduceEqDiff])|(refine g_c (fun h=>?_) (fun h=>?_)<;>(try simp only[go_sem] at h)<;>(try exact g_f))|((first|refine g_g ?_|refine g_U ?_|refine g_A ?_|refine g_W ?_);(try simp -implicitDefEqProofs only[go_sem]))|(with_reducible refine hK _ _ ?_;clear hK K)|(clear hK K;first|(with_reducible refine hK _ _ ?_;clear hK K)|(clear hK K;with_reducible refine hK _ _ ?_;clear hK K)|(clear hK K;clear hK K;with_reducible refine hK _ _ ?_;clear hK K))|(with_reducible refine splitB_intro (fun h=>?_) (fun h=>?_)<;>(try simp only[go_sem] at h)<;>(try exact g_f)<;>(try simp -implicitDefEqProofs only[go_sem]))|(with_reducible refine And.intro (fun h=>?_) (fun h=>?_)<;>(try simp only[go_sem] at h)<;>(try exact g_f))|(with_reducible refine And.intro ?_ ?_;· exact g_x)|(with_reducible intro h;(try simp only[go_sem] at h);(try exact g_f))))
      refine hJ _ _ ?_
      clear hJ
      rw [fitP_eq h0 hxl hrow, hV]
      (repeat' (first|(refine g_s fun K hK=>?_)|(refine g_b ?_)|(refine g_r ?_)|(refine g_k ?_;simp only[thenQ,blockQ])|(refine g_e ?_;simp only[thenQ,blockQ,↓reduceIte,Nat.reduceEqDiff])|(refine g_c (fun h=>?_) (fun h=>?_)<;>(try simp only[go_sem] at h)<;>(try exact g_f))|((first|refine g_t ?_|refine g_g ?_|refine g_U ?_|refine g_A ?_|refine g_W ?_);(try simp -implicitDefEqProofs only[go_sem]))|(with_reducible refine hK _ _ ?_;clear hK K)|(clear hK K;first|(with_reducible refine hK _ _ ?_;clear hK K)|(clear hK K;with_reducible refine hK _ _ ?_;clear hK K)|(clear hK K;clear hK K;with_reducible refine hK _ _ ?_;clear hK K))|(with_reducible refine splitB_intro (fun h=>?_) (fun h=>?_)<;>(try simp only[go_sem] at h)<;>(try exact g_f)<;>(try simp -implicitDefEqProofs only[go_sem]))|(with_reducible refine And.intro (fun h=>?_) (fun h=>?_)<;>(try simp only[go_sem] at h)<;>(try exact g_f))|(with_reducible refine And.intro ?_ ?_;· exact g_x)|(with_reducible intro h;(try simp only[go_sem] at h);(try exact g_f))))
      have hJ := hK
      clear hK
      refine AWP_each x (fun i _ _ => ((intsFrom i n.nodes).all fun i => (ints n.nodes).all fun j => fitOneB n (at2R x i j) i j) = V) (fun i _ _ => [(7, intA1 i)]) (fun _ _ τ => σ ++ (.dead :: τ)) () [] hV rfl (ALe_of ?_) ?_ ?_
      · simp -implicitDefEqProofs only [go_sem]
      · rintro i r0 _ τ hi0 hi1 h3 L hL
        have hmem := at0_mem x hi0 hi1
        obtain ⟨w, hw⟩ : ∃ w, at0 x i = w := ⟨_, rfl⟩
        rw [hw] at hmem
        have hwl := hrow w hmem
        rw [intsFrom_cons hi0 (by omega), List.all_cons] at h3
        simp -implicitDefEqProofs only [go_sem]
        (repeat' (first|(refine g_s fun K hK=>?_)|(refine g_b ?_)|(refine g_r ?_)|(refine g_k ?_;simp only[thenQ,blockQ])|(refine g_e ?_;simp only[thenQ,blockQ,↓reduceIte,Nat.reduceEqDiff])|(refine g_c (fun h=>?_) (fun h=>?_)<;>(try simp only[go_sem] at h)<;>(try exact g_f))|((first|refine g_t ?_|refine g_g ?_|refine g_U ?_|refine g_A ?_|refine g_W ?_);(try simp -implicitDefEqProofs only[go_sem]))|(with_reducible refine hK _ _ ?_;clear hK K)|(clear hK K;first|(with_reducible refine hK _ _ ?_;clear hK K)|(clear hK K;with_reducible refine hK _ _ ?_;clear hK K)|(clear hK K;clear hK K;with_reducible refine hK _ _ ?_;clear hK K))|(with_reducible refine splitB_intro (fun h=>?_) (fun h=>?_)<;>(try simp only[go_sem] at h)<;>(try exact g_f)<;>(try simp -implicitDefEqProofs only[go_sem]))|(with_reducible refine And.intro (fun h=>?_) (fun h=>?_)<;>(try simp only[go_sem] at h)<;>(try exact g_f))|(with_reducible refine And.intro ?_ ?_;· exact g_x)|(with_reducible intro h;(try simp only[go_sem] at h);(try exact g_f))))
        have hJ2 := hK
        clear hK
        refine AWP_each w (fun j _ _ => ((ints n.nodes).all fun j => fitOneB n (at2R x i j) i j) = ((intsFrom j n.nodes).all fun j => fitOneB n (at2R x i j) i j)) (fun j _ _ => [(8, intA1 j)]) (fun _ _ τ2 => σ ++ (.dead :: (τ ++ τ2))) () [] rfl (by simp) (ALe_of ?_) ?_ ?_
        · simp -implicitDefEqProofs only [go_sem]
        · rintro j r9 _ τ2 hj0 hj1 h4 L2 hL2
          have hmem2 := at0_mem w hj0 hj1
          obtain ⟨t, ht⟩ : ∃ t, at0 w j = t := ⟨_, rfl⟩
          rw [ht] at hmem2
          have ht2 : at2R x i j = t := by rw [at2R, hw, ht]
          have htp := ((ok.row w hmem).2 t hmem2).p
          rw [intsFrom_cons hj0 (by omega), List.all_cons, ht2] at h4
          have hR := isRight_calls n t hn htp
          have hV2 := fun S => risValid_calls n t hi64 S
          have bad : ∀ {S : Store}, fitOneB n t i j = false → S = σ ++ (.dead :: (τ ++ (τ2 ++ [.cells 2 [rtC t]]))) → CutQ σ (intA1 (if V = true then 0 else 4)) (intA1 4) S := fun {S} hb hS => by
            refine CutQ_c hS ?_
            rw [← h3, h4, hb, Bool.false_and, Bool.false_and, if_neg (by decide)]
          have good : fitOneB n t i j = true → ((ints n.nodes).all fun j => fitOneB n (at2R x i j) i j) = ((intsFrom (j + 1) n.nodes).all fun j => fitOneB n (at2R x i j) i j) := fun hb => by rw [h4, hb, Bool.true_and]
          simp -implicitDefEqProofs only [go_sem]
          by_cases hrB : rightB n t = true
          · have rr := rightB_iff.1 hrB
            have h6 := right_len hn rr
            rw [hrB] at hR
            by_cases hv : t.w = n.alg.size - 1
            · rw [decide_eq_false (not_not_intro hv)] at hV2
              have hF : fitOneB n t i j = true := by rw [fitOneB, hrB, endsB, decide_eq_true hv]; rfl
              (repeat' (first|(refine g_s fun K hK=>?_)|(refine g_b ?_)|(refine g_r ?_)|(refine g_k ?_;simp only[thenQ,blockQ])|(refine g_e ?_;simp only[thenQ,blockQ,↓reduceIte,Nat.reduceEqDiff])|(refine g_c (fun h=>?_) (fun h=>?_)<;>(try simp only[go_sem] at h)<;>(try exact g_f))|((first|refine g_t ?_|refine g_g ?_|refine g_U ?_|refine g_A ?_|refine (hR _).use ?_|refine g_q (fun τ=>hR _) ?_|refine (hV2 _).use ?_|refine g_q (fun τ=>hV2 _) ?_|refine g_W ?_);(try simp -implicitDefEqProofs only[go_sem,hw, ht]))|(with_reducible refine hK _ _ ?_;clear hK K)|(clear hK K;first|(with_reducible refine hK _ _ ?_;clear hK K)|(clear hK K;with_reducible refine hK _ _ ?_;clear hK K)|(clear hK K;clear hK K;with_reducible refine hK _ _ ?_;clear hK K))|(with_reducible refine splitB_intro (fun h=>?_) (fun h=>?_)<;>(try simp only[go_sem] at h)<;>(try exact g_f)<;>(try simp -implicitDefEqProofs only[go_sem,hw, ht]))|(with_reducible refine And.intro (fun h=>?_) (fun h=>?_)<;>(try simp only[go_sem] at h)<;>(try exact g_f))|(with_reducible refine And.intro ?_ ?_;· exact g_x)|(with_reducible intro h;(try simp only[go_sem] at h);(try exact g_f))))
              refine hL2 () (τ2 ++ [.cells 2 [rtC t]]) _ _ (good hF) (ALe_of ?_) (by simp [rtC, intA1, intsA])
              simp -implicitDefEqProofs only [go_sem]
            · rw [decide_eq_true hv] at hV2
              have hne := rr.ne hv
              have hpl : 0 < t.p.length := List.length_pos_iff.2 hne
              by_cases c1 : at0 t.p 0 = i
              · by_cases c2 : at0 t.p ((t.p.length : Int) - 1) = j
                · have hF : fitOneB n t i j = true := by rw [fitOneB, hrB, endsB, decide_eq_true c1, decide_eq_true c2]; simp
                  (repeat' (first|(refine g_s fun K hK=>?_)|(refine g_b ?_)|(refine g_r ?_)|(refine g_k ?_;simp only[thenQ,blockQ])|(refine g_e ?_;simp only[thenQ,blockQ,↓reduceIte,Nat.reduceEqDiff])|(refine g_c (fun h=>?_) (fun h=>?_)<;>(try simp only[go_sem] at h)<;>(try exact g_f))|((first|refine g_t ?_|refine g_g ?_|refine g_U ?_|refine g_A ?_|refine (hR _).use ?_|refine g_q (fun τ=>hR _) ?_|refine (hV2 _).use ?_|refine g_q (fun τ=>hV2 _) ?_|refine g_W ?_);(try simp -implicitDefEqProofs only[go_sem,hw, ht, c1, c2]))|(with_reducible refine hK _ _ ?_;clear hK K)|(clear hK K;first|(with_reducible refine hK _ _ ?_;clear hK K)|(clear hK K;with_reducible refine hK _ _ ?_;clear hK K)|(clear hK K;clear hK K;with_reducible refine hK _ _ ?_;clear hK K))|(with_reducible refine splitB_intro (fun h=>?_) (fun h=>?_)<;>(try simp only[go_sem] at h)<;>(try exact g_f)<;>(try simp -implicitDefEqProofs only[go_sem,hw, ht, c1, c2]))|(with_reducible refine And.intro (fun h=>?_) (fun h=>?_)<;>(try simp only[go_sem] at h)<;>(try exact g_f))|(with_reducible refine And.intro ?_ ?_;· exact g_x)|(with_reducible intro h;(try simp only[go_sem] at h);(try exact g_f))))
                  refine hL2 () (τ2 ++ [.cells 2 [rtC t]]) _ _ (good hF) (ALe_of ?_) (by simp [rtC, intA1, intsA])
                  simp -implicitDefEqProofs only [go_sem]
                · have hF : fitOneB n t i j = false := by rw [fitOneB, hrB, endsB, decide_eq_false hv, decide_eq_false c2]; simp
                  (repeat' (first|(refine g_s fun K hK=>?_)|(refine g_b ?_)|(refine g_r ?_)|(refine g_k ?_;simp only[thenQ,blockQ])|(refine g_e ?_;simp only[thenQ,blockQ,↓reduceIte,Nat.reduceEqDiff])|(refine g_c (fun h=>?_) (fun h=>?_)<;>(try simp only[go_sem] at h)<;>(try exact g_f))|((first|refine g_t ?_|refine g_g ?_|refine g_U ?_|refine g_A ?_|refine (hR _).use ?_|refine g_q (fun τ=>hR _) ?_|refine (hV2 _).use ?_|refine g_q (fun τ=>hV2 _) ?_|refine g_W ?_);(try simp -implicitDefEqProofs only[go_sem,hw, ht, c1]))|(with_reducible refine hK _ _ ?_;clear hK K)|(clear hK K;first|(with_reducible refine hK _ _ ?_;clear hK K)|(clear hK K;with_reducible refine hK _ _ ?_;clear hK K)|(clear hK K;clear hK K;with_reducible refine hK _ _ ?_;clear hK K))|(with_reducible refine splitB_intro (fun h=>?_) (fun h=>?_)<;>(try simp only[go_sem] at h)<;>(try exact g_f)<;>(try simp -implicitDefEqProofs only[go_sem,hw, ht, c1]))|(with_reducible refine And.intro (fun h=>?_) (fun h=>?_)<;>(try simp only[go_sem] at h)<;>(try exact g_f))|(with_reducible refine And.intro ?_ ?_;· exact g_x)|(with_reducible intro h;(try simp only[go_sem] at h);(try exact g_f))))
                  refine bad hF ?_
                  simp [rtC, intA1, intsA]
              · have hF : fitOneB n t i j = false := by rw [fitOneB, hrB, endsB, decide_eq_false hv, decide_eq_false c1]; simp
                (repeat' (first|(refine g_s fun K hK=>?_)|(refine g_b ?_)|(refine g_r ?_)|(refine g_k ?_;simp only[thenQ,blockQ])|(refine g_e ?_;simp only[thenQ,blockQ,↓reduceIte,Nat.reduceEqDiff])|(refine g_c (fun h=>?_) (fun h=>?_)<;>(try simp only[go_sem] at h)<;>(try exact g_f))|((first|refine g_t ?_|refine g_g ?_|refine g_U ?_|refine g_A ?_|refine (hR _).use ?_|refine g_q (fun τ=>hR _) ?_|refine (hV2 _).use ?_|refine g_q (fun τ=>hV2 _) ?_|refine g_W ?_);(try simp -implicitDefEqProofs only[go_sem,hw, ht]))|(with_reducible refine hK _ _ ?_;clear hK K)|(clear hK K;first|(with_reducible refine hK _ _ ?_;clear hK K)|(clear hK K;with_reducible refine hK _ _ ?_;clear hK K)|(clear hK K;clear hK K;with_reducible refine hK _ _ ?_;clear hK K))|(with_reducible refine splitB_intro (fun h=>?_) (fun h=>?_)<;>(try simp only[go_sem] at h)<;>(try exact g_f)<;>(try simp -implicitDefEqProofs only[go_sem,hw, ht]))|(with_reducible refine And.intro (fun h=>?_) (fun h=>?_)<;>(try simp only[go_sem] at h)<;>(try exact g_f))|(with_reducible refine And.intro ?_ ?_;· exact g_x)|(with_reducible intro h;(try simp only[go_sem] at h);(try exact g_f))))
                refine bad hF ?_
                simp [rtC, intA1, intsA]
          · have hrB : rightB n t = false := by simpa using hrB
            rw [hrB] at hR
            have hF : fitOneB n t i j = false := by rw [fitOneB, hrB]; rfl
            (repeat' (first|(refine g_s fun K hK=>?_)|(refine g_b ?_)|(refine g_r ?_)|(refine g_k ?_;simp only[thenQ,blockQ])|(refine g_e ?_;simp only[thenQ,blockQ,↓reduceIte,Nat.reduceEqDiff])|(refine g_c (fun h=>?_) (fun h=>?_)<;>(try simp only[go_sem] at h)<;>(try exact g_f))|((first|refine g_t ?_|refine g_g ?_|refine g_U ?_|refine g_A ?_|refine (hR _).use ?_|refine g_q (fun τ=>hR _) ?_|refine g_W ?_);(try simp -implicitDefEqProofs only[go_sem,hw, ht]))|(with_reducible refine hK _ _ ?_;clear hK K)|(clear hK K;first|(with_reducible refine hK _ _ ?_;clear hK K)|(clear hK K;with_reducible refine hK _ _ ?_;clear hK K)|(clear hK K;clear hK K;with_reducible refine hK _ _ ?_;clear hK K))|(with_reducible refine splitB_intro (fun h=>?_) (fun h=>?_)<;>(try simp only[go_sem] at h)<;>(try exact g_f)<;>(try simp -implicitDefEqProofs only[go_sem,hw, ht]))|(with_reducible refine And.intro (fun h=>?_) (fun h=>?_)<;>(try simp only[go_sem] at h)<;>(try exact g_f))|(with_reducible refine And.intro ?_ ?_;· exact g_x)|(with_reducible intro h;(try simp only[go_sem] at h);(try exact g_f))))
            refine bad hF ?_
            simp [rtC, intA1, intsA]
        · rintro j _ τ2 hj h4 L2
          rw [hj, hwl, intsFrom_end (by omega)] at h4
          rw [h4, List.all_nil, Bool.true_and] at h3
          simp -implicitDefEqProofs only [go_sem]
          (repeat' (first|(refine g_s fun K hK=>?_)|(refine g_b ?_)|(refine g_r ?_)|(refine g_k ?_;simp only[thenQ,blockQ])|(refine g_e ?_;simp only[thenQ,blockQ,↓reduceIte,Nat.reduceEqDiff])|(refine g_c (fun h=>?_) (fun h=>?_)<;>(try simp only[go_sem] at h)<;>(try exact g_f))|((first|refine g_t ?_|refine g_g ?_|refine g_U ?_|refine g_A ?_|refine g_W ?_);(try simp -implicitDefEqProofs only[go_sem]))|(with_reducible refine hK _ _ ?_;clear hK K)|(clear hK K;first|(with_reducible refine hK _ _ ?_;clear hK K)|(clear hK K;with_reducible refine hK _ _ ?_;clear hK K)|(clear hK K;clear hK K;with_reducible refine hK _ _ ?_;clear hK K))|(with_reducible refine splitB_intro (fun h=>?_) (fun h=>?_)<;>(try simp only[go_sem] at h)<;>(try exact g_f)<;>(try simp -implicitDefEqProofs only[go_sem]))|(with_reducible refine And.intro (fun h=>?_) (fun h=>?_)<;>(try simp only[go_sem] at h)<;>(try exact g_f))|(with_reducible refine And.intro ?_ ?_;· exact g_x)|(with_reducible intro h;(try simp only[go_sem] at h);(try exact g_f))))
          refine hJ2 _ _ ?_
          clear hJ2
          (repeat' (first|(refine g_s fun K hK=>?_)|(refine g_b ?_)|(refine g_r ?_)|(refine g_k ?_;simp only[thenQ,blockQ])|(refine g_e ?_;simp only[thenQ,blockQ,↓reduceIte,Nat.reduceEqDiff])|(refine g_c (fun h=>?_) (fun h=>?_)<;>(try simp only[go_sem] at h)<;>(try exact g_f))|((first|refine g_t ?_|refine g_g ?_|refine g_U ?_|refine g_A ?_|refine g_W ?_);(try simp -implicitDefEqProofs only[go_sem]))|(with_reducible refine hK _ _ ?_;clear hK K)|(clear hK K;first|(with_reducible refine hK _ _ ?_;clear hK K)|(clear hK K;with_reducible refine hK _ _ ?_;clear hK K)|(clear hK K;clear hK K;with_reducible refine hK _ _ ?_;clear hK K))|(with_reducible refine splitB_intro (fun h=>?_) (fun h=>?_)<;>(try simp only[go_sem] at h)<;>(try exact g_f)<;>(try simp -implicitDefEqProofs only[go_sem]))|(with_reducible refine And.intro (fun h=>?_) (fun h=>?_)<;>(try simp only[go_sem] at h)<;>(try exact g_f))|(with_reducible refine And.intro ?_ ?_;· exact g_x)|(with_reducible intro h;(try simp only[go_sem] at h);(try exact g_f))))
          refine hL () (τ ++ τ2) _ _ h3 (ALe_of ?_) (by simp)
          simp -implicitDefEqProofs only [go_sem]
      · rintro i _ τ hi h3 L
        rw [hi, hxl, intsFrom_end (by omega)] at h3
        have h3 : true = V := h3
        simp -implicitDefEqProofs only [go_sem]
        (repeat' (first|(refine g_s fun K hK=>?_)|(refine g_b ?_)|(refine g_r ?_)|(refine g_k ?_;simp only[thenQ,blockQ])|(refine g_e ?_;simp only[thenQ,blockQ,↓reduceIte,Nat.reduceEqDiff])|(refine g_c (fun h=>?_) (fun h=>?_)<;>(try simp only[go_sem] at h)<;>(try exact g_f))|((first|refine g_t ?_|refine g_g ?_|refine g_U ?_|refine g_A ?_|refine g_W ?_);(try simp -implicitDefEqProofs only[go_sem]))|(with_reducible refine hK _ _ ?_;clear hK K)|(clear hK K;first|(with_reducible refine hK _ _ ?_;clear hK K)|(clear hK K;with_reducible refine hK _ _ ?_;clear hK K)|(clear hK K;clear hK K;with_reducible refine hK _ _ ?_;clear hK K))|(with_reducible refine splitB_intro (fun h=>?_) (fun h=>?_)<;>(try simp only[go_sem] at h)<;>(try exact g_f)<;>(try simp -implicitDefEqProofs only[go_sem]))|(with_reducible refine And.intro (fun h=>?_) (fun h=>?_)<;>(try simp only[go_sem] at h)<;>(try exact g_f))|(with_reducible refine And.intro ?_ ?_;· exact g_x)|(with_reducible intro h;(try simp only[go_sem] at h);(try exact g_f))))
        refine hJ _ _ ?_
        clear hJ
        (repeat' (first|(refine g_s fun K hK=>?_)|(refine g_b ?_)|(refine g_r ?_)|(refine g_k ?_;simp only[thenQ,blockQ])|(refine g_e ?_;simp only[thenQ,blockQ,↓reduceIte,Nat.reduceEqDiff])|(refine g_c (fun h=>?_) (fun h=>?_)<;>(try simp only[go_sem] at h)<;>(try exact g_f))|((first|refine g_t ?_|refine g_g ?_|refine g_U ?_|refine g_A ?_|refine g_W ?_);(try simp -implicitDefEqProofs only[go_sem]))|(with_reducible refine hK _ _ ?_;clear hK K)|(clear hK K;first|(with_reducible refine hK _ _ ?_;clear hK K)|(clear hK K;with_reducible refine hK _ _ ?_;clear hK K)|(clear hK K;clear hK K;with_reducible refine hK _ _ ?_;clear hK K))|(with_reducible refine splitB_intro (fun h=>?_) (fun h=>?_)<;>(try simp only[go_sem] at h)<;>(try exact g_f)<;>(try simp -implicitDefEqProofs only[go_sem]))|(with_reducible refine And.intro (fun h=>?_) (fun h=>?_)<;>(try simp only[go_sem] at h)<;>(try exact g_f))|(with_reducible refine And.intro ?_ ?_;· exact g_x)|(with_reducible intro h;(try simp only[go_sem] at h);(try exact g_f))))
        refine CutQ_c rfl ?_
        rw [← h3, if_pos rfl]
  · refine ACalls_of_awp Try.func41 rfl Try.results41 ?_
    simp only [List.length_cons, List.length_nil, Try.ntmps41, Nat.reduceAdd, Nat.reduceSub, enterA]
    (repeat' (first|(refine g_s fun K hK=>?_)|(refine g_b ?_)|(refine g_r ?_)|(refine g_k ?_;simp only[thenQ,blockQ])|(refine g_e ?_;simp only[thenQ,blockQ,↓reduceIte,Nat.reduceEqDiff])|(refine g_c (fun h=>?_) (fun h=>?_)<;>(try simp only[go_sem] at h)<;>(try exact g_f))|((first|refine g_t ?_|refine g_g ?_|refine g_U ?_|refine g_A ?_|refine (hC _).use ?_|refine g_q (fun τ=>hC _) ?_|refine g_W ?_);(try simp -implicitDefEqProofs only[go_sem]))|(with_reducible refine hK _ _ ?_;clear hK K)|(clear hK K;first|(with_reducible refine hK _ _ ?_;clear hK K)|(clear hK K;with_reducible refine hK _ _ ?_;clear hK K)|(clear hK K;clear hK K;with_reducible refine hK _ _ ?_;clear hK K))|(with_reducible refine splitB_intro (fun h=>?_) (fun h=>?_)<;>(try simp only[go_sem] at h)<;>(try exact g_f)<;>(try simp -implicitDefEqProofs only[go_sem]))|(with_reducible refine And.intro (fun h=>?_) (fun h=>?_)<;>(try simp only[go_sem] at h)<;>(try exact g_f))|(with_reducible refine And.intro ?_ ?_;· exact g_x)|(with_reducible intro h;(try simp only[go_sem] at h);(try exact g_f))))
    refine CutQ_c rfl ?_
    rw [fitPErr, if_pos h0]

theorem samePaths_calls (a b : List (List Rt)) (hl : a.length ≤ 1000000000000000000) (hp : ∀ r ∈ a, r.length ≤ 1000000000000000000 ∧ ∀ t ∈ r, t.p.length ≤ 1000000000000000000) (σ : Store) : ACalls Try.prog 46 [rtsC a, rtsC b] σ fun r σ' => σ' = σ ∧ r = .c (.bool (decide (a = b))) := by
  refine ACalls_of_awp Try.func46 rfl Try.results46 ?_
  simp only [List.length_cons, List.length_nil, Try.ntmps46, Nat.reduceAdd, Nat.reduceSub, enterA]
  (repeat' (first|(refine g_s fun K hK=>?_)|(refine g_b ?_)|(refine g_r ?_)|(refine g_k ?_;simp only[thenQ,blockQ])|(refine g_e ?_;simp only[thenQ,blockQ,↓reduceIte,Nat.reduceEqDiff])|(refine g_c (fun h=>?_) (fun h=>?_)<;>(try simp only[go_sem] at h)<;>(try exact g_f))|((first|refine g_t ?_|refine g_g ?_|refine g_U ?_|refine g_A ?_|refine g_W ?_);(try simp -implicitDefEqProofs only[go_sem]))|(with_reducible refine hK _ _ ?_;clear hK K)|(clear hK K;first|(with_reducible refine hK _ _ ?_;clear hK K)|(clear hK K;with_reducible refine hK _ _ ?_;clear hK K)|(clear hK K;clear hK K;with_reducible refine hK _ _ ?_;clear hK K))|(with_reducible refine splitB_intro (fun h=>?_) (fun h=>?_)<;>(try simp only[go_sem] at h)<;>(try exact g_f)<;>(try simp -implicitDefEqProofs only[go_sem]))|(with_reducible refine And.intro (fun h=>?_) (fun h=>?_)<;>(try simp only[go_sem] at h)<;>(try exact g_f))|(with_reducible refine And.intro ?_ ?_;· exact g_x)|(with_reducible intro h;(try simp only[go_sem] at h);(try exact g_f))))
  · rw [decide_eq_false (fun e : a = b => h (by rw [e]))]
  have hle : a.length = b.length := by omega
  refine AWP_for (a.length : Int) (fun k _ => ∀ i : Int, 0 ≤ i → i < k → at0 a i = at0 b i) (fun k _ _ => [(5, intA1 k)]) (fun _ _ _ => σ) () [] (by omega) (fun i h1 h2 => by omega) rfl (ALe_of ?_) ?_
  · simp -implicitDefEqProofs only [go_sem]
  · rintro k _ τ hk0 hk1 hH L hL
    by_cases hk2 : k < a.length
    · have hm := hp _ (at0_mem a hk0 hk2)
      obtain ⟨u, hu⟩ : ∃ u, at0 a k = u := ⟨_, rfl⟩
      obtain ⟨v, hv⟩ : ∃ v, at0 b k = v := ⟨_, rfl⟩
      rw [hu] at hm
      simp -implicitDefEqProofs only [go_sem]
      (repeat' (first|(refine g_s fun K hK=>?_)|(refine g_b ?_)|(refine g_r ?_)|(refine g_k ?_;simp only[thenQ,blockQ])|(refine g_e ?_;simp only[thenQ,blockQ,↓reduceIte,Nat.reduceEqDiff])|(refine g_c (fun h=>?_) (fun h=>?_)<;>(try simp only[go_sem] at h)<;>(try exact g_f))|((first|refine g_t ?_|refine g_g ?_|refine g_U ?_|refine g_A ?_|refine g_W ?_);(try simp -implicitDefEqProofs only[go_sem,hu, hv]))|(with_reducible refine hK _ _ ?_;clear hK K)|(clear hK K;first|(with_reducible refine hK _ _ ?_;clear hK K)|(clear hK K;with_reducible refine hK _ _ ?_;clear hK K)|(clear hK K;clear hK K;with_reducible refine hK _ _ ?_;clear hK K))|(with_reducible refine splitB_intro (fun h=>?_) (fun h=>?_)<;>(try simp only[go_sem] at h)<;>(try exact g_f)<;>(try simp -implicitDefEqProofs only[go_sem,hu, hv]))|(with_reducible refine And.intro (fun h=>?_) (fun h=>?_)<;>(try simp only[go_sem] at h)<;>(try exact g_f))|(with_reducible refine And.intro ?_ ?_;· exact g_x)|(with_reducible intro h;(try simp only[go_sem] at h);(try exact g_f))))
      · rw [decide_eq_false (fun e : a = b => h (by rw [← hu, ← hv, e]))]
      have huv : u.length = v.length := by omega
      have hJ := hK
      clear hK
      refine AWP_for (u.length : Int) (fun j _ => ∀ i : Int, 0 ≤ i → i < j → at0 u i = at0 v i) (fun j _ _ => [(6, intA1 j)]) (fun _ _ _ => σ) () [] (by omega) (fun i h1 h2 => by omega) rfl (ALe_of ?_) ?_
      · simp -implicitDefEqProofs only [go_sem]
      · rintro j _ τ2 hj0 hj1 hH2 L2 hL2
        by_cases hj2 : j < u.length
        · have hm2 := hm.2 _ (at0_mem u hj0 hj2)
          have hS := sameRoute_calls (at0 u j) (at0 v j) hm2
          simp -implicitDefEqProofs only [go_sem]
          (repeat' (first|(refine g_s fun K hK=>?_)|(refine g_b ?_)|(refine g_r ?_)|(refine g_k ?_;simp only[thenQ,blockQ])|(refine g_e ?_;simp only[thenQ,blockQ,↓reduceIte,Nat.reduceEqDiff])|(refine g_c (fun h=>?_) (fun h=>?_)<;>(try simp only[go_sem] at h)<;>(try exact g_f))|((first|refine g_t ?_|refine g_g ?_|refine g_U ?_|refine g_A ?_|refine (hS _).use ?_|refine g_q (fun τ=>hS _) ?_|refine g_W ?_);(try simp -implicitDefEqProofs only[go_sem,hu, hv]))|(with_reducible refine hK _ _ ?_;clear hK K)|(clear hK K;first|(with_reducible refine hK _ _ ?_;clear hK K)|(clear hK K;with_reducible refine hK _ _ ?_;clear hK K)|(clear hK K;clear hK K;with_reducible refine hK _ _ ?_;clear hK K))|(with_reducible refine splitB_intro (fun h=>?_) (fun h=>?_)<;>(try simp only[go_sem] at h)<;>(try exact g_f)<;>(try simp -implicitDefEqProofs only[go_sem,hu, hv]))|(with_reducible refine And.intro (fun h=>?_) (fun h=>?_)<;>(try simp only[go_sem] at h)<;>(try exact g_f))|(with_reducible refine And.intro ?_ ?_;· exact g_x)|(with_reducible intro h;(try simp only[go_sem] at h);(try exact g_f))))
          · have hne : at0 u j ≠ at0 v j := by simpa using h
            rw [decide_eq_false (fun e : a = b => hne (by rw [← hu, ← hv, e]))]
          · have heq : at0 u j = at0 v j := by simpa using h
            refine hL2 hj2 () [] _ _ ?_ (ALe_of ?_) rfl
            · intro i h1 h2
              rcases Int.lt_or_eq_of_le (Int.le_of_lt_add_one h2) with h3 | h3
              · exact hH2 i h1 h3
              · rw [h3]; exact heq
            · simp -implicitDefEqProofs only [go_sem]
        · have heq : u = v := at0_eq huv fun i h1 h2 => hH2 i h1 (by omega)
          simp -implicitDefEqProofs only [go_sem]
          (repeat' (first|(refine g_s fun K hK=>?_)|(refine g_b ?_)|(refine g_r ?_)|(refine g_k ?_;simp only[thenQ,blockQ])|(refine g_e ?_;simp only[thenQ,blockQ,↓reduceIte,Nat.reduceEqDiff])|(refine g_c (fun h=>?_) (fun h=>?_)<;>(try simp only[go_sem] at h)<;>(try exact g_f))|((first|refine g_t ?_|refine g_g ?_|refine g_U ?_|refine g_A ?_|refine g_W ?_);(try simp -implicitDefEqProofs only[go_sem,hu]))|(with_reducible refine hK _ _ ?_;clear hK K)|(clear hK K;first|(with_reducible refine hK _ _ ?_;clear hK K)|(clear hK K;with_reducible refine hK _ _ ?_;clear hK K)|(clear hK K;clear hK K;with_reducible refine hK _ _ ?_;clear hK K))|(with_reducible refine splitB_intro (fun h=>?_) (fun h=>?_)<;>(try simp only[go_sem] at h)<;>(try exact g_f)<;>(try simp -implicitDefEqProofs only[go_sem,hu]))|(with_reducible refine And.intro (fun h=>?_) (fun h=>?_)<;>(try simp only[go_sem] at h)<;>(try exact g_f))|(with_reducible refine And.intro ?_ ?_;· exact g_x)|(with_reducible intro h;(try simp only[go_sem] at h);(try exact g_f))))
          refine hJ _ _ ?_
          clear hJ
          (repeat' (first|(refine g_s fun K hK=>?_)|(refine g_b ?_)|(refine g_r ?_)|(refine g_k ?_;simp only[thenQ,blockQ])|(refine g_e ?_;simp only[thenQ,blockQ,↓reduceIte,Nat.reduceEqDiff])|(refine g_c (fun h=>?_) (fun h=>?_)<;>(try simp only[go_sem] at h)<;>(try exact g_f))|((first|refine g_t ?_|refine g_g ?_|refine g_U ?_|refine g_A ?_|refine g_W ?_);(try simp -implicitDefEqProofs only[go_sem]))|(with_reducible refine hK _ _ ?_;clear hK K)|(clear hK K;first|(with_reducible refine hK _ _ ?_;clear hK K)|(clear hK K;with_reducible refine hK _ _ ?_;clear hK K)|(clear hK K;clear hK K;with_reducible refine hK _ _ ?_;clear hK K))|(with_reducible refine splitB_intro (fun h=>?_) (fun h=>?_)<;>(try simp only[go_sem] at h)<;>(try exact g_f)<;>(try simp -implicitDefEqProofs only[go_sem]))|(with_reducible refine And.intro (fun h=>?_) (fun h=>?_)<;>(try simp only[go_sem] at h)<;>(try exact g_f))|(with_reducible refine And.intro ?_ ?_;· exact g_x)|(with_reducible intro h;(try simp only[go_sem] at h);(try exact g_f))))
          refine hL hk2 () [] _ _ ?_ (ALe_of ?_) rfl
          · intro i h1 h2
            rcases Int.lt_or_eq_of_le (Int.le_of_lt_add_one h2) with h3 | h3
            · exact hH i h1 h3
            · rw [h3, hu, hv]; exact heq
          · simp -implicitDefEqProofs only [go_sem]
    · simp -implicitDefEqProofs only [go_sem]
      (repeat' (first|(refine g_s fun K hK=>?_)|(refine g_b ?_)|(refine g_r ?_)|(refine g_k ?_;simp only[thenQ,blockQ])|(refine g_e ?_;simp only[thenQ,blockQ,↓reduceIte,Nat.reduceEqDiff])|(refine g_c (fun h=>?_) (fun h=>?_)<;>(try simp only[go_sem] at h)<;>(try exact g_f))|((first|refine g_t ?_|refine g_g ?_|refine g_U ?_|refine g_A ?_|refine g_W ?_);(try simp -implicitDefEqProofs only[go_sem]))|(with_reducible refine hK _ _ ?_;clear hK K)|(clear hK K;first|(with_reducible refine hK _ _ ?_;clear hK K)|(clear hK K;with_reducible refine hK _ _ ?_;clear hK K)|(clear hK K;clear hK K;with_reducible refine hK _ _ ?_;clear hK K))|(with_reducible refine splitB_intro (fun h=>?_) (fun h=>?_)<;>(try simp only[go_sem] at h)<;>(try exact g_f)<;>(try simp -implicitDefEqProofs only[go_sem]))|(with_reducible refine And.intro (fun h=>?_) (fun h=>?_)<;>(try simp only[go_sem] at h)<;>(try exact g_f))|(with_reducible refine And.intro ?_ ?_;· exact g_x)|(with_reducible intro h;(try simp only[go_sem] at h);(try exact g_f))))
      rw [decide_eq_true (at0_eq hle fun i h1 h2 => hH i h1 (by omega) : a = b)]

theorem settlePaths_calls (n : Net) (x : List (List Rt)) (most : Int) (hn : NetIn n) (hx : FitP n x) (hl : n.links.length ≤ 5864062014634) (h2 : 0 ≤ most ∧ most ≤ 1000) (σ : Store) :
    ACalls Try.prog 43 [.agg (netC n), rtsC x, intA1 most] σ fun r σ' => σ' = σ ∧ r = .tup [rtsC (settleP n most.toNat 0 x).1, intA1 (settleP n most.toNat 0 x).2] := by
  refine ACalls.cutX ?_
  refine ACalls_of_awp Try.func43 rfl Try.results43 ?_
  simp only [List.length_cons, List.length_nil, Try.ntmps43, Nat.reduceAdd, Nat.reduceSub, enterA]
  refine AWP_seq_k fun K hK => ?_
  (refine AWP_region ?_; simp -implicitDefEqProofs only [go_sem])
  refine hK _ _ ?_; clear hK K
  refine AWP_freezeP 3 rfl (by simp only [st0]; rfl) ?_
  simp only [ss0, List.set_cons_zero]
  (repeat' (first|(refine g_s fun K hK=>?_)|(refine g_b ?_)|(refine g_r ?_)|(refine g_k ?_;simp only[thenQ,blockQ])|(refine g_e ?_;simp only[thenQ,blockQ,↓reduceIte,Nat.reduceEqDiff])|(refine g_c (fun h=>?_) (fun h=>?_)<;>(try simp only[go_sem] at h)<;>(try exact g_f))|((first|refine g_t ?_|refine g_g ?_|refine g_U ?_|refine g_A ?_|refine g_W ?_);(try simp -implicitDefEqProofs only[go_sem]))|(with_reducible refine hK _ _ ?_;clear hK K)|(clear hK K;first|(with_reducible refine hK _ _ ?_;clear hK K)|(clear hK K;with_reducible refine hK _ _ ?_;clear hK K)|(clear hK K;clear hK K;with_reducible refine hK _ _ ?_;clear hK K))|(with_reducible refine splitB_intro (fun h=>?_) (fun h=>?_)<;>(try simp only[go_sem] at h)<;>(try exact g_f)<;>(try simp -implicitDefEqProofs only[go_sem]))|(with_reducible refine And.intro (fun h=>?_) (fun h=>?_)<;>(try simp only[go_sem] at h)<;>(try exact g_f))|(with_reducible refine And.intro ?_ ?_;· exact g_x)|(with_reducible intro h;(try simp only[go_sem] at h);(try exact g_f))))
  have hJ := hK
  clear hK
  refine AWP_for most (fun k xs => FitP n xs ∧ settleP n most.toNat 0 x = settleP n (most - k).toNat k xs) (fun k xs _ => [(8, intA1 k), (1, rtsC xs)]) (fun _ _ _ => σ ++ [.dead]) x [] h2.1 ⟨hx, by rw [Int.sub_zero]⟩ rfl (ALe_of ?_) ?_
  · simp -implicitDefEqProofs only [go_sem]
  · rintro k xs τ hk0 hk1 ⟨hxs, hH⟩ L hL
    by_cases hk2 : k < most
    · have hf : (most - k).toNat = (most - (k + 1)).toNat + 1 := by omega
      rw [hf] at hH
      have hs6 := hxs.small hn
      have hE := samePaths_calls xs (roundP n xs) (by omega) (fun r hr => ⟨by have := (hs6.2 r hr).1; omega, fun t ht => by have := (hs6.2 r hr).2 t ht; omega⟩)
      simp -implicitDefEqProofs only [go_sem]
      (repeat' (first|(refine g_s fun K hK=>?_)|(refine g_b ?_)|(refine g_r ?_)|(refine g_k ?_;simp only[thenQ,blockQ])|(refine g_e ?_;simp only[thenQ,blockQ,↓reduceIte,Nat.reduceEqDiff])|(refine g_c (fun h=>?_) (fun h=>?_)<;>(try simp only[go_sem] at h)<;>(try exact g_f))|((first|refine g_t ?_|refine g_g ?_|refine g_U ?_|refine g_A ?_|refine (roundPaths_calls n xs hn hxs hl _).use ?_|refine g_q (fun τ=>roundPaths_calls n xs hn hxs hl _) ?_|refine (hE _).use ?_|refine g_q (fun τ=>hE _) ?_|refine g_W ?_);(try simp -implicitDefEqProofs only[go_sem]))|(with_reducible refine hK _ _ ?_;clear hK K)|(clear hK K;first|(with_reducible refine hK _ _ ?_;clear hK K)|(clear hK K;with_reducible refine hK _ _ ?_;clear hK K)|(clear hK K;clear hK K;with_reducible refine hK _ _ ?_;clear hK K))|(with_reducible refine splitB_intro (fun h=>?_) (fun h=>?_)<;>(try simp only[go_sem] at h)<;>(try exact g_f)<;>(try simp -implicitDefEqProofs only[go_sem]))|(with_reducible refine And.intro (fun h=>?_) (fun h=>?_)<;>(try simp only[go_sem] at h)<;>(try exact g_f))|(with_reducible refine And.intro ?_ ?_;· exact g_x)|(with_reducible intro h;(try simp only[go_sem] at h);(try exact g_f))))
      · have hs : xs = roundP n xs := by simpa using h
        rw [hH, settleP_same hs]
        exact CutQ_w rfl (.tupL (.cons (Bd.rtsC _) (.cons (.c _) .nil))) (.eq rfl)
      · have hs : ¬ xs = roundP n xs := by simpa using h
        rw [settleP_next hs] at hH
        refine hL hk2 (roundP n xs) [] _ _ ⟨hxs.round hn, hH⟩ (ALe_of ?_) rfl
        simp -implicitDefEqProofs only [go_sem]
    · have hkm : k = most := by omega
      subst hkm
      rw [Int.sub_self] at hH
      simp -implicitDefEqProofs only [go_sem]
      (repeat' (first|(refine g_s fun K hK=>?_)|(refine g_b ?_)|(refine g_r ?_)|(refine g_k ?_;simp only[thenQ,blockQ])|(refine g_e ?_;simp only[thenQ,blockQ,↓reduceIte,Nat.reduceEqDiff])|(refine g_c (fun h=>?_) (fun h=>?_)<;>(try simp only[go_sem] at h)<;>(try exact g_f))|((first|refine g_t ?_|refine g_g ?_|refine g_U ?_|refine g_A ?_|refine g_W ?_);(try simp -implicitDefEqProofs only[go_sem]))|(with_reducible refine hK _ _ ?_;clear hK K)|(clear hK K;first|(with_reducible refine hK _ _ ?_;clear hK K)|(clear hK K;with_reducible refine hK _ _ ?_;clear hK K)|(clear hK K;clear hK K;with_reducible refine hK _ _ ?_;clear hK K))|(with_reducible refine splitB_intro (fun h=>?_) (fun h=>?_)<;>(try simp only[go_sem] at h)<;>(try exact g_f)<;>(try simp -implicitDefEqProofs only[go_sem]))|(with_reducible refine And.intro (fun h=>?_) (fun h=>?_)<;>(try simp only[go_sem] at h)<;>(try exact g_f))|(with_reducible refine And.intro ?_ ?_;· exact g_x)|(with_reducible intro h;(try simp only[go_sem] at h);(try exact g_f))))
      refine hJ _ _ ?_
      clear hJ
      (repeat' (first|(refine g_s fun K hK=>?_)|(refine g_b ?_)|(refine g_r ?_)|(refine g_k ?_;simp only[thenQ,blockQ])|(refine g_e ?_;simp only[thenQ,blockQ,↓reduceIte,Nat.reduceEqDiff])|(refine g_c (fun h=>?_) (fun h=>?_)<;>(try simp only[go_sem] at h)<;>(try exact g_f))|((first|refine g_t ?_|refine g_g ?_|refine g_U ?_|refine g_A ?_|refine g_W ?_);(try simp -implicitDefEqProofs only[go_sem]))|(with_reducible refine hK _ _ ?_;clear hK K)|(clear hK K;first|(with_reducible refine hK _ _ ?_;clear hK K)|(clear hK K;with_reducible refine hK _ _ ?_;clear hK K)|(clear hK K;clear hK K;with_reducible refine hK _ _ ?_;clear hK K))|(with_reducible refine splitB_intro (fun h=>?_) (fun h=>?_)<;>(try simp only[go_sem] at h)<;>(try exact g_f)<;>(try simp -implicitDefEqProofs only[go_sem]))|(with_reducible refine And.intro (fun h=>?_) (fun h=>?_)<;>(try simp only[go_sem] at h)<;>(try exact g_f))|(with_reducible refine And.intro ?_ ?_;· exact g_x)|(with_reducible intro h;(try simp only[go_sem] at h);(try exact g_f))))
      rw [hH]
      exact CutQ_w rfl (.tupL (.cons (Bd.rtsC _) (.cons (.c _) .nil))) (.eq rfl)
end Go.Proofs.Ytephecognbbaoab
