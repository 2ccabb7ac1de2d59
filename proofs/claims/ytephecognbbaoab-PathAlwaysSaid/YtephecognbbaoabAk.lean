/- The first of some laws that is broken, as the document finds it. -/
import Derived.Test.YtephecognbbaoabAb
import Derived.Test.YtephecognbbaoabAi
import Derived.Test.YtephecognbbaoabPo
import Derived.Test.YtephecognbbaoabSy
namespace Go.Proofs.Ytephecognbbaoab
open Go
set_option linter.all false
set_option maxRecDepth 100000
set_option maxHeartbeats 4000000

theorem brokenOf_calls (x : Alg) (laws : List Int) (hr : Right x) (hl : laws.length ≤ 100) (hlaw : ∀ law ∈ laws, 1 ≤ law ∧ law ≤ 9) (σ : Store) :
    ACalls Try.prog 144 [.agg (algC x), intsA laws] σ fun r σ' => σ' = σ ∧ r = .agg (brkC (brokenA x laws)) := by
  have s2 := hr.s2
  have s24 := hr.s24
  have e8 := hr.e8
  have hss : x.size * x.size ≤ 24 * x.size := Int.mul_le_mul_of_nonneg_right (by omega) (by omega)
  have hss0 : 0 ≤ x.size * x.size := Int.mul_nonneg (by omega) (by omega)
  have hsss : x.size * x.size * x.size ≤ 576 * x.size := Int.mul_le_mul_of_nonneg_right (by omega) (by omega)
  have hsss0 : 0 ≤ x.size * x.size * x.size := Int.mul_nonneg (by omega) (by omega)
  refine ACalls.cutX ?_
  refine ACalls_of_awp Try.func144 rfl Try.results144 ?_
  simp only [List.length_cons, List.length_nil, Try.ntmps144, Nat.reduceAdd, Nat.reduceSub, enterA]
  refine AWP_seq_k fun K hK => ?_
  (refine AWP_region ?_; simp -implicitDefEqProofs only [go_sem])
  refine hK _ _ ?_; clear hK K
  refine AWP_freezeP 2 rfl (by simp only [st0]; rfl) ?_
  simp only [ss0, List.set_cons_zero]
  (repeat' (first|(refine g_s fun K hK=>?_)|(refine g_b ?_)|(refine g_r ?_)|(refine g_k ?_;simp only[thenQ,blockQ])|(refine g_e ?_;simp only[thenQ,blockQ,↓reduceIte,Nat.reduceEqDiff])|(refine g_c (fun h=>?_) (fun h=>?_)<;>(try simp only[go_sem] at h)<;>(try exact g_f))|((first|refine g_t ?_|refine g_g ?_|refine g_U ?_|refine g_A ?_|refine g_W ?_);(try simp -implicitDefEqProofs only[go_sem]))|(with_reducible refine hK _ _ ?_;clear hK K)|(clear hK K;first|(with_reducible refine hK _ _ ?_;clear hK K)|(clear hK K;with_reducible refine hK _ _ ?_;clear hK K)|(clear hK K;clear hK K;with_reducible refine hK _ _ ?_;clear hK K))|(with_reducible refine splitB_intro (fun h=>?_) (fun h=>?_)<;>(try simp only[go_sem] at h)<;>(try exact g_f)<;>(try simp -implicitDefEqProofs only[go_sem]))|(with_reducible refine And.intro (fun h=>?_) (fun h=>?_)<;>(try simp only[go_sem] at h)<;>(try exact g_f))|(with_reducible refine And.intro ?_ ?_;· exact g_x)|(with_reducible intro h;(try simp only[go_sem] at h);(try exact g_f))))
  have hJ := hK
  clear hK
  refine AWP_each laws (fun _ r _ => FC (holdsA x) (laws.flatMap (casesA x)) = FC (holdsA x) (r.flatMap (casesA x))) (fun k _ _ => [(5, intA1 k)]) (fun _ _ τ => σ ++ (.dead :: .cells 5 [brkC zeroB] :: τ)) () [] rfl rfl (ALe_of ?_) ?_ ?_
  · simp -implicitDefEqProofs only [go_sem]
  · rintro k r _ τ hk0 hk1 hH L hL
    have hmem := at0_mem laws hk0 hk1
    obtain ⟨law, hla⟩ : ∃ law, at0 laws k = law := ⟨_, rfl⟩
    rw [hla] at hH hmem
    rw [List.flatMap_cons, cases_flat s2] at hH
    have hlw := hlaw law hmem
    have hm := many_bd law
    have hp0 := pw_pos (s := x.size) (m := manyA law) s2
    have hp1 := pw_le (s := x.size) (m := manyA law) ⟨s2, s24⟩
    have nE := upN_bd (b := edgeA law) (n := x.edges.length) (by omega)
    simp -implicitDefEqProofs only [go_sem]
    (repeat' (first|(refine g_s fun K hK=>?_)|(refine g_b ?_)|(refine g_r ?_)|(refine g_k ?_;simp only[thenQ,blockQ])|(refine g_e ?_;simp only[thenQ,blockQ,↓reduceIte,Nat.reduceEqDiff])|(refine AWP_cond rfl (fun h=>?_) (fun h=>?_);focus (first|contradiction|(simp only[go_sem] at h;done)|((try simp only[go_sem] at h);exact g_f));(try simp only[go_sem] at h))|(refine AWP_cond rfl (fun h=>?_) (fun h=>?_);rotate_left 1;focus (first|contradiction|(simp only[go_sem] at h;done)|((try simp only[go_sem] at h);exact g_f));(try simp only[go_sem] at h))|((first|refine g_t ?_|refine g_g ?_|refine g_U ?_|refine g_A ?_|refine (names_calls _ _).use ?_|refine g_q (fun τ=>names_calls _ _) ?_|refine g_W ?_);(try simp -implicitDefEqProofs only[go_sem,hla]))|(with_reducible refine hK _ _ ?_;clear hK K)|(clear hK K;first|(with_reducible refine hK _ _ ?_;clear hK K)|(clear hK K;with_reducible refine hK _ _ ?_;clear hK K)|(clear hK K;clear hK K;with_reducible refine hK _ _ ?_;clear hK K))|(with_reducible refine splitB_intro (fun h=>?_) (fun h=>?_)<;>(try simp only[go_sem] at h)<;>(try exact g_f)<;>(try simp -implicitDefEqProofs only[go_sem,hla]))|(with_reducible refine And.intro (fun h=>?_) (fun h=>?_)<;>(try simp only[go_sem] at h)<;>(try exact g_f))|(with_reducible refine And.intro ?_ ?_;· exact g_x)|(with_reducible intro h;(try simp only[go_sem] at h);(try exact g_f))))
    have hR : ∀ α, ALe α [(8, intA1 (upN (edgeA law) x.edges.length)), (6, intA1 (manyA law)), (5, intA1 k), (2, .cp (algC x) 0), (4, .ptr (σ.length + 1) 5 0 0), (0, .agg (algC x)), (1, intsA laws)] → K α (σ ++ (.dead :: .cells 5 [brkC zeroB] :: τ)) := by
      intro α ha
      refine hK _ _ (AWPr.weak ha ?_)
      clear ha hK
      (repeat' (first|(refine g_s fun K hK=>?_)|(refine g_b ?_)|(refine g_r ?_)|(refine g_k ?_;simp only[thenQ,blockQ])|(refine g_e ?_;simp only[thenQ,blockQ,↓reduceIte,Nat.reduceEqDiff])|(refine AWP_cond rfl (fun h=>?_) (fun h=>?_);focus (first|contradiction|(simp only[go_sem] at h;done)|((try simp only[go_sem] at h);exact g_f));(try simp only[go_sem] at h))|(refine AWP_cond rfl (fun h=>?_) (fun h=>?_);rotate_left 1;focus (first|contradiction|(simp only[go_sem] at h;done)|((try simp only[go_sem] at h);exact g_f));(try simp only[go_sem] at h))|((first|refine g_t ?_|refine g_g ?_|refine g_U ?_|refine g_A ?_|refine g_W ?_);(try simp -implicitDefEqProofs only[go_sem]))|(with_reducible refine hK _ _ ?_;clear hK K)|(clear hK K;first|(with_reducible refine hK _ _ ?_;clear hK K)|(clear hK K;with_reducible refine hK _ _ ?_;clear hK K)|(clear hK K;clear hK K;with_reducible refine hK _ _ ?_;clear hK K))|(with_reducible refine splitB_intro (fun h=>?_) (fun h=>?_)<;>(try simp only[go_sem] at h)<;>(try exact g_f)<;>(try simp -implicitDefEqProofs only[go_sem]))|(with_reducible refine And.intro (fun h=>?_) (fun h=>?_)<;>(try simp only[go_sem] at h)<;>(try exact g_f))|(with_reducible refine And.intro ?_ ?_;· exact g_x)|(with_reducible intro h;(try simp only[go_sem] at h);(try exact g_f))))
      have hm3 : manyA law = 0 ∨ manyA law = 1 ∨ manyA law = 2 ∨ manyA law = 3 := by omega
      have hP : ∀ α, ALe α [(9, intA1 (pw x.size (manyA law))), (8, intA1 (upN (edgeA law) x.edges.length)), (6, intA1 (manyA law)), (5, intA1 k), (2, .cp (algC x) 0), (4, .ptr (σ.length + 1) 5 0 0), (0, .agg (algC x)), (1, intsA laws)] → K α (σ ++ (.dead :: .cells 5 [brkC zeroB] :: τ)) := by
        intro α ha
        refine hK _ _ (AWPr.weak ha ?_)
        clear ha hK
        (repeat' (first|(refine g_s fun K hK=>?_)|(refine g_b ?_)|(refine g_r ?_)|(refine g_k ?_;simp only[thenQ,blockQ])|(refine g_e ?_;simp only[thenQ,blockQ,↓reduceIte,Nat.reduceEqDiff])|(refine AWP_cond rfl (fun h=>?_) (fun h=>?_);focus (first|contradiction|(simp only[go_sem] at h;done)|((try simp only[go_sem] at h);exact g_f));(try simp only[go_sem] at h))|(refine AWP_cond rfl (fun h=>?_) (fun h=>?_);rotate_left 1;focus (first|contradiction|(simp only[go_sem] at h;done)|((try simp only[go_sem] at h);exact g_f));(try simp only[go_sem] at h))|((first|refine g_t ?_|refine g_g ?_|refine g_U ?_|refine g_A ?_|refine g_W ?_);(try simp -implicitDefEqProofs only[go_sem]))|(with_reducible refine hK _ _ ?_;clear hK K)|(clear hK K;first|(with_reducible refine hK _ _ ?_;clear hK K)|(clear hK K;with_reducible refine hK _ _ ?_;clear hK K)|(clear hK K;clear hK K;with_reducible refine hK _ _ ?_;clear hK K))|(with_reducible refine splitB_intro (fun h=>?_) (fun h=>?_)<;>(try simp only[go_sem] at h)<;>(try exact g_f)<;>(try simp -implicitDefEqProofs only[go_sem]))|(with_reducible refine And.intro (fun h=>?_) (fun h=>?_)<;>(try simp only[go_sem] at h)<;>(try exact g_f))|(with_reducible refine And.intro ?_ ?_;· exact g_x)|(with_reducible intro h;(try simp only[go_sem] at h);(try exact g_f))))
        refine AWP_each (ints (pw x.size (manyA law))) (fun _ rn _ => FC (holdsA x) (laws.flatMap (casesA x)) = FC (holdsA x) (rn.flatMap (digitC x law) ++ r.flatMap (casesA x))) (fun kn _ _ => [(11, intA1 kn)]) (fun _ _ τ => σ ++ (.dead :: .cells 5 [brkC zeroB] :: τ)) () τ hH rfl (ALe_of ?_) ?_ ?_
        · simp -implicitDefEqProofs only [go_sem]
        · rintro kn rn _ τn hkn0 hkn1 hHn Ln hLn
          rw [ints_length] at hkn1
          rw [at0_ints hkn0 (by omega), List.flatMap_cons, List.append_assoc] at hHn
          simp -implicitDefEqProofs only [go_sem]
          (repeat' (first|(refine g_s fun K hK=>?_)|(refine g_b ?_)|(refine g_r ?_)|(refine g_k ?_;simp only[thenQ,blockQ])|(refine g_e ?_;simp only[thenQ,blockQ,↓reduceIte,Nat.reduceEqDiff])|(refine AWP_cond rfl (fun h=>?_) (fun h=>?_);focus (first|contradiction|(simp only[go_sem] at h;done)|((try simp only[go_sem] at h);exact g_f));(try simp only[go_sem] at h))|(refine AWP_cond rfl (fun h=>?_) (fun h=>?_);rotate_left 1;focus (first|contradiction|(simp only[go_sem] at h;done)|((try simp only[go_sem] at h);exact g_f));(try simp only[go_sem] at h))|((first|refine g_t ?_|refine g_g ?_|refine g_U ?_|refine g_A ?_|refine g_W ?_);(try simp -implicitDefEqProofs only[go_sem]))|(with_reducible refine hK _ _ ?_;clear hK K)|(clear hK K;first|(with_reducible refine hK _ _ ?_;clear hK K)|(clear hK K;with_reducible refine hK _ _ ?_;clear hK K)|(clear hK K;clear hK K;with_reducible refine hK _ _ ?_;clear hK K))|(with_reducible refine splitB_intro (fun h=>?_) (fun h=>?_)<;>(try simp only[go_sem] at h)<;>(try exact g_f)<;>(try simp -implicitDefEqProofs only[go_sem]))|(with_reducible refine And.intro (fun h=>?_) (fun h=>?_)<;>(try simp only[go_sem] at h)<;>(try exact g_f))|(with_reducible refine And.intro ?_ ?_;· exact g_x)|(with_reducible intro h;(try simp only[go_sem] at h);(try exact g_f))))
          have hD : ∀ α, ALe α [(12, .ptr (σ.length + (τn.length + 2)) 3 0 0), (11, intA1 kn), (9, intA1 (pw x.size (manyA law))), (8, intA1 (upN (edgeA law) x.edges.length)), (6, intA1 (manyA law)), (5, intA1 k), (2, .cp (algC x) 0), (4, .ptr (σ.length + 1) 5 0 0), (0, .agg (algC x)), (1, intsA laws)] → K α (σ ++ (.dead :: .cells 5 [brkC zeroB] :: (τn ++ [.cells 3 [[intA1 (dg0 x.size (manyA law) kn), intA1 (dg1 x.size (manyA law) kn), intA1 (dg2 x.size (manyA law) kn)]]]))) := by
            intro α ha
            refine hK _ _ (AWPr.weak ha ?_)
            clear ha hK
            (repeat' (first|(refine g_s fun K hK=>?_)|(refine g_b ?_)|(refine g_r ?_)|(refine g_k ?_;simp only[thenQ,blockQ])|(refine g_e ?_;simp only[thenQ,blockQ,↓reduceIte,Nat.reduceEqDiff])|(refine AWP_cond rfl (fun h=>?_) (fun h=>?_);focus (first|contradiction|(simp only[go_sem] at h;done)|((try simp only[go_sem] at h);exact g_f));(try simp only[go_sem] at h))|(refine AWP_cond rfl (fun h=>?_) (fun h=>?_);rotate_left 1;focus (first|contradiction|(simp only[go_sem] at h;done)|((try simp only[go_sem] at h);exact g_f));(try simp only[go_sem] at h))|((first|refine g_t ?_|refine g_g ?_|refine g_U ?_|refine g_A ?_|refine g_W ?_);(try simp -implicitDefEqProofs only[go_sem]))|(with_reducible refine hK _ _ ?_;clear hK K)|(clear hK K;first|(with_reducible refine hK _ _ ?_;clear hK K)|(clear hK K;with_reducible refine hK _ _ ?_;clear hK K)|(clear hK K;clear hK K;with_reducible refine hK _ _ ?_;clear hK K))|(with_reducible refine splitB_intro (fun h=>?_) (fun h=>?_)<;>(try simp only[go_sem] at h)<;>(try exact g_f)<;>(try simp -implicitDefEqProofs only[go_sem]))|(with_reducible refine And.intro (fun h=>?_) (fun h=>?_)<;>(try simp only[go_sem] at h)<;>(try exact g_f))|(with_reducible refine And.intro ?_ ?_;· exact g_x)|(with_reducible intro h;(try simp only[go_sem] at h);(try exact g_f))))
            refine AWP_each (ints (upN (edgeA law) x.edges.length)) (fun _ re _ => FC (holdsA x) (laws.flatMap (casesA x)) = FC (holdsA x) (re.map (fun e => (⟨law, dg0 x.size (manyA law) kn, dg1 x.size (manyA law) kn, dg2 x.size (manyA law) kn, e⟩ : Brk)) ++ (rn.flatMap (digitC x law) ++ r.flatMap (casesA x)))) (fun ke _ _ => [(15, intA1 ke)])
              (fun _ _ τ => σ ++ (.dead :: .cells 5 [brkC zeroB] :: (τn ++ .cells 3 [[intA1 (dg0 x.size (manyA law) kn), intA1 (dg1 x.size (manyA law) kn), intA1 (dg2 x.size (manyA law) kn)]] :: τ))) () [] hHn rfl (ALe_of ?_) ?_ ?_
            · simp -implicitDefEqProofs only [go_sem]
            · rintro ke re _ τe hke0 hke1 hHe Le hLe
              rw [ints_length] at hke1
              rw [at0_ints hke0 (by omega), List.map_cons, List.cons_append] at hHe
              have hcm : (⟨law, dg0 x.size (manyA law) kn, dg1 x.size (manyA law) kn, dg2 x.size (manyA law) kn, ke⟩ : Brk) ∈ casesA x law := by
                rw [cases_flat s2]
                exact List.mem_flatMap.2 ⟨kn, mem_ints.2 ⟨hkn0, by omega⟩, List.mem_map.2 ⟨ke, mem_ints.2 ⟨hke0, by omega⟩, rfl⟩⟩
              have hin : InR x ⟨law, dg0 x.size (manyA law) kn, dg1 x.size (manyA law) kn, dg2 x.size (manyA law) kn, ke⟩ := inR_of hr (checkB_iff.2 ⟨hlw, hcm⟩)
              simp -implicitDefEqProofs only [go_sem]
              (repeat' (first|(refine g_s fun K hK=>?_)|(refine g_b ?_)|(refine g_r ?_)|(refine g_k ?_;simp only[thenQ,blockQ])|(refine g_e ?_;simp only[thenQ,blockQ,↓reduceIte,Nat.reduceEqDiff])|(refine g_c (fun h=>?_) (fun h=>?_)<;>(try simp only[go_sem] at h)<;>(try exact g_f))|((first|refine g_t ?_|refine g_g ?_|refine g_U ?_|refine g_A ?_|refine (holdsOf_calls x ⟨law, dg0 x.size (manyA law) kn, dg1 x.size (manyA law) kn, dg2 x.size (manyA law) kn, ke⟩ hr hin _).use ?_|refine g_q (fun τ=>holdsOf_calls x ⟨law, dg0 x.size (manyA law) kn, dg1 x.size (manyA law) kn, dg2 x.size (manyA law) kn, ke⟩ hr hin _) ?_|refine g_W ?_);(try simp -implicitDefEqProofs only[go_sem,hla]))|(with_reducible refine hK _ _ ?_;clear hK K)|(clear hK K;first|(with_reducible refine hK _ _ ?_;clear hK K)|(clear hK K;with_reducible refine hK _ _ ?_;clear hK K)|(clear hK K;clear hK K;with_reducible refine hK _ _ ?_;clear hK K))|(with_reducible refine splitB_intro (fun h=>?_) (fun h=>?_)<;>(try simp only[go_sem] at h)<;>(try exact g_f)<;>(try simp -implicitDefEqProofs only[go_sem,hla]))|(with_reducible refine And.intro (fun h=>?_) (fun h=>?_)<;>(try simp only[go_sem] at h)<;>(try exact g_f))|(with_reducible refine And.intro ?_ ?_;· exact g_x)|(with_reducible intro h;(try simp only[go_sem] at h);(try exact g_f))))
              · have hb : brokenA x laws = ⟨law, dg0 x.size (manyA law) kn, dg1 x.size (manyA law) kn, dg2 x.size (manyA law) kn, ke⟩ := by
                  show (FC (holdsA x) (laws.flatMap (casesA x))).getD zeroB = _
                  rw [hHe, FC_bad h]
                  rfl
                rw [hb]
                refine CutQ_w rfl ?_ ?_
                · (repeat' (first | exact Bd.c _ | exact Bd.emp | exact BdL.nil | exact Bd.ints _ | refine Bd.aggL ?_ | refine Bd.tupL ?_ | refine BdL.cons ?_ ?_))
                · (repeat' (first | exact Wk.nil | exact Wk.emp | exact WkL.nil | (with_reducible exact Wk.refl _) | refine Wk.agg ?_ | refine Wk.tup ?_ | refine WkL.cons ?_ ?_ | (refine Wk.eq ?_; rfl)))
              · refine hLe () _ _ _ (by rw [hHe, FC_good h]) (ALe_of ?_) rfl
                simp -implicitDefEqProofs only [go_sem]
            · rintro ke _ τe hke hHe Le
              rw [ints_length] at hke
              rw [List.map_nil, List.nil_append] at hHe
              simp -implicitDefEqProofs only [go_sem]
              (repeat' (first|(refine g_s fun K hK=>?_)|(refine g_b ?_)|(refine g_r ?_)|(refine g_k ?_;simp only[thenQ,blockQ])|(refine g_e ?_;simp only[thenQ,blockQ,↓reduceIte,Nat.reduceEqDiff])|(refine AWP_cond rfl (fun h=>?_) (fun h=>?_);focus (first|contradiction|(simp only[go_sem] at h;done)|((try simp only[go_sem] at h);exact g_f));(try simp only[go_sem] at h))|(refine AWP_cond rfl (fun h=>?_) (fun h=>?_);rotate_left 1;focus (first|contradiction|(simp only[go_sem] at h;done)|((try simp only[go_sem] at h);exact g_f));(try simp only[go_sem] at h))|((first|refine g_t ?_|refine g_g ?_|refine g_U ?_|refine g_A ?_|refine g_W ?_);(try simp -implicitDefEqProofs only[go_sem]))|(with_reducible refine hK _ _ ?_;clear hK K)|(clear hK K;first|(with_reducible refine hK _ _ ?_;clear hK K)|(clear hK K;with_reducible refine hK _ _ ?_;clear hK K)|(clear hK K;clear hK K;with_reducible refine hK _ _ ?_;clear hK K))|(with_reducible refine splitB_intro (fun h=>?_) (fun h=>?_)<;>(try simp only[go_sem] at h)<;>(try exact g_f)<;>(try simp -implicitDefEqProofs only[go_sem]))|(with_reducible refine And.intro (fun h=>?_) (fun h=>?_)<;>(try simp only[go_sem] at h)<;>(try exact g_f))|(with_reducible refine And.intro ?_ ?_;· exact g_x)|(with_reducible intro h;(try simp only[go_sem] at h);(try exact g_f))))
              refine hLn () (τn ++ .cells 3 [[intA1 (dg0 x.size (manyA law) kn), intA1 (dg1 x.size (manyA law) kn), intA1 (dg2 x.size (manyA law) kn)]] :: τe) _ _ hHe (ALe_of ?_) (by simp [brkC, intA1])
              simp -implicitDefEqProofs only [go_sem]
          clear hK
          have t1 : kn.tmod x.size = kn % x.size := Int.tmod_eq_emod_of_nonneg hkn0
          have t2 : kn.tdiv x.size = kn / x.size := Int.tdiv_eq_ediv_of_nonneg hkn0
          have q0 : 0 ≤ kn / x.size := Int.ediv_nonneg hkn0 (by omega)
          have q1 : kn / x.size ≤ kn := Int.ediv_le_self _ hkn0
          have t3 : (kn / x.size).tmod x.size = kn / x.size % x.size := Int.tmod_eq_emod_of_nonneg q0
          have t4 : (kn / x.size).tdiv x.size = kn / x.size / x.size := Int.tdiv_eq_ediv_of_nonneg q0
          have p0 : 0 ≤ kn / x.size / x.size := Int.ediv_nonneg q0 (by omega)
          have p1 : kn / x.size / x.size ≤ kn / x.size := Int.ediv_le_self _ q0
          have t5 : (kn / x.size / x.size).tmod x.size = kn / x.size / x.size % x.size := Int.tmod_eq_emod_of_nonneg p0
          have t6 : (kn / x.size / x.size).tdiv x.size = kn / x.size / x.size / x.size := Int.tdiv_eq_ediv_of_nonneg p0
          have r0 : 0 ≤ kn / x.size / x.size / x.size := Int.ediv_nonneg p0 (by omega)
          have r1 : kn / x.size / x.size / x.size ≤ kn / x.size / x.size := Int.ediv_le_self _ p0
          rcases hm3 with e | e | e | e
          all_goals simp only [e] at hD ⊢
          all_goals refine AWP_rounds 4 ?_
          all_goals (repeat' (first|(refine g_s fun K hK=>?_)|(refine g_b ?_)|(refine g_r ?_)|(refine g_k ?_;simp only[thenQ,blockQ])|(refine g_e ?_;simp only[thenQ,blockQ,↓reduceIte,Nat.reduceEqDiff])|(refine AWP_cond rfl (fun h=>?_) (fun h=>?_);focus (first|contradiction|(simp only[go_sem] at h;done)|((try simp only[go_sem] at h);exact g_f));(try simp only[go_sem] at h))|(refine AWP_cond rfl (fun h=>?_) (fun h=>?_);rotate_left 1;focus (first|contradiction|(simp only[go_sem] at h;done)|((try simp only[go_sem] at h);exact g_f));(try simp only[go_sem] at h))|((first|refine g_t ?_|refine g_g ?_|refine g_U ?_|refine g_A ?_|refine g_W ?_);(try simp -implicitDefEqProofs only[go_sem,t1, t2, t3, t4, t5, t6]))|(with_reducible refine hK _ _ ?_;clear hK K)|(clear hK K;first|(with_reducible refine hK _ _ ?_;clear hK K)|(clear hK K;with_reducible refine hK _ _ ?_;clear hK K)|(clear hK K;clear hK K;with_reducible refine hK _ _ ?_;clear hK K))|(with_reducible refine splitB_intro (fun h=>?_) (fun h=>?_)<;>(try simp only[go_sem] at h)<;>(try exact g_f)<;>(try simp -implicitDefEqProofs only[go_sem,t1, t2, t3, t4, t5, t6]))|(with_reducible refine And.intro (fun h=>?_) (fun h=>?_)<;>(try simp only[go_sem] at h)<;>(try exact g_f))|(with_reducible refine And.intro ?_ ?_;· exact g_x)|(with_reducible intro h;(try simp only[go_sem] at h);(try exact g_f))))
          all_goals refine hD _ (ALe_of ?_)
          all_goals simp -implicitDefEqProofs only [go_sem]
        · rintro kn _ τn hkn hHn Ln
          rw [ints_length] at hkn
          rw [List.flatMap_nil, List.nil_append] at hHn
          simp -implicitDefEqProofs only [go_sem]
          (repeat' (first|(refine g_s fun K hK=>?_)|(refine g_b ?_)|(refine g_r ?_)|(refine g_k ?_;simp only[thenQ,blockQ])|(refine g_e ?_;simp only[thenQ,blockQ,↓reduceIte,Nat.reduceEqDiff])|(refine AWP_cond rfl (fun h=>?_) (fun h=>?_);focus (first|contradiction|(simp only[go_sem] at h;done)|((try simp only[go_sem] at h);exact g_f));(try simp only[go_sem] at h))|(refine AWP_cond rfl (fun h=>?_) (fun h=>?_);rotate_left 1;focus (first|contradiction|(simp only[go_sem] at h;done)|((try simp only[go_sem] at h);exact g_f));(try simp only[go_sem] at h))|((first|refine g_t ?_|refine g_g ?_|refine g_U ?_|refine g_A ?_|refine g_W ?_);(try simp -implicitDefEqProofs only[go_sem]))|(with_reducible refine hK _ _ ?_;clear hK K)|(clear hK K;first|(with_reducible refine hK _ _ ?_;clear hK K)|(clear hK K;with_reducible refine hK _ _ ?_;clear hK K)|(clear hK K;clear hK K;with_reducible refine hK _ _ ?_;clear hK K))|(with_reducible refine splitB_intro (fun h=>?_) (fun h=>?_)<;>(try simp only[go_sem] at h)<;>(try exact g_f)<;>(try simp -implicitDefEqProofs only[go_sem]))|(with_reducible refine And.intro (fun h=>?_) (fun h=>?_)<;>(try simp only[go_sem] at h)<;>(try exact g_f))|(with_reducible refine And.intro ?_ ?_;· exact g_x)|(with_reducible intro h;(try simp only[go_sem] at h);(try exact g_f))))
          refine hL () τn _ _ hHn (ALe_of ?_) rfl
          simp -implicitDefEqProofs only [go_sem]
      clear hK
      rcases hm3 with e | e | e | e
      all_goals rw [e]
      all_goals refine AWP_rounds 4 ?_
      all_goals (repeat' (first|(refine g_s fun K hK=>?_)|(refine g_b ?_)|(refine g_r ?_)|(refine g_k ?_;simp only[thenQ,blockQ])|(refine g_e ?_;simp only[thenQ,blockQ,↓reduceIte,Nat.reduceEqDiff])|(refine AWP_cond rfl (fun h=>?_) (fun h=>?_);focus (first|contradiction|(simp only[go_sem] at h;done)|((try simp only[go_sem] at h);exact g_f));(try simp only[go_sem] at h))|(refine AWP_cond rfl (fun h=>?_) (fun h=>?_);rotate_left 1;focus (first|contradiction|(simp only[go_sem] at h;done)|((try simp only[go_sem] at h);exact g_f));(try simp only[go_sem] at h))|((first|refine g_t ?_|refine g_g ?_|refine g_U ?_|refine g_A ?_|refine g_W ?_);(try simp -implicitDefEqProofs only[go_sem,Int.one_mul]))|(with_reducible refine hK _ _ ?_;clear hK K)|(clear hK K;first|(with_reducible refine hK _ _ ?_;clear hK K)|(clear hK K;with_reducible refine hK _ _ ?_;clear hK K)|(clear hK K;clear hK K;with_reducible refine hK _ _ ?_;clear hK K))|(with_reducible refine splitB_intro (fun h=>?_) (fun h=>?_)<;>(try simp only[go_sem] at h)<;>(try exact g_f)<;>(try simp -implicitDefEqProofs only[go_sem,Int.one_mul]))|(with_reducible refine And.intro (fun h=>?_) (fun h=>?_)<;>(try simp only[go_sem] at h)<;>(try exact g_f))|(with_reducible refine And.intro ?_ ?_;· exact g_x)|(with_reducible intro h;(try simp only[go_sem] at h);(try exact g_f))))
      all_goals refine hP _ (ALe_of ?_)
      all_goals simp -implicitDefEqProofs only [go_sem, pw, e]
    clear hK
    refine AWP_cond rfl (fun h => ?_) (fun h => ?_)
    · (repeat' (first|(refine g_s fun K hK=>?_)|(refine g_b ?_)|(refine g_r ?_)|(refine g_k ?_;simp only[thenQ,blockQ])|(refine g_e ?_;simp only[thenQ,blockQ,↓reduceIte,Nat.reduceEqDiff])|(refine g_c (fun h=>?_) (fun h=>?_)<;>(try simp only[go_sem] at h)<;>(try exact g_f))|((first|refine g_t ?_|refine g_g ?_|refine g_U ?_|refine g_A ?_|refine g_W ?_);(try simp -implicitDefEqProofs only[go_sem]))|(with_reducible refine hK _ _ ?_;clear hK K)|(clear hK K;first|(with_reducible refine hK _ _ ?_;clear hK K)|(clear hK K;with_reducible refine hK _ _ ?_;clear hK K)|(clear hK K;clear hK K;with_reducible refine hK _ _ ?_;clear hK K))|(with_reducible refine splitB_intro (fun h=>?_) (fun h=>?_)<;>(try simp only[go_sem] at h)<;>(try exact g_f)<;>(try simp -implicitDefEqProofs only[go_sem]))|(with_reducible refine And.intro (fun h=>?_) (fun h=>?_)<;>(try simp only[go_sem] at h)<;>(try exact g_f))|(with_reducible refine And.intro ?_ ?_;· exact g_x)|(with_reducible intro h;(try simp only[go_sem] at h);(try exact g_f))))
      refine hR _ (ALe_of ?_)
      simp -implicitDefEqProofs only [go_sem, upN, h]
    · (repeat' (first|(refine g_s fun K hK=>?_)|(refine g_b ?_)|(refine g_r ?_)|(refine g_k ?_;simp only[thenQ,blockQ])|(refine g_e ?_;simp only[thenQ,blockQ,↓reduceIte,Nat.reduceEqDiff])|(refine g_c (fun h=>?_) (fun h=>?_)<;>(try simp only[go_sem] at h)<;>(try exact g_f))|((first|refine g_t ?_|refine g_g ?_|refine g_U ?_|refine g_A ?_|refine g_W ?_);(try simp -implicitDefEqProofs only[go_sem]))|(with_reducible refine hK _ _ ?_;clear hK K)|(clear hK K;first|(with_reducible refine hK _ _ ?_;clear hK K)|(clear hK K;with_reducible refine hK _ _ ?_;clear hK K)|(clear hK K;clear hK K;with_reducible refine hK _ _ ?_;clear hK K))|(with_reducible refine splitB_intro (fun h=>?_) (fun h=>?_)<;>(try simp only[go_sem] at h)<;>(try exact g_f)<;>(try simp -implicitDefEqProofs only[go_sem]))|(with_reducible refine And.intro (fun h=>?_) (fun h=>?_)<;>(try simp only[go_sem] at h)<;>(try exact g_f))|(with_reducible refine And.intro ?_ ?_;· exact g_x)|(with_reducible intro h;(try simp only[go_sem] at h);(try exact g_f))))
      refine hR _ (ALe_of ?_)
      simp -implicitDefEqProofs only [go_sem, upN, h]
  · rintro k _ τ hk hH L
    simp -implicitDefEqProofs only [go_sem]
    (repeat' (first|(refine g_s fun K hK=>?_)|(refine g_b ?_)|(refine g_r ?_)|(refine g_k ?_;simp only[thenQ,blockQ])|(refine g_e ?_;simp only[thenQ,blockQ,↓reduceIte,Nat.reduceEqDiff])|(refine g_c (fun h=>?_) (fun h=>?_)<;>(try simp only[go_sem] at h)<;>(try exact g_f))|((first|refine g_t ?_|refine g_g ?_|refine g_U ?_|refine g_A ?_|refine g_W ?_);(try simp -implicitDefEqProofs only[go_sem]))|(with_reducible refine hK _ _ ?_;clear hK K)|(clear hK K;first|(with_reducible refine hK _ _ ?_;clear hK K)|(clear hK K;with_reducible refine hK _ _ ?_;clear hK K)|(clear hK K;clear hK K;with_reducible refine hK _ _ ?_;clear hK K))|(with_reducible refine splitB_intro (fun h=>?_) (fun h=>?_)<;>(try simp only[go_sem] at h)<;>(try exact g_f)<;>(try simp -implicitDefEqProofs only[go_sem]))|(with_reducible refine And.intro (fun h=>?_) (fun h=>?_)<;>(try simp only[go_sem] at h)<;>(try exact g_f))|(with_reducible refine And.intro ?_ ?_;· exact g_x)|(with_reducible intro h;(try simp only[go_sem] at h);(try exact g_f))))
    refine hJ _ _ ?_
    clear hJ
    (repeat' (first|(refine g_s fun K hK=>?_)|(refine g_b ?_)|(refine g_r ?_)|(refine g_k ?_;simp only[thenQ,blockQ])|(refine g_e ?_;simp only[thenQ,blockQ,↓reduceIte,Nat.reduceEqDiff])|(refine g_c (fun h=>?_) (fun h=>?_)<;>(try simp only[go_sem] at h)<;>(try exact g_f))|((first|refine g_t ?_|refine g_g ?_|refine g_U ?_|refine g_A ?_|refine g_W ?_);(try simp -implicitDefEqProofs only[go_sem]))|(with_reducible refine hK _ _ ?_;clear hK K)|(clear hK K;first|(with_reducible refine hK _ _ ?_;clear hK K)|(clear hK K;with_reducible refine hK _ _ ?_;clear hK K)|(clear hK K;clear hK K;with_reducible refine hK _ _ ?_;clear hK K))|(with_reducible refine splitB_intro (fun h=>?_) (fun h=>?_)<;>(try simp only[go_sem] at h)<;>(try exact g_f)<;>(try simp -implicitDefEqProofs only[go_sem]))|(with_reducible refine And.intro (fun h=>?_) (fun h=>?_)<;>(try simp only[go_sem] at h)<;>(try exact g_f))|(with_reducible refine And.intro ?_ ?_;· exact g_x)|(with_reducible intro h;(try simp only[go_sem] at h);(try exact g_f))))
    have hb : brokenA x laws = zeroB := by
      show (FC (holdsA x) (laws.flatMap (casesA x))).getD zeroB = zeroB
      rw [hH]
      rfl
    rw [hb]
    refine CutQ_w rfl ?_ ?_
    · (repeat' (first | exact Bd.c _ | exact Bd.emp | exact BdL.nil | exact Bd.ints _ | refine Bd.aggL ?_ | refine Bd.tupL ?_ | refine BdL.cons ?_ ?_))
    · (repeat' (first | exact Wk.nil | exact Wk.emp | exact WkL.nil | (with_reducible exact Wk.refl _) | refine Wk.agg ?_ | refine Wk.tup ?_ | refine WkL.cons ?_ ?_ | (refine Wk.eq ?_; rfl)))
end Go.Proofs.Ytephecognbbaoab
