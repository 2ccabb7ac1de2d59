/- The first of some laws that is broken, as the document finds it. -/
import Derived.Test.YtephecognbbaoabGreatZHp
import Derived.Test.YtephecognbbaoabGreatZSy
import Derived.DeepKeys5
open Go
set_option linter.all false
set_option maxRecDepth 100000
set_option maxHeartbeats 4000000
namespace Go.Proofs.YtephecognbbaoabGreat
open Go
set_option linter.all false
set_option maxRecDepth 100000
set_option maxHeartbeats 4000000
theorem brokenOf_calls (x : Alg) (laws : List Int) (hr : Right x) (hl : laws.length ≤ 100) (hlaw : ∀ law ∈ laws, 1 ≤ law ∧ law ≤ 9) (σ : Store) :
    ACalls Tryz.prog 53 [.agg (algC x), intsA laws] σ fun r σ' => σ' = σ ∧ r = .agg (brkC (brokenA x laws)) := by
  have s2 := hr.s2
  have s24 := hr.s24
  have e8 := hr.e8
  have hss : x.size * x.size ≤ 24 * x.size := Int.mul_le_mul_of_nonneg_right (by omega) (by omega)
  have hss0 : 0 ≤ x.size * x.size := Int.mul_nonneg (by omega) (by omega)
  have hsss : x.size * x.size * x.size ≤ 576 * x.size := Int.mul_le_mul_of_nonneg_right (by omega) (by omega)
  have hsss0 : 0 ≤ x.size * x.size * x.size := Int.mul_nonneg (by omega) (by omega)
  refine ACalls.cutX ?_
  refine ACalls_of_awp Tryz.func53 rfl Tryz.results53 ?_
  simp only [List.length_cons, List.length_nil, Tryz.ntmps53, Nat.reduceAdd, Nat.reduceSub, enterA]
  refine AWP_seq_k fun K hK => ?_
  (refine AWP_region ?_; simp -implicitDefEqProofs only [go_sem])
  refine hK _ _ ?_; clear hK K
  refine AWP_freezeP 2 rfl (by simp only [st0]; rfl) ?_
  simp only [ss0, List.set_cons_zero]
  (repeat' (first|(refine g_s fun K hK=>?_)|(refine g_b ?_)|(refine g_g ?_;(try simp -implicitDefEqProofs only[go_sem]))|(with_reducible refine hK _ _ ?_;clear hK K)|fail))
  have hJ := hK
  clear hK
  refine AWP_each laws (fun _ r _ => FC (holdsA x) (laws.flatMap (casesA x)) = FC (holdsA x) (r.flatMap (casesA x))) (fun k _ _ => [(5, intA1 k)]) (fun _ _ τ => σ ++ (.dead :: .cells 5 [brkC zeroB] :: τ)) () [] rfl rfl (ALe_of ?_) ?_ ?_
  · simp -implicitDefEqProofs only [go_sem]
  · rintro k r _ τ hk0 hk1 hH L hL
    have hmem := at0_mem laws hk0 hk1
    obtain ⟨law, hla⟩ : ∃ law, at0 laws k = law := ⟨_, rfl⟩
    rw [hla] at hH hmem
    rw [List.flatMap_cons, cases_flat s2] at hH
    have hlw := hlaw law hmem
    have hm := many_bd law
    have hp0 := pw_pos (s := x.size) (m := manyA law) s2
    have hp1 := pw_le (s := x.size) (m := manyA law) ⟨s2, s24⟩
    have nE := upN_bd (b := edgeA law) (n := x.edges.length) (by omega)
    simp -implicitDefEqProofs only [go_sem]
    (repeat' (first|(refine g_s fun K hK=>?_)|(refine g_b ?_)|(refine g_k ?_;simp only[thenQ,blockQ])|(refine AWP_cond rfl (fun h=>?_) (fun h=>?_);rotate_left 1;focus (first|contradiction|(simp only[go_sem] at h;done)|((try simp only[go_sem] at h);exact g_f));(try simp only[go_sem] at h))|((first|refine g_g ?_|refine (names_calls _ _).use ?_);(try simp -implicitDefEqProofs only[go_sem,hla]))|(with_reducible refine hK _ _ ?_;clear hK K)|(with_reducible refine And.intro ?_ ?_;· exact g_x)|fail))
    have hR : ∀ α, ALe α [(8, intA1 (upN (edgeA law) x.edges.length)), (6, intA1 (manyA law)), (5, intA1 k), (2, .cp (algC x) 0), (4, .ptr (σ.length + 1) 5 0 0), (0, .agg (algC x)), (1, intsA laws)] → K α (σ ++ (.dead :: .cells 5 [brkC zeroB] :: τ)) := by
      intro α ha
      refine hK _ _ (AWPr.weak ha ?_)
      clear ha hK
      (repeat' (first|(refine g_s fun K hK=>?_)|(refine g_b ?_)|(refine g_g ?_;(try simp -implicitDefEqProofs only[go_sem]))|(with_reducible refine hK _ _ ?_;clear hK K)|fail))
      have hm3 : manyA law = 0 ∨ manyA law = 1 ∨ manyA law = 2 ∨ manyA law = 3 := by omega
      have hP : ∀ α, ALe α [(9, intA1 (pw x.size (manyA law))), (8, intA1 (upN (edgeA law) x.edges.length)), (6, intA1 (manyA law)), (5, intA1 k), (2, .cp (algC x) 0), (4, .ptr (σ.length + 1) 5 0 0), (0, .agg (algC x)), (1, intsA laws)] → K α (σ ++ (.dead :: .cells 5 [brkC zeroB] :: τ)) := by
        intro α ha
        refine hK _ _ (AWPr.weak ha ?_)
        clear ha hK
        (repeat' (first|(refine g_s fun K hK=>?_)|(refine g_b ?_)|(refine g_g ?_;(try simp -implicitDefEqProofs only[go_sem]))|(with_reducible refine hK _ _ ?_;clear hK K)|fail))
        refine AWP_each (ints (pw x.size (manyA law))) (fun _ rn _ => FC (holdsA x) (laws.flatMap (casesA x)) = FC (holdsA x) (rn.flatMap (digitC x law) ++ r.flatMap (casesA x))) (fun kn _ _ => [(11, intA1 kn)]) (fun _ _ τ => σ ++ (.dead :: .cells 5 [brkC zeroB] :: τ)) () τ hH rfl (ALe_of ?_) ?_ ?_
        · simp -implicitDefEqProofs only [go_sem]
        · rintro kn rn _ τn hkn0 hkn1 hHn Ln hLn
          rw [ints_length] at hkn1
          rw [at0_ints hkn0 (by omega), List.flatMap_cons, List.append_assoc] at hHn
          simp -implicitDefEqProofs only [go_sem]
          (repeat' (first|(refine g_s fun K hK=>?_)|(refine g_b ?_)|(refine g_k ?_;simp only[thenQ,blockQ])|(refine AWP_cond rfl (fun h=>?_) (fun h=>?_);rotate_left 1;focus (first|contradiction|(simp only[go_sem] at h;done)|((try simp only[go_sem] at h);exact g_f));(try simp only[go_sem] at h))|(refine g_g ?_;(try simp -implicitDefEqProofs only[go_sem]))|(with_reducible refine hK _ _ ?_;clear hK K)|(with_reducible refine And.intro ?_ ?_;· exact g_x)|fail))
          have hD : ∀ α, ALe α [(12, .ptr (σ.length + (τn.length + 2)) 3 0 0), (11, intA1 kn), (9, intA1 (pw x.size (manyA law))), (8, intA1 (upN (edgeA law) x.edges.length)), (6, intA1 (manyA law)), (5, intA1 k), (2, .cp (algC x) 0), (4, .ptr (σ.length + 1) 5 0 0), (0, .agg (algC x)), (1, intsA laws)] → K α (σ ++ (.dead :: .cells 5 [brkC zeroB] :: (τn ++ [.cells 3 [[intA1 (dg0 x.size (manyA law) kn), intA1 (dg1 x.size (manyA law) kn), intA1 (dg2 x.size (manyA law) kn)]]]))) := by
            intro α ha
            refine hK _ _ (AWPr.weak ha ?_)
            clear ha hK
            (repeat' (first|(refine g_s fun K hK=>?_)|(refine g_b ?_)|(refine g_g ?_;(try simp -implicitDefEqProofs only[go_sem]))|(with_reducible refine hK _ _ ?_;clear hK K)|fail))
            refine AWP_each (ints (upN (edgeA law) x.edges.length)) (fun _ re _ => FC (holdsA x) (laws.flatMap (casesA x)) = FC (holdsA x) (re.map (fun e => (⟨law, dg0 x.size (manyA law) kn, dg1 x.size (manyA law) kn, dg2 x.size (manyA law) kn, e⟩ : Brk)) ++ (rn.flatMap (digitC x law) ++ r.flatMap (casesA x)))) (fun ke _ _ => [(15, intA1 ke)])
              (fun _ _ τ => σ ++ (.dead :: .cells 5 [brkC zeroB] :: (τn ++ .cells 3 [[intA1 (dg0 x.size (manyA law) kn), intA1 (dg1 x.size (manyA law) kn), intA1 (dg2 x.size (manyA law) kn)]] :: τ))) () [] hHn rfl (ALe_of ?_) ?_ ?_
            · simp -implicitDefEqProofs only [go_sem]
            · rintro ke re _ τe hke0 hke1 hHe Le hLe
              rw [ints_length] at hke1
              rw [at0_ints hke0 (by omega), List.map_cons, List.cons_append] at hHe
              have hcm : (⟨law, dg0 x.size (manyA law) kn, dg1 x.size (manyA law) kn, dg2 x.size (manyA law) kn, ke⟩ : Brk) ∈ casesA x law := by
                rw [cases_flat s2]
                exact List.mem_flatMap.2 ⟨kn, mem_ints.2 ⟨hkn0, by omega⟩, List.mem_map.2 ⟨ke, mem_ints.2 ⟨hke0, by omega⟩, rfl⟩⟩
              have hin : InR x ⟨law, dg0 x.size (manyA law) kn, dg1 x.size (manyA law) kn, dg2 x.size (manyA law) kn, ke⟩ := inR_of hr (checkB_iff.2 ⟨hlw, hcm⟩)
              simp -implicitDefEqProofs only [go_sem]
              (repeat' (first|(refine g_s fun K hK=>?_)|(refine g_b ?_)|(refine g_k ?_;simp only[thenQ,blockQ])|(refine g_c (fun h=>?_) (fun h=>?_)<;>(try simp only[go_sem] at h)<;>(try exact g_f))|((first|refine g_t ?_|refine g_g ?_|refine g_A ?_|refine (holdsOf_calls x ⟨law, dg0 x.size (manyA law) kn, dg1 x.size (manyA law) kn, dg2 x.size (manyA law) kn, ke⟩ hr hin _).use ?_);(try simp -implicitDefEqProofs only[go_sem,hla]))|(with_reducible refine hK _ _ ?_;clear hK K)|(with_reducible refine And.intro ?_ ?_;· exact g_x)|fail))
              · have hb : brokenA x laws = ⟨law, dg0 x.size (manyA law) kn, dg1 x.size (manyA law) kn, dg2 x.size (manyA law) kn, ke⟩ := by
                  show (FC (holdsA x) (laws.flatMap (casesA x))).getD zeroB = _
                  rw [hHe, FC_bad h]
                  rfl
                rw [hb]
                refine CutQ_w rfl ?_ ?_
                · (repeat' (first | exact Bd.c _ | exact Bd.emp | exact BdL.nil | exact Bd.ints _ | refine Bd.aggL ?_ | refine Bd.tupL ?_ | refine BdL.cons ?_ ?_))
                · (repeat' (first | exact Wk.nil | exact Wk.emp | exact WkL.nil | (with_reducible exact Wk.refl _) | refine Wk.agg ?_ | refine Wk.tup ?_ | refine WkL.cons ?_ ?_ | (refine Wk.eq ?_; rfl)))
              · refine hLe () _ _ _ (by rw [hHe, FC_good h]) (ALe_of ?_) rfl
                simp -implicitDefEqProofs only [go_sem]
            · rintro ke _ τe hke hHe Le
              rw [ints_length] at hke
              rw [List.map_nil, List.nil_append] at hHe
              simp -implicitDefEqProofs only [go_sem]
              (repeat' (first|(refine g_s fun K hK=>?_)|(refine g_e ?_;simp only[thenQ,blockQ,↓reduceIte,Nat.reduceEqDiff])|(refine AWP_cond rfl (fun h=>?_) (fun h=>?_);focus (first|contradiction|(simp only[go_sem] at h;done)|((try simp only[go_sem] at h);exact g_f));(try simp only[go_sem] at h))|(refine g_g ?_;(try simp -implicitDefEqProofs only[go_sem]))|(with_reducible refine hK _ _ ?_;clear hK K)|(clear hK K;first|(with_reducible refine hK _ _ ?_;clear hK K)|(clear hK K;with_reducible refine hK _ _ ?_;clear hK K)|(clear hK K;clear hK K;with_reducible refine hK _ _ ?_;clear hK K))|(with_reducible refine And.intro ?_ ?_;· exact g_x)|fail))
              refine hLn () (τn ++ .cells 3 [[intA1 (dg0 x.size (manyA law) kn), intA1 (dg1 x.size (manyA law) kn), intA1 (dg2 x.size (manyA law) kn)]] :: τe) _ _ hHe (ALe_of ?_) (by simp [brkC, intA1])
              simp -implicitDefEqProofs only [go_sem]
          clear hK
          have t1 : kn.tmod x.size = kn % x.size := Int.tmod_eq_emod_of_nonneg hkn0
          have t2 : kn.tdiv x.size = kn / x.size := Int.tdiv_eq_ediv_of_nonneg hkn0
          have q0 : 0 ≤ kn / x.size := Int.ediv_nonneg hkn0 (by omega)
          have q1 : kn / x.size ≤ kn := Int.ediv_le_self _ hkn0
          have t3 : (kn / x.size).tmod x.size = kn / x.size % x.size := Int.tmod_eq_emod_of_nonneg q0
          have t4 : (kn / x.size).tdiv x.size = kn / x.size / x.size := Int.tdiv_eq_ediv_of_nonneg q0
          have p0 : 0 ≤ kn / x.size / x.size := Int.ediv_nonneg q0 (by omega)
          have p1 : kn / x.size / x.size ≤ kn / x.size := Int.ediv_le_self _ q0
          have t5 : (kn / x.size / x.size).tmod x.size = kn / x.size / x.size % x.size := Int.tmod_eq_emod_of_nonneg p0
          have t6 : (kn / x.size / x.size).tdiv x.size = kn / x.size / x.size / x.size := Int.tdiv_eq_ediv_of_nonneg p0
          have r0 : 0 ≤ kn / x.size / x.size / x.size := Int.ediv_nonneg p0 (by omega)
          have r1 : kn / x.size / x.size / x.size ≤ kn / x.size / x.size := Int.ediv_le_self _ p0
          rcases hm3 with e | e | e | e
          all_goals simp only [e] at hD ⊢
          all_goals refine AWP_rounds 4 ?_
          all_goals (repeat' (first|(refine g_s fun K hK=>?_)|(refine g_b ?_)|(refine g_k ?_;simp only[thenQ,blockQ])|(refine g_e ?_;simp only[thenQ,blockQ,↓reduceIte,Nat.reduceEqDiff])|(refine AWP_cond rfl (fun h=>?_) (fun h=>?_);focus (first|contradiction|(simp only[go_sem] at h;done)|((try simp only[go_sem] at h);exact g_f));(try simp only[go_sem] at h))|(refine AWP_cond rfl (fun h=>?_) (fun h=>?_);rotate_left 1;focus (first|contradiction|(simp only[go_sem] at h;done)|((try simp only[go_sem] at h);exact g_f));(try simp only[go_sem] at h))|(refine g_g ?_;(try simp -implicitDefEqProofs only[go_sem,t1, t2, t3, t4, t5, t6]))|(with_reducible refine hK _ _ ?_;clear hK K)|(with_reducible refine And.intro ?_ ?_;· exact g_x)|fail))
          all_goals refine hD _ (ALe_of ?_)
          all_goals simp -implicitDefEqProofs only [go_sem]
        · rintro kn _ τn hkn hHn Ln
          rw [ints_length] at hkn
          rw [List.flatMap_nil, List.nil_append] at hHn
          simp -implicitDefEqProofs only [go_sem]
          (repeat' (first|(refine g_s fun K hK=>?_)|(refine g_e ?_;simp only[thenQ,blockQ,↓reduceIte,Nat.reduceEqDiff])|(refine AWP_cond rfl (fun h=>?_) (fun h=>?_);focus (first|contradiction|(simp only[go_sem] at h;done)|((try simp only[go_sem] at h);exact g_f));(try simp only[go_sem] at h))|(refine g_g ?_;(try simp -implicitDefEqProofs only[go_sem]))|(with_reducible refine hK _ _ ?_;clear hK K)|(clear hK K;first|(with_reducible refine hK _ _ ?_;clear hK K)|(clear hK K;with_reducible refine hK _ _ ?_;clear hK K)|(clear hK K;clear hK K;with_reducible refine hK _ _ ?_;clear hK K))|(with_reducible refine And.intro ?_ ?_;· exact g_x)|fail))
          refine hL () τn _ _ hHn (ALe_of ?_) rfl
          simp -implicitDefEqProofs only [go_sem]
      clear hK
      rcases hm3 with e | e | e | e
      all_goals rw [e]
      all_goals refine AWP_rounds 4 ?_
      all_goals (repeat' (first|(refine g_s fun K hK=>?_)|(refine g_b ?_)|(refine g_k ?_;simp only[thenQ,blockQ])|(refine g_e ?_;simp only[thenQ,blockQ,↓reduceIte,Nat.reduceEqDiff])|(refine AWP_cond rfl (fun h=>?_) (fun h=>?_);focus (first|contradiction|(simp only[go_sem] at h;done)|((try simp only[go_sem] at h);exact g_f));(try simp only[go_sem] at h))|(refine AWP_cond rfl (fun h=>?_) (fun h=>?_);rotate_left 1;focus (first|contradiction|(simp only[go_sem] at h;done)|((try simp only[go_sem] at h);exact g_f));(try simp only[go_sem] at h))|(refine g_g ?_;(try simp -implicitDefEqProofs only[go_sem,Int.one_mul]))|(with_reducible refine hK _ _ ?_;clear hK K)|(with_reducible refine And.intro ?_ ?_;· exact g_x)|fail))
      all_goals refine hP _ (ALe_of ?_)
      all_goals simp -implicitDefEqProofs only [go_sem, pw, e]
    clear hK
    refine AWP_cond rfl (fun h => ?_) (fun h => ?_)
    · (repeat' (first|(refine g_g ?_;(try simp -implicitDefEqProofs only[go_sem]))|fail))
      refine hR _ (ALe_of ?_)
      simp -implicitDefEqProofs only [go_sem, upN, h]
    · (repeat' (first|(refine g_k ?_;simp only[thenQ,blockQ])|fail))
      refine hR _ (ALe_of ?_)
      simp -implicitDefEqProofs only [go_sem, upN, h]
  · rintro k _ τ hk hH L
    simp -implicitDefEqProofs only [go_sem]
    (repeat' (first|(refine g_s fun K hK=>?_)|(refine g_e ?_;simp only[thenQ,blockQ,↓reduceIte,Nat.reduceEqDiff])|(refine g_c (fun h=>?_) (fun h=>?_)<;>(try simp only[go_sem] at h)<;>(try exact g_f))|(refine g_g ?_;(try simp -implicitDefEqProofs only[go_sem]))|(with_reducible refine hK _ _ ?_;clear hK K)|fail))
    refine hJ _ _ ?_
    clear hJ
    (repeat' (first|(refine g_s fun K hK=>?_)|((first|refine g_t ?_|refine g_g ?_);(try simp -implicitDefEqProofs only[go_sem]))|(with_reducible refine hK _ _ ?_;clear hK K)|fail))
    have hb : brokenA x laws = zeroB := by
      show (FC (holdsA x) (laws.flatMap (casesA x))).getD zeroB = zeroB
      rw [hH]
      rfl
    rw [hb]
    refine CutQ_w rfl ?_ ?_
    · (repeat' (first | exact Bd.c _ | exact Bd.emp | exact BdL.nil | exact Bd.ints _ | refine Bd.aggL ?_ | refine Bd.tupL ?_ | refine BdL.cons ?_ ?_))
    · (repeat' (first | exact Wk.nil | exact Wk.emp | exact WkL.nil | (with_reducible exact Wk.refl _) | refine Wk.agg ?_ | refine Wk.tup ?_ | refine WkL.cons ?_ ?_ | (refine Wk.eq ?_; rfl)))
end Go.Proofs.YtephecognbbaoabGreat
namespace Go.Proofs.YtephecognbbaoabGreat
theorem checkAlgebra_calls (x : Alg) (hb : x.best.length ≤ 5864062014634) (he : x.edges.length ≤ 5864062014634) (hs : I64 x.size) (hrow : ∀ r ∈ x.best ++ x.edges, r.length ≤ 17592186044000) (σ : Store) :
    ACalls Tryz.prog 17 [.agg (algC x)] σ fun r σ' => σ' = σ ∧ r = intA1 (checkA x) := by
  refine ACalls.cutX ?_
  refine ACalls_of_awp Tryz.func17 rfl Tryz.results17 ?_
  simp only [List.length_cons, List.length_nil, Tryz.ntmps17, Nat.reduceAdd, Nat.reduceSub, enterA]
  refine AWP_seq_k fun K hK => ?_
  (refine AWP_region ?_; simp -implicitDefEqProofs only [go_sem])
  refine hK _ _ ?_; clear hK K
  refine AWP_freezeP 1 rfl (by simp only [st0]; rfl) ?_
  simp only [ss0, List.set_cons_zero]
  (repeat' (first|(refine g_s fun K hK=>?_)|(refine g_b ?_)|(refine g_k ?_;simp only[thenQ,blockQ])|(refine g_c (fun h=>?_) (fun h=>?_)<;>(try simp only[go_sem] at h)<;>(try exact g_f))|((first|refine g_t ?_|refine g_g ?_|refine (between_calls _ _ _ _).use ?_|refine AWP_drawW true tab_mixed (by decide +kernel) ?_);(try simp -implicitDefEqProofs only[go_sem]))|(with_reducible refine hK _ _ ?_;clear hK K)|(with_reducible refine And.intro ?_ ?_;· exact g_x)|fail))
  · exact CutQ_c rfl (by rw [checkA_size h])
  · rename_i h1
    exact CutQ_c rfl (by rw [checkA_many h1 (by omega)])
  · rename_i h1 h2
    exact CutQ_c rfl (by rw [checkA_best h1 (by omega) h])
  rename_i hsz he8
  have hbl := h
  clear h
  have hJ := hK
  clear hK
  refine AWP_freezeT 3 (a := .own (σ.length + 3) 1 0 (x.best.length + x.edges.length) (x.best.length + x.edges.length)) (es := (x.best ++ x.edges).map rowC) (by first | rfl | (simp -implicitDefEqProofs only [go_sem]; done) | (simp -implicitDefEqProofs only [go_sem]; rfl)) (by simp [elemsA, st1]) ?_
  have hkil : killA (σ ++ [Ob.dead, Ob.dead, Ob.dead, Ob.cells 1 (List.map rowC x.best ++ List.map rowC x.edges)]) (.own (σ.length + 3) 1 0 (x.best.length + x.edges.length) (x.best.length + x.edges.length)) = σ ++ [.dead, .dead, .dead, .dead] := by simp [killA]
  rw [hkil]
  generalize hall : x.best ++ x.edges = all at *
  have hal : all.length ≤ 32 := by rw [← hall, List.length_append]; omega
  refine AWP_each all (fun k r _ => ∀ w ∈ all, w ∈ r ∨ (w.length : Int) = x.size) (fun k _ _ => [(4, intA1 k)]) (fun _ _ _ => σ ++ [.dead, .dead, .dead, .dead]) () [] (fun w hw => .inl hw) rfl (ALe_of ?_) ?_ ?_
  · simp -implicitDefEqProofs only [go_sem]
  · rintro k r _ τ hk0 hk1 hH L hL
    have hmem := at0_mem all hk0 hk1
    simp -implicitDefEqProofs only [go_sem]
    (repeat' (first|(refine g_s fun K hK=>?_)|(refine g_b ?_)|(refine g_k ?_;simp only[thenQ,blockQ])|(refine g_c (fun h=>?_) (fun h=>?_)<;>(try simp only[go_sem] at h)<;>(try exact g_f))|((first|refine g_t ?_|refine g_g ?_|refine g_U ?_);(try simp -implicitDefEqProofs only[go_sem]))|(with_reducible refine hK _ _ ?_;clear hK K)|(with_reducible refine And.intro ?_ ?_;· exact g_x)|fail))
    · exact CutQ_c rfl (by rw [checkA_row hsz (by omega) hbl (hall ▸ hmem) h])
    · refine hL () [] _ _ (fun w hw => ?_) (ALe_of ?_) rfl
      · rcases hH w hw with h9 | h9
        · rcases List.mem_cons.1 h9 with rfl | h9
          · exact .inr h
          · exact .inl h9
        · exact .inr h9
      · simp -implicitDefEqProofs only [go_sem]
  · rintro k _ τ hk hH L
    have hgood : ∀ w ∈ all, (w.length : Int) = x.size := fun w hw => (hH w hw).resolve_left (by simp)
    simp -implicitDefEqProofs only [go_sem]
    (repeat' (first|(refine g_s fun K hK=>?_)|(refine g_e ?_;simp only[thenQ,blockQ,↓reduceIte,Nat.reduceEqDiff])|(refine g_c (fun h=>?_) (fun h=>?_)<;>(try simp only[go_sem] at h)<;>(try exact g_f))|(refine g_g ?_;(try simp -implicitDefEqProofs only[go_sem]))|(with_reducible refine hK _ _ ?_;clear hK K)|fail))
    refine hJ _ _ ?_
    clear hJ
    (repeat' (first|(refine g_s fun K hK=>?_)|(refine g_b ?_)|(refine g_g ?_;(try simp -implicitDefEqProofs only[go_sem]))|(with_reducible refine hK _ _ ?_;clear hK K)|fail))
    have hJ := hK
    clear hK
    refine AWP_each all (fun k r _ => ∀ w ∈ all, w ∈ r ∨ ∀ n ∈ w, 0 ≤ n ∧ n ≤ x.size - 1) (fun k _ _ => [(5, intA1 k)]) (fun _ _ _ => σ ++ [.dead, .dead, .dead, .dead]) () [] (fun w hw => .inl hw) rfl (ALe_of ?_) ?_ ?_
    · simp -implicitDefEqProofs only [go_sem]
    · rintro k r _ τ hk0 hk1 hH L hL
      have hmem := at0_mem all hk0 hk1
      obtain ⟨w, hw⟩ : ∃ w, at0 all k = w := ⟨_, rfl⟩
      rw [hw] at hH hmem
      have hwl := hgood w hmem
      simp -implicitDefEqProofs only [go_sem]
      (repeat' (first|(refine g_s fun K hK=>?_)|(refine g_b ?_)|(refine g_k ?_;simp only[thenQ,blockQ])|(refine g_c (fun h=>?_) (fun h=>?_)<;>(try simp only[go_sem] at h)<;>(try exact g_f))|(refine g_g ?_;(try simp -implicitDefEqProofs only[go_sem]))|(with_reducible refine hK _ _ ?_;clear hK K)|fail))
      refine AWP_each w (fun _ r9 _ => ∀ n ∈ w, n ∈ r9 ∨ (0 ≤ n ∧ n ≤ x.size - 1)) (fun k9 _ _ => [(6, intA1 k9)]) (fun _ _ _ => σ ++ [.dead, .dead, .dead, .dead]) () [] (fun n hn => .inl hn) rfl (ALe_of ?_) ?_ ?_
      · simp -implicitDefEqProofs only [go_sem]
      · rintro k9 r9 _ τ9 hk09 hk19 hH9 L9 hL9
        have hmem9 := at0_mem w hk09 hk19
        simp -implicitDefEqProofs only [go_sem]
        (repeat' (first|(refine g_s fun K hK=>?_)|(refine g_b ?_)|(refine g_k ?_;simp only[thenQ,blockQ])|(refine g_c (fun h=>?_) (fun h=>?_)<;>(try simp only[go_sem] at h)<;>(try exact g_f))|((first|refine g_t ?_|refine g_g ?_|refine g_U ?_|refine g_q (fun τ=>between_calls _ _ _ _) ?_);(try simp -implicitDefEqProofs only[go_sem,hw]))|(with_reducible refine hK _ _ ?_;clear hK K)|(with_reducible refine And.intro ?_ ?_;· exact g_x)|fail))
        · exact CutQ_c rfl (by rw [checkA_val hsz (by omega) hbl (hall ▸ hgood) (hall ▸ hmem) hmem9 h])
        · refine hL9 () [] _ _ (fun n hn => ?_) (ALe_of ?_) rfl
          · rcases hH9 n hn with g | g
            · rcases List.mem_cons.1 g with rfl | g
              · exact .inr h
              · exact .inl g
            · exact .inr g
          · simp -implicitDefEqProofs only [go_sem]
      · rintro k9 _ τ9 hk9 hH9 L9
        simp -implicitDefEqProofs only [go_sem]
        (repeat' (first|(refine g_s fun K hK=>?_)|(refine g_e ?_;simp only[thenQ,blockQ,↓reduceIte,Nat.reduceEqDiff])|(refine g_c (fun h=>?_) (fun h=>?_)<;>(try simp only[go_sem] at h)<;>(try exact g_f))|(refine g_g ?_;(try simp -implicitDefEqProofs only[go_sem]))|(with_reducible refine hK _ _ ?_;clear hK K)|(clear hK K;first|(with_reducible refine hK _ _ ?_;clear hK K)|(clear hK K;with_reducible refine hK _ _ ?_;clear hK K)|(clear hK K;clear hK K;with_reducible refine hK _ _ ?_;clear hK K))|(with_reducible refine And.intro ?_ ?_;· exact g_x)|fail))
        refine hL () [] _ _ (fun w' hw' => ?_) (ALe_of ?_) rfl
        · rcases hH w' hw' with g | g
          · rcases List.mem_cons.1 g with rfl | g
            · exact .inr fun n hn => (hH9 n hn).resolve_left (by simp)
            · exact .inl g
          · exact .inr g
        · simp -implicitDefEqProofs only [go_sem]
    · rintro k _ τ hk hH L
      have hright : Right x := ⟨hsz.1, hsz.2, by omega, hbl, by rw [hall]; exact hgood, fun r hr n hn => (hH r (hall ▸ hr)).resolve_left (by simp) n hn⟩
      simp -implicitDefEqProofs only [go_sem]
      (repeat' (first|(refine g_s fun K hK=>?_)|(refine g_e ?_;simp only[thenQ,blockQ,↓reduceIte,Nat.reduceEqDiff])|(refine g_c (fun h=>?_) (fun h=>?_)<;>(try simp only[go_sem] at h)<;>(try exact g_f))|(refine g_g ?_;(try simp -implicitDefEqProofs only[go_sem]))|(with_reducible refine hK _ _ ?_;clear hK K)|fail))
      refine hJ _ _ ?_
      clear hJ
      (repeat' (first|(refine g_s fun K hK=>?_)|((first|refine g_t ?_|refine g_g ?_);(try simp -implicitDefEqProofs only[go_sem]))|(with_reducible refine hK _ _ ?_;clear hK K)|fail))
      exact CutQ_c rfl (by rw [right_iff.2 hright])
end Go.Proofs.YtephecognbbaoabGreat
namespace Go.Proofs.YtephecognbbaoabGreat
def lnkC (l : Lnk) : List AV := [intA1 l.fr, intA1 l.dst, intA1 l.edge]
def linksV (l : List Lnk) : AV := .sl (l.map lnkC)
def netC (n : Net) : List AV := [intA1 n.alg.size, rowsC n.alg.best, rowsC n.alg.edges, intA1 n.nodes, linksV n.links]
attribute [go_sem] lnkC linksV netC
/-- What is known of a net that came in. -/
structure NetOk (n : Net) : Prop where
  alg : AlgOk n.alg
  nodes : I64 n.nodes
  len : n.links.length ≤ 5864062014634
  lnk : ∀ l ∈ n.links, I64 l.fr ∧ I64 l.dst ∧ I64 l.edge
/- Keys that are pairs of numbers. -/
theorem wf_I64 (n : Int) : (Lit.int IntKind.i64 n).wf = true ↔ I64 n := by simp [Lit.wf, IntKind.min, IntKind.max, IntKind.bits, IntKind.signed, I64]
theorem keyLits_pair (d : Nat) (a b : Int) (ha : I64 a) (hb : I64 b) : Tryz.prog.keyLits (d + 2) 108 [.int .i64 a, .int .i64 b] = some [.int .i64 a, .int .i64 b] := by
  have hc : Tryz.prog.cellsOf 108 = 2 := by kernel_rfl
  have hi : Tryz.prog.cellsOf 3 = 1 := by kernel_rfl
  simp [Program.keyLits, Tryz.underlying108, Tryz.underlying3, hc, hi, List.range_succ, (wf_I64 a).2 ha, (wf_I64 b).2 hb]
theorem keyK_pair {a b : Int} (ha : I64 a) (hb : I64 b) : keyK Tryz.prog 108 (.agg #[.int .i64 a, .int .i64 b]) = True := by
  refine eq_true ?_
  have hk : Tryz.prog.keyType 108 = true := by kernel_rfl
  have hc : Tryz.prog.cellsOf 108 = 2 := by kernel_rfl
  have hf : (Value.agg #[.int .i64 a, .int .i64 b]).formed Tryz.prog 108 = true := by simp [Value.formed, Tryz.underlying108, hc]
  have hd : Tryz.prog.types.size + 1 = (Tryz.prog.types.size - 1) + 2 := by kernel_rfl
  have hl := keyLits_pair (Tryz.prog.types.size - 1) a b ha hb
  rw [← hd] at hl
  refine ⟨.string (keyBytes [.int .i64 a, .int .i64 b]), ?_⟩
  simp only [keyOf, Tryz.underlying108, hk, hf, Bool.and_self, if_true]
  rw [show (Value.agg #[.int .i64 a, .int .i64 b]).cells.toList = [.int .i64 a, .int .i64 b] from rfl, hl]
  rfl
theorem laidOutT : laidOutB Tryz.prog = true := by kernel_rfl
theorem keyed_pair : Go.Maps.Keyed Tryz.prog 108 = True :=
  eq_true (Go.Maps.Keyed.of_law (deep_law_gate laidOutT (by decide +kernel) (by decide +kernel) (by kernel_rfl) (by kernel_rfl)))
theorem tab_map_pair : mapT Tryz.prog 107 = some (108, 4) := by kernel_rfl
theorem tab_places_pair : placesA Tryz.prog 108 = some [(0, 1), (1, 1)] := by kernel_rfl
attribute [go_sem] keyed_pair tab_map_pair tab_places_pair
theorem tab_fone_Broken : fieldOne Tryz.prog 88 0 = some 0 := by kernel_rfl
theorem tab_eq_Broken : eqPlan Tryz.prog 88 = some [(0, false), (1, false), (2, false), (3, false), (4, false)] := by kernel_rfl
attribute [go_sem] tab_fone_Broken tab_eq_Broken
theorem lawful_calls (x : Alg) (hr : Right x) (σ : Store) : ACalls Tryz.prog 48 [.agg (algC x)] σ fun r σ' => σ' = σ ∧ r = .c (.bool (decide ((brokenA x seven).law = 0))) := by
  refine ACalls.cutX ?_
  refine ACalls_of_awp Tryz.func48 rfl Tryz.results48 ?_
  simp only [List.length_cons, List.length_nil, Tryz.ntmps48, Nat.reduceAdd, Nat.reduceSub, enterA]
  (repeat' (first|(refine g_s fun K hK=>?_)|((first|refine g_t ?_|refine g_G ?_|refine (broken_calls x seven hr (by decide) (by decide) _).use ?_);(try simp -implicitDefEqProofs only[go_sem]))|(with_reducible refine hK _ _ ?_;clear hK K)|fail))
  refine CutQ_c rfl ?_
  by_cases h : (brokenA x seven).law = 0
  · rw [broken_zero h]
    rfl
  · simp [h]
theorem isLawful_calls (x : Alg) (hr : Right x) (σ : Store) : ACalls Tryz.prog 18 [.agg (algC x)] σ fun r σ' => σ' = σ ∧ r = .c (.bool (decide ((brokenA x seven).law = 0))) := by
  refine ACalls.cutX ?_
  refine ACalls_of_awp Tryz.func18 rfl Tryz.results18 ?_
  simp only [List.length_cons, List.length_nil, Tryz.ntmps18, Nat.reduceAdd, Nat.reduceSub, enterA]
  (repeat' (first|(refine g_s fun K hK=>?_)|((first|refine g_t ?_|refine g_g ?_|refine g_U ?_|refine g_q (fun τ=>brokenOf_calls x seven hr (by decide) (by decide) _) ?_|refine g_q (fun τ=>allLaws_calls _) ?_);(try simp -implicitDefEqProofs only[go_sem]))|(with_reducible refine hK _ _ ?_;clear hK K)|fail))
  refine CutQ_c rfl ?_
  rfl
theorem nwithin_calls (n a b : Int) (σ : Store) : ACalls Tryz.prog 49 [intA1 n, intA1 a, intA1 b] σ fun r σ' => σ' = σ ∧ r = .c (.bool (inR n a b)) := by
  refine ACalls_of_awp Tryz.func49 rfl Tryz.results49 ?_
  simp only [List.length_cons, List.length_nil, Tryz.ntmps49, Nat.reduceAdd, Nat.reduceSub, enterA]
  (repeat' (first|(refine g_s fun K hK=>?_)|((first|refine g_t ?_|refine g_g ?_);(try simp -implicitDefEqProofs only[go_sem]))|(with_reducible refine hK _ _ ?_;clear hK K)|(with_reducible refine splitB_intro (fun h=>?_) (fun h=>?_)<;>(try simp only[go_sem] at h)<;>(try exact g_f)<;>(try simp -implicitDefEqProofs only[go_sem]))|fail))
  all_goals (simp [inR]; omega)
theorem isNode_calls (n : Net) (i : Int) (hn : I64 (n.nodes - 1)) (σ : Store) : ACalls Tryz.prog 20 [.agg (netC n), intA1 i] σ fun r σ' => σ' = σ ∧ r = .c (.bool (inR i 0 (n.nodes - 1))) := by
  refine ACalls.cutX ?_
  refine ACalls_of_awp Tryz.func20 rfl Tryz.results20 ?_
  simp only [List.length_cons, List.length_nil, Tryz.ntmps20, Nat.reduceAdd, Nat.reduceSub, enterA]
  (repeat' (first|(refine g_s fun K hK=>?_)|((first|refine g_t ?_|refine g_g ?_|refine (between_calls _ _ _ _).use ?_);(try simp -implicitDefEqProofs only[go_sem]))|(with_reducible refine hK _ _ ?_;clear hK K)|(with_reducible refine And.intro ?_ ?_;· exact g_x)|fail))
  exact CutQ_c rfl rfl
end Go.Proofs.YtephecognbbaoabGreat
namespace Go.Proofs.YtephecognbbaoabGreat
def keyP (l : Lnk) : Value := .agg #[.int .i64 l.fr, .int .i64 l.dst]
def metE (pre : List Lnk) : List (Value × AV) := pre.map fun l => (keyP l, .c (.bool true))
theorem keyP_like (l x : Lnk) : keyP x = keyP l ↔ l.like x = true := by simp [keyP, Lnk.like]
theorem met_find (l : Lnk) : ∀ pre : List Lnk, (findK (metE pre) (keyP l)).getD (.c (.bool false)) = .c (.bool (pre.any l.like))
  | [] => rfl
  | x :: r => by
    have ih := met_find l r
    simp only [metE, List.map_cons, findK, List.any_cons] at ih ⊢
    by_cases h : keyP x = keyP l
    · rw [if_pos h, (keyP_like l x).1 h]
      rfl
    · rw [if_neg h, Bool.eq_false_iff.2 (fun e => h ((keyP_like l x).2 e)), ih]
      rfl
theorem met_new {l : Lnk} {pre : List Lnk} (h : pre.any l.like = false) : ∀ e ∈ metE pre, e.1 ≠ keyP l := by
  intro e he
  obtain ⟨x, hx, rfl⟩ := List.mem_map.1 he
  intro hc
  have := List.any_eq_false.1 h x hx
  exact this ((keyP_like l x).1 hc)
theorem met_put {l : Lnk} {pre : List Lnk} (h : pre.any l.like = false) : putK (metE pre) (keyP l) (.c (.bool true)) = metE (pre ++ [l]) := by
  rw [putK_none (met_new h)]
  simp [metE]
theorem DK_snoc {e : Value × AV} : ∀ {es : List (Value × AV)}, DK es → (∀ f ∈ es, f.1 ≠ e.1) → DK (es ++ [e])
  | [], _, _ => ⟨trivial, trivial⟩
  | f :: r, h, hn => by
    refine ⟨NK_iff.2 fun g hg => ?_, DK_snoc h.2 fun g hg => hn g (by simp [hg])⟩
    rcases List.mem_append.1 hg with hg | hg
    · exact NK_iff.1 h.1 g hg
    · rw [List.mem_singleton.1 hg]
      exact (hn f (by simp)).symm
theorem met_DK {l : Lnk} {pre : List Lnk} (h : pre.any l.like = false) (hd : DK (metE pre)) : DK (metE (pre ++ [l])) := by
  have : metE (pre ++ [l]) = metE pre ++ [(keyP l, .c (.bool true))] := by simp [metE]
  rw [this]
  exact DK_snoc hd (met_new h)
theorem met_KK {pre : List Lnk} (h : ∀ l ∈ pre, I64 l.fr ∧ I64 l.dst) : KK Tryz.prog 108 (metE pre) = True :=
  eq_true (KK_iff.2 fun e he => by
    obtain ⟨x, hx, rfl⟩ := List.mem_map.1 he
    exact of_eq_true (keyK_pair (h x hx).1 (h x hx).2))
theorem links_calls (n : Net) (ok : NetOk n) (h1 : 1 ≤ n.nodes) (h6 : n.nodes ≤ 6) (h8 : n.alg.edges.length ≤ 8) (σ : Store) :
    ACalls Tryz.prog 50 [.agg (netC n)] σ fun r σ' => σ' = σ ∧ r = intA1 (linksErr n [] n.links) := by
  have hlen := ok.len
  refine ACalls.cutX ?_
  refine ACalls_of_awp Tryz.func50 rfl Tryz.results50 ?_
  simp only [List.length_cons, List.length_nil, Tryz.ntmps50, Nat.reduceAdd, Nat.reduceSub, enterA]
  refine AWP_seq_k fun K hK => ?_
  (refine AWP_region ?_; simp -implicitDefEqProofs only [go_sem])
  refine hK _ _ ?_; clear hK K
  refine AWP_freezeP 1 rfl (by simp only [st0]; rfl) ?_
  simp only [ss0, List.set_cons_zero]
  (repeat' (first|(refine g_s fun K hK=>?_)|(refine g_b ?_)|(refine g_g ?_;(try simp -implicitDefEqProofs only[go_sem]))|(with_reducible refine hK _ _ ?_;clear hK K)|fail))
  have hJ := hK
  clear hK
  refine AWP_each n.links (fun k r pre => n.links = pre ++ r ∧ linksErr n [] n.links = linksErr n pre r ∧ DK (metE pre)) (fun k _ _ => [(11, intA1 k)]) (fun _ pre τ => σ ++ (.dead :: .map (metE pre) :: τ)) [] [] ⟨rfl, rfl, trivial⟩ rfl (ALe_of ?_) ?_ ?_
  · simp -implicitDefEqProofs only [go_sem]
  · rintro k r pre τ hk0 hk1 ⟨hP, hE, hD⟩ L hL
    have hmem := at0_mem n.links hk0 hk1
    obtain ⟨l, hl⟩ : ∃ l, at0 n.links k = l := ⟨_, rfl⟩
    rw [hl] at hP hE hmem
    have hi := ok.lnk l hmem
    have hkk := keyK_pair hi.1 hi.2.1
    have hKK := met_KK (pre := pre) fun x hx => let h := ok.lnk x (by rw [hP]; simp [hx]); ⟨h.1, h.2.1⟩
    have hDK := eq_true hD
    have hfind := met_find l pre
    unfold keyP at hfind
    simp -implicitDefEqProofs only [go_sem]
    (repeat' (first|(refine g_s fun K hK=>?_)|(refine g_b ?_)|(refine g_k ?_;simp only[thenQ,blockQ])|(refine g_c (fun h=>?_) (fun h=>?_)<;>(try simp only[go_sem] at h)<;>(try exact g_f))|((first|refine g_t ?_|refine g_g ?_|refine (nwithin_calls _ _ _ _).use ?_);(try simp -implicitDefEqProofs only[go_sem,hl, hkk, hKK, hDK, hfind]))|(with_reducible refine hK _ _ ?_;clear hK K)|(with_reducible refine splitB_intro (fun h=>?_) (fun h=>?_)<;>(try simp only[go_sem] at h)<;>(try exact g_f)<;>(try simp -implicitDefEqProofs only[go_sem,hl, hkk, hKK, hDK, hfind]))|(with_reducible refine And.intro ?_ ?_;· exact g_x)|fail))
    all_goals first
      | (have e : lnkErr n pre l = 5 := by clear hL hJ hfind hkk hKK hDK; simp [lnkErr, *]
         refine CutQ_c rfl ?_
         rw [hE, linksErr_bad (by rw [e]; decide), e]
         done)
      | (have e : lnkErr n pre l = 1 := by clear hL hJ hfind hkk hKK hDK; simp [lnkErr, *]
         refine CutQ_c rfl ?_
         rw [hE, linksErr_bad (by rw [e]; decide), e]
         done)
      | (have e : lnkErr n pre l = 6 := by clear hL hJ hfind hkk hKK hDK; simp [lnkErr, *]
         refine CutQ_c rfl ?_
         rw [hE, linksErr_bad (by rw [e]; decide), e]
         done)
      | skip
    all_goals
      have e : lnkErr n pre l = 0 := by clear hL hJ hfind hkk hKK hDK; simp [lnkErr, *]
      have hn := (lnkIn_of e).2
      have hput := met_put hn
      unfold keyP at hput
      rw [hput]
      refine hL (pre ++ [l]) _ _ _ ⟨by rw [hP]; simp, by rw [hE, linksErr_good e], met_DK hn hD⟩ (ALe_of ?_) rfl
      simp -implicitDefEqProofs only [go_sem]
  · rintro k pre τ hk ⟨hP, hE, hD⟩ L
    simp -implicitDefEqProofs only [go_sem]
    (repeat' (first|(refine g_s fun K hK=>?_)|(refine g_e ?_;simp only[thenQ,blockQ,↓reduceIte,Nat.reduceEqDiff])|(refine g_c (fun h=>?_) (fun h=>?_)<;>(try simp only[go_sem] at h)<;>(try exact g_f))|(refine g_g ?_;(try simp -implicitDefEqProofs only[go_sem]))|(with_reducible refine hK _ _ ?_;clear hK K)|fail))
    refine hJ _ _ ?_
    clear hJ
    (repeat' (first|(refine g_s fun K hK=>?_)|((first|refine g_t ?_|refine g_g ?_);(try simp -implicitDefEqProofs only[go_sem]))|(with_reducible refine hK _ _ ?_;clear hK K)|fail))
    refine CutQ_c rfl ?_
    rw [hE]
    rfl
end Go.Proofs.YtephecognbbaoabGreat
namespace Go.Proofs.YtephecognbbaoabGreat
theorem netCheck_calls (n : Net) (ok : NetOk n) (σ : Store) : ACalls Tryz.prog 15 [.agg (netC n)] σ fun r σ' => σ' = σ ∧ r = intA1 (checkN n) := by
  have hC := check_calls n.alg ok.alg.hb ok.alg.he ok.alg.hs ok.alg.hrow
  refine ACalls.cutX ?_
  by_cases h1 : checkA n.alg = 0
  · have hr := right_iff.1 h1
    rw [h1] at hC
    by_cases h2 : inR n.nodes 1 6 = true
    · have h3 := inR_iff.1 h2
      refine ACalls_of_awp Tryz.func15 rfl Tryz.results15 ?_
      simp only [List.length_cons, List.length_nil, Tryz.ntmps15, Nat.reduceAdd, Nat.reduceSub, enterA]
      (repeat' (first|(refine g_s fun K hK=>?_)|(refine g_b ?_)|(refine g_k ?_;simp only[thenQ,blockQ])|(refine g_c (fun h=>?_) (fun h=>?_)<;>(try simp only[go_sem] at h)<;>(try exact g_f))|((first|refine g_t ?_|refine g_g ?_|refine (hC _).use ?_|refine (lawful_calls n.alg hr _).use ?_|refine (nwithin_calls _ _ _ _).use ?_|refine (links_calls n ok h3.1 h3.2 hr.e8 _).use ?_);(try simp -implicitDefEqProofs only[go_sem]))|(with_reducible refine hK _ _ ?_;clear hK K)|fail))
      all_goals first
        | (rw [h2] at h; cases h; done)
        | (refine CutQ_c rfl ?_; simp [checkN, h1, h2, *]; done)
    · refine ACalls_of_awp Tryz.func15 rfl Tryz.results15 ?_
      simp only [List.length_cons, List.length_nil, Tryz.ntmps15, Nat.reduceAdd, Nat.reduceSub, enterA]
      (repeat' (first|(refine g_s fun K hK=>?_)|(refine g_b ?_)|(refine g_c (fun h=>?_) (fun h=>?_)<;>(try simp only[go_sem] at h)<;>(try exact g_f))|((first|refine g_t ?_|refine g_g ?_|refine (hC _).use ?_|refine (lawful_calls n.alg hr _).use ?_|refine (nwithin_calls _ _ _ _).use ?_);(try simp -implicitDefEqProofs only[go_sem]))|(with_reducible refine hK _ _ ?_;clear hK K)|fail))
      all_goals first
        | (refine CutQ_c rfl ?_; simp [checkN, h1, h2, *]; done)
        | (exact absurd (inR_iff.2 (by assumption)) h2)
  · refine ACalls_of_awp Tryz.func15 rfl Tryz.results15 ?_
    simp only [List.length_cons, List.length_nil, Tryz.ntmps15, Nat.reduceAdd, Nat.reduceSub, enterA]
    (repeat' (first|(refine g_s fun K hK=>?_)|(refine g_b ?_)|(refine g_c (fun h=>?_) (fun h=>?_)<;>(try simp only[go_sem] at h)<;>(try exact g_f))|((first|refine g_t ?_|refine g_g ?_|refine (hC _).use ?_);(try simp -implicitDefEqProofs only[go_sem]))|(with_reducible refine hK _ _ ?_;clear hK K)|fail))
    all_goals (refine CutQ_c rfl ?_; simp [checkN, h1])
theorem inR_no {n lo hi : Int} : inR n lo hi = false ↔ n < lo ∨ hi < n := by rw [← Bool.not_eq_true']; exact not_inR
theorem at0_app {X : Type} [Inhabited X] (a b : List X) {k : Int} (h0 : 0 ≤ k) (h : k < a.length) : at0 (a ++ b) k = at0 a k := by
  have : k.toNat < a.length := by omega
  simp [at0, List.getD_eq_getElem?_getD, List.getElem?_append_left this]
theorem checkNet_calls (n : Net) (ok : NetOk n) (σ : Store) : ACalls Tryz.prog 6 [.agg (netC n)] σ fun r σ' => σ' = σ ∧ r = intA1 (checkN n) := by
  have hC := checkAlgebra_calls n.alg ok.alg.hb ok.alg.he ok.alg.hs ok.alg.hrow
  have hlen := ok.len
  refine ACalls.cutX ?_
  by_cases h1 : checkA n.alg = 0
  · have hr := right_iff.1 h1
    have h8 := hr.e8
    rw [h1] at hC
    by_cases h2 : inR n.nodes 1 6 = true
    · have h3 := inR_iff.1 h2
      have hI : I64 (n.nodes - 1) := by unfold I64; omega
      by_cases h4 : (brokenA n.alg seven).law = 0
      · have hN : checkN n = linksErr n [] n.links := by simp [checkN, h1, h2, h4]
        rw [hN]
        refine ACalls_of_awp Tryz.func6 rfl Tryz.results6 ?_
        simp only [List.length_cons, List.length_nil, Tryz.ntmps6, Nat.reduceAdd, Nat.reduceSub, enterA]
        refine AWP_seq_k fun K hK => ?_
        (refine AWP_region ?_; simp -implicitDefEqProofs only [go_sem])
        refine hK _ _ ?_; clear hK K
        refine AWP_freezeP 1 rfl (by simp only [st0]; rfl) ?_
        simp only [ss0, List.set_cons_zero]
        (repeat' (first|(refine g_s fun K hK=>?_)|(refine g_b ?_)|(refine g_k ?_;simp only[thenQ,blockQ])|(refine g_c (fun h=>?_) (fun h=>?_)<;>(try simp only[go_sem] at h)<;>(try exact g_f))|((first|refine g_g ?_|refine (hC _).use ?_|refine (isLawful_calls n.alg hr _).use ?_|refine (between_calls _ _ _ _).use ?_);(try simp -implicitDefEqProofs only[go_sem,h4, decide_true]))|(with_reducible refine hK _ _ ?_;clear hK K)|fail))
        have hJ := hK
        clear hK
        refine AWP_each n.links (fun k r pre => n.links = pre ++ r ∧ (pre.length : Int) = k ∧ linksErr n [] n.links = linksErr n pre r) (fun k _ _ => [(4, intA1 k)]) (fun _ _ τ => σ ++ (.dead :: τ)) [] [] ⟨rfl, rfl, rfl⟩ rfl (ALe_of ?_) ?_ ?_
        · simp -implicitDefEqProofs only [go_sem]
        · rintro k r pre τ hk0 hk1 ⟨hP, hpl, hE⟩ L hL
          have hmem := at0_mem n.links hk0 hk1
          obtain ⟨l, hl⟩ : ∃ l, at0 n.links k = l := ⟨_, rfl⟩
          rw [hl] at hP hE hmem
          have hi := ok.lnk l hmem
          simp -implicitDefEqProofs only [go_sem]
          (repeat' (first|(refine g_s fun K hK=>?_)|(refine g_b ?_)|(refine g_k ?_;simp only[thenQ,blockQ])|(refine g_c (fun h=>?_) (fun h=>?_)<;>(try simp only[go_sem] at h)<;>(try exact g_f))|((first|refine g_t ?_|refine g_g ?_|refine (isNode_calls n _ hI _).use ?_|refine (between_calls _ _ _ _).use ?_);(try simp -implicitDefEqProofs only[go_sem,hl]))|(with_reducible refine hK _ _ ?_;clear hK K)|(with_reducible refine splitB_intro (fun h=>?_) (fun h=>?_)<;>(try simp only[go_sem] at h)<;>(try exact g_f)<;>(try simp -implicitDefEqProofs only[go_sem,hl]))|(with_reducible refine And.intro ?_ ?_;· exact g_x)|fail))
          all_goals try
            (have e : lnkErr n pre l = 5 := by
               clear hL hJ
               first
               | (simp [lnkErr, *]; done)
               | (have hb : inR l.edge 0 (n.alg.edges.length - 1) = false := inR_no.2 (by assumption)
                  simp [lnkErr, *])
             refine CutQ_c rfl ?_
             rw [hE, linksErr_bad (by rw [e]; decide), e]
             done)
          all_goals try
            (have e : lnkErr n pre l = 1 := by
               clear hL hJ
               have hb : inR l.edge 0 (n.alg.edges.length - 1) = true := inR_iff.2 (by assumption)
               simp [lnkErr, *]
             refine CutQ_c rfl ?_
             rw [hE, linksErr_bad (by rw [e]; decide), e]
             done)
          have hpn : pre.length < n.links.length := by rw [hP]; simp
          have hJ2 := hK
          clear hK
          refine AWP_each pre (fun j rr _ => pre.any l.like = rr.any l.like) (fun j _ _ => [(6, intA1 j)]) (fun _ _ τ' => σ ++ (.dead :: (τ ++ .cells 3 [lnkC l] :: τ'))) () [] rfl rfl (ALe_of ?_) ?_ ?_
          · simp -implicitDefEqProofs only [go_sem]
          · rintro j rr _ τ' hj0 hj1 hA L2 hL2
            obtain ⟨x, hx⟩ : ∃ x, at0 pre j = x := ⟨_, rfl⟩
            have hxn : at0 n.links j = x := by rw [hP, at0_app _ _ hj0 hj1, hx]
            rw [hx, List.any_cons] at hA
            simp -implicitDefEqProofs only [go_sem]
            (repeat' (first|(refine g_s fun K hK=>?_)|(refine g_b ?_)|(refine g_k ?_;simp only[thenQ,blockQ])|(refine g_c (fun h=>?_) (fun h=>?_)<;>(try simp only[go_sem] at h)<;>(try exact g_f))|((first|refine g_t ?_|refine g_g ?_|refine g_U ?_);(try simp -implicitDefEqProofs only[go_sem,hxn]))|(with_reducible refine hK _ _ ?_;clear hK K)|(with_reducible refine splitB_intro (fun h=>?_) (fun h=>?_)<;>(try simp only[go_sem] at h)<;>(try exact g_f)<;>(try simp -implicitDefEqProofs only[go_sem,hxn]))|(with_reducible refine And.intro ?_ ?_;· exact g_x)|fail))
            all_goals try
              (have hk : l.like x = true := by simp [Lnk.like, *]
               have e : lnkErr n pre l = 6 := by
                 rw [hk, Bool.true_or] at hA
                 clear hL hL2 hJ hJ2
                 have hb : inR l.edge 0 (n.alg.edges.length - 1) = true := inR_iff.2 (by assumption)
                 simp [lnkErr, *]
               refine CutQ_c rfl ?_
               rw [hE, linksErr_bad (by rw [e]; decide), e]
               done)
            all_goals
              have hk : l.like x = false := by simp [Lnk.like, *]
              refine hL2 () τ' _ _ (by rw [hA, hk, Bool.false_or]) (ALe_of ?_) rfl
              simp -implicitDefEqProofs only [go_sem]
          · rintro j _ τ' hj hA L2
            have e : lnkErr n pre l = 0 := by
              clear hL hJ hJ2
              have hb : inR l.edge 0 (n.alg.edges.length - 1) = true := inR_iff.2 (by assumption)
              simp [lnkErr, *]
            simp -implicitDefEqProofs only [go_sem]
            (repeat' (first|(refine g_s fun K hK=>?_)|(refine g_e ?_;simp only[thenQ,blockQ,↓reduceIte,Nat.reduceEqDiff])|(refine g_c (fun h=>?_) (fun h=>?_)<;>(try simp only[go_sem] at h)<;>(try exact g_f))|(refine g_g ?_;(try simp -implicitDefEqProofs only[go_sem]))|(with_reducible refine hK _ _ ?_;clear hK K)|fail))
            refine hJ2 _ _ ?_
            clear hJ2
            (repeat' (first|(refine g_g ?_;(try simp -implicitDefEqProofs only[go_sem]))|(with_reducible refine And.intro ?_ ?_;· exact g_x)|fail))
            refine hL (pre ++ [l]) (τ ++ .cells 3 [lnkC l] :: τ') _ _ ⟨by rw [hP]; simp, by simp; omega, by rw [hE, linksErr_good e]⟩ (ALe_of ?_) (by simp [lnkC, intA1])
            simp -implicitDefEqProofs only [go_sem]
        · rintro k pre τ hk ⟨hP, hpl, hE⟩ L
          simp -implicitDefEqProofs only [go_sem]
          (repeat' (first|(refine g_s fun K hK=>?_)|(refine g_e ?_;simp only[thenQ,blockQ,↓reduceIte,Nat.reduceEqDiff])|(refine g_c (fun h=>?_) (fun h=>?_)<;>(try simp only[go_sem] at h)<;>(try exact g_f))|(refine g_g ?_;(try simp -implicitDefEqProofs only[go_sem]))|(with_reducible refine hK _ _ ?_;clear hK K)|fail))
          refine hJ _ _ ?_
          clear hJ
          (repeat' (first|(refine g_s fun K hK=>?_)|((first|refine g_t ?_|refine g_g ?_);(try simp -implicitDefEqProofs only[go_sem]))|(with_reducible refine hK _ _ ?_;clear hK K)|fail))
          refine CutQ_c rfl ?_
          rw [hE]
          rfl
      · refine ACalls_of_awp Tryz.func6 rfl Tryz.results6 ?_
        simp only [List.length_cons, List.length_nil, Tryz.ntmps6, Nat.reduceAdd, Nat.reduceSub, enterA]
        (repeat' (first|(refine g_s fun K hK=>?_)|(refine g_k ?_;simp only[thenQ,blockQ])|(refine g_c (fun h=>?_) (fun h=>?_)<;>(try simp only[go_sem] at h)<;>(try exact g_f))|((first|refine g_t ?_|refine g_g ?_|refine (hC _).use ?_|refine (isLawful_calls n.alg hr _).use ?_);(try simp -implicitDefEqProofs only[go_sem,h4, decide_false]))|(with_reducible refine hK _ _ ?_;clear hK K)|fail))
        all_goals (refine CutQ_c rfl ?_; simp [checkN, h1, h2, h4])
    · by_cases h4 : (brokenA n.alg seven).law = 0
      · refine ACalls_of_awp Tryz.func6 rfl Tryz.results6 ?_
        simp only [List.length_cons, List.length_nil, Tryz.ntmps6, Nat.reduceAdd, Nat.reduceSub, enterA]
        (repeat' (first|(refine g_s fun K hK=>?_)|(refine g_k ?_;simp only[thenQ,blockQ])|(refine AWP_cond rfl (fun h=>?_) (fun h=>?_);focus (first|contradiction|(simp only[go_sem] at h;done)|((try simp only[go_sem] at h);exact g_f));(try simp only[go_sem] at h))|((first|refine g_g ?_|refine (hC _).use ?_|refine (isLawful_calls n.alg hr _).use ?_|refine (between_calls _ _ _ _).use ?_);(try simp -implicitDefEqProofs only[go_sem,h4, decide_true]))|(with_reducible refine hK _ _ ?_;clear hK K)|fail))
        refine AWP_cond rfl (fun h => ?_) (fun h => ?_)
        · (repeat' (first|(refine g_s fun K hK=>?_)|((first|refine g_t ?_|refine g_g ?_);(try simp -implicitDefEqProofs only[go_sem]))|(with_reducible refine hK _ _ ?_;clear hK K)|fail))
          refine CutQ_c rfl ?_
          simp [checkN, h1, h2, h4]
        · exact absurd (by simpa [inR] using h) h2
      · refine ACalls_of_awp Tryz.func6 rfl Tryz.results6 ?_
        simp only [List.length_cons, List.length_nil, Tryz.ntmps6, Nat.reduceAdd, Nat.reduceSub, enterA]
        (repeat' (first|(refine g_s fun K hK=>?_)|(refine g_k ?_;simp only[thenQ,blockQ])|(refine g_c (fun h=>?_) (fun h=>?_)<;>(try simp only[go_sem] at h)<;>(try exact g_f))|((first|refine g_t ?_|refine g_g ?_|refine (hC _).use ?_|refine (isLawful_calls n.alg hr _).use ?_);(try simp -implicitDefEqProofs only[go_sem,h4, decide_false]))|(with_reducible refine hK _ _ ?_;clear hK K)|fail))
        all_goals (refine CutQ_c rfl ?_; simp [checkN, h1, h4])
  · refine ACalls_of_awp Tryz.func6 rfl Tryz.results6 ?_
    simp only [List.length_cons, List.length_nil, Tryz.ntmps6, Nat.reduceAdd, Nat.reduceSub, enterA]
    (repeat' (first|(refine g_s fun K hK=>?_)|(refine g_c (fun h=>?_) (fun h=>?_)<;>(try simp only[go_sem] at h)<;>(try exact g_f))|((first|refine g_t ?_|refine g_g ?_|refine (hC _).use ?_);(try simp -implicitDefEqProofs only[go_sem]))|(with_reducible refine hK _ _ ?_;clear hK K)|fail))
    all_goals (refine CutQ_c rfl ?_; simp [checkN, h1])
end Go.Proofs.YtephecognbbaoabGreat
namespace Go.Proofs.YtephecognbbaoabGreat
/-- What is known of a state that came in. -/
structure StOk (x : List (List Int)) : Prop where
  len : x.length ≤ 5864062014634
  row : ∀ r ∈ x, r.length ≤ 17592186044000
theorem ACalls.argW {P : Program} {f : FuncId} {args args' : List AV} {σ : Store} {R : AV → Store → Prop} (h : ACalls P f args' σ R) (hw : WkL args args') : ACalls P f args σ R := fun K imm m w vs hs hv => h K imm m w vs hs (hw _ _ _ hv)
theorem sameState_calls (a b : List (List Int)) (ha : StOk a) (σ : Store) : ACalls Tryz.prog 65 [rowsC a, rowsC b] σ fun r σ' => σ' = σ ∧ r = .c (.bool (decide (a = b))) := by
  have hlen := ha.len
  refine ACalls_of_awp Tryz.func65 rfl Tryz.results65 ?_
  simp only [List.length_cons, List.length_nil, Tryz.ntmps65, Nat.reduceAdd, Nat.reduceSub, enterA]
  (repeat' (first|(refine g_s fun K hK=>?_)|(refine g_b ?_)|(refine g_k ?_;simp only[thenQ,blockQ])|(refine g_c (fun h=>?_) (fun h=>?_)<;>(try simp only[go_sem] at h)<;>(try exact g_f))|((first|refine g_t ?_|refine g_g ?_);(try simp -implicitDefEqProofs only[go_sem]))|(with_reducible refine hK _ _ ?_;clear hK K)|fail))
  · rw [decide_eq_false (fun e : a = b => h (by rw [e]))]
  have hle : a.length = b.length := by omega
  refine AWP_for (a.length : Int) (fun k _ => ∀ i : Int, 0 ≤ i → i < k → at0 a i = at0 b i) (fun k _ _ => [(5, intA1 k)]) (fun _ _ _ => σ) () [] (by omega) (fun i h1 h2 => by omega) rfl (ALe_of ?_) ?_
  · simp -implicitDefEqProofs only [go_sem]
  · rintro k _ τ hk0 hk1 hH L hL
    by_cases hk2 : k < a.length
    · have hml : (at0 a k).length ≤ 1000000000000000000 := by have := ha.row _ (at0_mem a hk0 hk2); omega
      simp -implicitDefEqProofs only [go_sem]
      (repeat' (first|(refine g_s fun K hK=>?_)|(refine g_b ?_)|(refine g_k ?_;simp only[thenQ,blockQ])|(refine g_c (fun h=>?_) (fun h=>?_)<;>(try simp only[go_sem] at h)<;>(try exact g_f))|((first|refine g_t ?_|refine g_g ?_|refine g_U ?_|refine g_q (fun τ=>sameInts_calls _ _ hml _) ?_);(try simp -implicitDefEqProofs only[go_sem]))|(with_reducible refine hK _ _ ?_;clear hK K)|(with_reducible refine And.intro ?_ ?_;· exact g_x)|fail))
      · have hne : at0 a k ≠ at0 b k := by simpa using h
        rw [decide_eq_false (fun e : a = b => hne (by rw [e]))]
      · have heq : at0 a k = at0 b k := by simpa using h
        refine hL hk2 () [] _ _ ?_ (ALe_of ?_) rfl
        · intro i h1 h2
          rcases Int.lt_or_eq_of_le (Int.le_of_lt_add_one h2) with h3 | h3
          · exact hH i h1 h3
          · rw [h3]; exact heq
        · simp -implicitDefEqProofs only [go_sem]
    · simp -implicitDefEqProofs only [go_sem]
      (repeat' (first|(refine g_s fun K hK=>?_)|(refine g_e ?_;simp only[thenQ,blockQ,↓reduceIte,Nat.reduceEqDiff])|(refine g_c (fun h=>?_) (fun h=>?_)<;>(try simp only[go_sem] at h)<;>(try exact g_f))|((first|refine g_t ?_|refine g_g ?_);(try simp -implicitDefEqProofs only[go_sem]))|(with_reducible refine hK _ _ ?_;clear hK K)|(clear hK K;first|(with_reducible refine hK _ _ ?_;clear hK K)|(clear hK K;with_reducible refine hK _ _ ?_;clear hK K)|(clear hK K;clear hK K;with_reducible refine hK _ _ ?_;clear hK K))|fail))
      rw [decide_eq_true (at0_eq hle fun i h1 h2 => hH i h1 (by omega) : a = b)]
end Go.Proofs.YtephecognbbaoabGreat
/- States: copied, compared. -/
namespace Go.Proofs.YtephecognbbaoabGreat
def uintA (n : Int) : AV := .c (.int .u64 n)
attribute [go_sem] uintA
theorem ok_mul64 : callOk Tryz.prog 92 = true := by kernel_rfl
theorem ok_mul : callOk Tryz.prog 74 = true := by kernel_rfl
attribute [go_sem] ok_mul64 ok_mul
theorem mul64_calls (n : Int) (h : n = 1 ∨ n = 2 ∨ n = 3 ∨ n = 4 ∨ n = 5 ∨ n = 6) (σ : Store) : ACalls Tryz.prog 92 [uintA 1, uintA n] σ fun r σ' => σ' = σ ∧ r = .tup [uintA 0, uintA n] := by
  rcases h with rfl | rfl | rfl | rfl | rfl | rfl
  all_goals refine ACalls_of_awp Tryz.func92 rfl Tryz.results92 ?_
            simp only [List.length_cons, List.length_nil, Tryz.ntmps92, Nat.reduceAdd, Nat.reduceSub, enterA]
  all_goals (repeat' (first|(refine g_s fun K hK=>?_)|((first|refine g_t ?_|refine g_g ?_);(try simp -implicitDefEqProofs only[go_sem]))|(with_reducible refine hK _ _ ?_;clear hK K)|fail))
  all_goals rfl
theorem mul_calls (n : Int) (h : n = 1 ∨ n = 2 ∨ n = 3 ∨ n = 4 ∨ n = 5 ∨ n = 6) (σ : Store) : ACalls Tryz.prog 74 [uintA 1, uintA n] σ fun r σ' => σ' = σ ∧ r = .tup [uintA 0, uintA n] := by
  have w1 : IntKind.u64.wrap 1 = 1 := by decide
  have w0 : IntKind.u64.wrap 0 = 0 := by decide
  have wn : IntKind.u64.wrap n = n := by rcases h with rfl | rfl | rfl | rfl | rfl | rfl <;> decide
  refine ACalls_of_awp Tryz.func74 rfl Tryz.results74 ?_
  simp only [List.length_cons, List.length_nil, Tryz.ntmps74, Nat.reduceAdd, Nat.reduceSub, enterA]
  (repeat' (first|(refine g_s fun K hK=>?_)|(refine g_g ?_;(try simp -implicitDefEqProofs only[go_sem]))|(with_reducible refine hK _ _ ?_;clear hK K)|fail))
  refine AWP_condC (fun h => by cases h) (fun _ => ?_)
  (repeat' (first|(refine g_s fun K hK=>?_)|(refine g_k ?_;simp only[thenQ,blockQ])|((first|refine g_t ?_|refine g_g ?_|refine (mul64_calls n h _).use ?_);(try simp -implicitDefEqProofs only[go_sem,w1, wn]))|(with_reducible refine hK _ _ ?_;clear hK K)|fail))
theorem convA_u64 {P : Program} {k k' : IntKind} {n : Int} {σ : Store} {K : AV → Store → Prop} : convA P (some (.int k)) (some (.int .u64)) (.c (.int k' n)) σ K = K (.c (.int .u64 (IntKind.u64.wrap n))) σ := rfl
attribute [go_sem] convA_u64
theorem nc0 : ((0 : Nat) : Int) = 0 := rfl
theorem nc1 : ((1 : Nat) : Int) = 1 := rfl
theorem nc2 : ((2 : Nat) : Int) = 2 := rfl
theorem nc3 : ((3 : Nat) : Int) = 3 := rfl
theorem nc4 : ((4 : Nat) : Int) = 4 := rfl
theorem nc5 : ((5 : Nat) : Int) = 5 := rfl
theorem nc6 : ((6 : Nat) : Int) = 6 := rfl
theorem repeat_calls (v n : Int) (h : n = 1 ∨ n = 2 ∨ n = 3 ∨ n = 4 ∨ n = 5 ∨ n = 6) (σ : Store) : ACalls Tryz.prog 51 [intsA [v], intA1 n] σ fun r σ' => σ' = σ ++ [.cells 1 ((List.replicate n.toNat v).map intC)] ∧ r = .own σ.length 1 0 n.toNat n.toNat := by
  have w1 : IntKind.u64.wrap 1 = 1 := by decide
  have wn : IntKind.u64.wrap n = n := by rcases h with rfl | rfl | rfl | rfl | rfl | rfl <;> decide
  have hm := mul_calls n h
  rcases h with rfl | rfl | rfl | rfl | rfl | rfl
  all_goals refine ACalls_of_awp Tryz.func51 rfl Tryz.results51 ?_
            simp only [List.length_cons, List.length_nil, Tryz.ntmps51, Nat.reduceAdd, Nat.reduceSub, enterA]
  all_goals (repeat' (first|(refine g_s fun K hK=>?_)|(refine g_b ?_)|(refine g_k ?_;simp only[thenQ,blockQ])|(refine g_c (fun h=>?_) (fun h=>?_)<;>(try simp only[go_sem] at h)<;>(try exact g_f))|((first|refine g_g ?_|refine (hm _).use ?_);(try simp -implicitDefEqProofs only[go_sem,nc0, nc1, nc2, nc3, nc4, nc5, nc6, w1, wn, List.map_cons, List.map_nil, List.replicate]))|(with_reducible refine hK _ _ ?_;clear hK K)|(with_reducible refine And.intro ?_ ?_;· exact g_x)|fail))
  all_goals refine AWP_rounds 4 ?_
  all_goals (repeat' (first|(refine g_s fun K hK=>?_)|(refine g_b ?_)|(refine g_k ?_;simp only[thenQ,blockQ])|(refine g_e ?_;simp only[thenQ,blockQ,↓reduceIte,Nat.reduceEqDiff])|(refine g_c (fun h=>?_) (fun h=>?_)<;>(try simp only[go_sem] at h)<;>(try exact g_f))|((first|refine g_t ?_|refine g_g ?_|refine AWP_drawL false true tab_mixed (by decide +kernel) ?_);(try simp -implicitDefEqProofs only[go_sem,nc0, nc1, nc2, nc3, nc4, nc5, nc6, w1, wn, List.map_cons, List.map_nil, Nat.min_def, List.take, List.drop]))|(with_reducible refine hK _ _ ?_;clear hK K)|(clear hK K;first|(with_reducible refine hK _ _ ?_;clear hK K)|(clear hK K;with_reducible refine hK _ _ ?_;clear hK K)|(clear hK K;clear hK K;with_reducible refine hK _ _ ?_;clear hK K))|(with_reducible refine And.intro ?_ ?_;· exact g_x)|fail))
  all_goals rfl
end Go.Proofs.YtephecognbbaoabGreat
namespace Go.Proofs.YtephecognbbaoabGreat
theorem clone_calls (l : List Int) (hl : l.length ≤ 17592186044000) (σ : Store) : ACalls Tryz.prog 37 [intsA l] σ fun r σ' => σ' = σ ∧ r = intsA l := by
  refine ACalls.cutX ?_
  refine ACalls_of_awp Tryz.func37 rfl Tryz.results37 ?_
  simp only [List.length_cons, List.length_nil, Tryz.ntmps37, Nat.reduceAdd, Nat.reduceSub, enterA]
  (repeat' (first|(refine g_s fun K hK=>?_)|(refine g_g ?_;(try simp -implicitDefEqProofs only[go_sem]))|(with_reducible refine hK _ _ ?_;clear hK K)|fail))
  refine ⟨fun h => ?_, ?_⟩
  · have e : l = [] := List.eq_nil_of_length_eq_zero h
    subst e
    refine hK _ _ ?_; clear hK K
    (repeat' (first|(refine g_s fun K hK=>?_)|(refine g_c (fun h=>?_) (fun h=>?_)<;>(try simp only[go_sem] at h)<;>(try exact g_f))|((first|refine g_t ?_|refine g_g ?_);(try simp -implicitDefEqProofs only[go_sem]))|(with_reducible refine hK _ _ ?_;clear hK K)|fail))
    exact CutQ_w (τ := []) (by simp) (.c _) .nil
  · refine hK _ _ ?_; clear hK K
    (repeat' (first|(refine g_s fun K hK=>?_)|(refine g_k ?_;simp only[thenQ,blockQ])|(refine g_c (fun h=>?_) (fun h=>?_)<;>(try simp only[go_sem] at h)<;>(try exact g_f))|(refine g_g ?_;(try simp -implicitDefEqProofs only[go_sem]))|(with_reducible refine hK _ _ ?_;clear hK K)|(with_reducible refine And.intro ?_ ?_;· exact g_x)|fail))
    refine AWP_freezeT 2 (a := .own (σ.length + 1) 1 0 l.length l.length) (es := l.map intC) (by first | rfl | (simp -implicitDefEqProofs only [go_sem]; done) | (simp -implicitDefEqProofs only [go_sem]; rfl)) (by simp [elemsA, st1]) ?_
    have hkil : killA (σ ++ [Ob.dead, Ob.cells 1 (List.map intC l)]) (.own (σ.length + 1) 1 0 l.length l.length) = σ ++ [.dead, .dead] := by simp [killA]
    rw [hkil]
    (repeat' (first|(refine g_t ?_;(try simp -implicitDefEqProofs only[go_sem]))|fail))
    exact CutQ_w rfl (Bd.ints l) (.eq rfl)
end Go.Proofs.YtephecognbbaoabGreat
namespace Go.Proofs.YtephecognbbaoabGreat
theorem edgeOf_calls (n : Net) (i k : Int) (hl : n.links.length ≤ 5864062014634) (σ : Store) : ACalls Tryz.prog 27 [.agg (netC n), intA1 i, intA1 k] σ fun r σ' => σ' = σ ∧ r = intA1 (edgeOf n i k) := by
  refine ACalls.cutX ?_
  refine ACalls_of_awp Tryz.func27 rfl Tryz.results27 ?_
  simp only [List.length_cons, List.length_nil, Tryz.ntmps27, Nat.reduceAdd, Nat.reduceSub, enterA]
  refine AWP_seq_k fun K hK => ?_
  (refine AWP_region ?_; simp -implicitDefEqProofs only [go_sem])
  refine hK _ _ ?_; clear hK K
  refine AWP_freezeP 3 rfl (by simp only [st0]; rfl) ?_
  simp only [ss0, List.set_cons_zero]
  (repeat' (first|(refine g_s fun K hK=>?_)|(refine g_b ?_)|(refine g_g ?_;(try simp -implicitDefEqProofs only[go_sem]))|(with_reducible refine hK _ _ ?_;clear hK K)|fail))
  have hJ := hK
  clear hK
  refine AWP_each n.links (fun _ r _ => (n.links.find? fun l => decide (l.fr = i) && decide (l.dst = k)) = r.find? fun l => decide (l.fr = i) && decide (l.dst = k)) (fun q _ _ => [(7, intA1 q)]) (fun _ _ _ => σ ++ [.dead]) () [] rfl rfl (ALe_of ?_) ?_ ?_
  · simp -implicitDefEqProofs only [go_sem]
  · rintro q r _ τ hq0 hq1 hH L hL
    obtain ⟨l, hl⟩ : ∃ l, at0 n.links q = l := ⟨_, rfl⟩
    rw [hl] at hH
    simp -implicitDefEqProofs only [go_sem]
    (repeat' (first|(refine g_s fun K hK=>?_)|(refine g_b ?_)|(refine g_k ?_;simp only[thenQ,blockQ])|(refine g_c (fun h=>?_) (fun h=>?_)<;>(try simp only[go_sem] at h)<;>(try exact g_f))|((first|refine g_t ?_|refine g_g ?_);(try simp -implicitDefEqProofs only[go_sem,hl]))|(with_reducible refine hK _ _ ?_;clear hK K)|(with_reducible refine splitB_intro (fun h=>?_) (fun h=>?_)<;>(try simp only[go_sem] at h)<;>(try exact g_f)<;>(try simp -implicitDefEqProofs only[go_sem,hl]))|(with_reducible refine And.intro ?_ ?_;· exact g_x)|fail))
    all_goals try
      (have e : (decide (l.fr = i) && decide (l.dst = k)) = true := by simp [*]
       refine CutQ_c rfl ?_
       rw [List.find?_cons_of_pos (by exact e)] at hH
       rw [edgeOf, hH]
       rfl)
    all_goals
      have e : ¬ (decide (l.fr = i) && decide (l.dst = k)) = true := by simp [*]
      rw [List.find?_cons_of_neg (by exact e)] at hH
      refine hL () [] _ _ hH (ALe_of ?_) rfl
      simp -implicitDefEqProofs only [go_sem]
  · rintro q _ τ hq hH L
    simp -implicitDefEqProofs only [go_sem]
    (repeat' (first|(refine g_s fun K hK=>?_)|(refine g_e ?_;simp only[thenQ,blockQ,↓reduceIte,Nat.reduceEqDiff])|(refine g_c (fun h=>?_) (fun h=>?_)<;>(try simp only[go_sem] at h)<;>(try exact g_f))|(refine g_g ?_;(try simp -implicitDefEqProofs only[go_sem]))|(with_reducible refine hK _ _ ?_;clear hK K)|fail))
    refine hJ _ _ ?_
    clear hJ
    (repeat' (first|(refine g_s fun K hK=>?_)|((first|refine g_t ?_|refine g_g ?_);(try simp -implicitDefEqProofs only[go_sem]))|(with_reducible refine hK _ _ ?_;clear hK K)|fail))
    refine CutQ_c rfl ?_
    rw [edgeOf, hH]
    rfl
theorem routeOf_calls (n : Net) (i j : Int) (has : List Int) (hn : NetIn n) (hl : n.links.length ≤ 5864062014634) (hlen : (has.length : Int) = n.nodes) (hv : ∀ v ∈ has, 0 ≤ v ∧ v < n.alg.size) (σ : Store) :
    ACalls Tryz.prog 62 [.agg (netC n), intA1 i, intA1 j, intsA has] σ fun r σ' => σ' = σ ∧ r = intA1 (routeR n i j fun k => at0 has k) := by
  have s2 := hn.alg.s2
  have s24 := hn.alg.s24
  have n1 := hn.n1
  have n6 := hn.n6
  have hbl := hn.alg.bl
  refine ACalls.cutX ?_
  refine ACalls_of_awp Tryz.func62 rfl Tryz.results62 ?_
  simp only [List.length_cons, List.length_nil, Tryz.ntmps62, Nat.reduceAdd, Nat.reduceSub, enterA]
  refine AWP_seq_k fun K hK => ?_
  (refine AWP_region ?_; simp -implicitDefEqProofs only [go_sem])
  refine hK _ _ ?_; clear hK K
  refine AWP_freezeP 4 rfl (by simp only [st0]; rfl) ?_
  simp only [ss0, List.set_cons_zero]
  (repeat' (first|(refine g_s fun K hK=>?_)|(refine g_g ?_;(try simp -implicitDefEqProofs only[go_sem]))|(with_reducible refine hK _ _ ?_;clear hK K)|(with_reducible refine And.intro ?_ ?_;· exact g_x)|fail))
  have hR : ∀ α, ALe α [(9, intA1 (if i = j then 0 else n.alg.size - 1)), (4, .cp (netC n) 0), (1, intA1 i), (2, intA1 j), (3, intsA has)] → K α (σ ++ [.dead]) := by
    intro α ha
    refine hK _ _ (AWPr.weak ha ?_)
    clear ha hK
    (repeat' (first|(refine g_s fun K hK=>?_)|(refine g_b ?_)|(refine g_g ?_;(try simp -implicitDefEqProofs only[go_sem]))|(with_reducible refine hK _ _ ?_;clear hK K)|fail))
    have hJ := hK
    clear hK
    refine AWP_each (ints n.nodes) (fun _ r (out : Int) => routeR n i j (fun k => at0 has k) = r.foldl (fun out k => if 0 ≤ edgeOf n i k then bestA n out (overA n (edgeOf n i k) (at0 has k)) else out) out ∧ 0 ≤ out ∧ out < n.alg.size) (fun k out _ => [(10, intA1 k), (9, intA1 out)]) (fun _ _ _ => σ ++ [.dead]) (if i = j then 0 else n.alg.size - 1) [] ⟨rfl, by split <;> omega⟩ rfl (ALe_of ?_) ?_ ?_
    · simp -implicitDefEqProofs only [go_sem]
    · rintro k r out τ hk0 hk1 ⟨hH, ho0, ho1⟩ L hL
      rw [ints_length] at hk1
      rw [at0_ints hk0 (by omega), List.foldl_cons] at hH
      have hhv := hv _ (at0_mem has hk0 (by omega))
      have hbest := hn.alg.best_len ho0 ho1
      simp -implicitDefEqProofs only [go_sem]
      by_cases he : 0 ≤ edgeOf n i k
      · have hei : edgeOf n i k < n.alg.edges.length := by
          unfold edgeOf at he ⊢
          cases hfd : n.links.find? fun l => decide (l.fr = i) && decide (l.dst = k) with
          | none => rw [hfd] at he; simp at he
          | some l => exact (hn.lnk l (List.mem_of_find?_eq_some hfd)).e1
        have hel := hn.alg.edge_len he hei
        have hov := over_in hn ⟨he, hei⟩ hhv
        have hbi := best_in hn ⟨ho0, ho1⟩ hov
        simp only [bestA, overA, at2] at hov hbi
        rw [if_pos he] at hH
        (repeat' (first|(refine g_s fun K hK=>?_)|(refine g_b ?_)|(refine g_k ?_;simp only[thenQ,blockQ])|(refine g_c (fun h=>?_) (fun h=>?_)<;>(try simp only[go_sem] at h)<;>(try exact g_f))|((first|refine g_g ?_|refine g_U ?_|refine (edgeOf_calls n i k hl _).use ?_);(try simp -implicitDefEqProofs only[go_sem]))|(with_reducible refine hK _ _ ?_;clear hK K)|(with_reducible refine And.intro ?_ ?_;· exact g_x)|fail))
        refine hL (bestA n out (overA n (edgeOf n i k) (at0 has k))) [] _ _ ⟨hH, by simp only [bestA, overA, at2]; exact hbi⟩ (ALe_of ?_) rfl
        simp -implicitDefEqProofs only [go_sem, bestA, overA]
      · rw [if_neg he] at hH
        (repeat' (first|(refine g_s fun K hK=>?_)|(refine g_b ?_)|(refine g_k ?_;simp only[thenQ,blockQ])|(refine g_c (fun h=>?_) (fun h=>?_)<;>(try simp only[go_sem] at h)<;>(try exact g_f))|((first|refine g_g ?_|refine (edgeOf_calls n i k hl _).use ?_);(try simp -implicitDefEqProofs only[go_sem]))|(with_reducible refine hK _ _ ?_;clear hK K)|(with_reducible refine And.intro ?_ ?_;· exact g_x)|fail))
        refine hL out [] _ _ ⟨hH, ho0, ho1⟩ (ALe_of ?_) rfl
        simp -implicitDefEqProofs only [go_sem]
    · rintro k out τ hk ⟨hH, ho0, ho1⟩ L
      rw [ints_length] at hk
      simp -implicitDefEqProofs only [go_sem]
      (repeat' (first|(refine g_s fun K hK=>?_)|(refine g_e ?_;simp only[thenQ,blockQ,↓reduceIte,Nat.reduceEqDiff])|(refine g_c (fun h=>?_) (fun h=>?_)<;>(try simp only[go_sem] at h)<;>(try exact g_f))|(refine g_g ?_;(try simp -implicitDefEqProofs only[go_sem]))|(with_reducible refine hK _ _ ?_;clear hK K)|fail))
      refine hJ _ _ ?_
      clear hJ
      (repeat' (first|(refine g_s fun K hK=>?_)|((first|refine g_t ?_|refine g_g ?_);(try simp -implicitDefEqProofs only[go_sem]))|(with_reducible refine hK _ _ ?_;clear hK K)|fail))
      refine CutQ_c rfl ?_
      rw [hH]
      rfl
  clear hK
  refine AWP_cond rfl (fun h => ?_) (fun h => ?_)
  · (repeat' (first|(refine g_g ?_;(try simp -implicitDefEqProofs only[go_sem]))|fail))
    refine hR _ (ALe_of ?_)
    simp -implicitDefEqProofs only [go_sem]
    simp_all
  · (repeat' (first|(refine g_k ?_;simp only[thenQ,blockQ])|fail))
    refine hR _ (ALe_of ?_)
    simp -implicitDefEqProofs only [go_sem]
    simp_all
end Go.Proofs.YtephecognbbaoabGreat
namespace Go.Proofs.YtephecognbbaoabGreat
theorem at0_map {X Y : Type} [Inhabited X] [Inhabited Y] (f : X → Y) (l : List X) {k : Int} (h0 : 0 ≤ k) (h : k < l.length) : at0 (l.map f) k = f (at0 l k) := by
  have : k.toNat < l.length := by omega
  simp [at0, List.getD_eq_getElem?_getD, this]
/-- A contract used, whatever it makes. -/
theorem ACalls.useA {P : Program} {f : FuncId} {args : List AV} {σ S : Store} {X : AV} {R : AV → Store → Prop} (h : ACalls P f args σ fun r σ' => σ' = S ∧ r = X) (hr : R X S) : ACalls P f args σ R :=
  h.mono fun _ _ ⟨h1, h2⟩ => by subst h1; subst h2; exact hr
def Ext (σ S : Store) : Prop := ∃ τ, S = σ ++ τ
theorem Ext.a {σ τ : Store} : Ext σ (σ ++ τ) := ⟨τ, rfl⟩
theorem Ext.b {σ τ τ' : Store} : Ext σ ((σ ++ τ) ++ τ') := ⟨τ ++ τ', List.append_assoc ..⟩
theorem set_map (l : List Int) (k : Nat) (v : Int) : (l.map intC).set k [.c (.int .i64 v)] = (l.set k v).map intC := by
  rw [List.map_set]
  rfl
theorem get_map (l : List Int) {k : Int} (h0 : 0 ≤ k) (h : k < l.length) : (l.map intC)[k.toNat]? = some [.c (.int .i64 (at0 l k))] := by
  have : k.toNat < l.length := by omega
  simp [at0, List.getD_eq_getElem?_getD, this, intC]
theorem at0_set (l : List Int) {k q : Int} (v : Int) (h0 : 0 ≤ k) (hq : 0 ≤ q) (h : k < l.length) : at0 (l.set k.toNat v) q = if q = k then v else at0 l q := by
  simp only [at0, List.getD_eq_getElem?_getD, List.getElem?_set]
  by_cases e : q = k
  · subst e
    have : q.toNat < l.length := by omega
    simp [this]
  · have : ¬ k.toNat = q.toNat := by omega
    simp [this, e]
theorem at0_repl (m : Nat) (v : Int) {q : Int} (h0 : 0 ≤ q) (h : q < m) : at0 (List.replicate m v) q = v := by
  have : q.toNat < m := by omega
  simp [at0, List.getD_eq_getElem?_getD, List.getElem?_replicate, this]
theorem look_calls (n : Net) (i : Int) (H : Int → Int → Int) (f : FuncId) (cap : List AV) (σ : Store) (hn : NetIn n) (hl : n.links.length ≤ 5864062014634) (hi0 : 0 ≤ i) (hi1 : i < n.nodes) (hok : callOk Tryz.prog f = true)
    (hH : ∀ k j, 0 ≤ k → k < n.nodes → 0 ≤ j → j < n.nodes → 0 ≤ H k j ∧ H k j < n.alg.size)
    (hf : ∀ k j, 0 ≤ k → k < n.nodes → 0 ≤ j → j < n.nodes → ∀ S, Ext σ S → ACalls Tryz.prog f (intA1 k :: intA1 j :: cap) S fun r σ' => σ' = S ∧ r = intA1 (H k j)) :
    ACalls Tryz.prog 82 [.agg (netC n), intA1 i, .fn f [] cap] σ fun r σ' => σ' = σ ∧ r = intsA ((ints n.nodes).map fun j => routeL n i j (fun k => H k j) n.links) := by
  have n1 := hn.n1
  have n6 := hn.n6
  have s2 := hn.alg.s2
  have s24 := hn.alg.s24
  have hbl := hn.alg.bl
  have hns : n.nodes = 1 ∨ n.nodes = 2 ∨ n.nodes = 3 ∨ n.nodes = 4 ∨ n.nodes = 5 ∨ n.nodes = 6 := by omega
  obtain ⟨row0, hrow0⟩ : ∃ l, l = List.replicate n.nodes.toNat (n.alg.size - 1) := ⟨_, rfl⟩
  have hl0 : (row0.length : Int) = n.nodes := by rw [hrow0, List.length_replicate]; omega
  have hg0 := get_map row0 hi0 (by omega)
  refine ACalls.cutX ?_
  refine ACalls_of_awp Tryz.func82 rfl Tryz.results82 ?_
  simp only [List.length_cons, List.length_nil, Tryz.ntmps82, Nat.reduceAdd, Nat.reduceSub, enterA]
  refine AWP_seq_k fun K hK => ?_
  (refine AWP_region ?_; simp -implicitDefEqProofs only [go_sem])
  refine hK _ _ ?_; clear hK K
  refine AWP_freezeP 3 rfl (by simp only [st0]; rfl) ?_
  simp only [ss0, List.set_cons_zero]
  refine AWP_seq_k fun K hK => ?_
  (refine AWP_region ?_; simp -implicitDefEqProofs only [go_sem])
  refine hK _ _ ?_; clear hK K
  refine AWP_freezeP 7 rfl (by first | rfl | (simp -implicitDefEqProofs only [go_sem]; done) | (simp -implicitDefEqProofs only [go_sem]; rfl)) ?_
  simp -implicitDefEqProofs only [go_sem]
  refine AWP_seq_k fun K hK => ?_
  (refine AWP_drawK 5 tab_mixed (by kernel_rfl) ?_; simp -implicitDefEqProofs only [go_sem])
  (repeat' (first|(refine g_s fun K hK=>?_)|(refine g_b ?_)|((first|refine g_g ?_|refine g_q (fun τ=>invalid_calls n.alg (by unfold I64; omega) _) ?_|refine ACalls.useA (hrow0 ▸ repeat_calls (n.alg.size - 1) n.nodes hns _) ?_);(try simp -implicitDefEqProofs only[go_sem,hg0, set_map]))|(with_reducible refine hK _ _ ?_;clear hK K)|(with_reducible refine And.intro ?_ ?_;· exact g_x)|fail))
  have hJ := hK
  clear hK
  obtain ⟨row1, hrow1⟩ : ∃ l, l = row0.set i.toNat 0 := ⟨_, rfl⟩
  rw [← hrow1]
  have hl1 : (row1.length : Int) = n.nodes := by rw [hrow1, List.length_set]; exact hl0
  have hr1 : ∀ q, 0 ≤ q → q < n.nodes → at0 row1 q = if i = q then 0 else n.alg.size - 1 := fun q h0 h1 => by
    rw [hrow1, at0_set row0 0 hi0 h0 (by omega)]
    by_cases e : q = i
    · rw [if_pos e, if_pos e.symm]
    · rw [if_neg e, if_neg (fun e2 => e e2.symm), hrow0, at0_repl _ _ h0 (by omega)]
  refine AWP_each n.links (fun _ r (row : List Int) => (row.length : Int) = n.nodes ∧ ∀ q, 0 ≤ q → q < n.nodes → routeL n i q (fun k => H k q) n.links = r.foldl (fun out l => if l.fr = i then bestA n out (overA n l.edge (H l.dst q)) else out) (at0 row q) ∧ 0 ≤ at0 row q ∧ at0 row q < n.alg.size)
    (fun k _ _ => [(26, intA1 k)]) (fun _ row τ => σ ++ (.dead :: .dead :: .cells 1 (row.map intC) :: τ)) row1 [] ⟨hl1, fun q h0 h1 => ⟨by rw [hr1 q h0 h1]; rfl, by rw [hr1 q h0 h1]; split <;> omega⟩⟩ rfl (ALe_of ?_) ?_ ?_
  · simp -implicitDefEqProofs only [go_sem]
  · rintro k r row τ hk0 hk1 ⟨hrl, hq⟩ L hL
    have hmem := at0_mem n.links hk0 hk1
    obtain ⟨l, hla⟩ : ∃ l, at0 n.links k = l := ⟨_, rfl⟩
    rw [hla] at hq hmem
    have hlk := hn.lnk l hmem
    have hd0 := hlk.d0
    have hd1 := hlk.d1
    have he0 := hlk.e0
    have he1 := hlk.e1
    simp -implicitDefEqProofs only [go_sem]
    by_cases he : l.fr = i
    · (repeat' (first|(refine g_s fun K hK=>?_)|(refine g_b ?_)|(refine g_k ?_;simp only[thenQ,blockQ])|(refine g_c (fun h=>?_) (fun h=>?_)<;>(try simp only[go_sem] at h)<;>(try exact g_f))|(refine g_g ?_;(try simp -implicitDefEqProofs only[go_sem,hla]))|(with_reducible refine hK _ _ ?_;clear hK K)|(with_reducible refine And.intro ?_ ?_;· exact g_x)|fail))
      have hJ2 := hK
      clear hK
      refine AWP_for n.nodes (fun j (rw' : List Int) => (rw'.length : Int) = n.nodes ∧ ∀ q, 0 ≤ q → q < n.nodes → at0 rw' q = if q < j then bestA n (at0 row q) (overA n l.edge (H l.dst q)) else at0 row q) (fun j _ _ => [(36, intA1 j)])
        (fun _ rw' τ2 => σ ++ (.dead :: .dead :: .cells 1 (rw'.map intC) :: (τ ++ .cells 3 [lnkC l] :: τ2))) row [] (by omega) ⟨hrl, fun q h0 h1 => by rw [if_neg (by omega)]⟩ (by simp [lnkC, intA1]) (ALe_of ?_) ?_
      · simp -implicitDefEqProofs only [go_sem]
      · rintro j rw' τ2 hj0 hj1 ⟨hrl2, hA⟩ L2 hL2
        by_cases hj2 : j < n.nodes
        · have hold := hA j hj0 hj2
          rw [if_neg (by omega)] at hold
          have hrg := (hq j hj0 hj2).2
          rw [← hold] at hrg
          have hHr := hH l.dst j hd0 hd1 hj0 hj2
          have hov := over_in hn ⟨he0, he1⟩ hHr
          have hbi := best_in hn hrg hov
          have hbr := hn.alg.best_len hrg.1 hrg.2
          have her := hn.alg.edge_len he0 he1
          have hg := get_map rw' hj0 (by omega)
          simp only [bestA, overA, at2] at hov hbi
          simp -implicitDefEqProofs only [go_sem]
          (repeat' (first|(refine g_s fun K hK=>?_)|(refine g_b ?_)|(refine g_k ?_;simp only[thenQ,blockQ])|(refine g_c (fun h=>?_) (fun h=>?_)<;>(try simp only[go_sem] at h)<;>(try exact g_f))|((first|refine g_g ?_|refine g_U ?_|refine g_q (fun τ=>hf l.dst j hd0 hd1 hj0 hj2 _ Ext.b) ?_);(try simp -implicitDefEqProofs only[go_sem,hg, set_map]))|(with_reducible refine hK _ _ ?_;clear hK K)|(with_reducible refine And.intro ?_ ?_;· exact g_x)|fail))
          refine hL2 hj2 (rw'.set j.toNat (at0 (at0 n.alg.best (at0 rw' j)) (at0 (at0 n.alg.edges l.edge) (H l.dst j)))) τ2 _ _ ⟨by rw [List.length_set]; exact hrl2, fun q h0 h1 => ?_⟩ (ALe_of ?_) rfl
          · rw [at0_set rw' _ hj0 h0 (by omega)]
            by_cases e : q = j
            · rw [if_pos e, if_pos (by omega), e, ← hold]
              rfl
            · rw [if_neg e, hA q h0 h1]
              by_cases e2 : q < j
              · rw [if_pos e2, if_pos (by omega)]
              · rw [if_neg e2, if_neg (by omega)]
          · simp -implicitDefEqProofs only [go_sem]
        · simp -implicitDefEqProofs only [go_sem]
          (repeat' (first|(refine g_s fun K hK=>?_)|(refine g_e ?_;simp only[thenQ,blockQ,↓reduceIte,Nat.reduceEqDiff])|(refine g_c (fun h=>?_) (fun h=>?_)<;>(try simp only[go_sem] at h)<;>(try exact g_f))|(refine g_g ?_;(try simp -implicitDefEqProofs only[go_sem]))|(with_reducible refine hK _ _ ?_;clear hK K)|fail))
          refine hJ2 _ _ ?_
          clear hJ2
          (repeat' (first|(refine g_g ?_;(try simp -implicitDefEqProofs only[go_sem]))|(with_reducible refine And.intro ?_ ?_;· exact g_x)|fail))
          refine hL rw' (τ ++ .cells 3 [lnkC l] :: τ2) _ _ ⟨hrl2, fun q h0 h1 => ?_⟩ (ALe_of ?_) (by simp [lnkC, intA1])
          · have h3 := hq q h0 h1
            have h4 := hA q h0 h1
            rw [if_pos (by omega)] at h4
            rw [List.foldl_cons, if_pos he] at h3
            rw [h4]
            exact ⟨h3.1, best_in hn h3.2 (over_in hn ⟨he0, he1⟩ (hH l.dst q hd0 hd1 h0 h1))⟩
          · simp -implicitDefEqProofs only [go_sem]
    · (repeat' (first|(refine g_s fun K hK=>?_)|(refine g_b ?_)|(refine g_k ?_;simp only[thenQ,blockQ])|(refine g_e ?_;simp only[thenQ,blockQ,↓reduceIte,Nat.reduceEqDiff])|(refine g_c (fun h=>?_) (fun h=>?_)<;>(try simp only[go_sem] at h)<;>(try exact g_f))|(refine g_g ?_;(try simp -implicitDefEqProofs only[go_sem,hla]))|(with_reducible refine hK _ _ ?_;clear hK K)|(clear hK K;first|(with_reducible refine hK _ _ ?_;clear hK K)|(clear hK K;with_reducible refine hK _ _ ?_;clear hK K)|(clear hK K;clear hK K;with_reducible refine hK _ _ ?_;clear hK K))|(with_reducible refine And.intro ?_ ?_;· exact g_x)|fail))
      refine hL row (τ ++ [.cells 3 [lnkC l]]) _ _ ⟨hrl, fun q h0 h1 => ?_⟩ (ALe_of ?_) (by simp [lnkC, intA1])
      · have h3 := hq q h0 h1
        rw [List.foldl_cons, if_neg he] at h3
        exact h3
      · simp -implicitDefEqProofs only [go_sem]
  · rintro k row τ hk ⟨hrl, hq⟩ L
    simp -implicitDefEqProofs only [go_sem]
    (repeat' (first|(refine g_s fun K hK=>?_)|(refine g_e ?_;simp only[thenQ,blockQ,↓reduceIte,Nat.reduceEqDiff])|(refine g_c (fun h=>?_) (fun h=>?_)<;>(try simp only[go_sem] at h)<;>(try exact g_f))|(refine g_g ?_;(try simp -implicitDefEqProofs only[go_sem]))|(with_reducible refine hK _ _ ?_;clear hK K)|fail))
    refine hJ _ _ ?_
    clear hJ
    refine AWP_freezeT 8 (a := .own (σ.length + 2) 1 0 n.nodes.toNat n.nodes.toNat) (es := row.map intC) (by first | rfl | (simp -implicitDefEqProofs only [go_sem]; done) | (simp -implicitDefEqProofs only [go_sem]; rfl)) (by simp [elemsA, st1]; omega) ?_
    have hkil : killA (σ ++ (.dead :: .dead :: .cells 1 (row.map intC) :: τ)) (.own (σ.length + 2) 1 0 n.nodes.toNat n.nodes.toNat) = σ ++ (.dead :: .dead :: .dead :: τ) := by simp [killA]
    rw [hkil]
    (repeat' (first|(refine g_s fun K hK=>?_)|((first|refine g_t ?_|refine g_g ?_);(try simp -implicitDefEqProofs only[go_sem]))|(with_reducible refine hK _ _ ?_;clear hK K)|fail))
    have hrow : row = (ints n.nodes).map fun j => routeL n i j (fun k => H k j) n.links := by
      refine at0_eq (by rw [List.length_map, ints_length]; omega) fun q h0 h1 => ?_
      rw [at0_map _ _ h0 (by rw [ints_length]; omega), at0_ints h0 (by omega), (hq q h0 (by omega)).1]
      rfl
    rw [← hrow]
    exact CutQ_w rfl (Bd.ints _) (.eq rfl)
end Go.Proofs.YtephecognbbaoabGreat
namespace Go.Proofs.YtephecognbbaoabGreat
def beginRow (n : Net) (i : Int) : List Int := (ints n.nodes).map fun j => if i = j then 0 else n.alg.size - 1
theorem trivial_calls (n : Net) (hn : NetIn n) (σ : Store) : ACalls Tryz.prog 16 [.agg (netC n)] σ fun r σ' => σ' = σ ∧ r = rowsC (beginA n) := by
  have n1 := hn.n1
  have n6 := hn.n6
  have s2 := hn.alg.s2
  have s24 := hn.alg.s24
  have hns : n.nodes = 1 ∨ n.nodes = 2 ∨ n.nodes = 3 ∨ n.nodes = 4 ∨ n.nodes = 5 ∨ n.nodes = 6 := by omega
  refine ACalls.cutX ?_
  refine ACalls_of_awp Tryz.func16 rfl Tryz.results16 ?_
  simp only [List.length_cons, List.length_nil, Tryz.ntmps16, Nat.reduceAdd, Nat.reduceSub, enterA]
  refine AWP_seq_k fun K hK => ?_
  (refine AWP_region ?_; simp -implicitDefEqProofs only [go_sem])
  refine hK _ _ ?_; clear hK K
  refine AWP_freezeP 1 rfl (by simp only [st0]; rfl) ?_
  simp only [ss0, List.set_cons_zero]
  (repeat' (first|(refine g_s fun K hK=>?_)|(refine g_b ?_)|(refine g_G ?_;(try simp -implicitDefEqProofs only[go_sem]))|(with_reducible refine hK _ _ ?_;clear hK K)|fail))
  refine AWP_pad ?_
  have hJ := hK
  clear hK
  refine AWP_each (ints n.nodes) (fun i r acc => acc ++ r.map (beginRow n) = beginA n) (fun i acc τ => [(8, intA1 i), (3, accV 1 (σ.length + (τ.length + 1)) acc)]) (fun _ acc τ => σ ++ (.dead :: (τ ++ [accO rowC 1 acc]))) [] [] rfl ?_ (ALe_of ?_) ?_ ?_
  · simp [accO]
  · simp -implicitDefEqProofs only [go_sem, accV, accO]
  · rintro i r acc τ hi0 hi1 h3 L hL
    rw [ints_length] at hi1
    rw [at0_ints hi0 (by omega)] at h3
    have hal : acc.length + 1 ≤ 6 := by have := congrArg List.length h3; simp [beginA, ints_length] at this; omega
    obtain ⟨row0, hrow0⟩ : ∃ l, l = List.replicate n.nodes.toNat (n.alg.size - 1) := ⟨_, rfl⟩
    have hl0 : (row0.length : Int) = n.nodes := by rw [hrow0, List.length_replicate]; omega
    have hg0 := get_map row0 hi0 (by omega)
    have hrow : row0.set i.toNat 0 = beginRow n i := by
      refine at0_eq (by rw [List.length_set, beginRow, List.length_map, ints_length]; omega) fun q h0 h1 => ?_
      rw [List.length_set] at h1
      rw [at0_set row0 0 hi0 h0 (by omega), beginRow, at0_map _ _ h0 (by rw [ints_length]; omega), at0_ints h0 (by omega)]
      by_cases e : q = i
      · rw [if_pos e, if_pos e.symm]
      · rw [if_neg e, if_neg (fun e2 => e e2.symm), hrow0, at0_repl _ _ h0 (by omega)]
    have hrl : (beginRow n i).length = n.nodes.toNat := by rw [beginRow, List.length_map, ints_length]
    rcases acc with _ | ⟨y, acc⟩ <;> simp only [List.length_cons, List.length_nil] at hal <;> simp -implicitDefEqProofs only [go_sem, accV, accO]
    · (repeat' (first|(refine g_s fun K hK=>?_)|(refine g_b ?_)|(refine g_k ?_;simp only[thenQ,blockQ])|(refine g_c (fun h=>?_) (fun h=>?_)<;>(try simp only[go_sem] at h)<;>(try exact g_f))|(refine g_G ?_;(try simp -implicitDefEqProofs only[go_sem]))|(with_reducible refine hK _ _ ?_;clear hK K)|fail))
      have hJ5 := hK
      clear hK
      (refine AWP_drawK 6 tab_mixed (by kernel_rfl) ?_; simp -implicitDefEqProofs only [go_sem])
      (repeat' (first|((first|refine g_q (fun τ=>invalid_calls n.alg (by unfold I64; omega) _) ?_|refine ACalls.useA (hrow0 ▸ repeat_calls (n.alg.size - 1) n.nodes hns _) ?_);(try simp -implicitDefEqProofs only[go_sem]))|fail))
      refine hJ5 _ _ ?_
      clear hJ5
      refine AWP_seq_k fun K hK => ?_
      have hJ6 := hK
      clear hK
      (repeat' (first|(refine g_G ?_;(try simp -implicitDefEqProofs only[go_sem,hg0, set_map]))|(with_reducible refine And.intro ?_ ?_;· exact g_x)|fail))
      refine hJ6 _ _ ?_
      clear hJ6
      rw [hrow]
      refine AWP_freezeT 5 (a := .own (σ.length + (τ.length + 2)) 1 0 n.nodes.toNat n.nodes.toNat) (es := (beginRow n i).map intC) (by first | rfl | (simp -implicitDefEqProofs only [go_sem]; done) | (simp -implicitDefEqProofs only [go_sem]; rfl)) (by simp [elemsA, st1, sc1, hrl]) ?_
      have hkil : killA (σ ++ (.dead :: (τ ++ [.dead, .cells 1 ((beginRow n i).map intC)]))) (.own (σ.length + (τ.length + 2)) 1 0 n.nodes.toNat n.nodes.toNat) = σ ++ (.dead :: (τ ++ [.dead, .dead])) := by simp [killA, ss1c]
      rw [hkil]
      (repeat' (first|(refine g_G ?_;(try simp -implicitDefEqProofs only[go_sem]))|(with_reducible refine hK _ _ ?_;clear hK K)|(with_reducible refine And.intro ?_ ?_;· exact g_x)|fail))
      refine hL ([beginRow n i]) (τ ++ [.dead, .dead]) _ _ (by simpa using h3) (ALe_of ?_) ?_
      · simp -implicitDefEqProofs only [go_sem, accV]
      · simp [accO, rowC, intsA]
    · (repeat' (first|(refine g_s fun K hK=>?_)|(refine g_b ?_)|(refine g_k ?_;simp only[thenQ,blockQ])|(refine g_c (fun h=>?_) (fun h=>?_)<;>(try simp only[go_sem] at h)<;>(try exact g_f))|(refine g_G ?_;(try simp -implicitDefEqProofs only[go_sem]))|(with_reducible refine hK _ _ ?_;clear hK K)|fail))
      have hJ5 := hK
      clear hK
      (refine AWP_drawK 6 tab_mixed (by kernel_rfl) ?_; simp -implicitDefEqProofs only [go_sem])
      (repeat' (first|((first|refine g_q (fun τ=>invalid_calls n.alg (by unfold I64; omega) _) ?_|refine ACalls.useA (hrow0 ▸ repeat_calls (n.alg.size - 1) n.nodes hns _) ?_);(try simp -implicitDefEqProofs only[go_sem]))|fail))
      refine hJ5 _ _ ?_
      clear hJ5
      refine AWP_seq_k fun K hK => ?_
      have hJ6 := hK
      clear hK
      (repeat' (first|(refine g_G ?_;(try simp -implicitDefEqProofs only[go_sem,hg0, set_map]))|(with_reducible refine And.intro ?_ ?_;· exact g_x)|fail))
      refine hJ6 _ _ ?_
      clear hJ6
      rw [hrow]
      refine AWP_freezeT 5 (a := .own (σ.length + (τ.length + 2)) 1 0 n.nodes.toNat n.nodes.toNat) (es := (beginRow n i).map intC) (by first | rfl | (simp -implicitDefEqProofs only [go_sem]; done) | (simp -implicitDefEqProofs only [go_sem]; rfl)) (by simp [elemsA, st1, sc1, hrl]) ?_
      have hkil : killA (σ ++ (.dead :: (τ ++ [.cells 1 ((y :: acc).map rowC), .cells 1 ((beginRow n i).map intC)]))) (.own (σ.length + (τ.length + 2)) 1 0 n.nodes.toNat n.nodes.toNat) = σ ++ (.dead :: (τ ++ [.cells 1 ((y :: acc).map rowC), .dead])) := by simp [killA, ss1c]
      rw [hkil]
      (repeat' (first|(refine g_G ?_;(try simp -implicitDefEqProofs only[go_sem]))|(with_reducible refine hK _ _ ?_;clear hK K)|(with_reducible refine And.intro ?_ ?_;· exact g_x)|fail))
      refine hL (y :: acc ++ [beginRow n i]) (τ ++ [.dead, .dead]) _ _ (by simpa using h3) (ALe_of ?_) ?_
      · simp -implicitDefEqProofs only [go_sem, accV]
      · simp [accO, rowC, intsA]
  · rintro i acc τ hi h3 L
    rw [ints_length] at hi
    rw [List.map_nil, List.append_nil] at h3
    simp -implicitDefEqProofs only [go_sem]
    (repeat' (first|(refine g_s fun K hK=>?_)|(refine g_e ?_;simp only[thenQ,blockQ,↓reduceIte,Nat.reduceEqDiff])|(refine g_c (fun h=>?_) (fun h=>?_)<;>(try simp only[go_sem] at h)<;>(try exact g_f))|(refine g_g ?_;(try simp -implicitDefEqProofs only[go_sem]))|(with_reducible refine hK _ _ ?_;clear hK K)|fail))
    refine hJ _ _ ?_
    clear hJ
    have est : σ ++ (.dead :: (τ ++ [accO rowC 1 acc])) = σ ++ ((.dead :: τ) ++ accO rowC 1 acc :: []) := by simp
    rw [est]
    refine AWP_freezeAcc 3 rowC 1 acc σ (.dead :: τ) [] (by simp [look, Nat.add_assoc]) ?_
    (repeat' (first|(refine g_s fun K hK=>?_)|((first|refine g_t ?_|refine g_G ?_);(try simp -implicitDefEqProofs only[go_sem]))|(with_reducible refine hK _ _ ?_;clear hK K)|fail))
    rw [h3]
    exact CutQ_w rfl (Bd.rows _) (.eq rfl)
def twoN : Net := ⟨hopsX, 2, [⟨0, 1, 0⟩, ⟨1, 0, 0⟩]⟩
theorem twoN_ok : NetOk twoN := ⟨⟨by decide, by decide, by unfold I64; decide, by decide⟩, by unfold I64; decide, by decide, by unfold I64; decide⟩
theorem netC_bd {m : Nat} (n : Net) : Bd m (.agg (netC n)) := .aggL (.cons (.c _) (.cons (.rows _) (.cons (.rows _) (.cons (.c _) (.cons (.slL (fun _ => .cons (.c _) (.cons (.c _) (.cons (.c _) .nil))) _) .nil)))))
theorem two_calls (σ : Store) : ACalls Tryz.prog 34 [] σ fun r σ' => σ' = σ ∧ r = .agg (netC twoN) := by
  refine ACalls.cutX ?_
  refine ACalls_of_awp Tryz.func34 rfl Tryz.results34 ?_
  simp only [List.length_cons, List.length_nil, Tryz.ntmps34, Nat.reduceAdd, Nat.reduceSub, enterA]
  (repeat' (first|(refine g_s fun K hK=>?_)|((first|refine g_t ?_|refine g_G ?_|refine (hops_calls _).use ?_);(try simp -implicitDefEqProofs only[go_sem,hopsX]))|(with_reducible refine hK _ _ ?_;clear hK K)|fail))
  refine CutQ_w rfl (netC_bd twoN) (.eq rfl)
end Go.Proofs.YtephecognbbaoabGreat
