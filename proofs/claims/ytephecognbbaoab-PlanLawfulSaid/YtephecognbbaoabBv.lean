/- Plans: the law PlanLawful, walked. -/
import Derived.Test.YtephecognbbaoabBu
namespace Go.Proofs.Ytephecognbbaoab
open Go
set_option linter.all false
set_option maxRecDepth 100000
set_option maxHeartbeats 4000000

theorem built_ok (p : Pl) : AlgOk (builtP p).1 := by
  unfold builtP
  by_cases h : errP p = 0
  · rw [if_pos h]
    have hr := right_built h
    have h1 := hr.s2
    have h2 := hr.s24
    have h3 := hr.e8
    have h4 := hr.bl
    exact ⟨by show (buildP p).best.length ≤ _; omega, by show (buildP p).edges.length ≤ _; omega, by unfold I64; show _ ≤ (buildP p).size ∧ (buildP p).size ≤ _; omega, fun r hr' => by have := hr.row r hr'; omega⟩
  · rw [if_neg h]
    show AlgOk ⟨0, [], []⟩
    exact ⟨by decide, by decide, by unfold I64; decide, by decide⟩

theorem planLawful_calls (p : Pl) (ok : PlOk p) (σ : Store) : ACalls Try.prog 3 [.agg (plC p)] σ fun r σ' => σ' = σ ∧ r = .c (.bool true) := by
  have hB := planBuild_calls p ok
  have hL := laws_calls (builtP p).1 (built_ok p)
  have hS := strict_calls (builtP p).1 (built_ok p)
  refine ACalls.cutX ?_
  by_cases he : errP p = 0
  · have hr := right_built he
    have hc0 : checkA (buildP p) = 0 := right_iff.2 hr
    have hb : builtP p = (buildP p, 0) := by rw [builtP, if_pos he]
    rw [hb] at hB hL hS
    have l7 : lawsA (buildP p) seven = (zeroB, 0) := by rw [lawsA, if_neg (not_not_intro hc0), seven_built he]
    have l8 : lawsA (buildP p) [8] = (brokenA (buildP p) [8], 0) := by rw [lawsA, if_neg (not_not_intro hc0)]
    simp only at hL hS
    rw [l7] at hL
    rw [l8] at hS
    have hk1 := strict_hops he
    have hk3 := strict_pairs he
    obtain ⟨A, hA⟩ : ∃ A, buildP p = A := ⟨_, rfl⟩
    rw [hA] at hB hL hS hk1 hk3
    obtain ⟨b8, hb8⟩ : ∃ b, brokenA A [8] = b := ⟨_, rfl⟩
    rw [hb8] at hS hk1 hk3
    obtain ⟨k, n, e, ps⟩ := p
    have hk1 : k = 1 → b8 = zeroB := hk1
    have hk3 : k = 3 → (∃ x ∈ ps, (brokenA (buildP x) [8]).law = 0) → b8 = zeroB := hk3
    obtain ⟨law, ba, bb, bc, be⟩ := b8
    rw [plC_mk] at hB ⊢
    cases ok with
    | mk _ _ _ _ hki hn hel hev hpl hp =>
    refine ACalls_of_awp Try.func3 rfl Try.results3 ?_
    simp only [List.length_cons, List.length_nil, Try.ntmps3, Nat.reduceAdd, Nat.reduceSub, enterA]
    refine AWP_seq_k fun K hK => ?_
    (refine AWP_region ?_; simp -implicitDefEqProofs only [go_sem])
    refine hK _ _ ?_; clear hK K
    refine AWP_freezeP 1 rfl (by simp only [st0]; rfl) ?_
    simp only [ss0, List.set_cons_zero]
    (repeat' (first|(refine g_s fun K hK=>?_)|(refine g_b ?_)|(refine g_r ?_)|(refine g_k ?_;simp only[thenQ,blockQ])|(refine g_e ?_;simp only[thenQ,blockQ,↓reduceIte,Nat.reduceEqDiff])|(refine g_c (fun h=>?_) (fun h=>?_)<;>(try simp only[go_sem] at h)<;>(try exact g_f))|((first|refine g_t ?_|refine g_g ?_|refine g_U ?_|refine g_A ?_|refine (planBegun_calls _).use ?_|refine g_q (fun τ=>planBegun_calls _) ?_|refine (algebraBegun_calls _).use ?_|refine g_q (fun τ=>algebraBegun_calls _) ?_|refine (hB _).use ?_|refine g_q (fun τ=>hB _) ?_|refine (hL _).use ?_|refine g_q (fun τ=>hL _) ?_|refine (hS _).use ?_|refine g_q (fun τ=>hS _) ?_|refine g_W ?_);(try simp -implicitDefEqProofs only[go_sem,builtC, algC, zeroB]))|(with_reducible refine hK _ _ ?_;clear hK K)|(clear hK K;first|(with_reducible refine hK _ _ ?_;clear hK K)|(clear hK K;with_reducible refine hK _ _ ?_;clear hK K)|(clear hK K;clear hK K;with_reducible refine hK _ _ ?_;clear hK K))|(with_reducible refine splitB_intro (fun h=>?_) (fun h=>?_)<;>(try simp only[go_sem] at h)<;>(try exact g_f)<;>(try simp -implicitDefEqProofs only[go_sem,builtC, algC, zeroB]))|(with_reducible refine And.intro (fun h=>?_) (fun h=>?_)<;>(try simp only[go_sem] at h)<;>(try exact g_f))|(with_reducible refine And.intro ?_ ?_;· exact g_x)|(with_reducible intro h;(try simp only[go_sem] at h);(try exact g_f))))
    have hJ := hK
    clear hK
    by_cases h3 : k = 3
    · subst h3
      refine AWP_each ps (fun _ _ (h : Bool) => h = true → law = 0) (fun q h _ => [(9, intA1 q), (8, .c (.bool h))]) (fun _ _ τ => σ ++ (.dead :: .cells 3 [algC A] :: .cells 5 [brkC zeroB] :: .cells 5 [brkC ⟨law, ba, bb, bc, be⟩] :: τ)) false [] (fun h => by cases h) rfl (ALe_of ?_) ?_ ?_
      · simp -implicitDefEqProofs only [go_sem]
        rfl
      · rintro q r h τ hq0 hq1 hH L hL2
        have hmem := at0_mem ps hq0 hq1
        obtain ⟨x, hx⟩ : ∃ x, at0 ps q = x := ⟨_, rfl⟩
        rw [hx] at hmem
        have hBx := planBuild_calls x (hp x hmem)
        have hSx := strict_calls (builtP x).1 (built_ok x)
        have hfin : (builtP x).2 = 0 → (lawsA (builtP x).1 [8]).2 = 0 → (lawsA (builtP x).1 [8]).1.law = 0 → law = 0 := fun g1 g2 g3 => by
          have hex : errP x = 0 := by
            apply Classical.byContradiction
            intro hne
            rw [builtP, if_neg hne] at g1
            exact hne g1
          have hbx : builtP x = (buildP x, 0) := by rw [builtP, if_pos hex]
          rw [hbx] at g3
          have hcx : checkA (buildP x) = 0 := right_iff.2 (right_built hex)
          have hlx : lawsA (buildP x) [8] = (brokenA (buildP x) [8], 0) := by rw [lawsA, if_neg (not_not_intro hcx)]
          simp only [hlx] at g3
          have := hk3 rfl ⟨x, hmem, g3⟩
          exact congrArg Brk.law this
        obtain ⟨⟨a, e1⟩, hax⟩ : ∃ ae, builtP x = ae := ⟨_, rfl⟩
        rw [hax] at hBx hSx hfin
        simp only at hSx hfin
        obtain ⟨⟨⟨l1, a1, b1, c1, d1⟩, e2⟩, hlx⟩ : ∃ be, lawsA a [8] = be := ⟨_, rfl⟩
        rw [hlx] at hSx hfin
        simp only at hSx hfin
        obtain ⟨k', n', e', ps'⟩ := x
        rw [plC_mk] at hBx
        simp -implicitDefEqProofs only [go_sem, zeroB]
        cases h
        · by_cases g1 : e1 = 0
          · by_cases g2 : e2 = 0
            · subst g1
              subst g2
              (repeat' (first|(refine g_s fun K hK=>?_)|(refine g_b ?_)|(refine g_r ?_)|(refine g_k ?_;simp only[thenQ,blockQ])|(refine g_e ?_;simp only[thenQ,blockQ,↓reduceIte,Nat.reduceEqDiff])|(refine g_c (fun h=>?_) (fun h=>?_)<;>(try simp only[go_sem] at h)<;>(try exact g_f))|((first|refine g_t ?_|refine g_g ?_|refine g_U ?_|refine g_A ?_|refine (hBx _).use ?_|refine g_q (fun τ=>hBx _) ?_|refine (hSx _).use ?_|refine g_q (fun τ=>hSx _) ?_|refine g_W ?_);(try simp -implicitDefEqProofs only[go_sem,hx, builtC, algC, zeroB]))|(with_reducible refine hK _ _ ?_;clear hK K)|(clear hK K;first|(with_reducible refine hK _ _ ?_;clear hK K)|(clear hK K;with_reducible refine hK _ _ ?_;clear hK K)|(clear hK K;clear hK K;with_reducible refine hK _ _ ?_;clear hK K))|(with_reducible refine splitB_intro (fun h=>?_) (fun h=>?_)<;>(try simp only[go_sem] at h)<;>(try exact g_f)<;>(try simp -implicitDefEqProofs only[go_sem,hx, builtC, algC, zeroB]))|(with_reducible refine And.intro (fun h=>?_) (fun h=>?_)<;>(try simp only[go_sem] at h)<;>(try exact g_f))|(with_reducible refine And.intro ?_ ?_;· exact g_x)|(with_reducible intro h;(try simp only[go_sem] at h);(try exact g_f))))
              refine hL2 (l1 == 0) (τ ++ [.cells 3 [algC a], .cells 5 [brkC ⟨l1, a1, b1, c1, d1⟩]]) _ _ (fun g => hfin rfl rfl (by simpa using g)) (ALe_of ?_) ?_
              · simp -implicitDefEqProofs only [go_sem]
              · simp [algC, brkC, zeroB, intA1, rowsC]
            · subst g1
              (repeat' (first|(refine g_s fun K hK=>?_)|(refine g_b ?_)|(refine g_r ?_)|(refine g_k ?_;simp only[thenQ,blockQ])|(refine g_e ?_;simp only[thenQ,blockQ,↓reduceIte,Nat.reduceEqDiff])|(refine g_c (fun h=>?_) (fun h=>?_)<;>(try simp only[go_sem] at h)<;>(try exact g_f))|((first|refine g_t ?_|refine g_g ?_|refine g_U ?_|refine g_A ?_|refine (hBx _).use ?_|refine g_q (fun τ=>hBx _) ?_|refine (hSx _).use ?_|refine g_q (fun τ=>hSx _) ?_|refine g_W ?_);(try simp -implicitDefEqProofs only[go_sem,hx, builtC, algC, zeroB, g2]))|(with_reducible refine hK _ _ ?_;clear hK K)|(clear hK K;first|(with_reducible refine hK _ _ ?_;clear hK K)|(clear hK K;with_reducible refine hK _ _ ?_;clear hK K)|(clear hK K;clear hK K;with_reducible refine hK _ _ ?_;clear hK K))|(with_reducible refine splitB_intro (fun h=>?_) (fun h=>?_)<;>(try simp only[go_sem] at h)<;>(try exact g_f)<;>(try simp -implicitDefEqProofs only[go_sem,hx, builtC, algC, zeroB, g2]))|(with_reducible refine And.intro (fun h=>?_) (fun h=>?_)<;>(try simp only[go_sem] at h)<;>(try exact g_f))|(with_reducible refine And.intro ?_ ?_;· exact g_x)|(with_reducible intro h;(try simp only[go_sem] at h);(try exact g_f))))
              refine hL2 false (τ ++ [.cells 3 [algC a], .cells 5 [brkC ⟨l1, a1, b1, c1, d1⟩]]) _ _ (fun g => by cases g) (ALe_of ?_) ?_
              · simp -implicitDefEqProofs only [go_sem]
              · simp [algC, brkC, zeroB, intA1, rowsC]
          · (repeat' (first|(refine g_s fun K hK=>?_)|(refine g_b ?_)|(refine g_r ?_)|(refine g_k ?_;simp only[thenQ,blockQ])|(refine g_e ?_;simp only[thenQ,blockQ,↓reduceIte,Nat.reduceEqDiff])|(refine g_c (fun h=>?_) (fun h=>?_)<;>(try simp only[go_sem] at h)<;>(try exact g_f))|((first|refine g_t ?_|refine g_g ?_|refine g_U ?_|refine g_A ?_|refine (hBx _).use ?_|refine g_q (fun τ=>hBx _) ?_|refine (hSx _).use ?_|refine g_q (fun τ=>hSx _) ?_|refine g_W ?_);(try simp -implicitDefEqProofs only[go_sem,hx, builtC, algC, zeroB, g1]))|(with_reducible refine hK _ _ ?_;clear hK K)|(clear hK K;first|(with_reducible refine hK _ _ ?_;clear hK K)|(clear hK K;with_reducible refine hK _ _ ?_;clear hK K)|(clear hK K;clear hK K;with_reducible refine hK _ _ ?_;clear hK K))|(with_reducible refine splitB_intro (fun h=>?_) (fun h=>?_)<;>(try simp only[go_sem] at h)<;>(try exact g_f)<;>(try simp -implicitDefEqProofs only[go_sem,hx, builtC, algC, zeroB, g1]))|(with_reducible refine And.intro (fun h=>?_) (fun h=>?_)<;>(try simp only[go_sem] at h)<;>(try exact g_f))|(with_reducible refine And.intro ?_ ?_;· exact g_x)|(with_reducible intro h;(try simp only[go_sem] at h);(try exact g_f))))
            refine hL2 false (τ ++ [.cells 3 [algC a], .cells 5 [brkC ⟨l1, a1, b1, c1, d1⟩]]) _ _ (fun g => by cases g) (ALe_of ?_) ?_
            · simp -implicitDefEqProofs only [go_sem]
            · simp [algC, brkC, zeroB, intA1, rowsC]
        · (repeat' (first|(refine g_s fun K hK=>?_)|(refine g_b ?_)|(refine g_r ?_)|(refine g_k ?_;simp only[thenQ,blockQ])|(refine g_e ?_;simp only[thenQ,blockQ,↓reduceIte,Nat.reduceEqDiff])|(refine g_c (fun h=>?_) (fun h=>?_)<;>(try simp only[go_sem] at h)<;>(try exact g_f))|((first|refine g_t ?_|refine g_g ?_|refine g_U ?_|refine g_A ?_|refine (hBx _).use ?_|refine g_q (fun τ=>hBx _) ?_|refine (hSx _).use ?_|refine g_q (fun τ=>hSx _) ?_|refine g_W ?_);(try simp -implicitDefEqProofs only[go_sem,hx, builtC, algC, zeroB]))|(with_reducible refine hK _ _ ?_;clear hK K)|(clear hK K;first|(with_reducible refine hK _ _ ?_;clear hK K)|(clear hK K;with_reducible refine hK _ _ ?_;clear hK K)|(clear hK K;clear hK K;with_reducible refine hK _ _ ?_;clear hK K))|(with_reducible refine splitB_intro (fun h=>?_) (fun h=>?_)<;>(try simp only[go_sem] at h)<;>(try exact g_f)<;>(try simp -implicitDefEqProofs only[go_sem,hx, builtC, algC, zeroB]))|(with_reducible refine And.intro (fun h=>?_) (fun h=>?_)<;>(try simp only[go_sem] at h)<;>(try exact g_f))|(with_reducible refine And.intro ?_ ?_;· exact g_x)|(with_reducible intro h;(try simp only[go_sem] at h);(try exact g_f))))
          refine hL2 true (τ ++ [.cells 3 [algC a], .cells 5 [brkC ⟨l1, a1, b1, c1, d1⟩]]) _ _ (fun _ => hH rfl) (ALe_of ?_) ?_
          · simp -implicitDefEqProofs only [go_sem]
          · simp [algC, brkC, zeroB, intA1, rowsC]
      · rintro q h τ hq hH L
        simp -implicitDefEqProofs only [go_sem, zeroB]
        cases h
        · (repeat' (first|(refine g_s fun K hK=>?_)|(refine g_b ?_)|(refine g_r ?_)|(refine g_k ?_;simp only[thenQ,blockQ])|(refine g_e ?_;simp only[thenQ,blockQ,↓reduceIte,Nat.reduceEqDiff])|(refine g_c (fun h=>?_) (fun h=>?_)<;>(try simp only[go_sem] at h)<;>(try exact g_f))|((first|refine g_t ?_|refine g_g ?_|refine g_U ?_|refine g_A ?_|refine g_W ?_);(try simp -implicitDefEqProofs only[go_sem]))|(with_reducible refine hK _ _ ?_;clear hK K)|(clear hK K;first|(with_reducible refine hK _ _ ?_;clear hK K)|(clear hK K;with_reducible refine hK _ _ ?_;clear hK K)|(clear hK K;clear hK K;with_reducible refine hK _ _ ?_;clear hK K))|(with_reducible refine splitB_intro (fun h=>?_) (fun h=>?_)<;>(try simp only[go_sem] at h)<;>(try exact g_f)<;>(try simp -implicitDefEqProofs only[go_sem]))|(with_reducible refine And.intro (fun h=>?_) (fun h=>?_)<;>(try simp only[go_sem] at h)<;>(try exact g_f))|(with_reducible refine And.intro ?_ ?_;· exact g_x)|(with_reducible intro h;(try simp only[go_sem] at h);(try exact g_f))))
          refine hJ _ _ ?_
          clear hJ
          (repeat' (first|(refine g_s fun K hK=>?_)|(refine g_b ?_)|(refine g_r ?_)|(refine g_k ?_;simp only[thenQ,blockQ])|(refine g_e ?_;simp only[thenQ,blockQ,↓reduceIte,Nat.reduceEqDiff])|(refine g_c (fun h=>?_) (fun h=>?_)<;>(try simp only[go_sem] at h)<;>(try exact g_f))|((first|refine g_t ?_|refine g_g ?_|refine g_U ?_|refine g_A ?_|refine g_W ?_);(try simp -implicitDefEqProofs only[go_sem]))|(with_reducible refine hK _ _ ?_;clear hK K)|(clear hK K;first|(with_reducible refine hK _ _ ?_;clear hK K)|(clear hK K;with_reducible refine hK _ _ ?_;clear hK K)|(clear hK K;clear hK K;with_reducible refine hK _ _ ?_;clear hK K))|(with_reducible refine splitB_intro (fun h=>?_) (fun h=>?_)<;>(try simp only[go_sem] at h)<;>(try exact g_f)<;>(try simp -implicitDefEqProofs only[go_sem]))|(with_reducible refine And.intro (fun h=>?_) (fun h=>?_)<;>(try simp only[go_sem] at h)<;>(try exact g_f))|(with_reducible refine And.intro ?_ ?_;· exact g_x)|(with_reducible intro h;(try simp only[go_sem] at h);(try exact g_f))))
          exact CutQ_c rfl rfl
        · have hl0 := hH rfl
          subst hl0
          (repeat' (first|(refine g_s fun K hK=>?_)|(refine g_b ?_)|(refine g_r ?_)|(refine g_k ?_;simp only[thenQ,blockQ])|(refine g_e ?_;simp only[thenQ,blockQ,↓reduceIte,Nat.reduceEqDiff])|(refine g_c (fun h=>?_) (fun h=>?_)<;>(try simp only[go_sem] at h)<;>(try exact g_f))|((first|refine g_t ?_|refine g_g ?_|refine g_U ?_|refine g_A ?_|refine g_W ?_);(try simp -implicitDefEqProofs only[go_sem]))|(with_reducible refine hK _ _ ?_;clear hK K)|(clear hK K;first|(with_reducible refine hK _ _ ?_;clear hK K)|(clear hK K;with_reducible refine hK _ _ ?_;clear hK K)|(clear hK K;clear hK K;with_reducible refine hK _ _ ?_;clear hK K))|(with_reducible refine splitB_intro (fun h=>?_) (fun h=>?_)<;>(try simp only[go_sem] at h)<;>(try exact g_f)<;>(try simp -implicitDefEqProofs only[go_sem]))|(with_reducible refine And.intro (fun h=>?_) (fun h=>?_)<;>(try simp only[go_sem] at h)<;>(try exact g_f))|(with_reducible refine And.intro ?_ ?_;· exact g_x)|(with_reducible intro h;(try simp only[go_sem] at h);(try exact g_f))))
          refine hJ _ _ ?_
          clear hJ
          (repeat' (first|(refine g_s fun K hK=>?_)|(refine g_b ?_)|(refine g_r ?_)|(refine g_k ?_;simp only[thenQ,blockQ])|(refine g_e ?_;simp only[thenQ,blockQ,↓reduceIte,Nat.reduceEqDiff])|(refine g_c (fun h=>?_) (fun h=>?_)<;>(try simp only[go_sem] at h)<;>(try exact g_f))|((first|refine g_t ?_|refine g_g ?_|refine g_U ?_|refine g_A ?_|refine g_W ?_);(try simp -implicitDefEqProofs only[go_sem]))|(with_reducible refine hK _ _ ?_;clear hK K)|(clear hK K;first|(with_reducible refine hK _ _ ?_;clear hK K)|(clear hK K;with_reducible refine hK _ _ ?_;clear hK K)|(clear hK K;clear hK K;with_reducible refine hK _ _ ?_;clear hK K))|(with_reducible refine splitB_intro (fun h=>?_) (fun h=>?_)<;>(try simp only[go_sem] at h)<;>(try exact g_f)<;>(try simp -implicitDefEqProofs only[go_sem]))|(with_reducible refine And.intro (fun h=>?_) (fun h=>?_)<;>(try simp only[go_sem] at h)<;>(try exact g_f))|(with_reducible refine And.intro ?_ ?_;· exact g_x)|(with_reducible intro h;(try simp only[go_sem] at h);(try exact g_f))))
          exact CutQ_c rfl rfl
    · refine AWP_rounds 1 ?_
      by_cases h1 : k = 1
      · have hb8 := congrArg Brk.law (hk1 h1)
        have hl0 : law = 0 := hb8
        subst hl0
        subst h1
        (repeat' (first|(refine g_s fun K hK=>?_)|(refine g_b ?_)|(refine g_r ?_)|(refine g_k ?_;simp only[thenQ,blockQ])|(refine g_e ?_;simp only[thenQ,blockQ,↓reduceIte,Nat.reduceEqDiff])|(refine g_c (fun h=>?_) (fun h=>?_)<;>(try simp only[go_sem] at h)<;>(try exact g_f))|((first|refine g_t ?_|refine g_g ?_|refine g_U ?_|refine g_A ?_|refine g_W ?_);(try simp -implicitDefEqProofs only[go_sem,h3]))|(with_reducible refine hK _ _ ?_;clear hK K)|(clear hK K;first|(with_reducible refine hK _ _ ?_;clear hK K)|(clear hK K;with_reducible refine hK _ _ ?_;clear hK K)|(clear hK K;clear hK K;with_reducible refine hK _ _ ?_;clear hK K))|(with_reducible refine splitB_intro (fun h=>?_) (fun h=>?_)<;>(try simp only[go_sem] at h)<;>(try exact g_f)<;>(try simp -implicitDefEqProofs only[go_sem,h3]))|(with_reducible refine And.intro (fun h=>?_) (fun h=>?_)<;>(try simp only[go_sem] at h)<;>(try exact g_f))|(with_reducible refine And.intro ?_ ?_;· exact g_x)|(with_reducible intro h;(try simp only[go_sem] at h);(try exact g_f))))
        all_goals (refine hJ _ _ ?_; clear hJ)
        all_goals (repeat' (first|(refine g_s fun K hK=>?_)|(refine g_b ?_)|(refine g_r ?_)|(refine g_k ?_;simp only[thenQ,blockQ])|(refine g_e ?_;simp only[thenQ,blockQ,↓reduceIte,Nat.reduceEqDiff])|(refine g_c (fun h=>?_) (fun h=>?_)<;>(try simp only[go_sem] at h)<;>(try exact g_f))|((first|refine g_t ?_|refine g_g ?_|refine g_U ?_|refine g_A ?_|refine g_W ?_);(try simp -implicitDefEqProofs only[go_sem]))|(with_reducible refine hK _ _ ?_;clear hK K)|(clear hK K;first|(with_reducible refine hK _ _ ?_;clear hK K)|(clear hK K;with_reducible refine hK _ _ ?_;clear hK K)|(clear hK K;clear hK K;with_reducible refine hK _ _ ?_;clear hK K))|(with_reducible refine splitB_intro (fun h=>?_) (fun h=>?_)<;>(try simp only[go_sem] at h)<;>(try exact g_f)<;>(try simp -implicitDefEqProofs only[go_sem]))|(with_reducible refine And.intro (fun h=>?_) (fun h=>?_)<;>(try simp only[go_sem] at h)<;>(try exact g_f))|(with_reducible refine And.intro ?_ ?_;· exact g_x)|(with_reducible intro h;(try simp only[go_sem] at h);(try exact g_f))))
        all_goals exact CutQ_c rfl rfl
      · (repeat' (first|(refine g_s fun K hK=>?_)|(refine g_b ?_)|(refine g_r ?_)|(refine g_k ?_;simp only[thenQ,blockQ])|(refine g_e ?_;simp only[thenQ,blockQ,↓reduceIte,Nat.reduceEqDiff])|(refine g_c (fun h=>?_) (fun h=>?_)<;>(try simp only[go_sem] at h)<;>(try exact g_f))|((first|refine g_t ?_|refine g_g ?_|refine g_U ?_|refine g_A ?_|refine g_W ?_);(try simp -implicitDefEqProofs only[go_sem,h3, h1]))|(with_reducible refine hK _ _ ?_;clear hK K)|(clear hK K;first|(with_reducible refine hK _ _ ?_;clear hK K)|(clear hK K;with_reducible refine hK _ _ ?_;clear hK K)|(clear hK K;clear hK K;with_reducible refine hK _ _ ?_;clear hK K))|(with_reducible refine splitB_intro (fun h=>?_) (fun h=>?_)<;>(try simp only[go_sem] at h)<;>(try exact g_f)<;>(try simp -implicitDefEqProofs only[go_sem,h3, h1]))|(with_reducible refine And.intro (fun h=>?_) (fun h=>?_)<;>(try simp only[go_sem] at h)<;>(try exact g_f))|(with_reducible refine And.intro ?_ ?_;· exact g_x)|(with_reducible intro h;(try simp only[go_sem] at h);(try exact g_f))))
        all_goals (refine hJ _ _ ?_; clear hJ)
        all_goals (repeat' (first|(refine g_s fun K hK=>?_)|(refine g_b ?_)|(refine g_r ?_)|(refine g_k ?_;simp only[thenQ,blockQ])|(refine g_e ?_;simp only[thenQ,blockQ,↓reduceIte,Nat.reduceEqDiff])|(refine g_c (fun h=>?_) (fun h=>?_)<;>(try simp only[go_sem] at h)<;>(try exact g_f))|((first|refine g_t ?_|refine g_g ?_|refine g_U ?_|refine g_A ?_|refine g_W ?_);(try simp -implicitDefEqProofs only[go_sem,h1]))|(with_reducible refine hK _ _ ?_;clear hK K)|(clear hK K;first|(with_reducible refine hK _ _ ?_;clear hK K)|(clear hK K;with_reducible refine hK _ _ ?_;clear hK K)|(clear hK K;clear hK K;with_reducible refine hK _ _ ?_;clear hK K))|(with_reducible refine splitB_intro (fun h=>?_) (fun h=>?_)<;>(try simp only[go_sem] at h)<;>(try exact g_f)<;>(try simp -implicitDefEqProofs only[go_sem,h1]))|(with_reducible refine And.intro (fun h=>?_) (fun h=>?_)<;>(try simp only[go_sem] at h)<;>(try exact g_f))|(with_reducible refine And.intro ?_ ?_;· exact g_x)|(with_reducible intro h;(try simp only[go_sem] at h);(try exact g_f))))
        all_goals exact CutQ_c rfl rfl
  · have hb : builtP p = (⟨0, [], []⟩, errP p) := by rw [builtP, if_neg he]
    rw [hb] at hB
    obtain ⟨E, hE⟩ : ∃ E, errP p = E := ⟨_, rfl⟩
    rw [hE] at hB he
    obtain ⟨k, n, e, ps⟩ := p
    rw [plC_mk] at hB ⊢
    refine ACalls_of_awp Try.func3 rfl Try.results3 ?_
    simp only [List.length_cons, List.length_nil, Try.ntmps3, Nat.reduceAdd, Nat.reduceSub, enterA]
    refine AWP_seq_k fun K hK => ?_
    (refine AWP_region ?_; simp -implicitDefEqProofs only [go_sem])
    refine hK _ _ ?_; clear hK K
    refine AWP_freezeP 1 rfl (by simp only [st0]; rfl) ?_
    simp only [ss0, List.set_cons_zero]
    (repeat' (first|(refine g_s fun K hK=>?_)|(refine g_b ?_)|(refine g_r ?_)|(refine g_k ?_;simp only[thenQ,blockQ])|(refine g_e ?_;simp only[thenQ,blockQ,↓reduceIte,Nat.reduceEqDiff])|(refine g_c (fun h=>?_) (fun h=>?_)<;>(try simp only[go_sem] at h)<;>(try exact g_f))|((first|refine g_t ?_|refine g_g ?_|refine g_U ?_|refine g_A ?_|refine (planBegun_calls _).use ?_|refine g_q (fun τ=>planBegun_calls _) ?_|refine (algebraBegun_calls _).use ?_|refine g_q (fun τ=>algebraBegun_calls _) ?_|refine (hB _).use ?_|refine g_q (fun τ=>hB _) ?_|refine g_W ?_);(try simp -implicitDefEqProofs only[go_sem,builtC, algC, he, List.map_nil]))|(with_reducible refine hK _ _ ?_;clear hK K)|(clear hK K;first|(with_reducible refine hK _ _ ?_;clear hK K)|(clear hK K;with_reducible refine hK _ _ ?_;clear hK K)|(clear hK K;clear hK K;with_reducible refine hK _ _ ?_;clear hK K))|(with_reducible refine splitB_intro (fun h=>?_) (fun h=>?_)<;>(try simp only[go_sem] at h)<;>(try exact g_f)<;>(try simp -implicitDefEqProofs only[go_sem,builtC, algC, he, List.map_nil]))|(with_reducible refine And.intro (fun h=>?_) (fun h=>?_)<;>(try simp only[go_sem] at h)<;>(try exact g_f))|(with_reducible refine And.intro ?_ ?_;· exact g_x)|(with_reducible intro h;(try simp only[go_sem] at h);(try exact g_f))))
    exact CutQ_c rfl rfl
end Go.Proofs.Ytephecognbbaoab
