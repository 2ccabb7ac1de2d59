/- Holds. -/
import Derived.Test.YtephecognbbaoabRa
import Derived.Test.YtephecognbbaoabAb
import Derived.Test.YtephecognbbaoabSy
namespace Go.Proofs.Ytephecognbbaoab
open Go
set_option linter.all false
set_option maxRecDepth 100000
set_option maxHeartbeats 4000000

theorem inR_f {n lo hi : Int} : inR n lo hi = false ↔ n < lo ∨ hi < n := by rw [← Bool.not_eq_true']; exact not_inR

theorem holdsAsk_calls (x : Alg) (b : Brk) (ok : AlgOk x) (okb : BrkOk b) (σ : Store) :
    ACalls Try.prog 69 [.agg (algC x), .agg (brkC b)] σ fun r σ' => σ' = σ ∧ r = .tup [.c (.bool (asksA x b).1), intA1 (asksA x b).2] := by
  have hm := many_bd b.law
  have hi := okb.1
  refine ACalls.cutX ?_
  by_cases hc : checkA x = 0
  · have hr := right_iff.1 hc
    have s2 := hr.s2
    have s24 := hr.s24
    have e8 := hr.e8
    by_cases hlaw : 1 ≤ b.law ∧ b.law ≤ 9
    · have hf := shapes_find b.law hlaw
      refine ACalls_of_awp Try.func69 rfl Try.results69 ?_
      simp only [List.length_cons, List.length_nil, Try.ntmps69, Nat.reduceAdd, Nat.reduceSub, enterA]
      refine AWP_seq_k fun K hK => ?_
      (refine AWP_region ?_; simp -implicitDefEqProofs only [go_sem])
      refine hK _ _ ?_; clear hK K
      refine AWP_freezeP 2 rfl (by simp only [st0]; rfl) ?_
      simp only [ss0, List.set_cons_zero]
      refine AWP_freezeP 3 rfl (by simp only [st1]; rfl) ?_
      simp only [ss1, List.set_cons_zero, List.set_cons_succ]
      (repeat' (first|(refine g_s fun K hK=>?_)|(refine g_b ?_)|(refine g_r ?_)|(refine g_k ?_;simp only[thenQ,blockQ])|(refine g_e ?_;simp only[thenQ,blockQ,↓reduceIte,Nat.reduceEqDiff])|(refine g_c (fun h=>?_) (fun h=>?_)<;>(try simp only[go_sem] at h)<;>(try exact g_f))|((first|refine g_t ?_|refine g_g ?_|refine g_U ?_|refine g_A ?_|refine (check_calls x ok.hb ok.he ok.hs ok.hrow _).use ?_|refine g_q (fun τ=>check_calls x ok.hb ok.he ok.hs ok.hrow _) ?_|refine (shapes_calls _).use ?_|refine g_q (fun τ=>shapes_calls _) ?_|refine AWP_drawL false false tab_mixed (by decide +kernel) ?_|refine g_W ?_);(try simp -implicitDefEqProofs only[go_sem,hc, hf, shapeC, hi]))|(with_reducible refine hK _ _ ?_;clear hK K)|(clear hK K;first|(with_reducible refine hK _ _ ?_;clear hK K)|(clear hK K;with_reducible refine hK _ _ ?_;clear hK K)|(clear hK K;clear hK K;with_reducible refine hK _ _ ?_;clear hK K))|(with_reducible refine splitB_intro (fun h=>?_) (fun h=>?_)<;>(try simp only[go_sem] at h)<;>(try exact g_f)<;>(try simp -implicitDefEqProofs only[go_sem,hc, hf, shapeC, hi]))|(with_reducible refine And.intro (fun h=>?_) (fun h=>?_)<;>(try simp only[go_sem] at h)<;>(try exact g_f))|(with_reducible refine And.intro ?_ ?_;· exact g_x)|(with_reducible intro h;(try simp only[go_sem] at h);(try exact g_f))))
      have hJ := hK
      clear hK
      refine AWP_each [b.a, b.b, b.c] (fun k r _ => ∀ i : Int, 0 ≤ i → i < k → okAt (decide (i < manyA b.law)) (at0 [b.a, b.b, b.c] i) x.size = true) (fun k _ _ => [(33, intA1 k)]) (fun _ _ _ => σ ++ [.dead, .dead, .cells 2 [[intA1 (manyA b.law), .c (.bool (edgeA b.law))]], .cells 1 ([b.a, b.b, b.c].map intC)]) () [] (fun i h1 h2 => by omega) rfl (ALe_of ?_) ?_ ?_
      · simp -implicitDefEqProofs only [go_sem]
      · rintro k r _ τ hk0 hk1 hH L hL
        have hk3 : k < 3 := hk1
        generalize hv : [b.a, b.b, b.c] = vals at hL hk1
        have hvl : vals.length = 3 := by rw [← hv]; rfl
        simp -implicitDefEqProofs only [go_sem]
        (repeat' (first|(refine g_s fun K hK=>?_)|(refine g_b ?_)|(refine g_r ?_)|(refine g_k ?_;simp only[thenQ,blockQ])|(refine g_e ?_;simp only[thenQ,blockQ,↓reduceIte,Nat.reduceEqDiff])|(refine g_c (fun h=>?_) (fun h=>?_)<;>(try simp only[go_sem] at h)<;>(try exact g_f))|((first|refine g_t ?_|refine g_g ?_|refine g_U ?_|refine g_A ?_|refine (is_calls x _ (by unfold I64; omega) _).use ?_|refine g_q (fun τ=>is_calls x _ (by unfold I64; omega) _) ?_|refine g_W ?_);(try simp -implicitDefEqProofs only[go_sem]))|(with_reducible refine hK _ _ ?_;clear hK K)|(clear hK K;first|(with_reducible refine hK _ _ ?_;clear hK K)|(clear hK K;with_reducible refine hK _ _ ?_;clear hK K)|(clear hK K;clear hK K;with_reducible refine hK _ _ ?_;clear hK K))|(with_reducible refine splitB_intro (fun h=>?_) (fun h=>?_)<;>(try simp only[go_sem] at h)<;>(try exact g_f)<;>(try simp -implicitDefEqProofs only[go_sem]))|(with_reducible refine And.intro (fun h=>?_) (fun h=>?_)<;>(try simp only[go_sem] at h)<;>(try exact g_f))|(with_reducible refine And.intro ?_ ?_;· exact g_x)|(with_reducible intro h;(try simp only[go_sem] at h);(try exact g_f))))
        all_goals cases hok : okAt (decide (k < manyA b.law)) (at0 [b.a, b.b, b.c] k) x.size
        all_goals first
          | (have e3 : asksA x b = (false, 3) := by simp [asksA, hc, checkB_bad hlaw hk0 hk3 hok]
             rw [e3]
             refine CutQ_w rfl ?_ ?_
             (repeat' (first | exact Bd.c _ | exact Bd.emp | exact BdL.nil | exact Bd.ints _ | refine Bd.aggL ?_ | refine Bd.tupL ?_ | refine BdL.cons ?_ ?_))
             (repeat' (first | exact Wk.nil | exact Wk.emp | exact WkL.nil | (with_reducible exact Wk.refl _) | refine Wk.agg ?_ | refine Wk.tup ?_ | refine WkL.cons ?_ ?_ | (refine Wk.eq ?_; rfl)))
             done)
          | (exfalso; rw [hv] at hok; (first | rw [okAt_iff] at hok | rw [← Bool.not_eq_true, okAt_iff] at hok); by_cases hkm : k < manyA b.law <;> simp only [hkm, upN, inR_iff, inR_f, decide_true, decide_false, if_true, if_false, Bool.false_eq_true] at * <;> omega)
          | (exfalso; rw [hv] at hok; rw [okAt_iff] at hok; by_cases hkm : k < manyA b.law
             · omega
             · have e9 : decide (k < manyA b.law) = false := decide_eq_false hkm
               rw [e9] at hok
               simp only [upN, if_false, Bool.false_eq_true] at hok
               omega)
          | skip
        all_goals
          subst hv
          refine hL () [] _ _ (fun i h1 h2 => ?_) (ALe_of ?_) rfl
          · rcases Int.lt_or_eq_of_le (Int.le_of_lt_add_one h2) with h3 | h3
            · exact hH i h1 h3
            · rw [h3]; exact hok
          · simp -implicitDefEqProofs only [go_sem]
      · rintro k _ τ hk hH L
        have hk3 : k = 3 := hk
        subst hk3
        have hce := checkB_edge hlaw hH
        simp -implicitDefEqProofs only [go_sem]
        (repeat' (first|(refine g_s fun K hK=>?_)|(refine g_b ?_)|(refine g_r ?_)|(refine g_k ?_;simp only[thenQ,blockQ])|(refine g_e ?_;simp only[thenQ,blockQ,↓reduceIte,Nat.reduceEqDiff])|(refine g_c (fun h=>?_) (fun h=>?_)<;>(try simp only[go_sem] at h)<;>(try exact g_f))|((first|refine g_t ?_|refine g_g ?_|refine g_U ?_|refine g_A ?_|refine g_W ?_);(try simp -implicitDefEqProofs only[go_sem]))|(with_reducible refine hK _ _ ?_;clear hK K)|(clear hK K;first|(with_reducible refine hK _ _ ?_;clear hK K)|(clear hK K;with_reducible refine hK _ _ ?_;clear hK K)|(clear hK K;clear hK K;with_reducible refine hK _ _ ?_;clear hK K))|(with_reducible refine splitB_intro (fun h=>?_) (fun h=>?_)<;>(try simp only[go_sem] at h)<;>(try exact g_f)<;>(try simp -implicitDefEqProofs only[go_sem]))|(with_reducible refine And.intro (fun h=>?_) (fun h=>?_)<;>(try simp only[go_sem] at h)<;>(try exact g_f))|(with_reducible refine And.intro ?_ ?_;· exact g_x)|(with_reducible intro h;(try simp only[go_sem] at h);(try exact g_f))))
        refine hJ _ _ ?_
        clear hJ
        by_cases hok : okAt (edgeA b.law) b.edge x.edges.length = true
        · rw [if_pos hok] at hce
          have hin := inR_of hr hce
          (repeat' (first|(refine g_s fun K hK=>?_)|(refine g_b ?_)|(refine g_r ?_)|(refine g_k ?_;simp only[thenQ,blockQ])|(refine g_e ?_;simp only[thenQ,blockQ,↓reduceIte,Nat.reduceEqDiff])|(refine g_c (fun h=>?_) (fun h=>?_)<;>(try simp only[go_sem] at h)<;>(try exact g_f))|((first|refine g_t ?_|refine g_g ?_|refine g_U ?_|refine g_A ?_|refine (within_calls _ _ _ _).use ?_|refine g_q (fun τ=>within_calls _ _ _ _) ?_|refine (holds_calls x b hr hin _).use ?_|refine g_q (fun τ=>holds_calls x b hr hin _) ?_|refine g_W ?_);(try simp -implicitDefEqProofs only[go_sem]))|(with_reducible refine hK _ _ ?_;clear hK K)|(clear hK K;first|(with_reducible refine hK _ _ ?_;clear hK K)|(clear hK K;with_reducible refine hK _ _ ?_;clear hK K)|(clear hK K;clear hK K;with_reducible refine hK _ _ ?_;clear hK K))|(with_reducible refine splitB_intro (fun h=>?_) (fun h=>?_)<;>(try simp only[go_sem] at h)<;>(try exact g_f)<;>(try simp -implicitDefEqProofs only[go_sem]))|(with_reducible refine And.intro (fun h=>?_) (fun h=>?_)<;>(try simp only[go_sem] at h)<;>(try exact g_f))|(with_reducible refine And.intro ?_ ?_;· exact g_x)|(with_reducible intro h;(try simp only[go_sem] at h);(try exact g_f))))
          all_goals clear hH
          all_goals first
            | (have e3 : asksA x b = (holdsA x b, 0) := by simp [asksA, hc, hce]
               rw [e3]
               refine CutQ_w rfl ?_ ?_
               (repeat' (first | exact Bd.c _ | exact Bd.emp | exact BdL.nil | exact Bd.ints _ | refine Bd.aggL ?_ | refine Bd.tupL ?_ | refine BdL.cons ?_ ?_))
               (repeat' (first | exact Wk.nil | exact Wk.emp | exact WkL.nil | (with_reducible exact Wk.refl _) | refine Wk.agg ?_ | refine Wk.tup ?_ | refine WkL.cons ?_ ?_ | (refine Wk.eq ?_; rfl)))
               done)
            | (exfalso; rw [okAt_iff] at hok; cases he : edgeA b.law <;> simp only [he, upN, if_true, if_false, Bool.false_eq_true, inR_iff, inR_f, reduceCtorEq] at * <;> omega)
        · rw [if_neg hok] at hce
          have e3 : asksA x b = (false, 3) := by simp [asksA, hc, hce]
          rw [e3]
          (repeat' (first|(refine g_s fun K hK=>?_)|(refine g_b ?_)|(refine g_r ?_)|(refine g_k ?_;simp only[thenQ,blockQ])|(refine g_e ?_;simp only[thenQ,blockQ,↓reduceIte,Nat.reduceEqDiff])|(refine g_c (fun h=>?_) (fun h=>?_)<;>(try simp only[go_sem] at h)<;>(try exact g_f))|((first|refine g_t ?_|refine g_g ?_|refine g_U ?_|refine g_A ?_|refine (within_calls _ _ _ _).use ?_|refine g_q (fun τ=>within_calls _ _ _ _) ?_|refine g_W ?_);(try simp -implicitDefEqProofs only[go_sem]))|(with_reducible refine hK _ _ ?_;clear hK K)|(clear hK K;first|(with_reducible refine hK _ _ ?_;clear hK K)|(clear hK K;with_reducible refine hK _ _ ?_;clear hK K)|(clear hK K;clear hK K;with_reducible refine hK _ _ ?_;clear hK K))|(with_reducible refine splitB_intro (fun h=>?_) (fun h=>?_)<;>(try simp only[go_sem] at h)<;>(try exact g_f)<;>(try simp -implicitDefEqProofs only[go_sem]))|(with_reducible refine And.intro (fun h=>?_) (fun h=>?_)<;>(try simp only[go_sem] at h)<;>(try exact g_f))|(with_reducible refine And.intro ?_ ?_;· exact g_x)|(with_reducible intro h;(try simp only[go_sem] at h);(try exact g_f))))
          all_goals clear hH
          all_goals first
            | (refine CutQ_w rfl ?_ ?_
               (repeat' (first | exact Bd.c _ | exact Bd.emp | exact BdL.nil | exact Bd.ints _ | refine Bd.aggL ?_ | refine Bd.tupL ?_ | refine BdL.cons ?_ ?_))
               (repeat' (first | exact Wk.nil | exact Wk.emp | exact WkL.nil | (with_reducible exact Wk.refl _) | refine Wk.agg ?_ | refine Wk.tup ?_ | refine WkL.cons ?_ ?_ | (refine Wk.eq ?_; rfl)))
               done)
            | (exfalso; rw [okAt_iff] at hok; cases he : edgeA b.law <;> simp only [he, upN, if_true, if_false, Bool.false_eq_true, inR_iff, inR_f, reduceCtorEq] at * <;> omega)
    · have e : asksA x b = (false, 7) := by
        have e7 := checkB_law (x := x) (b := b) (by omega)
        simp [asksA, hc, e7]
      rw [e]
      have hf := shapes_none b.law (by omega)
      refine ACalls_of_awp Try.func69 rfl Try.results69 ?_
      simp only [List.length_cons, List.length_nil, Try.ntmps69, Nat.reduceAdd, Nat.reduceSub, enterA]
      refine AWP_seq_k fun K hK => ?_
      (refine AWP_region ?_; simp -implicitDefEqProofs only [go_sem])
      refine hK _ _ ?_; clear hK K
      refine AWP_freezeP 2 rfl (by simp only [st0]; rfl) ?_
      simp only [ss0, List.set_cons_zero]
      refine AWP_freezeP 3 rfl (by simp only [st1]; rfl) ?_
      simp only [ss1, List.set_cons_zero, List.set_cons_succ]
      (repeat' (first|(refine g_s fun K hK=>?_)|(refine g_b ?_)|(refine g_r ?_)|(refine g_k ?_;simp only[thenQ,blockQ])|(refine g_e ?_;simp only[thenQ,blockQ,↓reduceIte,Nat.reduceEqDiff])|(refine g_c (fun h=>?_) (fun h=>?_)<;>(try simp only[go_sem] at h)<;>(try exact g_f))|((first|refine g_t ?_|refine g_g ?_|refine g_U ?_|refine g_A ?_|refine (check_calls x ok.hb ok.he ok.hs ok.hrow _).use ?_|refine g_q (fun τ=>check_calls x ok.hb ok.he ok.hs ok.hrow _) ?_|refine (shapes_calls _).use ?_|refine g_q (fun τ=>shapes_calls _) ?_|refine AWP_drawL false false tab_mixed (by decide +kernel) ?_|refine g_W ?_);(try simp -implicitDefEqProofs only[go_sem,hc, hf, shapeC, hi, List.map_cons, List.map_nil]))|(with_reducible refine hK _ _ ?_;clear hK K)|(clear hK K;first|(with_reducible refine hK _ _ ?_;clear hK K)|(clear hK K;with_reducible refine hK _ _ ?_;clear hK K)|(clear hK K;clear hK K;with_reducible refine hK _ _ ?_;clear hK K))|(with_reducible refine splitB_intro (fun h=>?_) (fun h=>?_)<;>(try simp only[go_sem] at h)<;>(try exact g_f)<;>(try simp -implicitDefEqProofs only[go_sem,hc, hf, shapeC, hi, List.map_cons, List.map_nil]))|(with_reducible refine And.intro (fun h=>?_) (fun h=>?_)<;>(try simp only[go_sem] at h)<;>(try exact g_f))|(with_reducible refine And.intro ?_ ?_;· exact g_x)|(with_reducible intro h;(try simp only[go_sem] at h);(try exact g_f))))
      refine CutQ_w rfl ?_ ?_
      · (repeat' (first | exact Bd.c _ | exact Bd.emp | exact BdL.nil | exact Bd.ints _ | refine Bd.aggL ?_ | refine Bd.tupL ?_ | refine BdL.cons ?_ ?_))
      · (repeat' (first | exact Wk.nil | exact Wk.emp | exact WkL.nil | (with_reducible exact Wk.refl _) | refine Wk.agg ?_ | refine Wk.tup ?_ | refine WkL.cons ?_ ?_ | (refine Wk.eq ?_; rfl)))
  · have e : asksA x b = (false, checkA x) := by simp [asksA, hc]
    rw [e]
    refine ACalls_of_awp Try.func69 rfl Try.results69 ?_
    simp only [List.length_cons, List.length_nil, Try.ntmps69, Nat.reduceAdd, Nat.reduceSub, enterA]
    refine AWP_seq_k fun K hK => ?_
    (refine AWP_region ?_; simp -implicitDefEqProofs only [go_sem])
    refine hK _ _ ?_; clear hK K
    refine AWP_freezeP 2 rfl (by simp only [st0]; rfl) ?_
    simp only [ss0, List.set_cons_zero]
    refine AWP_freezeP 3 rfl (by simp only [st1]; rfl) ?_
    simp only [ss1, List.set_cons_zero, List.set_cons_succ]
    (repeat' (first|(refine g_s fun K hK=>?_)|(refine g_b ?_)|(refine g_r ?_)|(refine g_k ?_;simp only[thenQ,blockQ])|(refine g_e ?_;simp only[thenQ,blockQ,↓reduceIte,Nat.reduceEqDiff])|(refine g_c (fun h=>?_) (fun h=>?_)<;>(try simp only[go_sem] at h)<;>(try exact g_f))|((first|refine g_t ?_|refine g_g ?_|refine g_U ?_|refine g_A ?_|refine (check_calls x ok.hb ok.he ok.hs ok.hrow _).use ?_|refine g_q (fun τ=>check_calls x ok.hb ok.he ok.hs ok.hrow _) ?_|refine g_W ?_);(try simp -implicitDefEqProofs only[go_sem]))|(with_reducible refine hK _ _ ?_;clear hK K)|(clear hK K;first|(with_reducible refine hK _ _ ?_;clear hK K)|(clear hK K;with_reducible refine hK _ _ ?_;clear hK K)|(clear hK K;clear hK K;with_reducible refine hK _ _ ?_;clear hK K))|(with_reducible refine splitB_intro (fun h=>?_) (fun h=>?_)<;>(try simp only[go_sem] at h)<;>(try exact g_f)<;>(try simp -implicitDefEqProofs only[go_sem]))|(with_reducible refine And.intro (fun h=>?_) (fun h=>?_)<;>(try simp only[go_sem] at h)<;>(try exact g_f))|(with_reducible refine And.intro ?_ ?_;· exact g_x)|(with_reducible intro h;(try simp only[go_sem] at h);(try exact g_f))))
    refine CutQ_w rfl ?_ ?_
    · (repeat' (first | exact Bd.c _ | exact Bd.emp | exact BdL.nil | exact Bd.ints _ | refine Bd.aggL ?_ | refine Bd.tupL ?_ | refine BdL.cons ?_ ?_))
    · (repeat' (first | exact Wk.nil | exact Wk.emp | exact WkL.nil | (with_reducible exact Wk.refl _) | refine Wk.agg ?_ | refine Wk.tup ?_ | refine WkL.cons ?_ ?_ | (refine Wk.eq ?_; rfl)))
end Go.Proofs.Ytephecognbbaoab
