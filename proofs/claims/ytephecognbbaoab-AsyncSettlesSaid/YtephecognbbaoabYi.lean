/- Schedules: the law on where they end. -/
import Derived.Test.YtephecognbbaoabYj
import Derived.Test.YtephecognbbaoabAq
namespace Go.Proofs.Ytephecognbbaoab
open Go
set_option linter.all false
set_option maxRecDepth 100000
set_option maxHeartbeats 4000000

theorem asyncSettles_calls (n : Net) (x : List (List Int)) (t : List Trn) (okn : NetOk n) (okx : StOk x) (okt : TsOk t) (σ : Store) : ACalls Try.prog 10 [.agg (netC n), rowsC x, trnsA t] σ fun r σ' => σ' = σ ∧ r = .c (.bool true) := by
  have hl := okn.len
  have hP := strict_calls n.alg okn.alg
  have hC := cycles_calls n t okn okt
  have hR := run_calls n x t okn okx okt
  have hB := begin_calls n okn
  unfold cyclesErr at hC
  unfold runC at hR
  refine ACalls.cutX ?_
  by_cases h0 : checkT n t = 0
  · obtain ⟨hc, htl, ht⟩ := checkT_zero h0
    have hn := netIn_of hc
    have s24 := hn.alg.s24
    have s2 := hn.alg.s2
    rw [h0] at hC
    rw [if_pos rfl] at hC
    by_cases h2 : (lawsA n.alg [8]).2 = 0
    · by_cases h1 : (lawsA n.alg [8]).1.law = 0
      · rw [h2] at hP
        by_cases hk : n.alg.size ≤ cyclesA n t
        · have hk2 : ¬ cyclesA n t < n.alg.size := by omega
          by_cases he : errT n x t = 0
          · rw [he, if_pos rfl] at hR
            have hx : RowsIn n x := rowsIn_of (by rw [errT, if_neg (not_not_intro h0)] at he; exact he)
            have ha : checkA n.alg = 0 := by
              apply Classical.byContradiction
              intro h
              rw [lawsA, if_pos h] at h2
              exact h h2
            have hs : StrictA n := by
              rw [lawsA, if_neg (by simpa using ha)] at h1
              exact h1
            obtain ⟨a1, a2⟩ := async_settles hc hs ht hx hk
            have hb := begin_in hn
            have hbo := hb.stOk hn
            have hS := settle_calls n (beginA n) 100 okn hbo (by unfold I64; decide)
            have e1 : settleA n (beginA n) 100 = (settleF n 100 0 (beginA n), 0) := by simp [settleA, fit_ok hc hb, inR]
            unfold settleC at hS
            rw [e1] at hS
            rw [beginC, if_pos hc, hc] at hB
            have hSin := settle_in hn (f := 100) (k := 0) hb
            obtain ⟨O, hOe⟩ : ∃ O, runA n x t = O := ⟨_, rfl⟩
            obtain ⟨⟨y, q⟩, hyq⟩ : ∃ q, settleF n 100 0 (beginA n) = q := ⟨_, rfl⟩
            rw [hyq] at hS a1 hSin
            rw [hOe] at hR a1 a2
            have a1 : at0 O t.length = y := a1
            have hyo := (show RowsIn n y from hSin).stOk hn
            have ho1 : ((O.length : Nat) : Int) - 1 = t.length := by omega
            have hE : ∀ S, ACalls Try.prog 35 [rowsC y, rowsC y] S fun r σ' => σ' = S ∧ r = .c (.bool true) := fun S => (sameState_calls y y hyo S).mono fun _ _ ⟨h1, h2⟩ => ⟨h1, by rw [h2, decide_eq_true rfl]⟩
            refine ACalls_of_awp Try.func10 rfl Try.results10 ?_
            simp only [List.length_cons, List.length_nil, Try.ntmps10, Nat.reduceAdd, Nat.reduceSub, enterA]
            (repeat' (first|(refine g_s fun K hK=>?_)|(refine g_b ?_)|(refine g_r ?_)|(refine g_k ?_;simp only[thenQ,blockQ])|(refine g_e ?_;simp only[thenQ,blockQ,↓reduceIte,Nat.reduceEqDiff])|(refine g_c (fun h=>?_) (fun h=>?_)<;>(try simp only[go_sem] at h)<;>(try exact g_f))|((first|refine g_t ?_|refine g_g ?_|refine g_U ?_|refine g_A ?_|refine (asyncBegun_calls _).use ?_|refine g_q (fun τ=>asyncBegun_calls _) ?_|refine (netBegun_calls _).use ?_|refine g_q (fun τ=>netBegun_calls _) ?_|refine (algebraBegun_calls _).use ?_|refine g_q (fun τ=>algebraBegun_calls _) ?_|refine (hC _).use ?_|refine g_q (fun τ=>hC _) ?_|refine (hP _).use ?_|refine g_q (fun τ=>hP _) ?_|refine (hR _).use ?_|refine g_q (fun τ=>hR _) ?_|refine (hB _).use ?_|refine g_q (fun τ=>hB _) ?_|refine (hS _).use ?_|refine g_q (fun τ=>hS _) ?_|refine (hE _).use ?_|refine g_q (fun τ=>hE _) ?_|refine g_W ?_);(try simp -implicitDefEqProofs only[go_sem,h1, hk2, ho1, a1]))|(with_reducible refine hK _ _ ?_;clear hK K)|(clear hK K;first|(with_reducible refine hK _ _ ?_;clear hK K)|(clear hK K;with_reducible refine hK _ _ ?_;clear hK K)|(clear hK K;clear hK K;with_reducible refine hK _ _ ?_;clear hK K))|(with_reducible refine splitB_intro (fun h=>?_) (fun h=>?_)<;>(try simp only[go_sem] at h)<;>(try exact g_f)<;>(try simp -implicitDefEqProofs only[go_sem,h1, hk2, ho1, a1]))|(with_reducible refine And.intro (fun h=>?_) (fun h=>?_)<;>(try simp only[go_sem] at h)<;>(try exact g_f))|(with_reducible refine And.intro ?_ ?_;· exact g_x)|(with_reducible intro h;(try simp only[go_sem] at h);(try exact g_f))))
            all_goals (refine CutQ_c rfl ?_; simp [h1, a2])
          · rw [if_neg he] at hR
            refine ACalls_of_awp Try.func10 rfl Try.results10 ?_
            simp only [List.length_cons, List.length_nil, Try.ntmps10, Nat.reduceAdd, Nat.reduceSub, enterA]
            (repeat' (first|(refine g_s fun K hK=>?_)|(refine g_b ?_)|(refine g_r ?_)|(refine g_k ?_;simp only[thenQ,blockQ])|(refine g_e ?_;simp only[thenQ,blockQ,↓reduceIte,Nat.reduceEqDiff])|(refine g_c (fun h=>?_) (fun h=>?_)<;>(try simp only[go_sem] at h)<;>(try exact g_f))|((first|refine g_t ?_|refine g_g ?_|refine g_U ?_|refine g_A ?_|refine (asyncBegun_calls _).use ?_|refine g_q (fun τ=>asyncBegun_calls _) ?_|refine (netBegun_calls _).use ?_|refine g_q (fun τ=>netBegun_calls _) ?_|refine (algebraBegun_calls _).use ?_|refine g_q (fun τ=>algebraBegun_calls _) ?_|refine (hC _).use ?_|refine g_q (fun τ=>hC _) ?_|refine (hP _).use ?_|refine g_q (fun τ=>hP _) ?_|refine (hR _).use ?_|refine g_q (fun τ=>hR _) ?_|refine g_W ?_);(try simp -implicitDefEqProofs only[go_sem,h1, hk2, he]))|(with_reducible refine hK _ _ ?_;clear hK K)|(clear hK K;first|(with_reducible refine hK _ _ ?_;clear hK K)|(clear hK K;with_reducible refine hK _ _ ?_;clear hK K)|(clear hK K;clear hK K;with_reducible refine hK _ _ ?_;clear hK K))|(with_reducible refine splitB_intro (fun h=>?_) (fun h=>?_)<;>(try simp only[go_sem] at h)<;>(try exact g_f)<;>(try simp -implicitDefEqProofs only[go_sem,h1, hk2, he]))|(with_reducible refine And.intro (fun h=>?_) (fun h=>?_)<;>(try simp only[go_sem] at h)<;>(try exact g_f))|(with_reducible refine And.intro ?_ ?_;· exact g_x)|(with_reducible intro h;(try simp only[go_sem] at h);(try exact g_f))))
            all_goals (refine CutQ_c rfl ?_; simp)
        · have hk2 : cyclesA n t < n.alg.size := by omega
          refine ACalls_of_awp Try.func10 rfl Try.results10 ?_
          simp only [List.length_cons, List.length_nil, Try.ntmps10, Nat.reduceAdd, Nat.reduceSub, enterA]
          (repeat' (first|(refine g_s fun K hK=>?_)|(refine g_b ?_)|(refine g_r ?_)|(refine g_k ?_;simp only[thenQ,blockQ])|(refine g_e ?_;simp only[thenQ,blockQ,↓reduceIte,Nat.reduceEqDiff])|(refine g_c (fun h=>?_) (fun h=>?_)<;>(try simp only[go_sem] at h)<;>(try exact g_f))|((first|refine g_t ?_|refine g_g ?_|refine g_U ?_|refine g_A ?_|refine (asyncBegun_calls _).use ?_|refine g_q (fun τ=>asyncBegun_calls _) ?_|refine (netBegun_calls _).use ?_|refine g_q (fun τ=>netBegun_calls _) ?_|refine (algebraBegun_calls _).use ?_|refine g_q (fun τ=>algebraBegun_calls _) ?_|refine (hC _).use ?_|refine g_q (fun τ=>hC _) ?_|refine (hP _).use ?_|refine g_q (fun τ=>hP _) ?_|refine g_W ?_);(try simp -implicitDefEqProofs only[go_sem,h1, hk2]))|(with_reducible refine hK _ _ ?_;clear hK K)|(clear hK K;first|(with_reducible refine hK _ _ ?_;clear hK K)|(clear hK K;with_reducible refine hK _ _ ?_;clear hK K)|(clear hK K;clear hK K;with_reducible refine hK _ _ ?_;clear hK K))|(with_reducible refine splitB_intro (fun h=>?_) (fun h=>?_)<;>(try simp only[go_sem] at h)<;>(try exact g_f)<;>(try simp -implicitDefEqProofs only[go_sem,h1, hk2]))|(with_reducible refine And.intro (fun h=>?_) (fun h=>?_)<;>(try simp only[go_sem] at h)<;>(try exact g_f))|(with_reducible refine And.intro ?_ ?_;· exact g_x)|(with_reducible intro h;(try simp only[go_sem] at h);(try exact g_f))))
          all_goals (refine CutQ_c rfl ?_; simp)
      · refine ACalls_of_awp Try.func10 rfl Try.results10 ?_
        simp only [List.length_cons, List.length_nil, Try.ntmps10, Nat.reduceAdd, Nat.reduceSub, enterA]
        (repeat' (first|(refine g_s fun K hK=>?_)|(refine g_b ?_)|(refine g_r ?_)|(refine g_k ?_;simp only[thenQ,blockQ])|(refine g_e ?_;simp only[thenQ,blockQ,↓reduceIte,Nat.reduceEqDiff])|(refine g_c (fun h=>?_) (fun h=>?_)<;>(try simp only[go_sem] at h)<;>(try exact g_f))|((first|refine g_t ?_|refine g_g ?_|refine g_U ?_|refine g_A ?_|refine (asyncBegun_calls _).use ?_|refine g_q (fun τ=>asyncBegun_calls _) ?_|refine (netBegun_calls _).use ?_|refine g_q (fun τ=>netBegun_calls _) ?_|refine (algebraBegun_calls _).use ?_|refine g_q (fun τ=>algebraBegun_calls _) ?_|refine (hC _).use ?_|refine g_q (fun τ=>hC _) ?_|refine (hP _).use ?_|refine g_q (fun τ=>hP _) ?_|refine g_W ?_);(try simp -implicitDefEqProofs only[go_sem]))|(with_reducible refine hK _ _ ?_;clear hK K)|(clear hK K;first|(with_reducible refine hK _ _ ?_;clear hK K)|(clear hK K;with_reducible refine hK _ _ ?_;clear hK K)|(clear hK K;clear hK K;with_reducible refine hK _ _ ?_;clear hK K))|(with_reducible refine splitB_intro (fun h=>?_) (fun h=>?_)<;>(try simp only[go_sem] at h)<;>(try exact g_f)<;>(try simp -implicitDefEqProofs only[go_sem]))|(with_reducible refine And.intro (fun h=>?_) (fun h=>?_)<;>(try simp only[go_sem] at h)<;>(try exact g_f))|(with_reducible refine And.intro ?_ ?_;· exact g_x)|(with_reducible intro h;(try simp only[go_sem] at h);(try exact g_f))))
        all_goals (refine CutQ_c rfl ?_; simp)
    · refine ACalls_of_awp Try.func10 rfl Try.results10 ?_
      simp only [List.length_cons, List.length_nil, Try.ntmps10, Nat.reduceAdd, Nat.reduceSub, enterA]
      (repeat' (first|(refine g_s fun K hK=>?_)|(refine g_b ?_)|(refine g_r ?_)|(refine g_k ?_;simp only[thenQ,blockQ])|(refine g_e ?_;simp only[thenQ,blockQ,↓reduceIte,Nat.reduceEqDiff])|(refine g_c (fun h=>?_) (fun h=>?_)<;>(try simp only[go_sem] at h)<;>(try exact g_f))|((first|refine g_t ?_|refine g_g ?_|refine g_U ?_|refine g_A ?_|refine (asyncBegun_calls _).use ?_|refine g_q (fun τ=>asyncBegun_calls _) ?_|refine (netBegun_calls _).use ?_|refine g_q (fun τ=>netBegun_calls _) ?_|refine (algebraBegun_calls _).use ?_|refine g_q (fun τ=>algebraBegun_calls _) ?_|refine (hC _).use ?_|refine g_q (fun τ=>hC _) ?_|refine (hP _).use ?_|refine g_q (fun τ=>hP _) ?_|refine g_W ?_);(try simp -implicitDefEqProofs only[go_sem]))|(with_reducible refine hK _ _ ?_;clear hK K)|(clear hK K;first|(with_reducible refine hK _ _ ?_;clear hK K)|(clear hK K;with_reducible refine hK _ _ ?_;clear hK K)|(clear hK K;clear hK K;with_reducible refine hK _ _ ?_;clear hK K))|(with_reducible refine splitB_intro (fun h=>?_) (fun h=>?_)<;>(try simp only[go_sem] at h)<;>(try exact g_f)<;>(try simp -implicitDefEqProofs only[go_sem]))|(with_reducible refine And.intro (fun h=>?_) (fun h=>?_)<;>(try simp only[go_sem] at h)<;>(try exact g_f))|(with_reducible refine And.intro ?_ ?_;· exact g_x)|(with_reducible intro h;(try simp only[go_sem] at h);(try exact g_f))))
      all_goals (refine CutQ_c rfl ?_; simp)
  · rw [if_neg h0] at hC
    refine ACalls_of_awp Try.func10 rfl Try.results10 ?_
    simp only [List.length_cons, List.length_nil, Try.ntmps10, Nat.reduceAdd, Nat.reduceSub, enterA]
    (repeat' (first|(refine g_s fun K hK=>?_)|(refine g_b ?_)|(refine g_r ?_)|(refine g_k ?_;simp only[thenQ,blockQ])|(refine g_e ?_;simp only[thenQ,blockQ,↓reduceIte,Nat.reduceEqDiff])|(refine g_c (fun h=>?_) (fun h=>?_)<;>(try simp only[go_sem] at h)<;>(try exact g_f))|((first|refine g_t ?_|refine g_g ?_|refine g_U ?_|refine g_A ?_|refine (asyncBegun_calls _).use ?_|refine g_q (fun τ=>asyncBegun_calls _) ?_|refine (netBegun_calls _).use ?_|refine g_q (fun τ=>netBegun_calls _) ?_|refine (algebraBegun_calls _).use ?_|refine g_q (fun τ=>algebraBegun_calls _) ?_|refine (hC _).use ?_|refine g_q (fun τ=>hC _) ?_|refine (hP _).use ?_|refine g_q (fun τ=>hP _) ?_|refine g_W ?_);(try simp -implicitDefEqProofs only[go_sem]))|(with_reducible refine hK _ _ ?_;clear hK K)|(clear hK K;first|(with_reducible refine hK _ _ ?_;clear hK K)|(clear hK K;with_reducible refine hK _ _ ?_;clear hK K)|(clear hK K;clear hK K;with_reducible refine hK _ _ ?_;clear hK K))|(with_reducible refine splitB_intro (fun h=>?_) (fun h=>?_)<;>(try simp only[go_sem] at h)<;>(try exact g_f)<;>(try simp -implicitDefEqProofs only[go_sem]))|(with_reducible refine And.intro (fun h=>?_) (fun h=>?_)<;>(try simp only[go_sem] at h)<;>(try exact g_f))|(with_reducible refine And.intro ?_ ?_;· exact g_x)|(with_reducible intro h;(try simp only[go_sem] at h);(try exact g_f))))
    all_goals (refine CutQ_c rfl ?_; simp)
end Go.Proofs.Ytephecognbbaoab
