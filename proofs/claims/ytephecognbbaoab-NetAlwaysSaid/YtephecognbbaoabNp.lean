/- The law NetAlways, walked. -/
import Derived.Test.YtephecognbbaoabNo
import Derived.Test.YtephecognbbaoabAq
import Derived.Test.YtephecognbbaoabPq
namespace Go.Proofs.Ytephecognbbaoab
open Go
set_option linter.all false
set_option maxRecDepth 100000
set_option maxHeartbeats 4000000

theorem netAlways_calls (n : Net) (x y : List (List Int)) (okn : NetOk n) (okx : StOk x) (oky : StOk y) (σ : Store) : ACalls Try.prog 7 [.agg (netC n), rowsC x, rowsC y] σ fun r σ' => σ' = σ ∧ r = .c (.bool true) := by
  have hP := strict_calls n.alg okn.alg
  have hS := settle_calls n x 100 okn okx (by unfold I64; decide)
  have hT := settle_calls n y 100 okn oky (by unfold I64; decide)
  unfold settleC at hS hT
  refine ACalls.cutX ?_
  by_cases h2 : (lawsA n.alg [8]).2 = 0
  · by_cases h1 : (lawsA n.alg [8]).1.law = 0
    · rw [h2] at hP
      by_cases hx0 : fitA n x = 0
      · by_cases hy0 : fitA n y = 0
        · obtain ⟨hc, hx⟩ := fit_zero hx0
          obtain ⟨_, hy⟩ := fit_zero hy0
          have hn := netIn_of hc
          have ha : checkA n.alg = 0 := by
            apply Classical.byContradiction
            intro h
            rw [lawsA, if_pos h] at h2
            exact h h2
          have hs : StrictA n := by
            rw [lawsA, if_neg (by simpa using ha)] at h1
            exact h1
          have e1 : settleA n x 100 = (settleF n 100 0 x, 0) := by simp [settleA, hx0, inR]
          have e2 : settleA n y 100 = (settleF n 100 0 y, 0) := by simp [settleA, hy0, inR]
          rw [e1] at hS
          rw [e2] at hT
          obtain ⟨a1, a2, a3, a4⟩ := always hc hs hx hy
          have hp := settle_in hn (f := 100) (k := 0) hx
          have hpo := hp.stOk hn
          have hR := round_calls n (settleF n 100 0 x).1 okn hpo
          have hfp : fitA n (settleF n 100 0 x).1 = 0 := fit_ok hc hp
          rw [roundC, if_pos hfp, ← a1, hfp] at hR
          rw [← a4] at hT
          refine ACalls_of_awp Try.func7 rfl Try.results7 ?_
          simp only [List.length_cons, List.length_nil, Try.ntmps7, Nat.reduceAdd, Nat.reduceSub, enterA]
          (repeat' (first | (refine AWP_seq_k fun K hK => ?_) | (refine AWP_block ?_) | (refine ARounds_step ?_) | (refine AWP_skip ?_; simp only [thenQ, blockQ]) | (refine AWP_exit ?_; simp only [thenQ, blockQ, ↓reduceIte, Nat.reduceEqDiff]) | (refine AWP_cond rfl (fun h => ?_) (fun h => ?_) <;> (try simp only [go_sem] at h) <;> (try (exfalso; (first | contradiction | omega)))) | ((first | refine AWP_ret ?_ | refine AWP_region ?_ | refine AWP_drawU tab_mixed (by decide +kernel) ?_ | refine AWP_drawA tab_mixed (by decide +kernel) (by rfl) ?_ | refine (netBegun_calls _).use ?_ | refine callQ_use (fun τ => netBegun_calls _) ?_ | refine (algebraBegun_calls _).use ?_ | refine callQ_use (fun τ => algebraBegun_calls _) ?_ | refine (hP _).use ?_ | refine callQ_use (fun τ => hP _) ?_ | refine (hS _).use ?_ | refine callQ_use (fun τ => hS _) ?_ | refine (hT _).use ?_ | refine callQ_use (fun τ => hT _) ?_ | refine (hR _).use ?_ | refine callQ_use (fun τ => hR _) ?_ | refine (sameState_calls _ _ hpo _).use ?_ | refine callQ_use (fun τ => sameState_calls _ _ hpo _) ?_ | refine AWP_drawW false tab_mixed (by decide +kernel) ?_ ); (try simp -implicitDefEqProofs only [go_sem, h1, a2, a3])) | (with_reducible refine hK _ _ ?_; clear hK K) | (clear hK K; first | (with_reducible refine hK _ _ ?_; clear hK K) | (clear hK K; with_reducible refine hK _ _ ?_; clear hK K) | (clear hK K; clear hK K; with_reducible refine hK _ _ ?_; clear hK K)) | (with_reducible refine splitB_intro (fun h => ?_) (fun h => ?_) <;> (try simp only [go_sem] at h) <;> (try (exfalso; (first | contradiction | omega))) <;> (try simp -implicitDefEqProofs only [go_sem, h1, a2, a3])) | (with_reducible refine And.intro (fun h => ?_) (fun h => ?_) <;> (try simp only [go_sem] at h) <;> (try (exfalso; (first | contradiction | omega)))) | ((with_reducible refine And.intro ?_ ?_); · (first | omega | (unfold I64; omega) | (unfold maxLen; omega) | assumption | (with_reducible rfl) | (simp; done) | (simp [oneA, Value.oneCell']; done))) | (with_reducible intro h; (try simp only [go_sem] at h); (try (exfalso; (first | contradiction | omega))))))
          all_goals (refine CutQ_c rfl ?_; simp [h1, a2, a3])
        · have e2 : settleA n y 100 = (([], 0), fitA n y) := by simp [settleA, hy0]
          rw [e2] at hT
          generalize settleA n x 100 = q at hS
          refine ACalls_of_awp Try.func7 rfl Try.results7 ?_
          simp only [List.length_cons, List.length_nil, Try.ntmps7, Nat.reduceAdd, Nat.reduceSub, enterA]
          (repeat' (first | (refine AWP_seq_k fun K hK => ?_) | (refine AWP_block ?_) | (refine ARounds_step ?_) | (refine AWP_skip ?_; simp only [thenQ, blockQ]) | (refine AWP_exit ?_; simp only [thenQ, blockQ, ↓reduceIte, Nat.reduceEqDiff]) | (refine AWP_cond rfl (fun h => ?_) (fun h => ?_) <;> (try simp only [go_sem] at h) <;> (try (exfalso; (first | contradiction | omega)))) | ((first | refine AWP_ret ?_ | refine AWP_region ?_ | refine AWP_drawU tab_mixed (by decide +kernel) ?_ | refine AWP_drawA tab_mixed (by decide +kernel) (by rfl) ?_ | refine (netBegun_calls _).use ?_ | refine callQ_use (fun τ => netBegun_calls _) ?_ | refine (algebraBegun_calls _).use ?_ | refine callQ_use (fun τ => algebraBegun_calls _) ?_ | refine (hP _).use ?_ | refine callQ_use (fun τ => hP _) ?_ | refine (hS _).use ?_ | refine callQ_use (fun τ => hS _) ?_ | refine (hT _).use ?_ | refine callQ_use (fun τ => hT _) ?_ | refine AWP_drawW false tab_mixed (by decide +kernel) ?_ ); (try simp -implicitDefEqProofs only [go_sem, h1])) | (with_reducible refine hK _ _ ?_; clear hK K) | (clear hK K; first | (with_reducible refine hK _ _ ?_; clear hK K) | (clear hK K; with_reducible refine hK _ _ ?_; clear hK K) | (clear hK K; clear hK K; with_reducible refine hK _ _ ?_; clear hK K)) | (with_reducible refine splitB_intro (fun h => ?_) (fun h => ?_) <;> (try simp only [go_sem] at h) <;> (try (exfalso; (first | contradiction | omega))) <;> (try simp -implicitDefEqProofs only [go_sem, h1])) | (with_reducible refine And.intro (fun h => ?_) (fun h => ?_) <;> (try simp only [go_sem] at h) <;> (try (exfalso; (first | contradiction | omega)))) | ((with_reducible refine And.intro ?_ ?_); · (first | omega | (unfold I64; omega) | (unfold maxLen; omega) | assumption | (with_reducible rfl) | (simp; done) | (simp [oneA, Value.oneCell']; done))) | (with_reducible intro h; (try simp only [go_sem] at h); (try (exfalso; (first | contradiction | omega))))))
          all_goals (refine CutQ_c rfl ?_; simp)
      · have e1 : settleA n x 100 = (([], 0), fitA n x) := by simp [settleA, hx0]
        rw [e1] at hS
        generalize settleA n y 100 = q at hT
        refine ACalls_of_awp Try.func7 rfl Try.results7 ?_
        simp only [List.length_cons, List.length_nil, Try.ntmps7, Nat.reduceAdd, Nat.reduceSub, enterA]
        (repeat' (first | (refine AWP_seq_k fun K hK => ?_) | (refine AWP_block ?_) | (refine ARounds_step ?_) | (refine AWP_skip ?_; simp only [thenQ, blockQ]) | (refine AWP_exit ?_; simp only [thenQ, blockQ, ↓reduceIte, Nat.reduceEqDiff]) | (refine AWP_cond rfl (fun h => ?_) (fun h => ?_) <;> (try simp only [go_sem] at h) <;> (try (exfalso; (first | contradiction | omega)))) | ((first | refine AWP_ret ?_ | refine AWP_region ?_ | refine AWP_drawU tab_mixed (by decide +kernel) ?_ | refine AWP_drawA tab_mixed (by decide +kernel) (by rfl) ?_ | refine (netBegun_calls _).use ?_ | refine callQ_use (fun τ => netBegun_calls _) ?_ | refine (algebraBegun_calls _).use ?_ | refine callQ_use (fun τ => algebraBegun_calls _) ?_ | refine (hP _).use ?_ | refine callQ_use (fun τ => hP _) ?_ | refine (hS _).use ?_ | refine callQ_use (fun τ => hS _) ?_ | refine (hT _).use ?_ | refine callQ_use (fun τ => hT _) ?_ | refine AWP_drawW false tab_mixed (by decide +kernel) ?_ ); (try simp -implicitDefEqProofs only [go_sem, h1])) | (with_reducible refine hK _ _ ?_; clear hK K) | (clear hK K; first | (with_reducible refine hK _ _ ?_; clear hK K) | (clear hK K; with_reducible refine hK _ _ ?_; clear hK K) | (clear hK K; clear hK K; with_reducible refine hK _ _ ?_; clear hK K)) | (with_reducible refine splitB_intro (fun h => ?_) (fun h => ?_) <;> (try simp only [go_sem] at h) <;> (try (exfalso; (first | contradiction | omega))) <;> (try simp -implicitDefEqProofs only [go_sem, h1])) | (with_reducible refine And.intro (fun h => ?_) (fun h => ?_) <;> (try simp only [go_sem] at h) <;> (try (exfalso; (first | contradiction | omega)))) | ((with_reducible refine And.intro ?_ ?_); · (first | omega | (unfold I64; omega) | (unfold maxLen; omega) | assumption | (with_reducible rfl) | (simp; done) | (simp [oneA, Value.oneCell']; done))) | (with_reducible intro h; (try simp only [go_sem] at h); (try (exfalso; (first | contradiction | omega))))))
        all_goals (refine CutQ_c rfl ?_; simp)
    · refine ACalls_of_awp Try.func7 rfl Try.results7 ?_
      simp only [List.length_cons, List.length_nil, Try.ntmps7, Nat.reduceAdd, Nat.reduceSub, enterA]
      (repeat' (first | (refine AWP_seq_k fun K hK => ?_) | (refine AWP_block ?_) | (refine ARounds_step ?_) | (refine AWP_skip ?_; simp only [thenQ, blockQ]) | (refine AWP_exit ?_; simp only [thenQ, blockQ, ↓reduceIte, Nat.reduceEqDiff]) | (refine AWP_cond rfl (fun h => ?_) (fun h => ?_) <;> (try simp only [go_sem] at h) <;> (try (exfalso; (first | contradiction | omega)))) | ((first | refine AWP_ret ?_ | refine AWP_region ?_ | refine AWP_drawU tab_mixed (by decide +kernel) ?_ | refine AWP_drawA tab_mixed (by decide +kernel) (by rfl) ?_ | refine (netBegun_calls _).use ?_ | refine callQ_use (fun τ => netBegun_calls _) ?_ | refine (algebraBegun_calls _).use ?_ | refine callQ_use (fun τ => algebraBegun_calls _) ?_ | refine (hP _).use ?_ | refine callQ_use (fun τ => hP _) ?_ | refine AWP_drawW false tab_mixed (by decide +kernel) ?_ ); (try simp -implicitDefEqProofs only [go_sem])) | (with_reducible refine hK _ _ ?_; clear hK K) | (clear hK K; first | (with_reducible refine hK _ _ ?_; clear hK K) | (clear hK K; with_reducible refine hK _ _ ?_; clear hK K) | (clear hK K; clear hK K; with_reducible refine hK _ _ ?_; clear hK K)) | (with_reducible refine splitB_intro (fun h => ?_) (fun h => ?_) <;> (try simp only [go_sem] at h) <;> (try (exfalso; (first | contradiction | omega))) <;> (try simp -implicitDefEqProofs only [go_sem])) | (with_reducible refine And.intro (fun h => ?_) (fun h => ?_) <;> (try simp only [go_sem] at h) <;> (try (exfalso; (first | contradiction | omega)))) | ((with_reducible refine And.intro ?_ ?_); · (first | omega | (unfold I64; omega) | (unfold maxLen; omega) | assumption | (with_reducible rfl) | (simp; done) | (simp [oneA, Value.oneCell']; done))) | (with_reducible intro h; (try simp only [go_sem] at h); (try (exfalso; (first | contradiction | omega))))))
      all_goals (refine CutQ_c rfl ?_; simp)
  · refine ACalls_of_awp Try.func7 rfl Try.results7 ?_
    simp only [List.length_cons, List.length_nil, Try.ntmps7, Nat.reduceAdd, Nat.reduceSub, enterA]
    (repeat' (first | (refine AWP_seq_k fun K hK => ?_) | (refine AWP_block ?_) | (refine ARounds_step ?_) | (refine AWP_skip ?_; simp only [thenQ, blockQ]) | (refine AWP_exit ?_; simp only [thenQ, blockQ, ↓reduceIte, Nat.reduceEqDiff]) | (refine AWP_cond rfl (fun h => ?_) (fun h => ?_) <;> (try simp only [go_sem] at h) <;> (try (exfalso; (first | contradiction | omega)))) | ((first | refine AWP_ret ?_ | refine AWP_region ?_ | refine AWP_drawU tab_mixed (by decide +kernel) ?_ | refine AWP_drawA tab_mixed (by decide +kernel) (by rfl) ?_ | refine (netBegun_calls _).use ?_ | refine callQ_use (fun τ => netBegun_calls _) ?_ | refine (algebraBegun_calls _).use ?_ | refine callQ_use (fun τ => algebraBegun_calls _) ?_ | refine (hP _).use ?_ | refine callQ_use (fun τ => hP _) ?_ | refine AWP_drawW false tab_mixed (by decide +kernel) ?_ ); (try simp -implicitDefEqProofs only [go_sem])) | (with_reducible refine hK _ _ ?_; clear hK K) | (clear hK K; first | (with_reducible refine hK _ _ ?_; clear hK K) | (clear hK K; with_reducible refine hK _ _ ?_; clear hK K) | (clear hK K; clear hK K; with_reducible refine hK _ _ ?_; clear hK K)) | (with_reducible refine splitB_intro (fun h => ?_) (fun h => ?_) <;> (try simp only [go_sem] at h) <;> (try (exfalso; (first | contradiction | omega))) <;> (try simp -implicitDefEqProofs only [go_sem])) | (with_reducible refine And.intro (fun h => ?_) (fun h => ?_) <;> (try simp only [go_sem] at h) <;> (try (exfalso; (first | contradiction | omega)))) | ((with_reducible refine And.intro ?_ ?_); · (first | omega | (unfold I64; omega) | (unfold maxLen; omega) | assumption | (with_reducible rfl) | (simp; done) | (simp [oneA, Value.oneCell']; done))) | (with_reducible intro h; (try simp only [go_sem] at h); (try (exfalso; (first | contradiction | omega))))))
    all_goals (refine CutQ_c rfl ?_; simp)
end Go.Proofs.Ytephecognbbaoab
