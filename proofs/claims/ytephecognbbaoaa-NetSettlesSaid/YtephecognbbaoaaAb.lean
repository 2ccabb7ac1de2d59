/- Algebras: does a law hold, as the document says. -/
import Derived.Test.YtephecognbbaoaaAa
namespace Go.Proofs.Ytephecognbbaoaa
open Go
set_option linter.all false
set_option maxRecDepth 100000
set_option maxHeartbeats 4000000

theorem holdsOf_calls (x : Alg) (b : Brk) (hr : Right x) (hb : InR x b) (σ : Store) : ACalls Try.prog 23 [.agg (algC x), .agg (brkC b)] σ fun r σ' => σ' = σ ∧ r = .c (.bool (holdsA x b)) := by
  have ha := hb.pa
  have hbb := hb.pb
  have hc := hb.pc
  have hl := hb.pl
  have s2 := hr.s2
  have s24 := hr.s24
  have bl := hr.bl
  have b1 := hr.best_in ha.1 ha.2 hbb.1 hbb.2
  have b2 := hr.best_in hbb.1 hbb.2 hc.1 hc.2
  have l1 := hr.best_len ha.1 ha.2
  have l2 := hr.best_len hbb.1 hbb.2
  have l3 := hr.best_len (i := 0) (by omega) (by omega)
  have l4 := hr.best_len (i := x.size - 1) (by omega) (by omega)
  have l5 := hr.best_len b1.1 b1.2
  have hE : (b.law = 1 ∨ b.law = 2 ∨ b.law = 3 ∨ b.law = 4 ∨ b.law = 5) ∨ (0 ≤ b.edge ∧ b.edge < x.edges.length ∧ ((at0 x.edges b.edge).length : Int) = x.size ∧ 0 ≤ at2 x.edges b.edge b.a ∧ at2 x.edges b.edge b.a < x.size ∧ 0 ≤ at2 x.edges b.edge b.b ∧ at2 x.edges b.edge b.b < x.size ∧ ((at0 x.best (at2 x.edges b.edge b.a)).length : Int) = x.size) := by
    rcases hb.pe with h | h
    · exact .inl h
    · have f1 := hr.edge_in h.1 h.2 ha.1 ha.2
      have f2 := hr.edge_in h.1 h.2 hbb.1 hbb.2
      exact .inr ⟨h.1, h.2, hr.edge_len h.1 h.2, f1.1, f1.2, f2.1, f2.2, hr.best_len f1.1 f1.2⟩
  simp only [at2] at b1 b2 hE l5
  refine ACalls.cutX ?_
  refine ACalls_of_awp Try.func23 rfl Try.results23 ?_
  simp only [List.length_cons, List.length_nil, Try.ntmps23, Nat.reduceAdd, Nat.reduceSub, enterA]
  refine AWP_seq_k fun K hK => ?_
  (refine AWP_region ?_; simp -implicitDefEqProofs only [go_sem, ↓reduceIte, Nat.reduceLT, Nat.reduceEqDiff, Nat.reduceBEq, Nat.reduceAdd, Nat.reduceSub, Nat.reduceLeDiff, Nat.reduceMul, Int.reduceAdd, Int.reduceSub, Int.reduceMul, Int.reduceLT, Int.reduceLE, Int.reduceEq, Int.reduceNe, Int.reduceToNat, Int.reduceNeg])
  refine hK _ _ ?_; clear hK K
  refine AWP_freezeP 2 rfl (by simp only [st0]; rfl) ?_
  simp only [ss0, List.set_cons_zero]
  refine AWP_freezeP 3 rfl (by simp only [st1]; rfl) ?_
  simp only [ss1, List.set_cons_zero, List.set_cons_succ]
  (repeat' (first | (refine AWP_seq_k fun K hK => ?_) | (refine AWP_block ?_) | (refine ARounds_step ?_) | (refine AWP_skip ?_; simp only [thenQ, blockQ]) | (refine AWP_exit ?_; simp only [thenQ, blockQ, ↓reduceIte, Nat.reduceEqDiff]) | (refine AWP_cond rfl (fun h => ?_) (fun h => ?_) <;> (try simp only [go_sem] at h) <;> (try (exfalso; (first | contradiction | omega)))) | ((first | refine AWP_ret ?_ | refine AWP_region ?_ | refine AWP_drawU tab_mixed (by decide +kernel) ?_ | refine AWP_drawA tab_mixed (by decide +kernel) (by rfl) ?_ | refine AWP_drawW false tab_mixed (by decide +kernel) ?_ ); (try simp -implicitDefEqProofs only [go_sem, ↓reduceIte, Nat.reduceLT, Nat.reduceEqDiff, Nat.reduceBEq, Nat.reduceAdd, Nat.reduceSub, Nat.reduceLeDiff, Nat.reduceMul, Int.reduceAdd, Int.reduceSub, Int.reduceMul, Int.reduceLT, Int.reduceLE, Int.reduceEq, Int.reduceNe, Int.reduceToNat, Int.reduceNeg])) | (with_reducible refine hK _ _ ?_; clear hK K) | (clear hK K; first | (with_reducible refine hK _ _ ?_; clear hK K) | (clear hK K; with_reducible refine hK _ _ ?_; clear hK K) | (clear hK K; clear hK K; with_reducible refine hK _ _ ?_; clear hK K)) | (with_reducible refine splitB_intro (fun h => ?_) (fun h => ?_) <;> (try simp only [go_sem] at h) <;> (try (exfalso; (first | contradiction | omega))) <;> (try simp -implicitDefEqProofs only [go_sem, ↓reduceIte, Nat.reduceLT, Nat.reduceEqDiff, Nat.reduceBEq, Nat.reduceAdd, Nat.reduceSub, Nat.reduceLeDiff, Nat.reduceMul, Int.reduceAdd, Int.reduceSub, Int.reduceMul, Int.reduceLT, Int.reduceLE, Int.reduceEq, Int.reduceNe, Int.reduceToNat, Int.reduceNeg])) | (with_reducible refine And.intro (fun h => ?_) (fun h => ?_) <;> (try simp only [go_sem] at h) <;> (try (exfalso; (first | contradiction | omega)))) | ((with_reducible refine And.intro ?_ ?_); · (first | omega | (unfold I64; omega) | (unfold maxLen; omega) | assumption | (with_reducible rfl) | (simp; done) | (simp [oneA, Value.oneCell']; done))) | (with_reducible intro h; (try simp only [go_sem] at h); (try (exfalso; (first | contradiction | omega))))))
  all_goals clear hE hr hb b1 b2 hl ha hbb hc l1 l2 l3 l4 l5
  all_goals (try (refine CutQ_c rfl ?_; try simp [holdsA, at2, Bool.beq_eq_decide_eq, bne, *]))
  all_goals (try exact decide_eq_decide.2 Iff.rfl)

theorem checkB_law {x : Alg} {b : Brk} (h : b.law < 1 ∨ 9 < b.law) : checkB x b = 7 := by
  unfold checkB
  rw [if_pos (not_inR.2 h)]

theorem checkB_bad {x : Alg} {b : Brk} (h : 1 ≤ b.law ∧ b.law ≤ 9) {k : Int} (h0 : 0 ≤ k) (h3 : k < 3) (hb : okAt (decide (k < manyA b.law)) (at0 [b.a, b.b, b.c] k) x.size = false) : checkB x b = 3 := by
  unfold checkB
  rw [if_neg (by rw [not_inR]; omega), if_pos]
  have : k = 0 ∨ k = 1 ∨ k = 2 := by omega
  rcases this with rfl | rfl | rfl
  · have e : at0 [b.a, b.b, b.c] 0 = b.a := rfl
    rw [e] at hb
    rw [hb]
    rfl
  · have e : at0 [b.a, b.b, b.c] 1 = b.b := rfl
    rw [e] at hb
    rw [hb]
    simp
  · have e : at0 [b.a, b.b, b.c] 2 = b.c := rfl
    rw [e] at hb
    rw [hb]
    simp

theorem checkB_edge {x : Alg} {b : Brk} (h : 1 ≤ b.law ∧ b.law ≤ 9) (hb : ∀ k : Int, 0 ≤ k → k < 3 → okAt (decide (k < manyA b.law)) (at0 [b.a, b.b, b.c] k) x.size = true) :
    checkB x b = if okAt (edgeA b.law) b.edge x.edges.length then 0 else 3 := by
  have h0 : okAt (decide (0 < manyA b.law)) b.a x.size = true := hb 0 (by omega) (by omega)
  have h1 : okAt (decide (1 < manyA b.law)) b.b x.size = true := hb 1 (by omega) (by omega)
  have h2 : okAt (decide (2 < manyA b.law)) b.c x.size = true := hb 2 (by omega) (by omega)
  unfold checkB
  rw [if_neg (by rw [not_inR]; omega), if_neg (by simp [h0, h1, h2])]
  cases okAt (edgeA b.law) b.edge x.edges.length <;> rfl

theorem checkBroken_calls (x : Alg) (b : Brk) (hs : 2 ≤ x.size ∧ x.size ≤ 24) (he : x.edges.length ≤ 8) (σ : Store) : ACalls Try.prog 22 [.agg (algC x), .agg (brkC b)] σ fun r σ' => σ' = σ ∧ r = intA1 (checkB x b) := by
  have hm := many_bd b.law
  refine ACalls.cutX ?_
  refine ACalls_of_awp Try.func22 rfl Try.results22 ?_
  simp only [List.length_cons, List.length_nil, Try.ntmps22, Nat.reduceAdd, Nat.reduceSub, enterA]
  refine AWP_seq_k fun K hK => ?_
  (refine AWP_region ?_; simp -implicitDefEqProofs only [go_sem, ↓reduceIte, Nat.reduceLT, Nat.reduceEqDiff, Nat.reduceBEq, Nat.reduceAdd, Nat.reduceSub, Nat.reduceLeDiff, Nat.reduceMul, Int.reduceAdd, Int.reduceSub, Int.reduceMul, Int.reduceLT, Int.reduceLE, Int.reduceEq, Int.reduceNe, Int.reduceToNat, Int.reduceNeg])
  refine hK _ _ ?_; clear hK K
  refine AWP_freezeP 2 rfl (by simp only [st0]; rfl) ?_
  simp only [ss0, List.set_cons_zero]
  refine AWP_freezeP 3 rfl (by simp only [st1]; rfl) ?_
  simp only [ss1, List.set_cons_zero, List.set_cons_succ]
  (repeat' (first | (refine AWP_seq_k fun K hK => ?_) | (refine AWP_block ?_) | (refine ARounds_step ?_) | (refine AWP_skip ?_; simp only [thenQ, blockQ]) | (refine AWP_exit ?_; simp only [thenQ, blockQ, ↓reduceIte, Nat.reduceEqDiff]) | (refine AWP_cond rfl (fun h => ?_) (fun h => ?_) <;> (try simp only [go_sem] at h) <;> (try (exfalso; (first | contradiction | omega)))) | ((first | refine AWP_ret ?_ | refine AWP_region ?_ | refine AWP_drawU tab_mixed (by decide +kernel) ?_ | refine AWP_drawA tab_mixed (by decide +kernel) (by rfl) ?_ | refine (between_calls _ _ _ _).use ?_ | refine callQ_use (fun τ => between_calls _ _ _ _) ?_ | refine (names_calls _ _).use ?_ | refine callQ_use (fun τ => names_calls _ _) ?_ | refine AWP_drawW false tab_mixed (by decide +kernel) ?_ ); (try simp -implicitDefEqProofs only [go_sem, ↓reduceIte, Nat.reduceLT, Nat.reduceEqDiff, Nat.reduceBEq, Nat.reduceAdd, Nat.reduceSub, Nat.reduceLeDiff, Nat.reduceMul, Int.reduceAdd, Int.reduceSub, Int.reduceMul, Int.reduceLT, Int.reduceLE, Int.reduceEq, Int.reduceNe, Int.reduceToNat, Int.reduceNeg])) | (with_reducible refine hK _ _ ?_; clear hK K) | (clear hK K; first | (with_reducible refine hK _ _ ?_; clear hK K) | (clear hK K; with_reducible refine hK _ _ ?_; clear hK K) | (clear hK K; clear hK K; with_reducible refine hK _ _ ?_; clear hK K)) | (with_reducible refine splitB_intro (fun h => ?_) (fun h => ?_) <;> (try simp only [go_sem] at h) <;> (try (exfalso; (first | contradiction | omega))) <;> (try simp -implicitDefEqProofs only [go_sem, ↓reduceIte, Nat.reduceLT, Nat.reduceEqDiff, Nat.reduceBEq, Nat.reduceAdd, Nat.reduceSub, Nat.reduceLeDiff, Nat.reduceMul, Int.reduceAdd, Int.reduceSub, Int.reduceMul, Int.reduceLT, Int.reduceLE, Int.reduceEq, Int.reduceNe, Int.reduceToNat, Int.reduceNeg])) | (with_reducible refine And.intro (fun h => ?_) (fun h => ?_) <;> (try simp only [go_sem] at h) <;> (try (exfalso; (first | contradiction | omega)))) | ((with_reducible refine And.intro ?_ ?_); · (first | omega | (unfold I64; omega) | (unfold maxLen; omega) | assumption | (with_reducible rfl) | (simp; done) | (simp [oneA, Value.oneCell']; done))) | (with_reducible intro h; (try simp only [go_sem] at h); (try (exfalso; (first | contradiction | omega))))))
  · exact CutQ_c rfl (by rw [checkB_law h])
  have hJ := hK
  clear hK
  have hlaw := h
  clear h
  refine AWP_each [b.a, b.b, b.c] (fun k r _ => ∀ i : Int, 0 ≤ i → i < k → okAt (decide (i < manyA b.law)) (at0 [b.a, b.b, b.c] i) x.size = true) (fun k _ _ => [(8, intA1 k)]) (fun _ _ _ => σ ++ [.dead, .dead, .cells 1 ([b.a, b.b, b.c].map intC)]) () [] (fun i h1 h2 => by omega) rfl (ALe_of ?_) ?_ ?_
  · simp -implicitDefEqProofs only [go_sem, ↓reduceIte, Nat.reduceLT, Nat.reduceEqDiff, Nat.reduceBEq, Nat.reduceAdd, Nat.reduceSub, Nat.reduceLeDiff, Nat.reduceMul, Int.reduceAdd, Int.reduceSub, Int.reduceMul, Int.reduceLT, Int.reduceLE, Int.reduceEq, Int.reduceNe, Int.reduceToNat, Int.reduceNeg]
  · rintro k r _ τ hk0 hk1 hH L hL
    have hk3 : k < 3 := hk1
    generalize hv : [b.a, b.b, b.c] = vals at hL hk1
    have hvl : vals.length = 3 := by rw [← hv]; rfl
    simp -implicitDefEqProofs only [go_sem, ↓reduceIte, Nat.reduceLT, Nat.reduceEqDiff, Nat.reduceBEq, Nat.reduceAdd, Nat.reduceSub, Nat.reduceLeDiff, Nat.reduceMul, Int.reduceAdd, Int.reduceSub, Int.reduceMul, Int.reduceLT, Int.reduceLE, Int.reduceEq, Int.reduceNe, Int.reduceToNat, Int.reduceNeg]
    (repeat' (first | (refine AWP_seq_k fun K hK => ?_) | (refine AWP_block ?_) | (refine ARounds_step ?_) | (refine AWP_skip ?_; simp only [thenQ, blockQ]) | (refine AWP_exit ?_; simp only [thenQ, blockQ, ↓reduceIte, Nat.reduceEqDiff]) | (refine AWP_cond rfl (fun h => ?_) (fun h => ?_) <;> (try simp only [go_sem] at h) <;> (try (exfalso; (first | contradiction | omega)))) | ((first | refine AWP_ret ?_ | refine AWP_region ?_ | refine AWP_drawU tab_mixed (by decide +kernel) ?_ | refine AWP_drawA tab_mixed (by decide +kernel) (by rfl) ?_ | refine (between_calls _ _ _ _).use ?_ | refine callQ_use (fun τ => between_calls _ _ _ _) ?_ | refine AWP_drawW false tab_mixed (by decide +kernel) ?_ ); (try simp -implicitDefEqProofs only [go_sem, ↓reduceIte, Nat.reduceLT, Nat.reduceEqDiff, Nat.reduceBEq, Nat.reduceAdd, Nat.reduceSub, Nat.reduceLeDiff, Nat.reduceMul, Int.reduceAdd, Int.reduceSub, Int.reduceMul, Int.reduceLT, Int.reduceLE, Int.reduceEq, Int.reduceNe, Int.reduceToNat, Int.reduceNeg])) | (with_reducible refine hK _ _ ?_; clear hK K) | (clear hK K; first | (with_reducible refine hK _ _ ?_; clear hK K) | (clear hK K; with_reducible refine hK _ _ ?_; clear hK K) | (clear hK K; clear hK K; with_reducible refine hK _ _ ?_; clear hK K)) | (with_reducible refine splitB_intro (fun h => ?_) (fun h => ?_) <;> (try simp only [go_sem] at h) <;> (try (exfalso; (first | contradiction | omega))) <;> (try simp -implicitDefEqProofs only [go_sem, ↓reduceIte, Nat.reduceLT, Nat.reduceEqDiff, Nat.reduceBEq, Nat.reduceAdd, Nat.reduceSub, Nat.reduceLeDiff, Nat.reduceMul, Int.reduceAdd, Int.reduceSub, Int.reduceMul, Int.reduceLT, Int.reduceLE, Int.reduceEq, Int.reduceNe, Int.reduceToNat, Int.reduceNeg])) | (with_reducible refine And.intro (fun h => ?_) (fun h => ?_) <;> (try simp only [go_sem] at h) <;> (try (exfalso; (first | contradiction | omega)))) | ((with_reducible refine And.intro ?_ ?_); · (first | omega | (unfold I64; omega) | (unfold maxLen; omega) | assumption | (with_reducible rfl) | (simp; done) | (simp [oneA, Value.oneCell']; done))) | (with_reducible intro h; (try simp only [go_sem] at h); (try (exfalso; (first | contradiction | omega))))))
    all_goals cases hok : okAt (decide (k < manyA b.law)) (at0 [b.a, b.b, b.c] k) x.size
    all_goals first
      | (refine CutQ_c rfl ?_; rw [checkB_bad hlaw hk0 hk3 hok]; done)
      | (exfalso; rw [hv] at hok; first | rw [okAt_iff] at hok | rw [← Bool.not_eq_true, okAt_iff] at hok
         by_cases hkm : k < manyA b.law <;> simp only [upN, hkm, decide_true, decide_false, if_true, if_false, Bool.false_eq_true] at hok <;> omega)
      | skip
    all_goals
      subst hv
      refine hL () [] _ _ (fun i h1 h2 => ?_) (ALe_of ?_) rfl
      · rcases Int.lt_or_eq_of_le (Int.le_of_lt_add_one h2) with h3 | h3
        · exact hH i h1 h3
        · rw [h3]; exact hok
      · simp -implicitDefEqProofs only [go_sem, ↓reduceIte, Nat.reduceLT, Nat.reduceEqDiff, Nat.reduceBEq, Nat.reduceAdd, Nat.reduceSub, Nat.reduceLeDiff, Nat.reduceMul, Int.reduceAdd, Int.reduceSub, Int.reduceMul, Int.reduceLT, Int.reduceLE, Int.reduceEq, Int.reduceNe, Int.reduceToNat, Int.reduceNeg]
  · rintro k _ τ hk hH L
    have hk3 : k = 3 := hk
    subst hk3
    have hce := checkB_edge hlaw hH
    simp -implicitDefEqProofs only [go_sem, ↓reduceIte, Nat.reduceLT, Nat.reduceEqDiff, Nat.reduceBEq, Nat.reduceAdd, Nat.reduceSub, Nat.reduceLeDiff, Nat.reduceMul, Int.reduceAdd, Int.reduceSub, Int.reduceMul, Int.reduceLT, Int.reduceLE, Int.reduceEq, Int.reduceNe, Int.reduceToNat, Int.reduceNeg]
    (repeat' (first | (refine AWP_seq_k fun K hK => ?_) | (refine AWP_block ?_) | (refine ARounds_step ?_) | (refine AWP_skip ?_; simp only [thenQ, blockQ]) | (refine AWP_exit ?_; simp only [thenQ, blockQ, ↓reduceIte, Nat.reduceEqDiff]) | (refine AWP_cond rfl (fun h => ?_) (fun h => ?_) <;> (try simp only [go_sem] at h) <;> (try (exfalso; (first | contradiction | omega)))) | ((first | refine AWP_ret ?_ | refine AWP_region ?_ | refine AWP_drawU tab_mixed (by decide +kernel) ?_ | refine AWP_drawA tab_mixed (by decide +kernel) (by rfl) ?_ | refine AWP_drawW false tab_mixed (by decide +kernel) ?_ ); (try simp -implicitDefEqProofs only [go_sem, ↓reduceIte, Nat.reduceLT, Nat.reduceEqDiff, Nat.reduceBEq, Nat.reduceAdd, Nat.reduceSub, Nat.reduceLeDiff, Nat.reduceMul, Int.reduceAdd, Int.reduceSub, Int.reduceMul, Int.reduceLT, Int.reduceLE, Int.reduceEq, Int.reduceNe, Int.reduceToNat, Int.reduceNeg])) | (with_reducible refine hK _ _ ?_; clear hK K) | (clear hK K; first | (with_reducible refine hK _ _ ?_; clear hK K) | (clear hK K; with_reducible refine hK _ _ ?_; clear hK K) | (clear hK K; clear hK K; with_reducible refine hK _ _ ?_; clear hK K)) | (with_reducible refine splitB_intro (fun h => ?_) (fun h => ?_) <;> (try simp only [go_sem] at h) <;> (try (exfalso; (first | contradiction | omega))) <;> (try simp -implicitDefEqProofs only [go_sem, ↓reduceIte, Nat.reduceLT, Nat.reduceEqDiff, Nat.reduceBEq, Nat.reduceAdd, Nat.reduceSub, Nat.reduceLeDiff, Nat.reduceMul, Int.reduceAdd, Int.reduceSub, Int.reduceMul, Int.reduceLT, Int.reduceLE, Int.reduceEq, Int.reduceNe, Int.reduceToNat, Int.reduceNeg])) | (with_reducible refine And.intro (fun h => ?_) (fun h => ?_) <;> (try simp only [go_sem] at h) <;> (try (exfalso; (first | contradiction | omega)))) | ((with_reducible refine And.intro ?_ ?_); · (first | omega | (unfold I64; omega) | (unfold maxLen; omega) | assumption | (with_reducible rfl) | (simp; done) | (simp [oneA, Value.oneCell']; done))) | (with_reducible intro h; (try simp only [go_sem] at h); (try (exfalso; (first | contradiction | omega))))))
    refine hJ _ _ ?_
    clear hJ
    (repeat' (first | (refine AWP_seq_k fun K hK => ?_) | (refine AWP_block ?_) | (refine ARounds_step ?_) | (refine AWP_skip ?_; simp only [thenQ, blockQ]) | (refine AWP_exit ?_; simp only [thenQ, blockQ, ↓reduceIte, Nat.reduceEqDiff]) | (refine AWP_cond rfl (fun h => ?_) (fun h => ?_) <;> (try simp only [go_sem] at h) <;> (try (exfalso; (first | contradiction | omega)))) | ((first | refine AWP_ret ?_ | refine AWP_region ?_ | refine AWP_drawU tab_mixed (by decide +kernel) ?_ | refine AWP_drawA tab_mixed (by decide +kernel) (by rfl) ?_ | refine (between_calls _ _ _ _).use ?_ | refine callQ_use (fun τ => between_calls _ _ _ _) ?_ | refine AWP_drawW false tab_mixed (by decide +kernel) ?_ ); (try simp -implicitDefEqProofs only [go_sem, ↓reduceIte, Nat.reduceLT, Nat.reduceEqDiff, Nat.reduceBEq, Nat.reduceAdd, Nat.reduceSub, Nat.reduceLeDiff, Nat.reduceMul, Int.reduceAdd, Int.reduceSub, Int.reduceMul, Int.reduceLT, Int.reduceLE, Int.reduceEq, Int.reduceNe, Int.reduceToNat, Int.reduceNeg])) | (with_reducible refine hK _ _ ?_; clear hK K) | (clear hK K; first | (with_reducible refine hK _ _ ?_; clear hK K) | (clear hK K; with_reducible refine hK _ _ ?_; clear hK K) | (clear hK K; clear hK K; with_reducible refine hK _ _ ?_; clear hK K)) | (with_reducible refine splitB_intro (fun h => ?_) (fun h => ?_) <;> (try simp only [go_sem] at h) <;> (try (exfalso; (first | contradiction | omega))) <;> (try simp -implicitDefEqProofs only [go_sem, ↓reduceIte, Nat.reduceLT, Nat.reduceEqDiff, Nat.reduceBEq, Nat.reduceAdd, Nat.reduceSub, Nat.reduceLeDiff, Nat.reduceMul, Int.reduceAdd, Int.reduceSub, Int.reduceMul, Int.reduceLT, Int.reduceLE, Int.reduceEq, Int.reduceNe, Int.reduceToNat, Int.reduceNeg])) | (with_reducible refine And.intro (fun h => ?_) (fun h => ?_) <;> (try simp only [go_sem] at h) <;> (try (exfalso; (first | contradiction | omega)))) | ((with_reducible refine And.intro ?_ ?_); · (first | omega | (unfold I64; omega) | (unfold maxLen; omega) | assumption | (with_reducible rfl) | (simp; done) | (simp [oneA, Value.oneCell']; done))) | (with_reducible intro h; (try simp only [go_sem] at h); (try (exfalso; (first | contradiction | omega))))))
    all_goals clear hH hk
    all_goals (refine CutQ_c rfl ?_; rw [hce]; clear hce)
    all_goals first | (simp_all [okAt, inR]; done) | (simp_all [okAt, inR]; intros; omega)
end Go.Proofs.Ytephecognbbaoaa
