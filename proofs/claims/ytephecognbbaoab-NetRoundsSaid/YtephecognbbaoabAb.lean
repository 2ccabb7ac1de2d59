/- Algebras: does a law hold, as the document says. -/
import Derived.Test.YtephecognbbaoabAa
namespace Go.Proofs.Ytephecognbbaoab
open Go
set_option linter.all false
set_option maxRecDepth 100000
set_option maxHeartbeats 4000000

theorem holdsOf_calls (x : Alg) (b : Brk) (hr : Right x) (hb : InR x b) (σ : Store) : ACalls Try.prog 186 [.agg (algC x), .agg (brkC b)] σ fun r σ' => σ' = σ ∧ r = .c (.bool (holdsA x b)) := by
  have ha := hb.pa
  have hbb := hb.pb
  have hc := hb.pc
  have hl := hb.pl
  have s2 := hr.s2
  have s24 := hr.s24
  have bl := hr.bl
  have b1 := hr.best_in ha.1 ha.2 hbb.1 hbb.2
  have b2 := hr.best_in hbb.1 hbb.2 hc.1 hc.2
  have l1 := hr.best_len ha.1 ha.2
  have l2 := hr.best_len hbb.1 hbb.2
  have l3 := hr.best_len (i := 0) (by omega) (by omega)
  have l4 := hr.best_len (i := x.size - 1) (by omega) (by omega)
  have l5 := hr.best_len b1.1 b1.2
  have hE : (b.law = 1 ∨ b.law = 2 ∨ b.law = 3 ∨ b.law = 4 ∨ b.law = 5) ∨ (0 ≤ b.edge ∧ b.edge < x.edges.length ∧ ((at0 x.edges b.edge).length : Int) = x.size ∧ 0 ≤ at2 x.edges b.edge b.a ∧ at2 x.edges b.edge b.a < x.size ∧ 0 ≤ at2 x.edges b.edge b.b ∧ at2 x.edges b.edge b.b < x.size ∧ ((at0 x.best (at2 x.edges b.edge b.a)).length : Int) = x.size) := by
    rcases hb.pe with h | h
    · exact .inl h
    · have f1 := hr.edge_in h.1 h.2 ha.1 ha.2
      have f2 := hr.edge_in h.1 h.2 hbb.1 hbb.2
      exact .inr ⟨h.1, h.2, hr.edge_len h.1 h.2, f1.1, f1.2, f2.1, f2.2, hr.best_len f1.1 f1.2⟩
  simp only [at2] at b1 b2 hE l5
  refine ACalls.cutX ?_
  refine ACalls_of_awp Try.func186 rfl Try.results186 ?_
  simp only [List.length_cons, List.length_nil, Try.ntmps186, Nat.reduceAdd, Nat.reduceSub, enterA]
  refine AWP_seq_k fun K hK => ?_
  (refine AWP_region ?_; simp -implicitDefEqProofs only [go_sem])
  refine hK _ _ ?_; clear hK K
  refine AWP_freezeP 2 rfl (by simp only [st0]; rfl) ?_
  simp only [ss0, List.set_cons_zero]
  refine AWP_freezeP 3 rfl (by simp only [st1]; rfl) ?_
  simp only [ss1, List.set_cons_zero, List.set_cons_succ]
  (repeat' (first | (refine AWP_seq_k fun K hK => ?_) | (refine AWP_block ?_) | (refine ARounds_step ?_) | (refine AWP_skip ?_; simp only [thenQ, blockQ]) | (refine AWP_exit ?_; simp only [thenQ, blockQ, ↓reduceIte, Nat.reduceEqDiff]) | (refine AWP_cond rfl (fun h => ?_) (fun h => ?_) <;> (try simp only [go_sem] at h) <;> (try (exfalso; (first | contradiction | omega)))) | ((first | refine AWP_ret ?_ | refine AWP_region ?_ | refine AWP_drawU tab_mixed (by decide +kernel) ?_ | refine AWP_drawA tab_mixed (by decide +kernel) (by rfl) ?_ | refine AWP_drawW false tab_mixed (by decide +kernel) ?_ ); (try simp -implicitDefEqProofs only [go_sem])) | (with_reducible refine hK _ _ ?_; clear hK K) | (clear hK K; first | (with_reducible refine hK _ _ ?_; clear hK K) | (clear hK K; with_reducible refine hK _ _ ?_; clear hK K) | (clear hK K; clear hK K; with_reducible refine hK _ _ ?_; clear hK K)) | (with_reducible refine splitB_intro (fun h => ?_) (fun h => ?_) <;> (try simp only [go_sem] at h) <;> (try (exfalso; (first | contradiction | omega))) <;> (try simp -implicitDefEqProofs only [go_sem])) | (with_reducible refine And.intro (fun h => ?_) (fun h => ?_) <;> (try simp only [go_sem] at h) <;> (try (exfalso; (first | contradiction | omega)))) | ((with_reducible refine And.intro ?_ ?_); · (first | omega | (unfold I64; omega) | (unfold maxLen; omega) | assumption | (with_reducible rfl) | (simp; done) | (simp [oneA, Value.oneCell']; done))) | (with_reducible intro h; (try simp only [go_sem] at h); (try (exfalso; (first | contradiction | omega))))))
  all_goals clear hE hr hb b1 b2 hl ha hbb hc l1 l2 l3 l4 l5
  all_goals (try (refine CutQ_c rfl ?_; try simp [holdsA, at2, Bool.beq_eq_decide_eq, bne, *]))
  all_goals (try exact decide_eq_decide.2 Iff.rfl)

theorem checkB_law {x : Alg} {b : Brk} (h : b.law < 1 ∨ 9 < b.law) : checkB x b = 7 := by
  unfold checkB
  rw [if_pos (not_inR.2 h)]

theorem checkB_bad {x : Alg} {b : Brk} (h : 1 ≤ b.law ∧ b.law ≤ 9) {k : Int} (h0 : 0 ≤ k) (h3 : k < 3) (hb : okAt (decide (k < manyA b.law)) (at0 [b.a, b.b, b.c] k) x.size = false) : checkB x b = 3 := by
  unfold checkB
  rw [if_neg (by rw [not_inR]; omega), if_pos]
  have : k = 0 ∨ k = 1 ∨ k = 2 := by omega
  rcases this with rfl | rfl | rfl
  · have e : at0 [b.a, b.b, b.c] 0 = b.a := rfl
    rw [e] at hb
    rw [hb]
    rfl
  · have e : at0 [b.a, b.b, b.c] 1 = b.b := rfl
    rw [e] at hb
    rw [hb]
    simp
  · have e : at0 [b.a, b.b, b.c] 2 = b.c := rfl
    rw [e] at hb
    rw [hb]
    simp

theorem checkB_edge {x : Alg} {b : Brk} (h : 1 ≤ b.law ∧ b.law ≤ 9) (hb : ∀ k : Int, 0 ≤ k → k < 3 → okAt (decide (k < manyA b.law)) (at0 [b.a, b.b, b.c] k) x.size = true) :
    checkB x b = if okAt (edgeA b.law) b.edge x.edges.length then 0 else 3 := by
  have h0 : okAt (decide (0 < manyA b.law)) b.a x.size = true := hb 0 (by omega) (by omega)
  have h1 : okAt (decide (1 < manyA b.law)) b.b x.size = true := hb 1 (by omega) (by omega)
  have h2 : okAt (decide (2 < manyA b.law)) b.c x.size = true := hb 2 (by omega) (by omega)
  unfold checkB
  rw [if_neg (by rw [not_inR]; omega), if_neg (by simp [h0, h1, h2])]
  cases okAt (edgeA b.law) b.edge x.edges.length <;> rfl

end Go.Proofs.Ytephecognbbaoab
