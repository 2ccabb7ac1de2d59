/- What must be in any case of nets; the law NetSettles, walked. -/
import Derived.Test.YtephecognbbaoabNl
namespace Go.Proofs.Ytephecognbbaoab
open Go
set_option linter.all false
set_option maxRecDepth 100000
set_option maxHeartbeats 4000000

theorem ACalls.argW {P : Program} {f : FuncId} {args args' : List AV} {σ : Store} {R : AV → Store → Prop} (h : ACalls P f args' σ R) (hw : WkL args args') : ACalls P f args σ R := fun K imm m w vs hs hv => h K imm m w vs hs (hw _ _ _ hv)

def beginC (n : Net) : AV := .tup [rowsC (if checkN n = 0 then beginA n else []), intA1 (checkN n)]

theorem begin_calls (n : Net) (ok : NetOk n) (σ : Store) : ACalls Try.prog 20 [.agg (netC n)] σ fun r σ' => σ' = σ ∧ r = beginC n := by
  have hC := netCheck_calls n ok
  refine ACalls.cutX ?_
  by_cases h0 : checkN n = 0
  · rw [beginC, if_pos h0]
    rw [h0] at hC ⊢
    refine ACalls_of_awp Try.func20 rfl Try.results20 ?_
    simp only [List.length_cons, List.length_nil, Try.ntmps20, Nat.reduceAdd, Nat.reduceSub, enterA]
    (repeat' (first | (refine AWP_seq_k fun K hK => ?_) | (refine AWP_block ?_) | (refine ARounds_step ?_) | (refine AWP_skip ?_; simp only [thenQ, blockQ]) | (refine AWP_exit ?_; simp only [thenQ, blockQ, ↓reduceIte, Nat.reduceEqDiff]) | (refine AWP_cond rfl (fun h => ?_) (fun h => ?_) <;> (try simp only [go_sem] at h) <;> (try (exfalso; (first | contradiction | omega)))) | ((first | refine AWP_ret ?_ | refine AWP_region ?_ | refine AWP_drawU tab_mixed (by decide +kernel) ?_ | refine AWP_drawA tab_mixed (by decide +kernel) (by rfl) ?_ | refine (hC _).use ?_ | refine callQ_use (fun τ => hC _) ?_ | refine (trivial_calls n (netIn_of h0) _).use ?_ | refine callQ_use (fun τ => trivial_calls n (netIn_of h0) _) ?_ | refine AWP_drawW false tab_mixed (by decide +kernel) ?_ ); (try simp -implicitDefEqProofs only [go_sem])) | (with_reducible refine hK _ _ ?_; clear hK K) | (clear hK K; first | (with_reducible refine hK _ _ ?_; clear hK K) | (clear hK K; with_reducible refine hK _ _ ?_; clear hK K) | (clear hK K; clear hK K; with_reducible refine hK _ _ ?_; clear hK K)) | (with_reducible refine splitB_intro (fun h => ?_) (fun h => ?_) <;> (try simp only [go_sem] at h) <;> (try (exfalso; (first | contradiction | omega))) <;> (try simp -implicitDefEqProofs only [go_sem])) | (with_reducible refine And.intro (fun h => ?_) (fun h => ?_) <;> (try simp only [go_sem] at h) <;> (try (exfalso; (first | contradiction | omega)))) | ((with_reducible refine And.intro ?_ ?_); · (first | omega | (unfold I64; omega) | (unfold maxLen; omega) | assumption | (with_reducible rfl) | (simp; done) | (simp [oneA, Value.oneCell']; done))) | (with_reducible intro h; (try simp only [go_sem] at h); (try (exfalso; (first | contradiction | omega))))))
    refine CutQ_w rfl ?_ ?_
    · exact .tupL (.cons (.rows _) (.cons (.c _) .nil))
    · exact .eq rfl
  · rw [beginC, if_neg h0]
    refine ACalls_of_awp Try.func20 rfl Try.results20 ?_
    simp only [List.length_cons, List.length_nil, Try.ntmps20, Nat.reduceAdd, Nat.reduceSub, enterA]
    (repeat' (first | (refine AWP_seq_k fun K hK => ?_) | (refine AWP_block ?_) | (refine ARounds_step ?_) | (refine AWP_skip ?_; simp only [thenQ, blockQ]) | (refine AWP_exit ?_; simp only [thenQ, blockQ, ↓reduceIte, Nat.reduceEqDiff]) | (refine AWP_cond rfl (fun h => ?_) (fun h => ?_) <;> (try simp only [go_sem] at h) <;> (try (exfalso; (first | contradiction | omega)))) | ((first | refine AWP_ret ?_ | refine AWP_region ?_ | refine AWP_drawU tab_mixed (by decide +kernel) ?_ | refine AWP_drawA tab_mixed (by decide +kernel) (by rfl) ?_ | refine (hC _).use ?_ | refine callQ_use (fun τ => hC _) ?_ | refine AWP_drawW false tab_mixed (by decide +kernel) ?_ ); (try simp -implicitDefEqProofs only [go_sem])) | (with_reducible refine hK _ _ ?_; clear hK K) | (clear hK K; first | (with_reducible refine hK _ _ ?_; clear hK K) | (clear hK K; with_reducible refine hK _ _ ?_; clear hK K) | (clear hK K; clear hK K; with_reducible refine hK _ _ ?_; clear hK K)) | (with_reducible refine splitB_intro (fun h => ?_) (fun h => ?_) <;> (try simp only [go_sem] at h) <;> (try (exfalso; (first | contradiction | omega))) <;> (try simp -implicitDefEqProofs only [go_sem])) | (with_reducible refine And.intro (fun h => ?_) (fun h => ?_) <;> (try simp only [go_sem] at h) <;> (try (exfalso; (first | contradiction | omega)))) | ((with_reducible refine And.intro ?_ ?_); · (first | omega | (unfold I64; omega) | (unfold maxLen; omega) | assumption | (with_reducible rfl) | (simp; done) | (simp [oneA, Value.oneCell']; done))) | (with_reducible intro h; (try simp only [go_sem] at h); (try (exfalso; (first | contradiction | omega))))))
    refine CutQ_w rfl ?_ ?_
    · (repeat' (first | exact Bd.c _ | exact Bd.emp | exact BdL.nil | exact Bd.ints _ | refine Bd.aggL ?_ | refine Bd.tupL ?_ | refine BdL.cons ?_ ?_))
    · exact .tup (.cons .nil (.cons (.refl _) .nil))

def twoN : Net := ⟨hopsX, 2, [⟨0, 1, 0⟩, ⟨1, 0, 0⟩]⟩
theorem twoN_ok : NetOk twoN := ⟨⟨by decide, by decide, by unfold I64; decide, by decide⟩, by unfold I64; decide, by decide, by unfold I64; decide⟩
theorem twoN_check : checkN twoN = 0 := by decide +kernel
theorem twoN_begin : beginC twoN = .tup [rowsC [[0, 2], [2, 0]], intA1 0] := by
  have h : beginA twoN = [[0, 2], [2, 0]] := by decide +kernel
  rw [beginC, if_pos twoN_check, h, twoN_check]
theorem twoN_settle : settleA twoN [[0, 2], [2, 0]] 10 = (([[0, 1], [1, 0]], 1), 0) := by decide +kernel

theorem netC_bd {m : Nat} (n : Net) : Bd m (.agg (netC n)) := .aggL (.cons (.c _) (.cons (.rows _) (.cons (.rows _) (.cons (.c _) (.cons (.slL (fun _ => .cons (.c _) (.cons (.c _) (.cons (.c _) .nil))) _) .nil)))))

theorem two_calls (σ : Store) : ACalls Try.prog 81 [] σ fun r σ' => σ' = σ ∧ r = .agg (netC twoN) := by
  refine ACalls.cutX ?_
  refine ACalls_of_awp Try.func81 rfl Try.results81 ?_
  simp only [List.length_cons, List.length_nil, Try.ntmps81, Nat.reduceAdd, Nat.reduceSub, enterA]
  (repeat' (first | (refine AWP_seq_k fun K hK => ?_) | (refine AWP_block ?_) | (refine ARounds_step ?_) | (refine AWP_skip ?_; simp only [thenQ, blockQ]) | (refine AWP_exit ?_; simp only [thenQ, blockQ, ↓reduceIte, Nat.reduceEqDiff]) | (refine AWP_cond rfl (fun h => ?_) (fun h => ?_) <;> (try simp only [go_sem] at h) <;> (try (exfalso; (first | contradiction | omega)))) | ((first | refine AWP_ret ?_ | refine AWP_regionB ?_ | refine AWP_drawU tab_mixed (by decide +kernel) ?_ | refine AWP_drawA tab_mixed (by decide +kernel) (by rfl) ?_ | refine (hops_calls _).use ?_ | refine callQ_use (fun τ => hops_calls _) ?_ | refine AWP_drawW false tab_mixed (by decide +kernel) ?_ ); (try simp -implicitDefEqProofs only [go_sem, hopsX])) | (with_reducible refine hK _ _ ?_; clear hK K) | (clear hK K; first | (with_reducible refine hK _ _ ?_; clear hK K) | (clear hK K; with_reducible refine hK _ _ ?_; clear hK K) | (clear hK K; clear hK K; with_reducible refine hK _ _ ?_; clear hK K)) | (with_reducible refine splitB_intro (fun h => ?_) (fun h => ?_) <;> (try simp only [go_sem] at h) <;> (try (exfalso; (first | contradiction | omega))) <;> (try simp -implicitDefEqProofs only [go_sem, hopsX])) | (with_reducible refine And.intro (fun h => ?_) (fun h => ?_) <;> (try simp only [go_sem] at h) <;> (try (exfalso; (first | contradiction | omega)))) | ((with_reducible refine And.intro ?_ ?_); · (first | omega | (unfold I64; omega) | (unfold maxLen; omega) | assumption | (with_reducible rfl) | (simp; done) | (simp [oneA, Value.oneCell']; done))) | (with_reducible intro h; (try simp only [go_sem] at h); (try (exfalso; (first | contradiction | omega))))))
  refine CutQ_w rfl (netC_bd twoN) (.eq rfl)

theorem netBegun_calls (σ : Store) : ACalls Try.prog 25 [] σ fun r σ' => σ' = σ ∧ r = .c (.bool true) := by
  have hB := begin_calls twoN twoN_ok
  rw [twoN_begin] at hB
  have hS := settle_calls twoN [[0, 2], [2, 0]] 10 twoN_ok ⟨by decide, by decide⟩ (by unfold I64; decide)
  rw [twoN_settle] at hS
  have hC := netCheck_calls twoN twoN_ok
  rw [twoN_check] at hC
  have hE : ∀ S, ACalls Try.prog 35 [rowsC [[0, 1], [1, 0]], rowsC [[0, 1], [1, 0]]] S fun r σ' => σ' = S ∧ r = .c (.bool true) := fun S => sameState_calls [[0, 1], [1, 0]] [[0, 1], [1, 0]] ⟨by decide, by decide⟩ S
  refine ACalls.cutX ?_
  refine ACalls_of_awp Try.func25 rfl Try.results25 ?_
  simp only [List.length_cons, List.length_nil, Try.ntmps25, Nat.reduceAdd, Nat.reduceSub, enterA]
  (repeat' (first | (refine AWP_seq_k fun K hK => ?_) | (refine AWP_block ?_) | (refine ARounds_step ?_) | (refine AWP_skip ?_; simp only [thenQ, blockQ]) | (refine AWP_exit ?_; simp only [thenQ, blockQ, ↓reduceIte, Nat.reduceEqDiff]) | (refine AWP_cond rfl (fun h => ?_) (fun h => ?_) <;> (try simp only [go_sem] at h) <;> (try (exfalso; (first | contradiction | omega)))) | ((first | refine AWP_ret ?_ | refine AWP_regionB ?_ | refine AWP_drawU tab_mixed (by decide +kernel) ?_ | refine AWP_drawA tab_mixed (by decide +kernel) (by rfl) ?_ | refine (two_calls _).use ?_ | refine callQ_use (fun τ => two_calls _) ?_ | refine (hB _).use ?_ | refine callQ_use (fun τ => hB _) ?_ | refine (hS _).use ?_ | refine callQ_use (fun τ => hS _) ?_ | refine (hC _).use ?_ | refine callQ_use (fun τ => hC _) ?_ | refine (hE _).use ?_ | refine callQ_use (fun τ => hE _) ?_ | refine AWP_drawW false tab_mixed (by decide +kernel) ?_ ); (try simp -implicitDefEqProofs only [go_sem, settleC])) | (with_reducible refine hK _ _ ?_; clear hK K) | (clear hK K; first | (with_reducible refine hK _ _ ?_; clear hK K) | (clear hK K; with_reducible refine hK _ _ ?_; clear hK K) | (clear hK K; clear hK K; with_reducible refine hK _ _ ?_; clear hK K)) | (with_reducible refine splitB_intro (fun h => ?_) (fun h => ?_) <;> (try simp only [go_sem] at h) <;> (try (exfalso; (first | contradiction | omega))) <;> (try simp -implicitDefEqProofs only [go_sem, settleC])) | (with_reducible refine And.intro (fun h => ?_) (fun h => ?_) <;> (try simp only [go_sem] at h) <;> (try (exfalso; (first | contradiction | omega)))) | ((with_reducible refine And.intro ?_ ?_); · (first | omega | (unfold I64; omega) | (unfold maxLen; omega) | assumption | (with_reducible rfl) | (simp; done) | (simp [oneA, Value.oneCell']; done))) | (with_reducible intro h; (try simp only [go_sem] at h); (try (exfalso; (first | contradiction | omega))))))
  exact CutQ_c (τ := []) (by simp) rfl

theorem stateIs_calls (x want : List (List Int)) (e w : Int) (hx : StOk x) (σ : Store) : ACalls Try.prog 28 [rowsC x, intA1 e, intA1 w, rowsC want] σ fun r σ' => σ' = σ ∧ r = .c (.bool (decide (e = w) && decide (x = if w = 0 then want else []))) := by
  by_cases hw : w = 0
  · subst hw
    rw [if_pos rfl]
    refine ACalls_of_awp Try.func28 rfl Try.results28 ?_
    simp only [List.length_cons, List.length_nil, Try.ntmps28, Nat.reduceAdd, Nat.reduceSub, enterA]
    (repeat' (first | (refine AWP_seq_k fun K hK => ?_) | (refine AWP_block ?_) | (refine ARounds_step ?_) | (refine AWP_skip ?_; simp only [thenQ, blockQ]) | (refine AWP_exit ?_; simp only [thenQ, blockQ, ↓reduceIte, Nat.reduceEqDiff]) | (refine AWP_cond rfl (fun h => ?_) (fun h => ?_) <;> (try simp only [go_sem] at h) <;> (try (exfalso; (first | contradiction | omega)))) | ((first | refine AWP_ret ?_ | refine AWP_region ?_ | refine AWP_drawU tab_mixed (by decide +kernel) ?_ | refine AWP_drawA tab_mixed (by decide +kernel) (by rfl) ?_ | refine (sameState_calls x want hx _).use ?_ | refine callQ_use (fun τ => sameState_calls x want hx _) ?_ | refine AWP_drawW false tab_mixed (by decide +kernel) ?_ ); (try simp -implicitDefEqProofs only [go_sem])) | (with_reducible refine hK _ _ ?_; clear hK K) | (clear hK K; first | (with_reducible refine hK _ _ ?_; clear hK K) | (clear hK K; with_reducible refine hK _ _ ?_; clear hK K) | (clear hK K; clear hK K; with_reducible refine hK _ _ ?_; clear hK K)) | (with_reducible refine splitB_intro (fun h => ?_) (fun h => ?_) <;> (try simp only [go_sem] at h) <;> (try (exfalso; (first | contradiction | omega))) <;> (try simp -implicitDefEqProofs only [go_sem])) | (with_reducible refine And.intro (fun h => ?_) (fun h => ?_) <;> (try simp only [go_sem] at h) <;> (try (exfalso; (first | contradiction | omega)))) | ((with_reducible refine And.intro ?_ ?_); · (first | omega | (unfold I64; omega) | (unfold maxLen; omega) | assumption | (with_reducible rfl) | (simp; done) | (simp [oneA, Value.oneCell']; done))) | (with_reducible intro h; (try simp only [go_sem] at h); (try (exfalso; (first | contradiction | omega))))))
    all_goals simp_all
  · rw [if_neg hw]
    refine ACalls_of_awp Try.func28 rfl Try.results28 ?_
    simp only [List.length_cons, List.length_nil, Try.ntmps28, Nat.reduceAdd, Nat.reduceSub, enterA]
    (repeat' (first | (refine AWP_seq_k fun K hK => ?_) | (refine AWP_block ?_) | (refine ARounds_step ?_) | (refine AWP_skip ?_; simp only [thenQ, blockQ]) | (refine AWP_exit ?_; simp only [thenQ, blockQ, ↓reduceIte, Nat.reduceEqDiff]) | (refine AWP_cond rfl (fun h => ?_) (fun h => ?_) <;> (try simp only [go_sem] at h) <;> (try (exfalso; (first | contradiction | omega)))) | ((first | refine AWP_ret ?_ | refine AWP_region ?_ | refine AWP_drawU tab_mixed (by decide +kernel) ?_ | refine AWP_drawA tab_mixed (by decide +kernel) (by rfl) ?_ | refine ((sameState_calls x [] hx _).argW (.cons (.refl _) (.cons .nil .nil))).use ?_ | refine callQ_use (fun τ => (sameState_calls x [] hx _).argW (.cons (.refl _) (.cons .nil .nil))) ?_ | refine AWP_drawW false tab_mixed (by decide +kernel) ?_ ); (try simp -implicitDefEqProofs only [go_sem])) | (with_reducible refine hK _ _ ?_; clear hK K) | (clear hK K; first | (with_reducible refine hK _ _ ?_; clear hK K) | (clear hK K; with_reducible refine hK _ _ ?_; clear hK K) | (clear hK K; clear hK K; with_reducible refine hK _ _ ?_; clear hK K)) | (with_reducible refine splitB_intro (fun h => ?_) (fun h => ?_) <;> (try simp only [go_sem] at h) <;> (try (exfalso; (first | contradiction | omega))) <;> (try simp -implicitDefEqProofs only [go_sem])) | (with_reducible refine And.intro (fun h => ?_) (fun h => ?_) <;> (try simp only [go_sem] at h) <;> (try (exfalso; (first | contradiction | omega)))) | ((with_reducible refine And.intro ?_ ?_); · (first | omega | (unfold I64; omega) | (unfold maxLen; omega) | assumption | (with_reducible rfl) | (simp; done) | (simp [oneA, Value.oneCell']; done))) | (with_reducible intro h; (try simp only [go_sem] at h); (try (exfalso; (first | contradiction | omega))))))
    all_goals simp_all

end Go.Proofs.Ytephecognbbaoab
