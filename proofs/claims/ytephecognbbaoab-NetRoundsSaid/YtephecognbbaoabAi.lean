/- Algebras: the laws' shapes, what a law is asked of, and Holds. -/
import Derived.Test.YtephecognbbaoabAh
import Derived.Test.YtephecognbbaoabTm
namespace Go.Proofs.Ytephecognbbaoab
open Go
set_option linter.all false
set_option maxRecDepth 100000
set_option maxHeartbeats 4000000

def shapeC (n : Int) (e : Bool) : AV := .agg [intA1 n, .c (.bool e)]
def shapesE : List (Value × AV) := [(.int .i64 1, shapeC 2 false), (.int .i64 2, shapeC 3 false), (.int .i64 3, shapeC 2 false), (.int .i64 4, shapeC 1 false), (.int .i64 5, shapeC 1 false),
  (.int .i64 6, shapeC 0 true), (.int .i64 7, shapeC 1 true), (.int .i64 8, shapeC 1 true), (.int .i64 9, shapeC 2 true)]

def BdM (n : Nat) : List (Value × AV) → Prop
  | [] => True
  | e :: r => Bd n e.2 ∧ BdM n r
theorem BdM.get {n : Nat} : ∀ {es : List (Value × AV)}, BdM n es → ∀ i (h : i < es.length), Bd n es[i].2
  | [], _, i, h => by simp at h
  | e :: r, hb, 0, _ => hb.1
  | e :: r, hb, i + 1, h => BdM.get hb.2 i (by simpa using h)
theorem Bd.cmL {n : Nat} {es : List (Value × AV)} (h : BdM n es) : Bd n (.cm es) := .cm _ h.get
theorem Bd.cpL {n : Nat} {l : List AV} {off : Nat} (h : BdL n l) : Bd n (.cp l off) := .cp _ _ h
theorem Bd.fnL {n : Nat} {f : FuncId} {l l' : List AV} (h : BdL n l) (h' : BdL n l') : Bd n (.fn f l l') := .fn _ _ _ h h'

theorem shapes_KK : KK Try.prog 3 shapesE = True := by simp [KK, shapesE, keyK_int, I64]
theorem shapes_DK : DK shapesE = True := by simp [DK, NK, shapesE]
theorem shapes_find (law : Int) (h : 1 ≤ law ∧ law ≤ 9) : findK shapesE (.int .i64 law) = some (shapeC (manyA law) (edgeA law)) := by
  have : law = 1 ∨ law = 2 ∨ law = 3 ∨ law = 4 ∨ law = 5 ∨ law = 6 ∨ law = 7 ∨ law = 8 ∨ law = 9 := by omega
  rcases this with rfl | rfl | rfl | rfl | rfl | rfl | rfl | rfl | rfl <;> simp [findK, shapesE, manyA, edgeA]
theorem shapes_none (law : Int) (h : law < 1 ∨ 9 < law) : findK shapesE (.int .i64 law) = none := by
  refine findK_none fun e he => ?_
  simp only [shapesE, List.mem_cons, List.not_mem_nil, or_false] at he
  rcases he with rfl | rfl | rfl | rfl | rfl | rfl | rfl | rfl | rfl <;> simp <;> omega
attribute [go_sem] shapes_KK shapes_DK

theorem shapes_calls (σ : Store) : ACalls Try.prog 133 [] σ fun r σ' => σ' = σ ∧ r = .cm shapesE := by
  refine ACalls.cutX ?_
  refine ACalls_of_awp Try.func133 rfl Try.results133 ?_
  simp only [List.length_cons, List.length_nil, Try.ntmps133, Nat.reduceAdd, Nat.reduceSub, enterA]
  refine AWP_seq_k fun K hK => ?_
  (refine AWP_region ?_; simp -implicitDefEqProofs only [go_sem])
  refine hK _ _ ?_; clear hK K
  refine AWP_seq_k fun K hK => ?_
  (refine AWP_region ?_; simp -implicitDefEqProofs only [go_sem, putK, Value.int.injEq, I64])
  refine hK _ _ ?_; clear hK K
  refine AWP_freezeM 0 rfl (by first | rfl | (simp -implicitDefEqProofs only [go_sem]; done) | (simp -implicitDefEqProofs only [go_sem]; rfl)) ?_
  (repeat' (first | (refine AWP_seq_k fun K hK => ?_) | (refine AWP_block ?_) | (refine ARounds_step ?_) | (refine AWP_skip ?_; simp only [thenQ, blockQ]) | (refine AWP_exit ?_; simp only [thenQ, blockQ, ↓reduceIte, Nat.reduceEqDiff]) | (refine AWP_cond rfl (fun h => ?_) (fun h => ?_) <;> (try simp only [go_sem] at h) <;> (try (exfalso; (first | contradiction | omega)))) | ((first | refine AWP_ret ?_ | refine AWP_region ?_ | refine AWP_drawU tab_mixed (by decide +kernel) ?_ | refine AWP_drawA tab_mixed (by decide +kernel) (by rfl) ?_ | refine AWP_drawW false tab_mixed (by decide +kernel) ?_ ); (try simp -implicitDefEqProofs only [go_sem])) | (with_reducible refine hK _ _ ?_; clear hK K) | (clear hK K; first | (with_reducible refine hK _ _ ?_; clear hK K) | (clear hK K; with_reducible refine hK _ _ ?_; clear hK K) | (clear hK K; clear hK K; with_reducible refine hK _ _ ?_; clear hK K)) | (with_reducible refine splitB_intro (fun h => ?_) (fun h => ?_) <;> (try simp only [go_sem] at h) <;> (try (exfalso; (first | contradiction | omega))) <;> (try simp -implicitDefEqProofs only [go_sem])) | (with_reducible refine And.intro (fun h => ?_) (fun h => ?_) <;> (try simp only [go_sem] at h) <;> (try (exfalso; (first | contradiction | omega)))) | ((with_reducible refine And.intro ?_ ?_); · (first | omega | (unfold I64; omega) | (unfold maxLen; omega) | assumption | (with_reducible rfl) | (simp; done) | (simp [oneA, Value.oneCell']; done))) | (with_reducible intro h; (try simp only [go_sem] at h); (try (exfalso; (first | contradiction | omega))))))
  refine CutQ_w rfl ?_ ?_
  · refine .cmL ⟨?_, ?_, ?_, ?_, ?_, ?_, ?_, ?_, ?_, trivial⟩
    all_goals (repeat' (first | exact Bd.c _ | exact Bd.emp | exact BdL.nil | exact Bd.ints _ | refine Bd.aggL ?_ | refine Bd.tupL ?_ | refine BdL.cons ?_ ?_))
  · exact .eq rfl

theorem bd_caseFn {n : Nat} (x : Alg) (law : Int) : Bd n (caseFn x law) := by
  refine .fnL .nil (.cons (.cpL (.cons (.c _) (.cons (.c _) .nil))) (.cons (.cpL (.cons (.c _) (.cons (.rows _) (.cons (.rows _) .nil)))) (.cons (.cpL (.cons (.c _) .nil)) .nil)))

theorem cases_calls (x : Alg) (law : Int) (hl : 1 ≤ law ∧ law ≤ 9) (σ : Store) : ACalls Try.prog 183 [.agg (algC x), intA1 law] σ fun r σ' => σ' = σ ∧ r = caseFn x law := by
  have hf := shapes_find law hl
  have hi : I64 law := by unfold I64; omega
  refine ACalls.cutX ?_
  refine ACalls_of_awp Try.func183 rfl Try.results183 ?_
  simp only [List.length_cons, List.length_nil, Try.ntmps183, Nat.reduceAdd, Nat.reduceSub, enterA]
  refine AWP_seq_k fun K hK => ?_
  (refine AWP_region ?_; simp -implicitDefEqProofs only [go_sem])
  refine hK _ _ ?_; clear hK K
  refine AWP_freezeP 2 rfl (by simp only [st0]; rfl) ?_
  simp only [ss0, List.set_cons_zero]
  refine AWP_freezeP 3 rfl (by simp only [st1]; rfl) ?_
  simp only [ss1, List.set_cons_zero, List.set_cons_succ]
  refine AWP_seq_k fun K hK => ?_
  refine AWP_drawA tab_mixed (by decide +kernel) (by rfl) ?_
  simp -implicitDefEqProofs only [go_sem]
  refine callQ_use (fun τ => shapes_calls _) ?_
  simp -implicitDefEqProofs only [go_sem, hf, shapeC, hi]
  refine hK _ _ ?_; clear hK K
  refine AWP_freezeP 5 rfl (by first | rfl | (simp -implicitDefEqProofs only [go_sem]; done) | (simp -implicitDefEqProofs only [go_sem]; rfl)) ?_
  (repeat' (first | (refine AWP_seq_k fun K hK => ?_) | (refine AWP_block ?_) | (refine ARounds_step ?_) | (refine AWP_skip ?_; simp only [thenQ, blockQ]) | (refine AWP_exit ?_; simp only [thenQ, blockQ, ↓reduceIte, Nat.reduceEqDiff]) | (refine AWP_cond rfl (fun h => ?_) (fun h => ?_) <;> (try simp only [go_sem] at h) <;> (try (exfalso; (first | contradiction | omega)))) | ((first | refine AWP_ret ?_ | refine AWP_region ?_ | refine AWP_drawU tab_mixed (by decide +kernel) ?_ | refine AWP_drawA tab_mixed (by decide +kernel) (by rfl) ?_ | refine AWP_drawW false tab_mixed (by decide +kernel) ?_ ); (try simp -implicitDefEqProofs only [go_sem])) | (with_reducible refine hK _ _ ?_; clear hK K) | (clear hK K; first | (with_reducible refine hK _ _ ?_; clear hK K) | (clear hK K; with_reducible refine hK _ _ ?_; clear hK K) | (clear hK K; clear hK K; with_reducible refine hK _ _ ?_; clear hK K)) | (with_reducible refine splitB_intro (fun h => ?_) (fun h => ?_) <;> (try simp only [go_sem] at h) <;> (try (exfalso; (first | contradiction | omega))) <;> (try simp -implicitDefEqProofs only [go_sem])) | (with_reducible refine And.intro (fun h => ?_) (fun h => ?_) <;> (try simp only [go_sem] at h) <;> (try (exfalso; (first | contradiction | omega)))) | ((with_reducible refine And.intro ?_ ?_); · (first | omega | (unfold I64; omega) | (unfold maxLen; omega) | assumption | (with_reducible rfl) | (simp; done) | (simp [oneA, Value.oneCell']; done))) | (with_reducible intro h; (try simp only [go_sem] at h); (try (exfalso; (first | contradiction | omega))))))
  refine CutQ_w rfl ?_ ?_
  · exact bd_caseFn x law
  · exact .eq rfl
end Go.Proofs.Ytephecognbbaoab
