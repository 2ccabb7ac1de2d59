/- Nets: their form, as the program and as the document checks it. -/
import Derived.Test.YtephecognbbaoabAl
import Derived.Test.YtephecognbbaoabAk
import Derived.Test.YtephecognbbaoabAj
import Derived.DeepKeys5
namespace Go.Proofs.Ytephecognbbaoab
open Go
set_option linter.all false
set_option maxRecDepth 100000
set_option maxHeartbeats 4000000

def lnkC (l : Lnk) : List AV := [intA1 l.fr, intA1 l.dst, intA1 l.edge]
def linksV (l : List Lnk) : AV := .sl (l.map lnkC)
def netC (n : Net) : List AV := [intA1 n.alg.size, rowsC n.alg.best, rowsC n.alg.edges, intA1 n.nodes, linksV n.links]
attribute [go_sem] lnkC linksV netC

/-- What is known of a net that came in. -/
structure NetOk (n : Net) : Prop where
  alg : AlgOk n.alg
  nodes : I64 n.nodes
  len : n.links.length ≤ 5864062014634
  lnk : ∀ l ∈ n.links, I64 l.fr ∧ I64 l.dst ∧ I64 l.edge

/- Keys that are pairs of numbers. -/
theorem wf_I64 (n : Int) : (Lit.int IntKind.i64 n).wf = true ↔ I64 n := by simp [Lit.wf, IntKind.min, IntKind.max, IntKind.bits, IntKind.signed, I64]
theorem keyLits_pair (d : Nat) (a b : Int) (ha : I64 a) (hb : I64 b) : Try.prog.keyLits (d + 2) 182 [.int .i64 a, .int .i64 b] = some [.int .i64 a, .int .i64 b] := by
  have hc : Try.prog.cellsOf 182 = 2 := by kernel_rfl
  have hi : Try.prog.cellsOf 3 = 1 := by kernel_rfl
  simp [Program.keyLits, Try.underlying182, Try.underlying3, hc, hi, List.range_succ, (wf_I64 a).2 ha, (wf_I64 b).2 hb]
theorem keyK_pair {a b : Int} (ha : I64 a) (hb : I64 b) : keyK Try.prog 182 (.agg #[.int .i64 a, .int .i64 b]) = True := by
  refine eq_true ?_
  have hk : Try.prog.keyType 182 = true := by kernel_rfl
  have hc : Try.prog.cellsOf 182 = 2 := by kernel_rfl
  have hf : (Value.agg #[.int .i64 a, .int .i64 b]).formed Try.prog 182 = true := by simp [Value.formed, Try.underlying182, hc]
  have hd : Try.prog.types.size + 1 = (Try.prog.types.size - 1) + 2 := by kernel_rfl
  have hl := keyLits_pair (Try.prog.types.size - 1) a b ha hb
  rw [← hd] at hl
  refine ⟨.string (keyBytes [.int .i64 a, .int .i64 b]), ?_⟩
  simp only [keyOf, Try.underlying182, hk, hf, Bool.and_self, if_true]
  rw [show (Value.agg #[.int .i64 a, .int .i64 b]).cells.toList = [.int .i64 a, .int .i64 b] from rfl, hl]
  rfl
theorem laidOutT : laidOutB Try.prog = true := by kernel_rfl
theorem keyed_pair : Go.Maps.Keyed Try.prog 182 = True :=
  eq_true (Go.Maps.Keyed.of_law (deep_law_gate laidOutT (by decide +kernel) (by decide +kernel) (by kernel_rfl) (by kernel_rfl)))
theorem tab_map_pair : mapT Try.prog 181 = some (182, 4) := by kernel_rfl
theorem tab_places_pair : placesA Try.prog 182 = some [(0, 1), (1, 1)] := by kernel_rfl
attribute [go_sem] keyed_pair tab_map_pair tab_places_pair
theorem tab_fone_Broken : fieldOne Try.prog 34 0 = some 0 := by kernel_rfl
theorem tab_eq_Broken : eqPlan Try.prog 34 = some [(0, false), (1, false), (2, false), (3, false), (4, false)] := by kernel_rfl
attribute [go_sem] tab_fone_Broken tab_eq_Broken

theorem lawful_calls (x : Alg) (hr : Right x) (σ : Store) : ACalls Try.prog 82 [.agg (algC x)] σ fun r σ' => σ' = σ ∧ r = .c (.bool (decide ((brokenA x seven).law = 0))) := by
  refine ACalls.cutX ?_
  refine ACalls_of_awp Try.func82 rfl Try.results82 ?_
  simp only [List.length_cons, List.length_nil, Try.ntmps82, Nat.reduceAdd, Nat.reduceSub, enterA]
  (repeat' (first | (refine AWP_seq_k fun K hK => ?_) | (refine AWP_block ?_) | (refine ARounds_step ?_) | (refine AWP_skip ?_; simp only [thenQ, blockQ]) | (refine AWP_exit ?_; simp only [thenQ, blockQ, ↓reduceIte, Nat.reduceEqDiff]) | (refine AWP_cond rfl (fun h => ?_) (fun h => ?_) <;> (try simp only [go_sem] at h) <;> (try (exfalso; (first | contradiction | omega)))) | ((first | refine AWP_ret ?_ | refine AWP_regionB ?_ | refine AWP_drawU tab_mixed (by decide +kernel) ?_ | refine AWP_drawA tab_mixed (by decide +kernel) (by rfl) ?_ | refine (broken_calls x seven hr (by decide) (by decide) _).use ?_ | refine callQ_use (fun τ => broken_calls x seven hr (by decide) (by decide) _) ?_ | refine AWP_drawW false tab_mixed (by decide +kernel) ?_ ); (try simp -implicitDefEqProofs only [go_sem])) | (with_reducible refine hK _ _ ?_; clear hK K) | (clear hK K; first | (with_reducible refine hK _ _ ?_; clear hK K) | (clear hK K; with_reducible refine hK _ _ ?_; clear hK K) | (clear hK K; clear hK K; with_reducible refine hK _ _ ?_; clear hK K)) | (with_reducible refine splitB_intro (fun h => ?_) (fun h => ?_) <;> (try simp only [go_sem] at h) <;> (try (exfalso; (first | contradiction | omega))) <;> (try simp -implicitDefEqProofs only [go_sem])) | (with_reducible refine And.intro (fun h => ?_) (fun h => ?_) <;> (try simp only [go_sem] at h) <;> (try (exfalso; (first | contradiction | omega)))) | ((with_reducible refine And.intro ?_ ?_); · (first | omega | (unfold I64; omega) | (unfold maxLen; omega) | assumption | (with_reducible rfl) | (simp; done) | (simp [oneA, Value.oneCell']; done))) | (with_reducible intro h; (try simp only [go_sem] at h); (try (exfalso; (first | contradiction | omega))))))
  refine CutQ_c rfl ?_
  by_cases h : (brokenA x seven).law = 0
  · rw [broken_zero h]
    rfl
  · simp [h]

theorem isLawful_calls (x : Alg) (hr : Right x) (σ : Store) : ACalls Try.prog 76 [.agg (algC x)] σ fun r σ' => σ' = σ ∧ r = .c (.bool (decide ((brokenA x seven).law = 0))) := by
  refine ACalls.cutX ?_
  refine ACalls_of_awp Try.func76 rfl Try.results76 ?_
  simp only [List.length_cons, List.length_nil, Try.ntmps76, Nat.reduceAdd, Nat.reduceSub, enterA]
  (repeat' (first | (refine AWP_seq_k fun K hK => ?_) | (refine AWP_block ?_) | (refine ARounds_step ?_) | (refine AWP_skip ?_; simp only [thenQ, blockQ]) | (refine AWP_exit ?_; simp only [thenQ, blockQ, ↓reduceIte, Nat.reduceEqDiff]) | (refine AWP_cond rfl (fun h => ?_) (fun h => ?_) <;> (try simp only [go_sem] at h) <;> (try (exfalso; (first | contradiction | omega)))) | ((first | refine AWP_ret ?_ | refine AWP_region ?_ | refine AWP_drawU tab_mixed (by decide +kernel) ?_ | refine AWP_drawA tab_mixed (by decide +kernel) (by rfl) ?_ | refine (brokenOf_calls x seven hr (by decide) (by decide) _).use ?_ | refine callQ_use (fun τ => brokenOf_calls x seven hr (by decide) (by decide) _) ?_ | refine (allLaws_calls _).use ?_ | refine callQ_use (fun τ => allLaws_calls _) ?_ | refine AWP_drawW false tab_mixed (by decide +kernel) ?_ ); (try simp -implicitDefEqProofs only [go_sem])) | (with_reducible refine hK _ _ ?_; clear hK K) | (clear hK K; first | (with_reducible refine hK _ _ ?_; clear hK K) | (clear hK K; with_reducible refine hK _ _ ?_; clear hK K) | (clear hK K; clear hK K; with_reducible refine hK _ _ ?_; clear hK K)) | (with_reducible refine splitB_intro (fun h => ?_) (fun h => ?_) <;> (try simp only [go_sem] at h) <;> (try (exfalso; (first | contradiction | omega))) <;> (try simp -implicitDefEqProofs only [go_sem])) | (with_reducible refine And.intro (fun h => ?_) (fun h => ?_) <;> (try simp only [go_sem] at h) <;> (try (exfalso; (first | contradiction | omega)))) | ((with_reducible refine And.intro ?_ ?_); · (first | omega | (unfold I64; omega) | (unfold maxLen; omega) | assumption | (with_reducible rfl) | (simp; done) | (simp [oneA, Value.oneCell']; done))) | (with_reducible intro h; (try simp only [go_sem] at h); (try (exfalso; (first | contradiction | omega))))))
  refine CutQ_c rfl ?_
  rfl

theorem nwithin_calls (n a b : Int) (σ : Store) : ACalls Try.prog 83 [intA1 n, intA1 a, intA1 b] σ fun r σ' => σ' = σ ∧ r = .c (.bool (inR n a b)) := by
  refine ACalls_of_awp Try.func83 rfl Try.results83 ?_
  simp only [List.length_cons, List.length_nil, Try.ntmps83, Nat.reduceAdd, Nat.reduceSub, enterA]
  (repeat' (first | (refine AWP_seq_k fun K hK => ?_) | (refine AWP_block ?_) | (refine ARounds_step ?_) | (refine AWP_skip ?_; simp only [thenQ, blockQ]) | (refine AWP_exit ?_; simp only [thenQ, blockQ, ↓reduceIte, Nat.reduceEqDiff]) | (refine AWP_cond rfl (fun h => ?_) (fun h => ?_) <;> (try simp only [go_sem] at h) <;> (try (exfalso; (first | contradiction | omega)))) | ((first | refine AWP_ret ?_ | refine AWP_region ?_ | refine AWP_drawU tab_mixed (by decide +kernel) ?_ | refine AWP_drawA tab_mixed (by decide +kernel) (by rfl) ?_ | refine AWP_drawW false tab_mixed (by decide +kernel) ?_ ); (try simp -implicitDefEqProofs only [go_sem])) | (with_reducible refine hK _ _ ?_; clear hK K) | (clear hK K; first | (with_reducible refine hK _ _ ?_; clear hK K) | (clear hK K; with_reducible refine hK _ _ ?_; clear hK K) | (clear hK K; clear hK K; with_reducible refine hK _ _ ?_; clear hK K)) | (with_reducible refine splitB_intro (fun h => ?_) (fun h => ?_) <;> (try simp only [go_sem] at h) <;> (try (exfalso; (first | contradiction | omega))) <;> (try simp -implicitDefEqProofs only [go_sem])) | (with_reducible refine And.intro (fun h => ?_) (fun h => ?_) <;> (try simp only [go_sem] at h) <;> (try (exfalso; (first | contradiction | omega)))) | ((with_reducible refine And.intro ?_ ?_); · (first | omega | (unfold I64; omega) | (unfold maxLen; omega) | assumption | (with_reducible rfl) | (simp; done) | (simp [oneA, Value.oneCell']; done))) | (with_reducible intro h; (try simp only [go_sem] at h); (try (exfalso; (first | contradiction | omega))))))
  all_goals (simp [inR]; omega)

theorem isNode_calls (n : Net) (i : Int) (hn : I64 (n.nodes - 1)) (σ : Store) : ACalls Try.prog 78 [.agg (netC n), intA1 i] σ fun r σ' => σ' = σ ∧ r = .c (.bool (inR i 0 (n.nodes - 1))) := by
  refine ACalls.cutX ?_
  refine ACalls_of_awp Try.func78 rfl Try.results78 ?_
  simp only [List.length_cons, List.length_nil, Try.ntmps78, Nat.reduceAdd, Nat.reduceSub, enterA]
  (repeat' (first | (refine AWP_seq_k fun K hK => ?_) | (refine AWP_block ?_) | (refine ARounds_step ?_) | (refine AWP_skip ?_; simp only [thenQ, blockQ]) | (refine AWP_exit ?_; simp only [thenQ, blockQ, ↓reduceIte, Nat.reduceEqDiff]) | (refine AWP_cond rfl (fun h => ?_) (fun h => ?_) <;> (try simp only [go_sem] at h) <;> (try (exfalso; (first | contradiction | omega)))) | ((first | refine AWP_ret ?_ | refine AWP_region ?_ | refine AWP_drawU tab_mixed (by decide +kernel) ?_ | refine AWP_drawA tab_mixed (by decide +kernel) (by rfl) ?_ | refine (between_calls _ _ _ _).use ?_ | refine callQ_use (fun τ => between_calls _ _ _ _) ?_ | refine AWP_drawW false tab_mixed (by decide +kernel) ?_ ); (try simp -implicitDefEqProofs only [go_sem])) | (with_reducible refine hK _ _ ?_; clear hK K) | (clear hK K; first | (with_reducible refine hK _ _ ?_; clear hK K) | (clear hK K; with_reducible refine hK _ _ ?_; clear hK K) | (clear hK K; clear hK K; with_reducible refine hK _ _ ?_; clear hK K)) | (with_reducible refine splitB_intro (fun h => ?_) (fun h => ?_) <;> (try simp only [go_sem] at h) <;> (try (exfalso; (first | contradiction | omega))) <;> (try simp -implicitDefEqProofs only [go_sem])) | (with_reducible refine And.intro (fun h => ?_) (fun h => ?_) <;> (try simp only [go_sem] at h) <;> (try (exfalso; (first | contradiction | omega)))) | ((with_reducible refine And.intro ?_ ?_); · (first | omega | (unfold I64; omega) | (unfold maxLen; omega) | assumption | (with_reducible rfl) | (simp; done) | (simp [oneA, Value.oneCell']; done))) | (with_reducible intro h; (try simp only [go_sem] at h); (try (exfalso; (first | contradiction | omega))))))
  exact CutQ_c rfl rfl
end Go.Proofs.Ytephecognbbaoab
