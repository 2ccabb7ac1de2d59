/- The laws on algebras, walked. -/
import Derived.Test.YtephecognbbaoabAm
import Derived.Test.YtephecognbbaoabAj
import Derived.Test.YtephecognbbaoabAk
namespace Go.Proofs.Ytephecognbbaoab
open Go
set_option linter.all false
set_option maxRecDepth 100000
set_option maxHeartbeats 4000000

theorem hopsX_ok : AlgOk hopsX := ⟨by decide, by decide, by unfold I64; decide, by decide⟩
theorem hopsY_ok : AlgOk hopsY := ⟨by decide, by decide, by unfold I64; decide, by decide⟩
theorem hopsX_laws : lawsA hopsX seven = (zeroB, 0) := by decide +kernel
theorem hopsX_check : checkA hopsX = 0 := by decide +kernel
theorem hopsY_check : checkA hopsY = 0 := by decide +kernel
def hopsB : Brk := ⟨8, 0, 0, 0, 0⟩
theorem hopsY_strict : lawsA hopsY [8] = (hopsB, 0) := by decide +kernel
theorem hopsY_asks : asksA hopsY hopsB = (false, 0) := by decide +kernel

theorem lawsX_calls (σ : Store) : ACalls Try.prog 17 [.agg (algC hopsX)] σ fun r σ' => σ' = σ ∧ r = .tup [.agg (brkC zeroB), intA1 0] := by
  have h := laws_calls hopsX hopsX_ok σ
  rw [hopsX_laws] at h
  exact h
theorem strictY_calls (σ : Store) : ACalls Try.prog 18 [.agg (algC hopsY)] σ fun r σ' => σ' = σ ∧ r = .tup [.agg (brkC hopsB), intA1 0] := by
  have h := strict_calls hopsY hopsY_ok σ
  rw [hopsY_strict] at h
  exact h
theorem holdsY_calls (σ : Store) : ACalls Try.prog 69 [.agg (algC hopsY), .agg (brkC hopsB)] σ fun r σ' => σ' = σ ∧ r = .tup [.c (.bool false), intA1 0] := by
  have h := holdsAsk_calls hopsY hopsB hopsY_ok (by unfold BrkOk I64; decide) σ
  rw [hopsY_asks] at h
  exact h
theorem checkX_calls (σ : Store) : ACalls Try.prog 70 [.agg (algC hopsX)] σ fun r σ' => σ' = σ ∧ r = intA1 0 := by
  have h := check_calls hopsX hopsX_ok.hb hopsX_ok.he hopsX_ok.hs hopsX_ok.hrow σ
  rw [hopsX_check] at h
  exact h

theorem algebraBegun_calls (σ : Store) : ACalls Try.prog 15 [] σ fun r σ' => σ' = σ ∧ r = .c (.bool true) := by
  refine ACalls.cutX ?_
  refine ACalls_of_awp Try.func15 rfl Try.results15 ?_
  simp only [List.length_cons, List.length_nil, Try.ntmps15, Nat.reduceAdd, Nat.reduceSub, enterA]
  (repeat' (first|(refine g_s fun K hK=>?_)|(refine g_b ?_)|(refine g_r ?_)|(refine g_k ?_;simp only[thenQ,blockQ])|(refine g_e ?_;simp only[thenQ,blockQ,↓reduceIte,Nat.reduceEqDiff])|(refine g_c (fun h=>?_) (fun h=>?_)<;>(try simp only[go_sem] at h)<;>(try exact g_f))|((first|refine g_t ?_|refine g_G ?_|refine g_U ?_|refine g_A ?_|refine (hops_calls _).use ?_|refine g_q (fun τ=>hops_calls _) ?_|refine (lawsX_calls _).use ?_|refine g_q (fun τ=>lawsX_calls _) ?_|refine (strictY_calls _).use ?_|refine g_q (fun τ=>strictY_calls _) ?_|refine (holdsY_calls _).use ?_|refine g_q (fun τ=>holdsY_calls _) ?_|refine (checkX_calls _).use ?_|refine g_q (fun τ=>checkX_calls _) ?_|refine g_W ?_);(try simp -implicitDefEqProofs only[go_sem,hopsX, zeroB, hopsB, List.map_cons, List.map_nil]))|(with_reducible refine hK _ _ ?_;clear hK K)|(clear hK K;first|(with_reducible refine hK _ _ ?_;clear hK K)|(clear hK K;with_reducible refine hK _ _ ?_;clear hK K)|(clear hK K;clear hK K;with_reducible refine hK _ _ ?_;clear hK K))|(with_reducible refine splitB_intro (fun h=>?_) (fun h=>?_)<;>(try simp only[go_sem] at h)<;>(try exact g_f)<;>(try simp -implicitDefEqProofs only[go_sem,hopsX, zeroB, hopsB, List.map_cons, List.map_nil]))|(with_reducible refine And.intro (fun h=>?_) (fun h=>?_)<;>(try simp only[go_sem] at h)<;>(try exact g_f))|(with_reducible refine And.intro ?_ ?_;· exact g_x)|(with_reducible intro h;(try simp only[go_sem] at h);(try exact g_f))))
  exact CutQ_c rfl rfl
end Go.Proofs.Ytephecognbbaoab
