/- Laws, Strict, Distributive; what must be in any case. -/
import Derived.Test.YtephecognbbaoaaAi
import Derived.Test.YtephecognbbaoaaPo
import Derived.Test.YtephecognbbaoaaAd
namespace Go.Proofs.Ytephecognbbaoaa
open Go
set_option linter.all false
set_option maxRecDepth 100000
set_option maxHeartbeats 4000000

/-- What is known of an algebra that came in. -/
structure AlgOk (x : Alg) : Prop where
  hb : x.best.length ≤ 5864062014634
  he : x.edges.length ≤ 5864062014634
  hs : I64 x.size
  hrow : ∀ r ∈ x.best ++ x.edges, r.length ≤ 17592186044000

theorem broken_calls (x : Alg) (laws : List Int) (hr : Right x) (hl : laws.length ≤ 100) (hlaw : ∀ law ∈ laws, 1 ≤ law ∧ law ≤ 9) (σ : Store) :
    ACalls Try.prog 100 [.agg (algC x), intsA laws] σ fun r σ' => σ' = σ ∧ r = .agg (brkC (brokenA x laws)) :=
  broken_calls' x laws hr hl hlaw (fun law h σ => cases_calls x law (hlaw law h) σ) σ

theorem asked_calls (x : Alg) (laws : List Int) (ok : AlgOk x) (hl : laws.length ≤ 100) (hlaw : ∀ law ∈ laws, 1 ≤ law ∧ law ≤ 9) (σ : Store) :
    ACalls Try.prog 66 [.agg (algC x), intsA laws] σ fun r σ' => σ' = σ ∧ r = .tup [.agg (brkC (lawsA x laws).1), intA1 (lawsA x laws).2] := by
  refine ACalls.cutX ?_
  by_cases hc : checkA x = 0
  · have hr := right_iff.1 hc
    have e : lawsA x laws = (brokenA x laws, 0) := by simp [lawsA, hc]
    rw [e]
    refine ACalls_of_awp Try.func66 rfl Try.results66 ?_
    simp only [List.length_cons, List.length_nil, Try.ntmps66, Nat.reduceAdd, Nat.reduceSub, enterA]
    refine AWP_seq_k fun K hK => ?_
    (refine AWP_region ?_; simp -implicitDefEqProofs only [go_sem])
    refine hK _ _ ?_; clear hK K
    refine AWP_freezeP 2 rfl (by simp only [st0]; rfl) ?_
    simp only [ss0, List.set_cons_zero]
    (repeat' (first|(refine g_s fun K hK=>?_)|(refine g_b ?_)|(refine g_r ?_)|(refine g_k ?_;simp only[thenQ,blockQ])|(refine g_e ?_;simp only[thenQ,blockQ,↓reduceIte,Nat.reduceEqDiff])|(refine g_c (fun h=>?_) (fun h=>?_)<;>(try simp only[go_sem] at h)<;>(try exact g_f))|((first|refine g_t ?_|refine g_g ?_|refine g_U ?_|refine g_A ?_|refine (check_calls x ok.hb ok.he ok.hs ok.hrow _).use ?_|refine g_q (fun τ=>check_calls x ok.hb ok.he ok.hs ok.hrow _) ?_|refine (broken_calls x laws hr hl hlaw _).use ?_|refine g_q (fun τ=>broken_calls x laws hr hl hlaw _) ?_|refine g_W ?_);(try simp -implicitDefEqProofs only[go_sem,hc]))|(with_reducible refine hK _ _ ?_;clear hK K)|(clear hK K;first|(with_reducible refine hK _ _ ?_;clear hK K)|(clear hK K;with_reducible refine hK _ _ ?_;clear hK K)|(clear hK K;clear hK K;with_reducible refine hK _ _ ?_;clear hK K))|(with_reducible refine splitB_intro (fun h=>?_) (fun h=>?_)<;>(try simp only[go_sem] at h)<;>(try exact g_f)<;>(try simp -implicitDefEqProofs only[go_sem,hc]))|(with_reducible refine And.intro (fun h=>?_) (fun h=>?_)<;>(try simp only[go_sem] at h)<;>(try exact g_f))|(with_reducible refine And.intro ?_ ?_;· exact g_x)|(with_reducible intro h;(try simp only[go_sem] at h);(try exact g_f))))
    refine CutQ_w rfl ?_ ?_
    · (repeat' (first | exact Bd.c _ | exact Bd.emp | exact BdL.nil | exact Bd.ints _ | refine Bd.aggL ?_ | refine Bd.tupL ?_ | refine BdL.cons ?_ ?_))
    · (repeat' (first | exact Wk.nil | exact Wk.emp | exact WkL.nil | (with_reducible exact Wk.refl _) | refine Wk.agg ?_ | refine Wk.tup ?_ | refine WkL.cons ?_ ?_ | (refine Wk.eq ?_; rfl)))
  · have e : lawsA x laws = (zeroB, checkA x) := by simp [lawsA, hc]
    rw [e]
    refine ACalls_of_awp Try.func66 rfl Try.results66 ?_
    simp only [List.length_cons, List.length_nil, Try.ntmps66, Nat.reduceAdd, Nat.reduceSub, enterA]
    refine AWP_seq_k fun K hK => ?_
    (refine AWP_region ?_; simp -implicitDefEqProofs only [go_sem])
    refine hK _ _ ?_; clear hK K
    refine AWP_freezeP 2 rfl (by simp only [st0]; rfl) ?_
    simp only [ss0, List.set_cons_zero]
    (repeat' (first|(refine g_s fun K hK=>?_)|(refine g_b ?_)|(refine g_r ?_)|(refine g_k ?_;simp only[thenQ,blockQ])|(refine g_e ?_;simp only[thenQ,blockQ,↓reduceIte,Nat.reduceEqDiff])|(refine g_c (fun h=>?_) (fun h=>?_)<;>(try simp only[go_sem] at h)<;>(try exact g_f))|((first|refine g_t ?_|refine g_g ?_|refine g_U ?_|refine g_A ?_|refine (check_calls x ok.hb ok.he ok.hs ok.hrow _).use ?_|refine g_q (fun τ=>check_calls x ok.hb ok.he ok.hs ok.hrow _) ?_|refine g_W ?_);(try simp -implicitDefEqProofs only[go_sem]))|(with_reducible refine hK _ _ ?_;clear hK K)|(clear hK K;first|(with_reducible refine hK _ _ ?_;clear hK K)|(clear hK K;with_reducible refine hK _ _ ?_;clear hK K)|(clear hK K;clear hK K;with_reducible refine hK _ _ ?_;clear hK K))|(with_reducible refine splitB_intro (fun h=>?_) (fun h=>?_)<;>(try simp only[go_sem] at h)<;>(try exact g_f)<;>(try simp -implicitDefEqProofs only[go_sem]))|(with_reducible refine And.intro (fun h=>?_) (fun h=>?_)<;>(try simp only[go_sem] at h)<;>(try exact g_f))|(with_reducible refine And.intro ?_ ?_;· exact g_x)|(with_reducible intro h;(try simp only[go_sem] at h);(try exact g_f))))
    refine CutQ_w rfl ?_ ?_
    · (repeat' (first | exact Bd.c _ | exact Bd.emp | exact BdL.nil | exact Bd.ints _ | refine Bd.aggL ?_ | refine Bd.tupL ?_ | refine BdL.cons ?_ ?_))
    · (repeat' (first | exact Wk.nil | exact Wk.emp | exact WkL.nil | (with_reducible exact Wk.refl _) | refine Wk.agg ?_ | refine Wk.tup ?_ | refine WkL.cons ?_ ?_ | (refine Wk.eq ?_; rfl)))

theorem laws_calls (x : Alg) (ok : AlgOk x) (σ : Store) : ACalls Try.prog 25 [.agg (algC x)] σ fun r σ' => σ' = σ ∧ r = .tup [.agg (brkC (lawsA x seven).1), intA1 (lawsA x seven).2] := by
  refine ACalls.cutX ?_
  refine ACalls_of_awp Try.func25 rfl Try.results25 ?_
  simp only [List.length_cons, List.length_nil, Try.ntmps25, Nat.reduceAdd, Nat.reduceSub, enterA]
  (repeat' (first|(refine g_s fun K hK=>?_)|(refine g_b ?_)|(refine g_r ?_)|(refine g_k ?_;simp only[thenQ,blockQ])|(refine g_e ?_;simp only[thenQ,blockQ,↓reduceIte,Nat.reduceEqDiff])|(refine g_c (fun h=>?_) (fun h=>?_)<;>(try simp only[go_sem] at h)<;>(try exact g_f))|((first|refine g_t ?_|refine g_G ?_|refine g_U ?_|refine g_A ?_|refine (asked_calls x seven ok (by decide) (by decide) _).use ?_|refine g_q (fun τ=>asked_calls x seven ok (by decide) (by decide) _) ?_|refine g_W ?_);(try simp -implicitDefEqProofs only[go_sem]))|(with_reducible refine hK _ _ ?_;clear hK K)|(clear hK K;first|(with_reducible refine hK _ _ ?_;clear hK K)|(clear hK K;with_reducible refine hK _ _ ?_;clear hK K)|(clear hK K;clear hK K;with_reducible refine hK _ _ ?_;clear hK K))|(with_reducible refine splitB_intro (fun h=>?_) (fun h=>?_)<;>(try simp only[go_sem] at h)<;>(try exact g_f)<;>(try simp -implicitDefEqProofs only[go_sem]))|(with_reducible refine And.intro (fun h=>?_) (fun h=>?_)<;>(try simp only[go_sem] at h)<;>(try exact g_f))|(with_reducible refine And.intro ?_ ?_;· exact g_x)|(with_reducible intro h;(try simp only[go_sem] at h);(try exact g_f))))
  refine CutQ_w rfl ?_ ?_
  · (repeat' (first | exact Bd.c _ | exact Bd.emp | exact BdL.nil | exact Bd.ints _ | refine Bd.aggL ?_ | refine Bd.tupL ?_ | refine BdL.cons ?_ ?_))
  · (repeat' (first | exact Wk.nil | exact Wk.emp | exact WkL.nil | (with_reducible exact Wk.refl _) | refine Wk.agg ?_ | refine Wk.tup ?_ | refine WkL.cons ?_ ?_ | (refine Wk.eq ?_; rfl)))

theorem strict_calls (x : Alg) (ok : AlgOk x) (σ : Store) : ACalls Try.prog 26 [.agg (algC x)] σ fun r σ' => σ' = σ ∧ r = .tup [.agg (brkC (lawsA x [8]).1), intA1 (lawsA x [8]).2] := by
  refine ACalls.cutX ?_
  refine ACalls_of_awp Try.func26 rfl Try.results26 ?_
  simp only [List.length_cons, List.length_nil, Try.ntmps26, Nat.reduceAdd, Nat.reduceSub, enterA]
  (repeat' (first|(refine g_s fun K hK=>?_)|(refine g_b ?_)|(refine g_r ?_)|(refine g_k ?_;simp only[thenQ,blockQ])|(refine g_e ?_;simp only[thenQ,blockQ,↓reduceIte,Nat.reduceEqDiff])|(refine g_c (fun h=>?_) (fun h=>?_)<;>(try simp only[go_sem] at h)<;>(try exact g_f))|((first|refine g_t ?_|refine g_G ?_|refine g_U ?_|refine g_A ?_|refine (asked_calls x [8] ok (by decide) (by decide) _).use ?_|refine g_q (fun τ=>asked_calls x [8] ok (by decide) (by decide) _) ?_|refine g_W ?_);(try simp -implicitDefEqProofs only[go_sem]))|(with_reducible refine hK _ _ ?_;clear hK K)|(clear hK K;first|(with_reducible refine hK _ _ ?_;clear hK K)|(clear hK K;with_reducible refine hK _ _ ?_;clear hK K)|(clear hK K;clear hK K;with_reducible refine hK _ _ ?_;clear hK K))|(with_reducible refine splitB_intro (fun h=>?_) (fun h=>?_)<;>(try simp only[go_sem] at h)<;>(try exact g_f)<;>(try simp -implicitDefEqProofs only[go_sem]))|(with_reducible refine And.intro (fun h=>?_) (fun h=>?_)<;>(try simp only[go_sem] at h)<;>(try exact g_f))|(with_reducible refine And.intro ?_ ?_;· exact g_x)|(with_reducible intro h;(try simp only[go_sem] at h);(try exact g_f))))
  refine CutQ_w rfl ?_ ?_
  · (repeat' (first | exact Bd.c _ | exact Bd.emp | exact BdL.nil | exact Bd.ints _ | refine Bd.aggL ?_ | refine Bd.tupL ?_ | refine BdL.cons ?_ ?_))
  · (repeat' (first | exact Wk.nil | exact Wk.emp | exact WkL.nil | (with_reducible exact Wk.refl _) | refine Wk.agg ?_ | refine Wk.tup ?_ | refine WkL.cons ?_ ?_ | (refine Wk.eq ?_; rfl)))

theorem distributive_calls (x : Alg) (ok : AlgOk x) (σ : Store) : ACalls Try.prog 27 [.agg (algC x)] σ fun r σ' => σ' = σ ∧ r = .tup [.agg (brkC (lawsA x [9]).1), intA1 (lawsA x [9]).2] := by
  refine ACalls.cutX ?_
  refine ACalls_of_awp Try.func27 rfl Try.results27 ?_
  simp only [List.length_cons, List.length_nil, Try.ntmps27, Nat.reduceAdd, Nat.reduceSub, enterA]
  (repeat' (first|(refine g_s fun K hK=>?_)|(refine g_b ?_)|(refine g_r ?_)|(refine g_k ?_;simp only[thenQ,blockQ])|(refine g_e ?_;simp only[thenQ,blockQ,↓reduceIte,Nat.reduceEqDiff])|(refine g_c (fun h=>?_) (fun h=>?_)<;>(try simp only[go_sem] at h)<;>(try exact g_f))|((first|refine g_t ?_|refine g_G ?_|refine g_U ?_|refine g_A ?_|refine (asked_calls x [9] ok (by decide) (by decide) _).use ?_|refine g_q (fun τ=>asked_calls x [9] ok (by decide) (by decide) _) ?_|refine g_W ?_);(try simp -implicitDefEqProofs only[go_sem]))|(with_reducible refine hK _ _ ?_;clear hK K)|(clear hK K;first|(with_reducible refine hK _ _ ?_;clear hK K)|(clear hK K;with_reducible refine hK _ _ ?_;clear hK K)|(clear hK K;clear hK K;with_reducible refine hK _ _ ?_;clear hK K))|(with_reducible refine splitB_intro (fun h=>?_) (fun h=>?_)<;>(try simp only[go_sem] at h)<;>(try exact g_f)<;>(try simp -implicitDefEqProofs only[go_sem]))|(with_reducible refine And.intro (fun h=>?_) (fun h=>?_)<;>(try simp only[go_sem] at h)<;>(try exact g_f))|(with_reducible refine And.intro ?_ ?_;· exact g_x)|(with_reducible intro h;(try simp only[go_sem] at h);(try exact g_f))))
  refine CutQ_w rfl ?_ ?_
  · (repeat' (first | exact Bd.c _ | exact Bd.emp | exact BdL.nil | exact Bd.ints _ | refine Bd.aggL ?_ | refine Bd.tupL ?_ | refine BdL.cons ?_ ?_))
  · (repeat' (first | exact Wk.nil | exact Wk.emp | exact WkL.nil | (with_reducible exact Wk.refl _) | refine Wk.agg ?_ | refine Wk.tup ?_ | refine WkL.cons ?_ ?_ | (refine Wk.eq ?_; rfl)))

theorem allLaws_calls (σ : Store) : ACalls Try.prog 29 [] σ fun r σ' => σ' = σ ∧ r = intsA seven := by
  refine ACalls.cutX ?_
  refine ACalls_of_awp Try.func29 rfl Try.results29 ?_
  simp only [List.length_cons, List.length_nil, Try.ntmps29, Nat.reduceAdd, Nat.reduceSub, enterA]
  (repeat' (first|(refine g_s fun K hK=>?_)|(refine g_b ?_)|(refine g_r ?_)|(refine g_k ?_;simp only[thenQ,blockQ])|(refine g_e ?_;simp only[thenQ,blockQ,↓reduceIte,Nat.reduceEqDiff])|(refine g_c (fun h=>?_) (fun h=>?_)<;>(try simp only[go_sem] at h)<;>(try exact g_f))|((first|refine g_t ?_|refine g_G ?_|refine g_U ?_|refine g_A ?_|refine g_W ?_);(try simp -implicitDefEqProofs only[go_sem]))|(with_reducible refine hK _ _ ?_;clear hK K)|(clear hK K;first|(with_reducible refine hK _ _ ?_;clear hK K)|(clear hK K;with_reducible refine hK _ _ ?_;clear hK K)|(clear hK K;clear hK K;with_reducible refine hK _ _ ?_;clear hK K))|(with_reducible refine splitB_intro (fun h=>?_) (fun h=>?_)<;>(try simp only[go_sem] at h)<;>(try exact g_f)<;>(try simp -implicitDefEqProofs only[go_sem]))|(with_reducible refine And.intro (fun h=>?_) (fun h=>?_)<;>(try simp only[go_sem] at h)<;>(try exact g_f))|(with_reducible refine And.intro ?_ ?_;· exact g_x)|(with_reducible intro h;(try simp only[go_sem] at h);(try exact g_f))))
  refine CutQ_w (τ := []) (by simp) (Bd.ints seven) (.eq rfl)

def hopsX : Alg := ⟨3, [[0, 0, 0], [0, 1, 1], [0, 1, 2]], [[1, 2, 2]]⟩
def hopsY : Alg := ⟨3, [[0, 0, 0], [0, 1, 1], [0, 1, 2]], [[0, 1, 2]]⟩

theorem algC_bd {n : Nat} (x : Alg) : Bd n (.agg (algC x)) := .aggL (.cons (.c _) (.cons (.rows _) (.cons (.rows _) .nil)))
theorem brkC_bd {n : Nat} (b : Brk) : Bd n (.agg (brkC b)) := .aggL (.cons (.c _) (.cons (.c _) (.cons (.c _) (.cons (.c _) (.cons (.c _) .nil)))))

theorem hops_calls (σ : Store) : ACalls Try.prog 65 [] σ fun r σ' => σ' = σ ∧ r = .agg (algC hopsX) := by
  refine ACalls.cutX ?_
  refine ACalls_of_awp Try.func65 rfl Try.results65 ?_
  simp only [List.length_cons, List.length_nil, Try.ntmps65, Nat.reduceAdd, Nat.reduceSub, enterA]
  (repeat' (first|(refine g_s fun K hK=>?_)|(refine g_b ?_)|(refine g_r ?_)|(refine g_k ?_;simp only[thenQ,blockQ])|(refine g_e ?_;simp only[thenQ,blockQ,↓reduceIte,Nat.reduceEqDiff])|(refine g_c (fun h=>?_) (fun h=>?_)<;>(try simp only[go_sem] at h)<;>(try exact g_f))|((first|refine g_t ?_|refine g_G ?_|refine g_U ?_|refine g_A ?_|refine g_W ?_);(try simp -implicitDefEqProofs only[go_sem]))|(with_reducible refine hK _ _ ?_;clear hK K)|(clear hK K;first|(with_reducible refine hK _ _ ?_;clear hK K)|(clear hK K;with_reducible refine hK _ _ ?_;clear hK K)|(clear hK K;clear hK K;with_reducible refine hK _ _ ?_;clear hK K))|(with_reducible refine splitB_intro (fun h=>?_) (fun h=>?_)<;>(try simp only[go_sem] at h)<;>(try exact g_f)<;>(try simp -implicitDefEqProofs only[go_sem]))|(with_reducible refine And.intro (fun h=>?_) (fun h=>?_)<;>(try simp only[go_sem] at h)<;>(try exact g_f))|(with_reducible refine And.intro ?_ ?_;· exact g_x)|(with_reducible intro h;(try simp only[go_sem] at h);(try exact g_f))))
  refine CutQ_w rfl (algC_bd hopsX) (.eq rfl)
end Go.Proofs.Ytephecognbbaoaa
