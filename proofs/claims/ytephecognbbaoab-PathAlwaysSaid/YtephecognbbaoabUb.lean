/- Routes with paths: when one is right, and which of two is better: as the program finds it. -/
import Derived.Test.YtephecognbbaoabUa
import Derived.Test.YtephecognbbaoabIm
import Derived.Test.YtephecognbbaoabTd
import Derived.Test.YtephecognbbaoabNg
namespace Go.Proofs.Ytephecognbbaoab
open Go
set_option linter.all false
set_option maxRecDepth 100000
set_option maxHeartbeats 4000000

theorem ok_cmp : callOk Try.prog 187 = true := by kernel_rfl
theorem ok_nan : callOk Try.prog 203 = true := by kernel_rfl
attribute [go_sem] ok_cmp ok_nan

theorem pvalid_calls (n : Net) (r : Rt) (hi : I64 (n.alg.size - 1)) (σ : Store) : ACalls Try.prog 108 [.agg (netC n), .agg (rtC r)] σ fun r' σ' => σ' = σ ∧ r' = .c (.bool (decide (r.w ≠ n.alg.size - 1))) := by
  refine ACalls.cutX ?_
  refine ACalls_of_awp Try.func108 rfl Try.results108 ?_
  simp only [List.length_cons, List.length_nil, Try.ntmps108, Nat.reduceAdd, Nat.reduceSub, enterA]
  refine AWP_seq_k fun K hK => ?_
  (refine AWP_region ?_; simp -implicitDefEqProofs only [go_sem])
  refine hK _ _ ?_; clear hK K
  refine AWP_freezeP 2 rfl (by simp only [st0]; rfl) ?_
  simp only [ss0, List.set_cons_zero]
  refine AWP_freezeP 3 rfl (by simp only [st1]; rfl) ?_
  simp only [ss1, List.set_cons_zero, List.set_cons_succ]
  (repeat' (first|(refine g_s fun K hK=>?_)|(refine g_b ?_)|(refine g_r ?_)|(refine g_k ?_;simp only[thenQ,blockQ])|(refine g_e ?_;simp only[thenQ,blockQ,↓reduceIte,Nat.reduceEqDiff])|(refine g_c (fun h=>?_) (fun h=>?_)<;>(try simp only[go_sem] at h)<;>(try exact g_f))|((first|refine g_t ?_|refine g_g ?_|refine g_U ?_|refine g_A ?_|refine (invalid_calls n.alg hi _).use ?_|refine g_q (fun τ=>invalid_calls n.alg hi _) ?_|refine g_W ?_);(try simp -implicitDefEqProofs only[go_sem]))|(with_reducible refine hK _ _ ?_;clear hK K)|(clear hK K;first|(with_reducible refine hK _ _ ?_;clear hK K)|(clear hK K;with_reducible refine hK _ _ ?_;clear hK K)|(clear hK K;clear hK K;with_reducible refine hK _ _ ?_;clear hK K))|(with_reducible refine splitB_intro (fun h=>?_) (fun h=>?_)<;>(try simp only[go_sem] at h)<;>(try exact g_f)<;>(try simp -implicitDefEqProofs only[go_sem]))|(with_reducible refine And.intro (fun h=>?_) (fun h=>?_)<;>(try simp only[go_sem] at h)<;>(try exact g_f))|(with_reducible refine And.intro ?_ ?_;· exact g_x)|(with_reducible intro h;(try simp only[go_sem] at h);(try exact g_f))))
  refine CutQ_c rfl ?_
  by_cases hq : r.w = n.alg.size - 1 <;> simp [hq]

theorem risValid_calls (n : Net) (r : Rt) (hi : I64 (n.alg.size - 1)) (σ : Store) : ACalls Try.prog 51 [.agg (netC n), .agg (rtC r)] σ fun r' σ' => σ' = σ ∧ r' = .c (.bool (decide (r.w ≠ n.alg.size - 1))) := by
  refine ACalls.cutX ?_
  refine ACalls_of_awp Try.func51 rfl Try.results51 ?_
  simp only [List.length_cons, List.length_nil, Try.ntmps51, Nat.reduceAdd, Nat.reduceSub, enterA]
  refine AWP_seq_k fun K hK => ?_
  (refine AWP_region ?_; simp -implicitDefEqProofs only [go_sem])
  refine hK _ _ ?_; clear hK K
  refine AWP_freezeP 2 rfl (by simp only [st0]; rfl) ?_
  simp only [ss0, List.set_cons_zero]
  refine AWP_freezeP 3 rfl (by simp only [st1]; rfl) ?_
  simp only [ss1, List.set_cons_zero, List.set_cons_succ]
  (repeat' (first|(refine g_s fun K hK=>?_)|(refine g_b ?_)|(refine g_r ?_)|(refine g_k ?_;simp only[thenQ,blockQ])|(refine g_e ?_;simp only[thenQ,blockQ,↓reduceIte,Nat.reduceEqDiff])|(refine g_c (fun h=>?_) (fun h=>?_)<;>(try simp only[go_sem] at h)<;>(try exact g_f))|((first|refine g_t ?_|refine g_g ?_|refine g_U ?_|refine g_A ?_|refine g_W ?_);(try simp -implicitDefEqProofs only[go_sem]))|(with_reducible refine hK _ _ ?_;clear hK K)|(clear hK K;first|(with_reducible refine hK _ _ ?_;clear hK K)|(clear hK K;with_reducible refine hK _ _ ?_;clear hK K)|(clear hK K;clear hK K;with_reducible refine hK _ _ ?_;clear hK K))|(with_reducible refine splitB_intro (fun h=>?_) (fun h=>?_)<;>(try simp only[go_sem] at h)<;>(try exact g_f)<;>(try simp -implicitDefEqProofs only[go_sem]))|(with_reducible refine And.intro (fun h=>?_) (fun h=>?_)<;>(try simp only[go_sem] at h)<;>(try exact g_f))|(with_reducible refine And.intro ?_ ?_;· exact g_x)|(with_reducible intro h;(try simp only[go_sem] at h);(try exact g_f))))
  refine CutQ_c rfl ?_
  by_cases hq : r.w = n.alg.size - 1 <;> simp [hq]

theorem pnone_calls (n : Net) (hi : I64 (n.alg.size - 1)) (σ : Store) : ACalls Try.prog 155 [.agg (netC n)] σ fun r' σ' => σ' = σ ∧ r' = .agg (rtC (invR n)) := by
  refine ACalls.cutX ?_
  refine ACalls_of_awp Try.func155 rfl Try.results155 ?_
  simp only [List.length_cons, List.length_nil, Try.ntmps155, Nat.reduceAdd, Nat.reduceSub, enterA]
  refine AWP_seq_k fun K hK => ?_
  (refine AWP_region ?_; simp -implicitDefEqProofs only [go_sem])
  refine hK _ _ ?_; clear hK K
  refine AWP_freezeP 1 rfl (by simp only [st0]; rfl) ?_
  simp only [ss0, List.set_cons_zero]
  (repeat' (first|(refine g_s fun K hK=>?_)|(refine g_b ?_)|(refine g_r ?_)|(refine g_k ?_;simp only[thenQ,blockQ])|(refine g_e ?_;simp only[thenQ,blockQ,↓reduceIte,Nat.reduceEqDiff])|(refine g_c (fun h=>?_) (fun h=>?_)<;>(try simp only[go_sem] at h)<;>(try exact g_f))|((first|refine g_t ?_|refine g_g ?_|refine g_U ?_|refine g_A ?_|refine (invalid_calls n.alg hi _).use ?_|refine g_q (fun τ=>invalid_calls n.alg hi _) ?_|refine g_W ?_);(try simp -implicitDefEqProofs only[go_sem]))|(with_reducible refine hK _ _ ?_;clear hK K)|(clear hK K;first|(with_reducible refine hK _ _ ?_;clear hK K)|(clear hK K;with_reducible refine hK _ _ ?_;clear hK K)|(clear hK K;clear hK K;with_reducible refine hK _ _ ?_;clear hK K))|(with_reducible refine splitB_intro (fun h=>?_) (fun h=>?_)<;>(try simp only[go_sem] at h)<;>(try exact g_f)<;>(try simp -implicitDefEqProofs only[go_sem]))|(with_reducible refine And.intro (fun h=>?_) (fun h=>?_)<;>(try simp only[go_sem] at h)<;>(try exact g_f))|(with_reducible refine And.intro ?_ ?_;· exact g_x)|(with_reducible intro h;(try simp only[go_sem] at h);(try exact g_f))))
  refine CutQ_w rfl ?_ ?_
  · (repeat' (first | exact Bd.c _ | exact Bd.emp | exact BdL.nil | exact Bd.ints _ | refine Bd.aggL ?_ | refine Bd.tupL ?_ | refine BdL.cons ?_ ?_))
  · exact .agg (.cons (.refl _) (.cons .nil .nil))

theorem isNaN_calls (x : Int) (σ : Store) : ACalls Try.prog 203 [intA1 x] σ fun r' σ' => σ' = σ ∧ r' = .c (.bool false) := by
  refine ACalls_of_awp Try.func203 rfl Try.results203 ?_
  simp only [List.length_cons, List.length_nil, Try.ntmps203, Nat.reduceAdd, Nat.reduceSub, enterA]
  (repeat' (first|(refine g_s fun K hK=>?_)|(refine g_b ?_)|(refine g_r ?_)|(refine g_k ?_;simp only[thenQ,blockQ])|(refine g_e ?_;simp only[thenQ,blockQ,↓reduceIte,Nat.reduceEqDiff])|(refine g_c (fun h=>?_) (fun h=>?_)<;>(try simp only[go_sem] at h)<;>(try exact g_f))|((first|refine g_t ?_|refine g_g ?_|refine g_U ?_|refine g_A ?_|refine g_W ?_);(try simp -implicitDefEqProofs only[go_sem]))|(with_reducible refine hK _ _ ?_;clear hK K)|(clear hK K;first|(with_reducible refine hK _ _ ?_;clear hK K)|(clear hK K;with_reducible refine hK _ _ ?_;clear hK K)|(clear hK K;clear hK K;with_reducible refine hK _ _ ?_;clear hK K))|(with_reducible refine splitB_intro (fun h=>?_) (fun h=>?_)<;>(try simp only[go_sem] at h)<;>(try exact g_f)<;>(try simp -implicitDefEqProofs only[go_sem]))|(with_reducible refine And.intro (fun h=>?_) (fun h=>?_)<;>(try simp only[go_sem] at h)<;>(try exact g_f))|(with_reducible refine And.intro ?_ ?_;· exact g_x)|(with_reducible intro h;(try simp only[go_sem] at h);(try exact g_f))))
  all_goals simp

def cmpI (a b : Int) : Int := if a < b then -1 else if b < a then 1 else 0
theorem cmp_calls (a b : Int) (σ : Store) : ACalls Try.prog 187 [intA1 a, intA1 b] σ fun r' σ' => σ' = σ ∧ r' = intA1 (cmpI a b) := by
  refine ACalls_of_awp Try.func187 rfl Try.results187 ?_
  simp only [List.length_cons, List.length_nil, Try.ntmps187, Nat.reduceAdd, Nat.reduceSub, enterA]
  (repeat' (first|(refine g_s fun K hK=>?_)|(refine g_b ?_)|(refine g_r ?_)|(refine g_k ?_;simp only[thenQ,blockQ])|(refine g_e ?_;simp only[thenQ,blockQ,↓reduceIte,Nat.reduceEqDiff])|(refine g_c (fun h=>?_) (fun h=>?_)<;>(try simp only[go_sem] at h)<;>(try exact g_f))|((first|refine g_t ?_|refine g_g ?_|refine g_U ?_|refine g_A ?_|refine (isNaN_calls _ _).use ?_|refine g_q (fun τ=>isNaN_calls _ _) ?_|refine g_W ?_);(try simp -implicitDefEqProofs only[go_sem]))|(with_reducible refine hK _ _ ?_;clear hK K)|(clear hK K;first|(with_reducible refine hK _ _ ?_;clear hK K)|(clear hK K;with_reducible refine hK _ _ ?_;clear hK K)|(clear hK K;clear hK K;with_reducible refine hK _ _ ?_;clear hK K))|(with_reducible refine splitB_intro (fun h=>?_) (fun h=>?_)<;>(try simp only[go_sem] at h)<;>(try exact g_f)<;>(try simp -implicitDefEqProofs only[go_sem]))|(with_reducible refine And.intro (fun h=>?_) (fun h=>?_)<;>(try simp only[go_sem] at h)<;>(try exact g_f))|(with_reducible refine And.intro ?_ ?_;· exact g_x)|(with_reducible intro h;(try simp only[go_sem] at h);(try exact g_f))))
  · simp [cmpI, *]
  · rw [cmpI, if_neg (by omega), if_pos (by omega)]
  · rw [cmpI, if_neg (by omega), if_neg (by omega)]

def cmpL : List Int → List Int → Int
  | [], [] => 0
  | [], _ :: _ => -1
  | _ :: _, [] => 1
  | a :: p, b :: q => if cmpI a b ≠ 0 then cmpI a b else cmpL p q

theorem cmpL_lex : ∀ {p q : List Int}, p.length = q.length → (decide (cmpL p q ≤ 0)) = lexLe p q
  | [], [], _ => by decide
  | [], _ :: _, h => by simp at h
  | _ :: _, [], h => by simp at h
  | a :: p, b :: q, h => by
    rw [cmpL, lexLe]
    have ih := cmpL_lex (p := p) (q := q) (by simpa using h)
    unfold cmpI
    by_cases h1 : a < b
    · rw [if_pos h1, if_pos (by decide), if_neg (by omega)]
      simp [h1]
    · by_cases h2 : b < a
      · rw [if_neg h1, if_pos h2, if_pos (by decide), if_neg (by omega)]
        simp [h1]
      · rw [if_neg h1, if_neg h2, if_neg (by decide), if_pos (by omega)]
        exact ih

theorem compare_calls (p q : List Int) (h1 : p.length ≤ 1000000000000000000) (h2 : q.length ≤ 1000000000000000000) (he : p.length = q.length) (σ : Store) : ACalls Try.prog 157 [intsA p, intsA q] σ fun r' σ' => σ' = σ ∧ r' = intA1 (cmpL p q) := by
  obtain ⟨V, hV⟩ : ∃ V, cmpL p q = V := ⟨_, rfl⟩
  rw [hV]
  refine ACalls_of_awp Try.func157 rfl Try.results157 ?_
  simp only [List.length_cons, List.length_nil, Try.ntmps157, Nat.reduceAdd, Nat.reduceSub, enterA]
  (repeat' (first|(refine g_s fun K hK=>?_)|(refine g_b ?_)|(refine g_r ?_)|(refine g_k ?_;simp only[thenQ,blockQ])|(refine g_e ?_;simp only[thenQ,blockQ,↓reduceIte,Nat.reduceEqDiff])|(refine g_c (fun h=>?_) (fun h=>?_)<;>(try simp only[go_sem] at h)<;>(try exact g_f))|((first|refine g_t ?_|refine g_g ?_|refine g_U ?_|refine g_A ?_|refine g_W ?_);(try simp -implicitDefEqProofs only[go_sem]))|(with_reducible refine hK _ _ ?_;clear hK K)|(clear hK K;first|(with_reducible refine hK _ _ ?_;clear hK K)|(clear hK K;with_reducible refine hK _ _ ?_;clear hK K)|(clear hK K;clear hK K;with_reducible refine hK _ _ ?_;clear hK K))|(with_reducible refine splitB_intro (fun h=>?_) (fun h=>?_)<;>(try simp only[go_sem] at h)<;>(try exact g_f)<;>(try simp -implicitDefEqProofs only[go_sem]))|(with_reducible refine And.intro (fun h=>?_) (fun h=>?_)<;>(try simp only[go_sem] at h)<;>(try exact g_f))|(with_reducible refine And.intro ?_ ?_;· exact g_x)|(with_reducible intro h;(try simp only[go_sem] at h);(try exact g_f))))
  have hJ := hK
  clear hK
  refine AWP_each p (fun k r (s : List Int) => q.length = k.toNat + s.length ∧ (∃ pre, q = pre ++ s ∧ (pre.length : Int) = k) ∧ r.length = s.length ∧ cmpL r s = V) (fun k _ _ => [(11, intA1 k)]) (fun _ _ _ => σ) q [] ⟨by simp, ⟨[], rfl, rfl⟩, he, hV⟩ rfl (ALe_of ?_) ?_ ?_
  · simp -implicitDefEqProofs only [go_sem]
  · rintro k r s τ hk0 hk1 ⟨h3, ⟨pre, h4, h5⟩, h6, h7⟩ L hL
    obtain ⟨a, ha⟩ : ∃ a, at0 p k = a := ⟨_, rfl⟩
    rw [ha] at h6 h7
    rcases s with _ | ⟨b, s⟩
    · simp at h6
    have hb : at0 q k = b := by
      rw [h4, ← h5]
      simp [at0, List.getD_eq_getElem?_getD]
    rw [cmpL] at h7
    simp -implicitDefEqProofs only [go_sem]
    by_cases hc : cmpI a b = 0
    · rw [if_neg (not_not_intro hc)] at h7
      (repeat' (first|(refine g_s fun K hK=>?_)|(refine g_b ?_)|(refine g_r ?_)|(refine g_k ?_;simp only[thenQ,blockQ])|(refine g_e ?_;simp only[thenQ,blockQ,↓reduceIte,Nat.reduceEqDiff])|(refine g_c (fun h=>?_) (fun h=>?_)<;>(try simp only[go_sem] at h)<;>(try exact g_f))|((first|refine g_t ?_|refine g_g ?_|refine g_U ?_|refine g_A ?_|refine (cmp_calls a b _).use ?_|refine g_q (fun τ=>cmp_calls a b _) ?_|refine g_W ?_);(try simp -implicitDefEqProofs only[go_sem,ha, hb, hc]))|(with_reducible refine hK _ _ ?_;clear hK K)|(clear hK K;first|(with_reducible refine hK _ _ ?_;clear hK K)|(clear hK K;with_reducible refine hK _ _ ?_;clear hK K)|(clear hK K;clear hK K;with_reducible refine hK _ _ ?_;clear hK K))|(with_reducible refine splitB_intro (fun h=>?_) (fun h=>?_)<;>(try simp only[go_sem] at h)<;>(try exact g_f)<;>(try simp -implicitDefEqProofs only[go_sem,ha, hb, hc]))|(with_reducible refine And.intro (fun h=>?_) (fun h=>?_)<;>(try simp only[go_sem] at h)<;>(try exact g_f))|(with_reducible refine And.intro ?_ ?_;· exact g_x)|(with_reducible intro h;(try simp only[go_sem] at h);(try exact g_f))))
      refine hL s [] _ _ ⟨by simp at h3; omega, ⟨pre ++ [b], by rw [h4]; simp, by simp; omega⟩, by simpa using h6, h7⟩ (ALe_of ?_) rfl
      simp -implicitDefEqProofs only [go_sem]
    · rw [if_pos hc] at h7
      (repeat' (first|(refine g_s fun K hK=>?_)|(refine g_b ?_)|(refine g_r ?_)|(refine g_k ?_;simp only[thenQ,blockQ])|(refine g_e ?_;simp only[thenQ,blockQ,↓reduceIte,Nat.reduceEqDiff])|(refine g_c (fun h=>?_) (fun h=>?_)<;>(try simp only[go_sem] at h)<;>(try exact g_f))|((first|refine g_t ?_|refine g_g ?_|refine g_U ?_|refine g_A ?_|refine (cmp_calls a b _).use ?_|refine g_q (fun τ=>cmp_calls a b _) ?_|refine g_W ?_);(try simp -implicitDefEqProofs only[go_sem,ha, hb, hc]))|(with_reducible refine hK _ _ ?_;clear hK K)|(clear hK K;first|(with_reducible refine hK _ _ ?_;clear hK K)|(clear hK K;with_reducible refine hK _ _ ?_;clear hK K)|(clear hK K;clear hK K;with_reducible refine hK _ _ ?_;clear hK K))|(with_reducible refine splitB_intro (fun h=>?_) (fun h=>?_)<;>(try simp only[go_sem] at h)<;>(try exact g_f)<;>(try simp -implicitDefEqProofs only[go_sem,ha, hb, hc]))|(with_reducible refine And.intro (fun h=>?_) (fun h=>?_)<;>(try simp only[go_sem] at h)<;>(try exact g_f))|(with_reducible refine And.intro ?_ ?_;· exact g_x)|(with_reducible intro h;(try simp only[go_sem] at h);(try exact g_f))))
      rw [h7]
  · rintro k s τ hk ⟨h3, _, h6, h7⟩ L
    have h6 : s = [] := List.eq_nil_of_length_eq_zero (by simpa using h6.symm)
    subst h6
    have h7 : (0 : Int) = V := h7
    subst h7
    have hle : ¬ p.length < q.length := by omega
    simp -implicitDefEqProofs only [go_sem]
    (repeat' (first|(refine g_s fun K hK=>?_)|(refine g_b ?_)|(refine g_r ?_)|(refine g_k ?_;simp only[thenQ,blockQ])|(refine g_e ?_;simp only[thenQ,blockQ,↓reduceIte,Nat.reduceEqDiff])|(refine g_c (fun h=>?_) (fun h=>?_)<;>(try simp only[go_sem] at h)<;>(try exact g_f))|((first|refine g_t ?_|refine g_g ?_|refine g_U ?_|refine g_A ?_|refine g_W ?_);(try simp -implicitDefEqProofs only[go_sem]))|(with_reducible refine hK _ _ ?_;clear hK K)|(clear hK K;first|(with_reducible refine hK _ _ ?_;clear hK K)|(clear hK K;with_reducible refine hK _ _ ?_;clear hK K)|(clear hK K;clear hK K;with_reducible refine hK _ _ ?_;clear hK K))|(with_reducible refine splitB_intro (fun h=>?_) (fun h=>?_)<;>(try simp only[go_sem] at h)<;>(try exact g_f)<;>(try simp -implicitDefEqProofs only[go_sem]))|(with_reducible refine And.intro (fun h=>?_) (fun h=>?_)<;>(try simp only[go_sem] at h)<;>(try exact g_f))|(with_reducible refine And.intro ?_ ?_;· exact g_x)|(with_reducible intro h;(try simp only[go_sem] at h);(try exact g_f))))
    refine hJ _ _ ?_
    clear hJ
    (repeat' (first|(refine g_s fun K hK=>?_)|(refine g_b ?_)|(refine g_r ?_)|(refine g_k ?_;simp only[thenQ,blockQ])|(refine g_e ?_;simp only[thenQ,blockQ,↓reduceIte,Nat.reduceEqDiff])|(refine g_c (fun h=>?_) (fun h=>?_)<;>(try simp only[go_sem] at h)<;>(try exact g_f))|((first|refine g_t ?_|refine g_g ?_|refine g_U ?_|refine g_A ?_|refine g_W ?_);(try simp -implicitDefEqProofs only[go_sem]))|(with_reducible refine hK _ _ ?_;clear hK K)|(clear hK K;first|(with_reducible refine hK _ _ ?_;clear hK K)|(clear hK K;with_reducible refine hK _ _ ?_;clear hK K)|(clear hK K;clear hK K;with_reducible refine hK _ _ ?_;clear hK K))|(with_reducible refine splitB_intro (fun h=>?_) (fun h=>?_)<;>(try simp only[go_sem] at h)<;>(try exact g_f)<;>(try simp -implicitDefEqProofs only[go_sem]))|(with_reducible refine And.intro (fun h=>?_) (fun h=>?_)<;>(try simp only[go_sem] at h)<;>(try exact g_f))|(with_reducible refine And.intro ?_ ?_;· exact g_x)|(with_reducible intro h;(try simp only[go_sem] at h);(try exact g_f))))

theorem rightB_in {n : Net} {r : Rt} (h1 : inR r.w 0 (n.alg.size - 1) = true) (h2 : r.w ≠ n.alg.size - 1) : rightB n r = (decide (r.p ≠ []) && (r.p.all (fun k => inR k 0 (n.nodes - 1)) && decide r.p.Nodup)) := by
  rw [rightB, h1, if_neg h2, Bool.true_and]

theorem right_calls (n : Net) (r : Rt) (hn : NetIn n) (hp : r.p.length ≤ 17592186044000) (σ : Store) : ACalls Try.prog 105 [.agg (netC n), .agg (rtC r)] σ fun r' σ' => σ' = σ ∧ r' = .c (.bool (rightB n r)) := by
  have n1 := hn.n1
  have n6 := hn.n6
  have s2 := hn.alg.s2
  have s24 := hn.alg.s24
  have hi : I64 (n.alg.size - 1) := by unfold I64; omega
  refine ACalls.cutX ?_
  by_cases h1 : inR r.w 0 (n.alg.size - 1) = true
  · by_cases h2 : r.w = n.alg.size - 1
    · have hV : ∀ S, ACalls Try.prog 108 [.agg (netC n), .agg (rtC r)] S fun r' σ' => σ' = S ∧ r' = .c (.bool false) := fun S => by
        have := pvalid_calls n r hi S
        rw [decide_eq_false (not_not_intro h2)] at this
        exact this
      refine ACalls_of_awp Try.func105 rfl Try.results105 ?_
      simp only [List.length_cons, List.length_nil, Try.ntmps105, Nat.reduceAdd, Nat.reduceSub, enterA]
      refine AWP_seq_k fun K hK => ?_
      (refine AWP_region ?_; simp -implicitDefEqProofs only [go_sem])
      refine hK _ _ ?_; clear hK K
      refine AWP_freezeP 2 rfl (by simp only [st0]; rfl) ?_
      simp only [ss0, List.set_cons_zero]
      refine AWP_freezeP 3 rfl (by simp only [st1]; rfl) ?_
      simp only [ss1, List.set_cons_zero, List.set_cons_succ]
      (repeat' (first|(refine g_s fun K hK=>?_)|(refine g_b ?_)|(refine g_r ?_)|(refine g_k ?_;simp only[thenQ,blockQ])|(refine g_e ?_;simp only[thenQ,blockQ,↓reduceIte,Nat.reduceEqDiff])|(refine g_c (fun h=>?_) (fun h=>?_)<;>(try simp only[go_sem] at h)<;>(try exact g_f))|((first|refine g_t ?_|refine g_g ?_|refine g_U ?_|refine g_A ?_|refine (is_calls n.alg _ hi _).use ?_|refine g_q (fun τ=>is_calls n.alg _ hi _) ?_|refine (hV _).use ?_|refine g_q (fun τ=>hV _) ?_|refine g_W ?_);(try simp -implicitDefEqProofs only[go_sem,h1]))|(with_reducible refine hK _ _ ?_;clear hK K)|(clear hK K;first|(with_reducible refine hK _ _ ?_;clear hK K)|(clear hK K;with_reducible refine hK _ _ ?_;clear hK K)|(clear hK K;clear hK K;with_reducible refine hK _ _ ?_;clear hK K))|(with_reducible refine splitB_intro (fun h=>?_) (fun h=>?_)<;>(try simp only[go_sem] at h)<;>(try exact g_f)<;>(try simp -implicitDefEqProofs only[go_sem,h1]))|(with_reducible refine And.intro (fun h=>?_) (fun h=>?_)<;>(try simp only[go_sem] at h)<;>(try exact g_f))|(with_reducible refine And.intro ?_ ?_;· exact g_x)|(with_reducible intro h;(try simp only[go_sem] at h);(try exact g_f))))
      refine CutQ_c rfl ?_
      rw [rightB, h1, if_pos h2, Bool.true_and]
      cases hpp : r.p <;> simp
      omega
    · rw [rightB_in h1 h2]
      obtain ⟨M, hM⟩ : ∃ M, metK [] r.p = M := ⟨_, rfl⟩
      have hMn := metK_nil r.p
      rw [hM] at hMn
      refine ACalls_of_awp Try.func105 rfl Try.results105 ?_
      simp only [List.length_cons, List.length_nil, Try.ntmps105, Nat.reduceAdd, Nat.reduceSub, enterA]
      refine AWP_seq_k fun K hK => ?_
      (refine AWP_region ?_; simp -implicitDefEqProofs only [go_sem])
      refine hK _ _ ?_; clear hK K
      refine AWP_freezeP 2 rfl (by simp only [st0]; rfl) ?_
      simp only [ss0, List.set_cons_zero]
      refine AWP_freezeP 3 rfl (by simp only [st1]; rfl) ?_
      simp only [ss1, List.set_cons_zero, List.set_cons_succ]
      (repeat' (first|(refine g_s fun K hK=>?_)|(refine g_b ?_)|(refine g_r ?_)|(refine g_k ?_;simp only[thenQ,blockQ])|(refine g_e ?_;simp only[thenQ,blockQ,↓reduceIte,Nat.reduceEqDiff])|(refine g_c (fun h=>?_) (fun h=>?_)<;>(try simp only[go_sem] at h)<;>(try exact g_f))|((first|refine g_t ?_|refine g_g ?_|refine g_U ?_|refine g_A ?_|refine (is_calls n.alg _ hi _).use ?_|refine g_q (fun τ=>is_calls n.alg _ hi _) ?_|refine (pvalid_calls n r hi _).use ?_|refine g_q (fun τ=>pvalid_calls n r hi _) ?_|refine g_W ?_);(try simp -implicitDefEqProofs only[go_sem,h1, h2]))|(with_reducible refine hK _ _ ?_;clear hK K)|(clear hK K;first|(with_reducible refine hK _ _ ?_;clear hK K)|(clear hK K;with_reducible refine hK _ _ ?_;clear hK K)|(clear hK K;clear hK K;with_reducible refine hK _ _ ?_;clear hK K))|(with_reducible refine splitB_intro (fun h=>?_) (fun h=>?_)<;>(try simp only[go_sem] at h)<;>(try exact g_f)<;>(try simp -implicitDefEqProofs only[go_sem,h1, h2]))|(with_reducible refine And.intro (fun h=>?_) (fun h=>?_)<;>(try simp only[go_sem] at h)<;>(try exact g_f))|(with_reducible refine And.intro ?_ ?_;· exact g_x)|(with_reducible intro h;(try simp only[go_sem] at h);(try exact g_f))))
      have hJ := hK
      clear hK
      refine AWP_each r.p (fun _ s ms => metK ms s = M ∧ (∀ j ∈ ms, 0 ≤ j ∧ j < n.nodes) ∧ DK (imE (metM ms)) ∧ r.p.all (fun k => inR k 0 (n.nodes - 1)) = s.all fun k => inR k 0 (n.nodes - 1)) (fun k _ _ => [(26, intA1 k)]) (fun _ ms _ => σ ++ [.dead, .dead, .map (imE (metM ms))]) [] [] ⟨hM, fun j hj => (by cases hj), trivial, rfl⟩ rfl (ALe_of ?_) ?_ ?_
      · simp -implicitDefEqProofs only [go_sem]
      · rintro k s ms τ hk0 hk1 ⟨h3, h4, h5, h6⟩ L hL
        obtain ⟨i, hi0⟩ : ∃ i, at0 r.p k = i := ⟨_, rfl⟩
        rw [hi0] at h3 h6
        rw [metK] at h3
        rw [List.all_cons] at h6
        have hDa := eq_true h5
        have hKK : KK Try.prog 3 (imE (metM ms)) = True := im_KK fun e hm => by
          obtain ⟨j, hj, rfl⟩ := List.mem_map.1 hm
          have := h4 j hj
          show I64 j
          unfold I64
          omega
        simp -implicitDefEqProofs only [go_sem]
        by_cases hin : 0 ≤ i ∧ i < n.nodes
        · have hir : inR i 0 (n.nodes - 1) = true := inR_iff.2 (by omega)
          rw [hir, Bool.true_and] at h6
          have hI : I64 i := by unfold I64; omega
          have hput := metM_put (K := ms) (i := i)
          have h0 : ¬ i < 0 := by omega
          have h1 : ¬ n.nodes ≤ i := by omega
          (repeat' (first|(refine g_s fun K hK=>?_)|(refine g_b ?_)|(refine g_r ?_)|(refine g_k ?_;simp only[thenQ,blockQ])|(refine g_e ?_;simp only[thenQ,blockQ,↓reduceIte,Nat.reduceEqDiff])|(refine g_c (fun h=>?_) (fun h=>?_)<;>(try simp only[go_sem] at h)<;>(try exact g_f))|((first|refine g_t ?_|refine g_g ?_|refine g_U ?_|refine g_A ?_|refine g_W ?_);(try simp -implicitDefEqProofs only[go_sem,hi0, hDa, hKK, hput, h0, h1]))|(with_reducible refine hK _ _ ?_;clear hK K)|(clear hK K;first|(with_reducible refine hK _ _ ?_;clear hK K)|(clear hK K;with_reducible refine hK _ _ ?_;clear hK K)|(clear hK K;clear hK K;with_reducible refine hK _ _ ?_;clear hK K))|(with_reducible refine splitB_intro (fun h=>?_) (fun h=>?_)<;>(try simp only[go_sem] at h)<;>(try exact g_f)<;>(try simp -implicitDefEqProofs only[go_sem,hi0, hDa, hKK, hput, h0, h1]))|(with_reducible refine And.intro (fun h=>?_) (fun h=>?_)<;>(try simp only[go_sem] at h)<;>(try exact g_f))|(with_reducible refine And.intro ?_ ?_;· exact g_x)|(with_reducible intro h;(try simp only[go_sem] at h);(try exact g_f))))
          refine hL (if i ∈ ms then ms else ms ++ [i]) [] _ _ ⟨h3, fun j hj => ?_, metM_DK h5, h6⟩ (ALe_of ?_) rfl
          · split at hj
            · exact h4 j hj
            · rcases List.mem_append.1 hj with hj | hj
              · exact h4 j hj
              · rw [List.mem_singleton.1 hj]; exact hin
          · simp -implicitDefEqProofs only [go_sem]
        · have hir : inR i 0 (n.nodes - 1) = false := by
            rw [← Bool.not_eq_true, inR_iff]
            omega
          rw [hir, Bool.false_and] at h6
          by_cases h0 : i < 0
          · (repeat' (first|(refine g_s fun K hK=>?_)|(refine g_b ?_)|(refine g_r ?_)|(refine g_k ?_;simp only[thenQ,blockQ])|(refine g_e ?_;simp only[thenQ,blockQ,↓reduceIte,Nat.reduceEqDiff])|(refine g_c (fun h=>?_) (fun h=>?_)<;>(try simp only[go_sem] at h)<;>(try exact g_f))|((first|refine g_t ?_|refine g_g ?_|refine g_U ?_|refine g_A ?_|refine g_W ?_);(try simp -implicitDefEqProofs only[go_sem,hi0, h0]))|(with_reducible refine hK _ _ ?_;clear hK K)|(clear hK K;first|(with_reducible refine hK _ _ ?_;clear hK K)|(clear hK K;with_reducible refine hK _ _ ?_;clear hK K)|(clear hK K;clear hK K;with_reducible refine hK _ _ ?_;clear hK K))|(with_reducible refine splitB_intro (fun h=>?_) (fun h=>?_)<;>(try simp only[go_sem] at h)<;>(try exact g_f)<;>(try simp -implicitDefEqProofs only[go_sem,hi0, h0]))|(with_reducible refine And.intro (fun h=>?_) (fun h=>?_)<;>(try simp only[go_sem] at h)<;>(try exact g_f))|(with_reducible refine And.intro ?_ ?_;· exact g_x)|(with_reducible intro h;(try simp only[go_sem] at h);(try exact g_f))))
            refine CutQ_c rfl ?_
            rw [h6, Bool.false_and, Bool.and_false]
          · have h1 : n.nodes ≤ i := by omega
            (repeat' (first|(refine g_s fun K hK=>?_)|(refine g_b ?_)|(refine g_r ?_)|(refine g_k ?_;simp only[thenQ,blockQ])|(refine g_e ?_;simp only[thenQ,blockQ,↓reduceIte,Nat.reduceEqDiff])|(refine g_c (fun h=>?_) (fun h=>?_)<;>(try simp only[go_sem] at h)<;>(try exact g_f))|((first|refine g_t ?_|refine g_g ?_|refine g_U ?_|refine g_A ?_|refine g_W ?_);(try simp -implicitDefEqProofs only[go_sem,hi0, h0, h1]))|(with_reducible refine hK _ _ ?_;clear hK K)|(clear hK K;first|(with_reducible refine hK _ _ ?_;clear hK K)|(clear hK K;with_reducible refine hK _ _ ?_;clear hK K)|(clear hK K;clear hK K;with_reducible refine hK _ _ ?_;clear hK K))|(with_reducible refine splitB_intro (fun h=>?_) (fun h=>?_)<;>(try simp only[go_sem] at h)<;>(try exact g_f)<;>(try simp -implicitDefEqProofs only[go_sem,hi0, h0, h1]))|(with_reducible refine And.intro (fun h=>?_) (fun h=>?_)<;>(try simp only[go_sem] at h)<;>(try exact g_f))|(with_reducible refine And.intro ?_ ?_;· exact g_x)|(with_reducible intro h;(try simp only[go_sem] at h);(try exact g_f))))
            refine CutQ_c rfl ?_
            rw [h6, Bool.false_and, Bool.and_false]
      · rintro k ms τ hk ⟨h3, h4, h5, h6⟩ L
        have h3 : ms = M := h3
        subst h3
        have h6 : r.p.all (fun k => inR k 0 (n.nodes - 1)) = true := h6
        have hDa := eq_true h5
        have hKl := metM_len ms
        simp -implicitDefEqProofs only [go_sem]
        (repeat' (first|(refine g_s fun K hK=>?_)|(refine g_b ?_)|(refine g_r ?_)|(refine g_k ?_;simp only[thenQ,blockQ])|(refine g_e ?_;simp only[thenQ,blockQ,↓reduceIte,Nat.reduceEqDiff])|(refine g_c (fun h=>?_) (fun h=>?_)<;>(try simp only[go_sem] at h)<;>(try exact g_f))|((first|refine g_t ?_|refine g_g ?_|refine g_U ?_|refine g_A ?_|refine g_W ?_);(try simp -implicitDefEqProofs only[go_sem]))|(with_reducible refine hK _ _ ?_;clear hK K)|(clear hK K;first|(with_reducible refine hK _ _ ?_;clear hK K)|(clear hK K;with_reducible refine hK _ _ ?_;clear hK K)|(clear hK K;clear hK K;with_reducible refine hK _ _ ?_;clear hK K))|(with_reducible refine splitB_intro (fun h=>?_) (fun h=>?_)<;>(try simp only[go_sem] at h)<;>(try exact g_f)<;>(try simp -implicitDefEqProofs only[go_sem]))|(with_reducible refine And.intro (fun h=>?_) (fun h=>?_)<;>(try simp only[go_sem] at h)<;>(try exact g_f))|(with_reducible refine And.intro ?_ ?_;· exact g_x)|(with_reducible intro h;(try simp only[go_sem] at h);(try exact g_f))))
        refine hJ _ _ ?_
        clear hJ
        rw [h6, Bool.true_and]
        (repeat' (first|(refine g_s fun K hK=>?_)|(refine g_b ?_)|(refine g_r ?_)|(refine g_k ?_;simp only[thenQ,blockQ])|(refine g_e ?_;simp only[thenQ,blockQ,↓reduceIte,Nat.reduceEqDiff])|(refine g_c (fun h=>?_) (fun h=>?_)<;>(try simp only[go_sem] at h)<;>(try exact g_f))|((first|refine g_t ?_|refine g_g ?_|refine g_U ?_|refine g_A ?_|refine g_W ?_);(try simp -implicitDefEqProofs only[go_sem,hKl]))|(with_reducible refine hK _ _ ?_;clear hK K)|(clear hK K;first|(with_reducible refine hK _ _ ?_;clear hK K)|(clear hK K;with_reducible refine hK _ _ ?_;clear hK K)|(clear hK K;clear hK K;with_reducible refine hK _ _ ?_;clear hK K))|(with_reducible refine splitB_intro (fun h=>?_) (fun h=>?_)<;>(try simp only[go_sem] at h)<;>(try exact g_f)<;>(try simp -implicitDefEqProofs only[go_sem,hKl]))|(with_reducible refine And.intro (fun h=>?_) (fun h=>?_)<;>(try simp only[go_sem] at h)<;>(try exact g_f))|(with_reducible refine And.intro ?_ ?_;· exact g_x)|(with_reducible intro h;(try simp only[go_sem] at h);(try exact g_f))))
        · refine CutQ_c rfl (congrArg Value.bool ?_)
          have hne : r.p ≠ [] := fun e => by rw [e] at h; simp at h
          by_cases hd : r.p.Nodup
          · have := hMn.2 hd
            simp [this, hd, hne]
          · have : ¬ ms.length = r.p.length := fun e => hd (hMn.1 e)
            simp [hd]
            omega
        · refine CutQ_c rfl ?_
          have hne : r.p = [] := List.eq_nil_of_length_eq_zero (by omega)
          simp [hne]
  · have h1 : inR r.w 0 (n.alg.size - 1) = false := by simpa using h1
    refine ACalls_of_awp Try.func105 rfl Try.results105 ?_
    simp only [List.length_cons, List.length_nil, Try.ntmps105, Nat.reduceAdd, Nat.reduceSub, enterA]
    refine AWP_seq_k fun K hK => ?_
    (refine AWP_region ?_; simp -implicitDefEqProofs only [go_sem])
    refine hK _ _ ?_; clear hK K
    refine AWP_freezeP 2 rfl (by simp only [st0]; rfl) ?_
    simp only [ss0, List.set_cons_zero]
    refine AWP_freezeP 3 rfl (by simp only [st1]; rfl) ?_
    simp only [ss1, List.set_cons_zero, List.set_cons_succ]
    (repeat' (first|(refine g_s fun K hK=>?_)|(refine g_b ?_)|(refine g_r ?_)|(refine g_k ?_;simp only[thenQ,blockQ])|(refine g_e ?_;simp only[thenQ,blockQ,↓reduceIte,Nat.reduceEqDiff])|(refine g_c (fun h=>?_) (fun h=>?_)<;>(try simp only[go_sem] at h)<;>(try exact g_f))|((first|refine g_t ?_|refine g_g ?_|refine g_U ?_|refine g_A ?_|refine (is_calls n.alg _ hi _).use ?_|refine g_q (fun τ=>is_calls n.alg _ hi _) ?_|refine (pvalid_calls n r hi _).use ?_|refine g_q (fun τ=>pvalid_calls n r hi _) ?_|refine g_W ?_);(try simp -implicitDefEqProofs only[go_sem,h1]))|(with_reducible refine hK _ _ ?_;clear hK K)|(clear hK K;first|(with_reducible refine hK _ _ ?_;clear hK K)|(clear hK K;with_reducible refine hK _ _ ?_;clear hK K)|(clear hK K;clear hK K;with_reducible refine hK _ _ ?_;clear hK K))|(with_reducible refine splitB_intro (fun h=>?_) (fun h=>?_)<;>(try simp only[go_sem] at h)<;>(try exact g_f)<;>(try simp -implicitDefEqProofs only[go_sem,h1]))|(with_reducible refine And.intro (fun h=>?_) (fun h=>?_)<;>(try simp only[go_sem] at h)<;>(try exact g_f))|(with_reducible refine And.intro ?_ ?_;· exact g_x)|(with_reducible intro h;(try simp only[go_sem] at h);(try exact g_f))))
    refine CutQ_c rfl ?_
    rw [rightB, h1, Bool.false_and]

theorem take_ints (p : List Int) (k : Nat) : List.take (k - 0) (p.map intC) = (p.take k).map intC := by rw [Nat.sub_zero, List.map_take]

theorem ends_calls (n : Net) (r : Rt) (i j : Int) (hn : NetIn n) (hr : RightR n r) (hp : r.p.length ≤ 17592186044000) (σ : Store) : ACalls Try.prog 106 [.agg (netC n), .agg (rtC r), intA1 i, intA1 j] σ fun r' σ' => σ' = σ ∧ r' = .c (.bool (endsB n r i j)) := by
  have s2 := hn.alg.s2
  have s24 := hn.alg.s24
  have hi : I64 (n.alg.size - 1) := by unfold I64; omega
  refine ACalls.cutX ?_
  by_cases h2 : r.w = n.alg.size - 1
  · have hV : ∀ S, ACalls Try.prog 108 [.agg (netC n), .agg (rtC r)] S fun r' σ' => σ' = S ∧ r' = .c (.bool false) := fun S => by
      have := pvalid_calls n r hi S
      rw [decide_eq_false (not_not_intro h2)] at this
      exact this
    refine ACalls_of_awp Try.func106 rfl Try.results106 ?_
    simp only [List.length_cons, List.length_nil, Try.ntmps106, Nat.reduceAdd, Nat.reduceSub, enterA]
    refine AWP_seq_k fun K hK => ?_
    (refine AWP_region ?_; simp -implicitDefEqProofs only [go_sem])
    refine hK _ _ ?_; clear hK K
    refine AWP_freezeP 4 rfl (by simp only [st0]; rfl) ?_
    simp only [ss0, List.set_cons_zero]
    refine AWP_freezeP 5 rfl (by simp only [st1]; rfl) ?_
    simp only [ss1, List.set_cons_zero, List.set_cons_succ]
    (repeat' (first|(refine g_s fun K hK=>?_)|(refine g_b ?_)|(refine g_r ?_)|(refine g_k ?_;simp only[thenQ,blockQ])|(refine g_e ?_;simp only[thenQ,blockQ,↓reduceIte,Nat.reduceEqDiff])|(refine g_c (fun h=>?_) (fun h=>?_)<;>(try simp only[go_sem] at h)<;>(try exact g_f))|((first|refine g_t ?_|refine g_g ?_|refine g_U ?_|refine g_A ?_|refine (hV _).use ?_|refine g_q (fun τ=>hV _) ?_|refine g_W ?_);(try simp -implicitDefEqProofs only[go_sem]))|(with_reducible refine hK _ _ ?_;clear hK K)|(clear hK K;first|(with_reducible refine hK _ _ ?_;clear hK K)|(clear hK K;with_reducible refine hK _ _ ?_;clear hK K)|(clear hK K;clear hK K;with_reducible refine hK _ _ ?_;clear hK K))|(with_reducible refine splitB_intro (fun h=>?_) (fun h=>?_)<;>(try simp only[go_sem] at h)<;>(try exact g_f)<;>(try simp -implicitDefEqProofs only[go_sem]))|(with_reducible refine And.intro (fun h=>?_) (fun h=>?_)<;>(try simp only[go_sem] at h)<;>(try exact g_f))|(with_reducible refine And.intro ?_ ?_;· exact g_x)|(with_reducible intro h;(try simp only[go_sem] at h);(try exact g_f))))
    refine CutQ_c rfl ?_
    rw [endsB, decide_eq_true h2, Bool.true_or]
  · have hne := List.length_pos_iff.2 (hr.ne h2)
    rw [endsB, decide_eq_false h2, Bool.false_or]
    obtain ⟨a, ha⟩ : ∃ a, at0 r.p 0 = a := ⟨_, rfl⟩
    obtain ⟨b, hb⟩ : ∃ b, at0 r.p ((r.p.length : Int) - 1) = b := ⟨_, rfl⟩
    rw [ha, hb]
    refine ACalls_of_awp Try.func106 rfl Try.results106 ?_
    simp only [List.length_cons, List.length_nil, Try.ntmps106, Nat.reduceAdd, Nat.reduceSub, enterA]
    refine AWP_seq_k fun K hK => ?_
    (refine AWP_region ?_; simp -implicitDefEqProofs only [go_sem])
    refine hK _ _ ?_; clear hK K
    refine AWP_freezeP 4 rfl (by simp only [st0]; rfl) ?_
    simp only [ss0, List.set_cons_zero]
    refine AWP_freezeP 5 rfl (by simp only [st1]; rfl) ?_
    simp only [ss1, List.set_cons_zero, List.set_cons_succ]
    by_cases h3 : a = i
    · (repeat' (first|(refine g_s fun K hK=>?_)|(refine g_b ?_)|(refine g_r ?_)|(refine g_k ?_;simp only[thenQ,blockQ])|(refine g_e ?_;simp only[thenQ,blockQ,↓reduceIte,Nat.reduceEqDiff])|(refine g_c (fun h=>?_) (fun h=>?_)<;>(try simp only[go_sem] at h)<;>(try exact g_f))|((first|refine g_t ?_|refine g_g ?_|refine g_U ?_|refine g_A ?_|refine (pvalid_calls n r hi _).use ?_|refine g_q (fun τ=>pvalid_calls n r hi _) ?_|refine g_W ?_);(try simp -implicitDefEqProofs only[go_sem,h2, ha, hb, h3]))|(with_reducible refine hK _ _ ?_;clear hK K)|(clear hK K;first|(with_reducible refine hK _ _ ?_;clear hK K)|(clear hK K;with_reducible refine hK _ _ ?_;clear hK K)|(clear hK K;clear hK K;with_reducible refine hK _ _ ?_;clear hK K))|(with_reducible refine splitB_intro (fun h=>?_) (fun h=>?_)<;>(try simp only[go_sem] at h)<;>(try exact g_f)<;>(try simp -implicitDefEqProofs only[go_sem,h2, ha, hb, h3]))|(with_reducible refine And.intro (fun h=>?_) (fun h=>?_)<;>(try simp only[go_sem] at h)<;>(try exact g_f))|(with_reducible refine And.intro ?_ ?_;· exact g_x)|(with_reducible intro h;(try simp only[go_sem] at h);(try exact g_f))))
      refine CutQ_c rfl ?_
      by_cases hq : b = j <;> simp [h3, hq]
    · (repeat' (first|(refine g_s fun K hK=>?_)|(refine g_b ?_)|(refine g_r ?_)|(refine g_k ?_;simp only[thenQ,blockQ])|(refine g_e ?_;simp only[thenQ,blockQ,↓reduceIte,Nat.reduceEqDiff])|(refine g_c (fun h=>?_) (fun h=>?_)<;>(try simp only[go_sem] at h)<;>(try exact g_f))|((first|refine g_t ?_|refine g_g ?_|refine g_U ?_|refine g_A ?_|refine (pvalid_calls n r hi _).use ?_|refine g_q (fun τ=>pvalid_calls n r hi _) ?_|refine g_W ?_);(try simp -implicitDefEqProofs only[go_sem,h2, ha, hb, h3]))|(with_reducible refine hK _ _ ?_;clear hK K)|(clear hK K;first|(with_reducible refine hK _ _ ?_;clear hK K)|(clear hK K;with_reducible refine hK _ _ ?_;clear hK K)|(clear hK K;clear hK K;with_reducible refine hK _ _ ?_;clear hK K))|(with_reducible refine splitB_intro (fun h=>?_) (fun h=>?_)<;>(try simp only[go_sem] at h)<;>(try exact g_f)<;>(try simp -implicitDefEqProofs only[go_sem,h2, ha, hb, h3]))|(with_reducible refine And.intro (fun h=>?_) (fun h=>?_)<;>(try simp only[go_sem] at h)<;>(try exact g_f))|(with_reducible refine And.intro ?_ ?_;· exact g_x)|(with_reducible intro h;(try simp only[go_sem] at h);(try exact g_f))))
      refine CutQ_c rfl ?_
      simp [h3]

theorem own_rt_calls (r : Rt) (hp : r.p.length ≤ 17592186044000) (σ : Store) : ACalls Try.prog 96 [.agg (rtC r)] σ fun r' σ' => σ' = σ ∧ r' = .agg (rtC r) := by
  refine ACalls.cutX ?_
  refine ACalls_of_awp Try.func96 rfl Try.results96 ?_
  simp only [List.length_cons, List.length_nil, Try.ntmps96, Nat.reduceAdd, Nat.reduceSub, enterA]
  refine AWP_seq_k fun K hK => ?_
  (refine AWP_region ?_; simp -implicitDefEqProofs only [go_sem])
  refine hK _ _ ?_; clear hK K
  refine AWP_freezeP 1 rfl (by simp only [st0]; rfl) ?_
  simp only [ss0, List.set_cons_zero]
  (repeat' (first|(refine g_s fun K hK=>?_)|(refine g_b ?_)|(refine g_r ?_)|(refine g_k ?_;simp only[thenQ,blockQ])|(refine g_e ?_;simp only[thenQ,blockQ,↓reduceIte,Nat.reduceEqDiff])|(refine g_c (fun h=>?_) (fun h=>?_)<;>(try simp only[go_sem] at h)<;>(try exact g_f))|((first|refine g_t ?_|refine g_g ?_|refine g_U ?_|refine g_A ?_|refine (clone_calls r.p hp _).use ?_|refine g_q (fun τ=>clone_calls r.p hp _) ?_|refine g_W ?_);(try simp -implicitDefEqProofs only[go_sem]))|(with_reducible refine hK _ _ ?_;clear hK K)|(clear hK K;first|(with_reducible refine hK _ _ ?_;clear hK K)|(clear hK K;with_reducible refine hK _ _ ?_;clear hK K)|(clear hK K;clear hK K;with_reducible refine hK _ _ ?_;clear hK K))|(with_reducible refine splitB_intro (fun h=>?_) (fun h=>?_)<;>(try simp only[go_sem] at h)<;>(try exact g_f)<;>(try simp -implicitDefEqProofs only[go_sem]))|(with_reducible refine And.intro (fun h=>?_) (fun h=>?_)<;>(try simp only[go_sem] at h)<;>(try exact g_f))|(with_reducible refine And.intro ?_ ?_;· exact g_x)|(with_reducible intro h;(try simp only[go_sem] at h);(try exact g_f))))
  refine CutQ_w rfl ?_ (.eq rfl)
  exact .aggL (.cons (.c _) (.cons (.ints _) .nil))
theorem right_len {n : Net} {r : Rt} (hn : NetIn n) (h : RightR n r) : r.p.length ≤ 6 := by
  have := nodup_len (by have := hn.n1; omega) h.one h.rng
  have := hn.n6
  omega
end Go.Proofs.Ytephecognbbaoab
