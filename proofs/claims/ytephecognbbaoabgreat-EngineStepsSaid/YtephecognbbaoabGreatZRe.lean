/- The first state, as the document makes it. -/
import Derived.Test.YtephecognbbaoabGreatZNt
import Derived.Test.YtephecognbbaoabGreatZHp
import Derived.Test.YtephecognbbaoabGreatZFv
import Derived.Test.YtephecognbbaoabGreatZFp
import Derived.Test.YtephecognbbaoabGreatZCo
open Go
set_option linter.all false
set_option maxRecDepth 100000
set_option maxHeartbeats 4000000
namespace Go.Proofs.YtephecognbbaoabGreat
open Go
set_option linter.all false
set_option maxRecDepth 100000
set_option maxHeartbeats 4000000
theorem beginOf_calls (n : Net) (hn : NetIn n) (σ : Store) : ACalls Tryz.prog 33 [.agg (netC n)] σ fun r σ' => σ' = σ ∧ r = rowsC (beginA n) := by
  have n1 := hn.n1
  have n6 := hn.n6
  have s2 := hn.alg.s2
  have s24 := hn.alg.s24
  refine ACalls.cutX ?_
  refine ACalls_of_awp Tryz.func33 rfl Tryz.results33 ?_
  simp only [List.length_cons, List.length_nil, Tryz.ntmps33, Nat.reduceAdd, Nat.reduceSub, enterA]
  refine AWP_seq_k fun K hK => ?_
  (refine AWP_region ?_; simp -implicitDefEqProofs only [go_sem])
  refine hK _ _ ?_; clear hK K
  refine AWP_freezeP 1 rfl (by simp only [st0]; rfl) ?_
  simp only [ss0, List.set_cons_zero]
  (repeat' (first|(refine g_s fun K hK=>?_)|(refine g_b ?_)|(refine g_G ?_;(try simp -implicitDefEqProofs only[go_sem]))|(with_reducible refine hK _ _ ?_;clear hK K)|fail))
  refine AWP_pad ?_
  have hJ := hK
  clear hK
  refine AWP_each (ints n.nodes) (fun i r acc => acc ++ r.map (beginRow n) = beginA n) (fun i acc τ => [(4, intA1 i), (3, accV 1 (σ.length + (τ.length + 1)) acc)]) (fun _ acc τ => σ ++ (.dead :: (τ ++ [accO rowC 1 acc]))) [] [] rfl ?_ (ALe_of ?_) ?_ ?_
  · simp [accO]
  · simp -implicitDefEqProofs only [go_sem, accV, accO]
  · rintro i r acc τ hi0 hi1 h3 L hL
    rw [ints_length] at hi1
    rw [at0_ints hi0 (by omega)] at h3
    have hal : acc.length + 1 ≤ 6 := by have := congrArg List.length h3; simp [beginA, ints_length] at this; omega
    simp -implicitDefEqProofs only [go_sem]
    (repeat' (first|(refine g_s fun K hK=>?_)|(refine g_b ?_)|(refine g_k ?_;simp only[thenQ,blockQ])|(refine g_c (fun h=>?_) (fun h=>?_)<;>(try simp only[go_sem] at h)<;>(try exact g_f))|(refine g_G ?_;(try simp -implicitDefEqProofs only[go_sem]))|(with_reducible refine hK _ _ ?_;clear hK K)|fail))
    refine AWP_pad ?_
    have hJ2 := hK
    clear hK
    refine AWP_each (ints n.nodes) (fun j r row => row ++ r.map (fun j => if i = j then 0 else n.alg.size - 1) = beginRow n i) (fun j row τ2 => [(6, intA1 j), (5, accV 1 (σ.length + (τ.length + (τ2.length + 2))) row)]) (fun _ row τ2 => σ ++ (.dead :: (τ ++ accO rowC 1 acc :: (τ2 ++ [accO intC 1 row])))) [] [] rfl ?_ (ALe_of ?_) ?_ ?_
    · simp [accO]
    · simp -implicitDefEqProofs only [go_sem, accV, accO]
    · rintro j rj row τ2 hj0 hj1 h4 L2 hL2
      rw [ints_length] at hj1
      rw [at0_ints hj0 (by omega)] at h4
      have hrl : row.length + 1 ≤ 6 := by have := congrArg List.length h4; simp [beginRow, ints_length] at this; omega
      by_cases hij : i = j
      · rw [List.map_cons, if_pos hij] at h4
        rcases row with _ | ⟨y, row⟩ <;> simp only [List.length_cons, List.length_nil] at hrl <;> simp -implicitDefEqProofs only [go_sem, accV, accO]
        all_goals (repeat' (first|(refine g_s fun K hK=>?_)|(refine g_b ?_)|(refine g_k ?_;simp only[thenQ,blockQ])|(refine g_c (fun h=>?_) (fun h=>?_)<;>(try simp only[go_sem] at h)<;>(try exact g_f))|(refine g_G ?_;(try simp -implicitDefEqProofs only[go_sem]))|(with_reducible refine hK _ _ ?_;clear hK K)|(with_reducible refine And.intro ?_ ?_;· exact g_x)|fail))
        · refine hL2 [0] (τ2 ++ [.dead]) _ _ (by simpa using h4) (ALe_of ?_) ?_
          · simp -implicitDefEqProofs only [go_sem, accV]
          · simp [accO, intC, intA1]
        · refine hL2 (y :: row ++ [0]) (τ2 ++ [.dead]) _ _ (by simpa using h4) (ALe_of ?_) ?_
          · simp -implicitDefEqProofs only [go_sem, accV]
          · simp [accO, intC, intA1]
      · rw [List.map_cons, if_neg hij] at h4
        rcases row with _ | ⟨y, row⟩ <;> simp only [List.length_cons, List.length_nil] at hrl <;> simp -implicitDefEqProofs only [go_sem, accV, accO]
        all_goals (repeat' (first|(refine g_s fun K hK=>?_)|(refine g_b ?_)|(refine g_k ?_;simp only[thenQ,blockQ])|(refine g_c (fun h=>?_) (fun h=>?_)<;>(try simp only[go_sem] at h)<;>(try exact g_f))|(refine g_G ?_;(try simp -implicitDefEqProofs only[go_sem]))|(with_reducible refine hK _ _ ?_;clear hK K)|(with_reducible refine And.intro ?_ ?_;· exact g_x)|fail))
        · refine hL2 [n.alg.size - 1] (τ2 ++ [.dead]) _ _ (by simpa using h4) (ALe_of ?_) ?_
          · simp -implicitDefEqProofs only [go_sem, accV]
          · simp [accO, intC, intA1]
        · refine hL2 (y :: row ++ [n.alg.size - 1]) (τ2 ++ [.dead]) _ _ (by simpa using h4) (ALe_of ?_) ?_
          · simp -implicitDefEqProofs only [go_sem, accV]
          · simp [accO, intC, intA1]
    · rintro j row τ2 hj h4 L2
      rw [ints_length] at hj
      rw [List.map_nil, List.append_nil] at h4
      simp -implicitDefEqProofs only [go_sem]
      (repeat' (first|(refine g_s fun K hK=>?_)|(refine g_e ?_;simp only[thenQ,blockQ,↓reduceIte,Nat.reduceEqDiff])|(refine g_c (fun h=>?_) (fun h=>?_)<;>(try simp only[go_sem] at h)<;>(try exact g_f))|(refine g_g ?_;(try simp -implicitDefEqProofs only[go_sem]))|(with_reducible refine hK _ _ ?_;clear hK K)|fail))
      refine hJ2 _ _ ?_
      clear hJ2
      have est : σ ++ (.dead :: (τ ++ accO rowC 1 acc :: (τ2 ++ [accO intC 1 row]))) = σ ++ ((.dead :: (τ ++ accO rowC 1 acc :: τ2)) ++ accO intC 1 row :: []) := by simp
      rw [est]
      refine AWP_freezeAcc 5 intC 1 row σ (.dead :: (τ ++ accO rowC 1 acc :: τ2)) [] (by simp [look, Nat.add_assoc]) ?_
      rw [h4]
      rcases acc with _ | ⟨y, acc⟩ <;> simp only [List.length_cons, List.length_nil] at hal <;> simp -implicitDefEqProofs only [go_sem, accV, accO]
      all_goals (repeat' (first|(refine g_G ?_;(try simp -implicitDefEqProofs only[go_sem]))|(clear hK K;first|(with_reducible refine hK _ _ ?_;clear hK K)|(clear hK K;with_reducible refine hK _ _ ?_;clear hK K)|(clear hK K;clear hK K;with_reducible refine hK _ _ ?_;clear hK K))|(with_reducible refine And.intro ?_ ?_;· exact g_x)|fail))
      · refine hL [beginRow n i] (τ ++ .dead :: (τ2 ++ [.dead])) _ _ (by simpa using h3) (ALe_of ?_) ?_
        · simp -implicitDefEqProofs only [go_sem, accV]
        · simp [accO, rowC, intsA]
      · refine hL (y :: acc ++ [beginRow n i]) (τ ++ .dead :: (τ2 ++ [.dead])) _ _ (by simpa using h3) (ALe_of ?_) ?_
        · simp -implicitDefEqProofs only [go_sem, accV]
        · simp [accO, rowC, intsA]
  · rintro i acc τ hi h3 L
    rw [ints_length] at hi
    rw [List.map_nil, List.append_nil] at h3
    simp -implicitDefEqProofs only [go_sem]
    (repeat' (first|(refine g_s fun K hK=>?_)|(refine g_e ?_;simp only[thenQ,blockQ,↓reduceIte,Nat.reduceEqDiff])|(refine g_c (fun h=>?_) (fun h=>?_)<;>(try simp only[go_sem] at h)<;>(try exact g_f))|(refine g_g ?_;(try simp -implicitDefEqProofs only[go_sem]))|(with_reducible refine hK _ _ ?_;clear hK K)|fail))
    refine hJ _ _ ?_
    clear hJ
    have est : σ ++ (.dead :: (τ ++ [accO rowC 1 acc])) = σ ++ ((.dead :: τ) ++ accO rowC 1 acc :: []) := by simp
    rw [est]
    refine AWP_freezeAcc 3 rowC 1 acc σ (.dead :: τ) [] (by simp [look, Nat.add_assoc]) ?_
    (repeat' (first|(refine g_s fun K hK=>?_)|((first|refine g_t ?_|refine g_G ?_);(try simp -implicitDefEqProofs only[go_sem]))|(with_reducible refine hK _ _ ?_;clear hK K)|fail))
    rw [h3]
    exact CutQ_w rfl (Bd.rows _) (.eq rfl)
end Go.Proofs.YtephecognbbaoabGreat
namespace Go.Proofs.YtephecognbbaoabGreat
theorem newOf_calls (n : Net) (hn : NetIn n) (σ : Store) : ACalls Tryz.prog 10 [.agg (netC n)] σ fun r σ' => σ' = σ ∧ r = .agg (engC (newE n)) := by
  have n1 := hn.n1
  have n6 := hn.n6
  have hTr := beginOf_calls n hn
  have hbl : (beginA n).length = n.nodes.toNat := by simp [beginA, ints_length]
  have hbz : ((beginA n).length : Int) = n.nodes := by rw [hbl]; omega
  refine ACalls.deep ?_
  refine ACalls_of_awp Tryz.func10 rfl Tryz.results10 ?_
  simp only [List.length_cons, List.length_nil, Tryz.ntmps10, Nat.reduceAdd, Nat.reduceSub, enterA]
  refine AWP_seq_k fun K hK => ?_
  (refine AWP_region ?_; simp -implicitDefEqProofs only [go_sem])
  refine hK _ _ ?_; clear hK K
  refine AWP_freezeP 1 rfl (by simp only [st0]; rfl) ?_
  simp only [ss0, List.set_cons_zero]
  (repeat' (first|(refine g_s fun K hK=>?_)|(refine g_b ?_)|((first|refine g_g ?_|refine (hTr _).use ?_);(try simp -implicitDefEqProofs only[go_sem]))|(with_reducible refine hK _ _ ?_;clear hK K)|fail))
  refine AWP_pad ?_
  have hJ := hK
  clear hK
  obtain ⟨ρ, hρ⟩ : ∃ ρ : Store, σ ++ [.dead, .cells 2 [[.c (.slice none 0 0), .c (.slice none 0 0)]]] = ρ := ⟨_, rfl⟩
  have hlen : σ.length + 2 = ρ.length := by rw [← hρ]; simp
  refine AWP_each (beginA n) (fun _ r (s : List (List Int × Nat) × Store) => s.1.map (·.1) ++ r = beginA n ∧ (∀ p ∈ s.1, ρ.length + 1 ≤ p.2 ∧ ((ρ ++ [.dead]) ++ s.2)[p.2]? = some (.cells 1 (List.replicate n.nodes.toNat [.c (.slice none 0 0)]))))
    (fun k s _ => [(5, intA1 k), (3, .ptr ρ.length 2 0 0)]) (fun _ s _ => ρ ++ (.cells 2 [[accV 2 (ρ.length + (s.2.length + 1)) s.1, .c (.slice none 0 0)]] :: (s.2 ++ [accO (newV n) 2 s.1]))) ([], []) [] ⟨rfl, fun p hp => (by cases hp)⟩ ?_ (ALe_of ?_) ?_ ?_
  · rw [← hρ]
    simp [accV, accO]
  · simp -implicitDefEqProofs only [go_sem, hlen]
  · rintro k r ⟨acc, T⟩ τ9 hk0 hk1 ⟨h3, h4⟩ L hL
    obtain ⟨w, hw⟩ : ∃ w, at0 (beginA n) k = w := ⟨_, rfl⟩
    rw [hw] at h3
    have hal : acc.length + 1 ≤ 6 := by have := congrArg List.length h3; simp at this; omega
    rcases acc with _ | ⟨p0, acc⟩
    · simp -implicitDefEqProofs only [go_sem, accV, accO]
      (repeat' (first|(refine g_s fun K hK=>?_)|(refine g_b ?_)|(refine g_k ?_;simp only[thenQ,blockQ])|(refine g_c (fun h=>?_) (fun h=>?_)<;>(try simp only[go_sem] at h)<;>(try exact g_f))|((first|refine g_G ?_|refine AWP_drawC (ρ ++ (.cells 2 [[.c (.slice none 0 0), .c (.slice none 0 0)]] :: (T ++ [.dead]))) ⟨_, by simp; rfl⟩ tab_mixed (by decide +kernel) ?_);(try simp -implicitDefEqProofs only[go_sem,hw]))|(with_reducible refine hK _ _ ?_;clear hK K)|(with_reducible refine And.intro ?_ ?_;· exact g_x)|fail))
      refine hL ([(w, ρ.length + (T.length + 2))], T ++ [.dead, .cells 1 (List.replicate n.nodes.toNat [.c (.slice none 0 0)])]) [] _ _ ⟨by simpa using h3, ?_⟩ (ALe_of ?_) ?_
      · intro p hp
        rcases List.mem_singleton.1 hp with rfl
        refine ⟨by simp only; omega, ?_⟩
        simp -implicitDefEqProofs only [go_sem]
      · simp -implicitDefEqProofs only [go_sem, hlen]
      · simp [accO, accV, newV, intsA]
    · simp only [List.length_cons] at hal
      simp -implicitDefEqProofs only [go_sem, accV, accO]
      (repeat' (first|(refine g_s fun K hK=>?_)|(refine g_b ?_)|(refine g_k ?_;simp only[thenQ,blockQ])|(refine g_c (fun h=>?_) (fun h=>?_)<;>(try simp only[go_sem] at h)<;>(try exact g_f))|((first|refine g_G ?_|refine AWP_drawC (ρ ++ (.cells 2 [[.own (ρ.length + (T.length + 1)) 2 0 (acc.length + 1) (acc.length + 1), .c (.slice none 0 0)]] :: T)) ⟨_, by simp; rfl⟩ tab_mixed (by decide +kernel) ?_);(try simp -implicitDefEqProofs only[go_sem,hw]))|(with_reducible refine hK _ _ ?_;clear hK K)|(with_reducible refine And.intro ?_ ?_;· exact g_x)|fail))
      refine hL (p0 :: (acc ++ [(w, ρ.length + (T.length + 2))]), T ++ [.dead, .cells 1 (List.replicate n.nodes.toNat [.c (.slice none 0 0)])]) [] _ _ ⟨by simpa using h3, ?_⟩ (ALe_of ?_) ?_
      · intro p hp
        rw [← List.cons_append] at hp
        rcases List.mem_append.1 hp with hp | hp
        · obtain ⟨h6, h7⟩ := h4 p hp
          refine ⟨h6, ?_⟩
          rw [← List.append_assoc, List.getElem?_append_left (List.getElem?_eq_some_iff.1 h7).1]
          exact h7
        · rcases List.mem_singleton.1 hp with rfl
          refine ⟨by simp only; omega, ?_⟩
          simp -implicitDefEqProofs only [go_sem]
      · simp -implicitDefEqProofs only [go_sem, hlen]
      · simp [accO, accV, newV, intsA]
  · rintro k ⟨acc, T⟩ τ9 hk ⟨h3, h4⟩ L
    have hacc : 1 ≤ acc.length := by have := congrArg List.length h3; simp at this; omega
    obtain ⟨p0, acc, rfl⟩ : ∃ p l, acc = p :: l := by cases acc with | nil => cases hacc | cons p l => exact ⟨p, l, rfl⟩
    simp only [List.append_nil] at h3
    have hcL : ∀ X, (ρ ++ X)[σ.length + 1]? = some (.cells 2 [[.c (.slice none 0 0), .c (.slice none 0 0)]]) := fun X => by rw [← hρ]; exact st_app (by simp)
    have hcS : ∀ X o, (ρ ++ X).set (σ.length + 1) o = σ ++ ([.dead, o] ++ X) := fun X o => by
      rw [← hρ, List.append_assoc, List.set_append_right _ _ (by omega), Nat.add_sub_cancel_left]
      rfl
    have hlk : ∀ o1 o2 X p, p ∈ p0 :: acc → (σ ++ (.dead :: o1 :: o2 :: (T ++ X)))[p.2]? = some (.cells 1 (List.replicate n.nodes.toNat [.c (.slice none 0 0)])) := fun o1 o2 X p hp => by
      obtain ⟨h5, h6⟩ := h4 p hp
      obtain ⟨q, hq⟩ : ∃ q, p.2 = σ.length + (q + 3) := ⟨p.2 - σ.length - 3, by omega⟩
      have h7 : p.2 = (ρ ++ [Ob.dead]).length + q := by simp; omega
      rw [h7, List.getElem?_append_right (by omega), Nat.add_sub_cancel_left] at h6
      rw [hq, List.getElem?_append_right (by omega), Nat.add_sub_cancel_left, List.getElem?_cons_succ, List.getElem?_cons_succ, List.getElem?_cons_succ]
      exact st_app h6
    simp -implicitDefEqProofs only [go_sem, accV, accO]
    (repeat' (first|(refine g_s fun K hK=>?_)|(refine g_e ?_;simp only[thenQ,blockQ,↓reduceIte,Nat.reduceEqDiff])|(refine g_c (fun h=>?_) (fun h=>?_)<;>(try simp only[go_sem] at h)<;>(try exact g_f))|(refine g_g ?_;(try simp -implicitDefEqProofs only[go_sem]))|(with_reducible refine hK _ _ ?_;clear hK K)|fail))
    refine hJ _ _ ?_
    clear hJ
    (repeat' (first|(refine g_s fun K hK=>?_)|((first|refine g_t ?_|refine g_g ?_);(try simp -implicitDefEqProofs only[go_sem,hcL, hcS]))|(with_reducible refine hK _ _ ?_;clear hK K)|fail))
    have hro : (newE n).routers.map rtrC = ((p0 :: acc).map fun p => rtrC (freshR n p.1)) := by
      rw [newE, ← h3]
      simp
    refine DeepQ_of rfl (.eng _) (.aggL (.cons ?_ (.cons .nil .nil)))
    rw [hro]
    refine .ownW (by omega) (es := (p0 :: acc).map (newV n)) ?_ (by simp) (DeepR.map _ fun p hp => .cons (.same _) (.cons (.ownW ?_ (hlk _ _ _ p hp) (by simp) ?_) .nil))
    · rw [List.getElem?_append_right (by omega), show ρ.length + (T.length + 1) - σ.length = (T.length + 2) + 1 by omega, List.getElem?_cons_succ, List.getElem?_cons_succ, List.getElem?_cons_succ, List.getElem?_append_right (by omega), Nat.sub_self]
      rfl
    · have := (h4 p hp).1
      omega
    · have e8 : (freshR n p.1).told.map rowC = List.replicate n.nodes.toNat [.sl []] := by simp [freshR, rowC, intsA]
      rw [e8]
      exact DeepR.repl (.cons .nil .nil) _
end Go.Proofs.YtephecognbbaoabGreat
namespace Go.Proofs.YtephecognbbaoabGreat
theorem engineSteps_calls (n : Net) (x : Eng) (v : Evt) (okn : NetOk n) (ok : EngOk x) (ev : EvtOk v) (σ : Store) : ACalls Tryz.prog 3 [.agg (netC n), .agg (engC x), .agg (evtC v)] σ fun r σ' => σ' = σ ∧ r = .c (.bool true) := by
  have hEB := engineBegun_calls
  have hSt := fun S => estep_calls n x okn ok v ev.rl S
  have hNw := fun S => enew_calls n okn S
  have hCN := fun S => checkNet_calls n okn S
  have hCE := fun S => checkEngine_calls n x okn ok S
  have hCk := fun S => checkE_calls n x okn ok S
  have hNo := fun (w : Int) (hw : w ≠ 0) (q1 q2 : AV) (a : oneA q1 = true) (b : oneA q2 = true) S => engineIs_no w hw q1 q2 a b S
  refine ACalls.cutX ?_
  by_cases hn0 : checkN n = 0
  · have hn := netIn_of hn0
    have e1 : newR n = (newE n, 0) := by rw [newR, if_neg (not_not_intro hn0)]
    have hNO := fun S => newOf_calls n hn S
    have hnb : EngB (newE n) := fun m hm => by cases hm
    have hI2 := fun S => engineIs_ok (newE n) (engOk_of hn (new_in hn0) hnb) S
    obtain ⟨NE, hNE⟩ : ∃ e, newE n = e := ⟨_, rfl⟩
    simp only [e1, hNE] at hNw
    simp only [hNE] at hNO hI2
    rw [hn0] at hCN
    by_cases h0 : checkE n x = 0
    · obtain ⟨hc, he⟩ := engIn_of h0
      have hby : EngB x := fun m hm => (ok.mail m hm).rng
      have hSO := fun S => stepOf_calls n x hc okn.len he hby ok v ev S
      rw [h0] at hCE hCk
      have eR : stepR n x v = stepO n x v := by
        rw [stepR, if_neg (not_not_intro h0), stepO]
      by_cases hr : (stepE n x v).2 = 0
      · have eO : stepO n x v = stepE n x v := by rw [stepO, if_neg (not_not_intro hr)]
        have hI1 := fun S => engineIs_ok (stepE n x v).1 (engOk_of hn (step_in hc he v) (stepB hc he hby v)) S
        simp only [eR, eO, hr] at hSt hSO
        obtain ⟨Y, hY⟩ : ∃ e, (stepE n x v).1 = e := ⟨_, rfl⟩
        simp only [hY] at hSt hSO hI1
        refine ACalls_of_awp Tryz.func3 rfl Tryz.results3 ?_
        simp only [List.length_cons, List.length_nil, Tryz.ntmps3, Nat.reduceAdd, Nat.reduceSub, enterA]
        (repeat' (first|(refine g_s fun K hK=>?_)|(refine g_k ?_;simp only[thenQ,blockQ])|(refine g_c (fun h=>?_) (fun h=>?_)<;>(try simp only[go_sem] at h)<;>(try exact g_f))|((first|refine g_t ?_|refine g_G ?_|refine g_U ?_|refine (hSt _).use ?_|refine (hNw _).use ?_|refine g_q (fun τ=>hCN _) ?_|refine g_q (fun τ=>hCE _) ?_|refine (hCk _).use ?_|refine (hSO _).use ?_|refine (hNO _).use ?_|refine (hEB _).use ?_|refine (hI1 _).use ?_|refine (hI2 _).use ?_);(try simp -implicitDefEqProofs only[go_sem]))|(with_reducible refine hK _ _ ?_;clear hK K)|fail))
        all_goals exact CutQ_c rfl rfl
      · have eO : stepO n x v = (noE, (stepE n x v).2) := by rw [stepO, if_pos hr]
        simp only [eR, eO] at hSt hSO
        obtain ⟨w, hw⟩ : ∃ w, (stepE n x v).2 = w := ⟨_, rfl⟩
        rw [hw] at hr
        simp only [hw] at hSt hSO
        have hI1 := hNo w hr (.sl (noE.routers.map rtrC)) (.sl (noE.bag.map mailC)) rfl rfl
        refine ACalls_of_awp Tryz.func3 rfl Tryz.results3 ?_
        simp only [List.length_cons, List.length_nil, Tryz.ntmps3, Nat.reduceAdd, Nat.reduceSub, enterA]
        (repeat' (first|(refine g_s fun K hK=>?_)|(refine g_k ?_;simp only[thenQ,blockQ])|(refine g_c (fun h=>?_) (fun h=>?_)<;>(try simp only[go_sem] at h)<;>(try exact g_f))|((first|refine g_t ?_|refine g_G ?_|refine g_U ?_|refine (hSt _).use ?_|refine (hNw _).use ?_|refine g_q (fun τ=>hCN _) ?_|refine g_q (fun τ=>hCE _) ?_|refine (hCk _).use ?_|refine (hSO _).use ?_|refine (hNO _).use ?_|refine (hEB _).use ?_|refine (hI1 _).use ?_|refine (hI2 _).use ?_);(try simp -implicitDefEqProofs only[go_sem,hr]))|(with_reducible refine hK _ _ ?_;clear hK K)|fail))
        all_goals exact CutQ_c rfl rfl
    · have eR : stepR n x v = (noE, checkE n x) := by rw [stepR, if_pos h0]
      simp only [eR] at hSt
      obtain ⟨w, hw⟩ : ∃ w, checkE n x = w := ⟨_, rfl⟩
      rw [hw] at h0 hCE hCk
      simp only [hw] at hSt
      have hI1 := hNo w h0 (.c (.slice none 0 0)) (.c (.slice none 0 0)) rfl rfl
      refine ACalls_of_awp Tryz.func3 rfl Tryz.results3 ?_
      simp only [List.length_cons, List.length_nil, Tryz.ntmps3, Nat.reduceAdd, Nat.reduceSub, enterA]
      (repeat' (first|(refine g_s fun K hK=>?_)|(refine g_k ?_;simp only[thenQ,blockQ])|(refine g_c (fun h=>?_) (fun h=>?_)<;>(try simp only[go_sem] at h)<;>(try exact g_f))|((first|refine g_t ?_|refine g_G ?_|refine g_U ?_|refine (hSt _).use ?_|refine (hNw _).use ?_|refine g_q (fun τ=>hCN _) ?_|refine g_q (fun τ=>hCE _) ?_|refine (hCk _).use ?_|refine (hNO _).use ?_|refine (hEB _).use ?_|refine (hI1 _).use ?_|refine (hI2 _).use ?_);(try simp -implicitDefEqProofs only[go_sem,h0]))|(with_reducible refine hK _ _ ?_;clear hK K)|fail))
      all_goals exact CutQ_c rfl rfl
  · have e1 : newR n = (noE, checkN n) := by rw [newR, if_pos hn0]
    have e2 : checkE n x = checkN n := by rw [checkE, if_pos hn0]
    have e3 : stepR n x v = (noE, checkN n) := by rw [stepR, e2, if_pos hn0]
    rw [e2] at hCE hCk
    simp only [e1] at hNw
    simp only [e3] at hSt
    obtain ⟨w, hw⟩ : ∃ w, checkN n = w := ⟨_, rfl⟩
    rw [hw] at hn0 hCE hCk hCN
    simp only [hw] at hSt hNw
    have hI1 := hNo w hn0 (.c (.slice none 0 0)) (.c (.slice none 0 0)) rfl rfl
    refine ACalls_of_awp Tryz.func3 rfl Tryz.results3 ?_
    simp only [List.length_cons, List.length_nil, Tryz.ntmps3, Nat.reduceAdd, Nat.reduceSub, enterA]
    (repeat' (first|(refine g_s fun K hK=>?_)|(refine g_k ?_;simp only[thenQ,blockQ])|(refine g_c (fun h=>?_) (fun h=>?_)<;>(try simp only[go_sem] at h)<;>(try exact g_f))|((first|refine g_t ?_|refine g_G ?_|refine g_U ?_|refine (hSt _).use ?_|refine (hNw _).use ?_|refine g_q (fun τ=>hCN _) ?_|refine g_q (fun τ=>hCE _) ?_|refine (hCk _).use ?_|refine (hEB _).use ?_|refine (hI1 _).use ?_);(try simp -implicitDefEqProofs only[go_sem,hn0]))|(with_reducible refine hK _ _ ?_;clear hK K)|fail))
    all_goals exact CutQ_c rfl rfl
end Go.Proofs.YtephecognbbaoabGreat
namespace Go.Proofs.YtephecognbbaoabGreat
theorem readsRtr {W : World} : Reads Tryz.prog W 52 rtrC RtrOk := by
  have h0 := Reads.struct (P := Tryz.prog) (W := W) (t := 52) (n := 1 + (1 + 0)) Tryz.underlying52 (by kernel_rfl) (ReadsF.cons (k := 1) rfl (by kernel_rfl) readsInts (ReadsF.cons (k := 1) rfl (by kernel_rfl) readsState ReadsF.nil))
  refine Reads.map (X := List Int × List (List Int) × Unit) (fun x => (⟨x.1, x.2.1⟩ : Rtr)) (fun _ => rfl) (fun x h => ?_) h0
  obtain ⟨h1, h2, _⟩ := h
  exact ⟨h1, h2.len, h2.row⟩
theorem readsMail {W : World} : Reads Tryz.prog W 61 mailC MailOk := by
  have h0 := Reads.struct (P := Tryz.prog) (W := W) (t := 61) (n := 1 + (1 + (1 + 0))) Tryz.underlying61 (by kernel_rfl) (ReadsF.cons (k := 1) rfl (by kernel_rfl) (Reads.int Tryz.underlying3) (ReadsF.cons (k := 1) rfl (by kernel_rfl) (Reads.int Tryz.underlying3) (ReadsF.cons (k := 1) rfl (by kernel_rfl) (Reads.string Tryz.underlying9) ReadsF.nil)))
  refine Reads.map (X := Int × Int × ByteArray × Unit) (fun x => (⟨x.1, x.2.1, numsS x.2.2.1⟩ : Mail)) (fun x => by rw [mailC, str_numsS]; rfl) (fun x h => ?_) h0
  obtain ⟨h1, h2, h3, _⟩ := h
  exact ⟨h1, h2, (by show (numsS x.2.2.1).length ≤ 140737488351232; rw [← numsS_size]; exact h3), numsS_range _⟩
theorem readsEng {W : World} : Reads Tryz.prog W 31 engC EngOk := by
  have h1 := Reads.slice (P := Tryz.prog) (W := W) (t := 28) (k := 2) Tryz.underlying28 (by kernel_rfl) (by omega) (fun _ => rfl) readsRtr
  have h2 := Reads.slice (P := Tryz.prog) (W := W) (t := 29) (k := 3) Tryz.underlying29 (by kernel_rfl) (by omega) (fun _ => rfl) readsMail
  have h0 := Reads.struct (P := Tryz.prog) (W := W) (t := 31) (n := 1 + (1 + 0)) Tryz.underlying31 (by kernel_rfl) (ReadsF.cons (k := 1) rfl (by kernel_rfl) h1 (ReadsF.cons (k := 1) rfl (by kernel_rfl) h2 ReadsF.nil))
  refine Reads.map (X := List Rtr × List Mail × Unit) (fun x => (⟨x.1, x.2.1⟩ : Eng)) (fun _ => rfl) (fun x h => ?_) h0
  obtain ⟨⟨h3, h4⟩, ⟨h5, h6⟩, _⟩ := h
  have e1 : Tryz.prog.bytesOf 52 = 48 := by kernel_rfl
  have e2 : Tryz.prog.bytesOf 61 = 32 := by kernel_rfl
  have e3 : reachBytes = 140737488351232 := rfl
  rw [e1, e3] at h4
  rw [e2, e3] at h6
  exact ⟨by simp only; omega, h3, by simp only; omega, h5⟩
end Go.Proofs.YtephecognbbaoabGreat
