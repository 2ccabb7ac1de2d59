/- Engines, as the document checks them. -/
import Derived.Test.YtephecognbbaoabGreatZCo
import Derived.Test.YtephecognbbaoabGreatZNt
import Derived.Test.YtephecognbbaoabGreatZFv
open Go
set_option linter.all false
set_option maxRecDepth 100000
set_option maxHeartbeats 4000000
namespace Go.Proofs.YtephecognbbaoabGreat
open Go
set_option linter.all false
set_option maxRecDepth 100000
set_option maxHeartbeats 4000000
theorem rowOf_calls (n : Net) (l : List Int) (hx : I64 (n.alg.size - 1)) (hl : l.length ≤ 1000000000000000000) (σ : Store) : ACalls Tryz.prog 21 [.agg (netC n), intsA l] σ fun r σ' => σ' = σ ∧ r = intA1 (rowErr n l) := by
  refine ACalls.cutX ?_
  unfold rowErr
  by_cases h0 : (l.length : Int) ≠ n.nodes
  · rw [if_pos h0]
    refine ACalls_of_awp Tryz.func21 rfl Tryz.results21 ?_
    simp only [List.length_cons, List.length_nil, Tryz.ntmps21, Nat.reduceAdd, Nat.reduceSub, enterA]
    (repeat' (first|(refine g_s fun K hK=>?_)|(refine g_c (fun h=>?_) (fun h=>?_)<;>(try simp only[go_sem] at h)<;>(try exact g_f))|((first|refine g_t ?_|refine g_g ?_);(try simp -implicitDefEqProofs only[go_sem,h0]))|(with_reducible refine hK _ _ ?_;clear hK K)|fail))
    exact CutQ_c rfl rfl
  · rw [if_neg h0]
    have h1 : (l.length : Int) = n.nodes := Decidable.not_not.1 h0
    obtain ⟨X, hX⟩ : ∃ X, (if (l.any fun r => !inR r 0 (n.alg.size - 1)) = true then (5 : Int) else 0) = X := ⟨_, rfl⟩
    rw [hX]
    refine ACalls_of_awp Tryz.func21 rfl Tryz.results21 ?_
    simp only [List.length_cons, List.length_nil, Tryz.ntmps21, Nat.reduceAdd, Nat.reduceSub, enterA]
    refine AWP_seq_k fun K hK => ?_
    (refine AWP_region ?_; simp -implicitDefEqProofs only [go_sem])
    refine hK _ _ ?_; clear hK K
    refine AWP_freezeP 2 rfl (by simp only [st0]; rfl) ?_
    simp only [ss0, List.set_cons_zero]
    (repeat' (first|(refine g_s fun K hK=>?_)|(refine g_b ?_)|(refine g_k ?_;simp only[thenQ,blockQ])|(refine g_c (fun h=>?_) (fun h=>?_)<;>(try simp only[go_sem] at h)<;>(try exact g_f))|(refine g_g ?_;(try simp -implicitDefEqProofs only[go_sem,h1]))|(with_reducible refine hK _ _ ?_;clear hK K)|fail))
    have hJ := hK
    clear hK
    refine AWP_each l (fun _ r _ => (if (r.any fun r => !inR r 0 (n.alg.size - 1)) = true then (5 : Int) else 0) = X) (fun k _ _ => [(5, intA1 k)]) (fun _ _ _ => σ ++ [.dead]) () [] hX rfl (ALe_of ?_) ?_ ?_
    · simp -implicitDefEqProofs only [go_sem]
    · rintro k r _ τ hk0 hk1 hH L hL
      obtain ⟨w, hw⟩ : ∃ w, at0 l k = w := ⟨_, rfl⟩
      rw [hw, List.any_cons] at hH
      have hB : ∀ S, ACalls Tryz.prog 19 [intA1 w, intA1 0, intA1 (n.alg.size - 1)] S fun r S' => S' = S ∧ r = .c (.bool (inR w 0 (n.alg.size - 1))) := between_calls w 0 (n.alg.size - 1)
      simp -implicitDefEqProofs only [go_sem]
      cases hb : inR w 0 (n.alg.size - 1)
      · rw [hb] at hB hH
        (repeat' (first|(refine g_s fun K hK=>?_)|(refine g_b ?_)|(refine g_k ?_;simp only[thenQ,blockQ])|(refine g_c (fun h=>?_) (fun h=>?_)<;>(try simp only[go_sem] at h)<;>(try exact g_f))|((first|refine g_t ?_|refine g_g ?_|refine g_U ?_|refine g_q (fun τ=>hB _) ?_);(try simp -implicitDefEqProofs only[go_sem,hw]))|(with_reducible refine hK _ _ ?_;clear hK K)|(with_reducible refine And.intro ?_ ?_;· exact g_x)|fail))
        rw [← hH]
        exact CutQ_c rfl rfl
      · rw [hb] at hB hH
        (repeat' (first|(refine g_s fun K hK=>?_)|(refine g_b ?_)|(refine g_k ?_;simp only[thenQ,blockQ])|(refine g_c (fun h=>?_) (fun h=>?_)<;>(try simp only[go_sem] at h)<;>(try exact g_f))|((first|refine g_g ?_|refine g_U ?_|refine g_q (fun τ=>hB _) ?_);(try simp -implicitDefEqProofs only[go_sem,hw]))|(with_reducible refine hK _ _ ?_;clear hK K)|(with_reducible refine And.intro ?_ ?_;· exact g_x)|fail))
        refine hL () [] _ _ (by simpa using hH) (ALe_of ?_) rfl
        simp -implicitDefEqProofs only [go_sem]
    · rintro k _ τ hk hH L
      simp -implicitDefEqProofs only [go_sem]
      (repeat' (first|(refine g_s fun K hK=>?_)|(refine g_e ?_;simp only[thenQ,blockQ,↓reduceIte,Nat.reduceEqDiff])|(refine g_c (fun h=>?_) (fun h=>?_)<;>(try simp only[go_sem] at h)<;>(try exact g_f))|(refine g_g ?_;(try simp -implicitDefEqProofs only[go_sem]))|(with_reducible refine hK _ _ ?_;clear hK K)|fail))
      refine hJ _ _ ?_
      clear hJ
      (repeat' (first|(refine g_s fun K hK=>?_)|((first|refine g_t ?_|refine g_g ?_);(try simp -implicitDefEqProofs only[go_sem]))|(with_reducible refine hK _ _ ?_;clear hK K)|fail))
      rw [← hH]
      exact CutQ_c rfl rfl
def fbL (n : Net) (l : List Int) : Bool := decide (l ≠ []) && decide ((l.length : Int) ≠ n.nodes)
def nbL (n : Net) (l : List Int) : Bool := decide (l ≠ []) && decide (rowErr n l = 5)
def restE (n : Net) (fb nb : Bool) (Y : Int) : Int := if fb = true then 1 else if nb = true then 5 else Y
def bagErr (n : Net) (e : Eng) : Int :=
  if 120 < e.bag.length then 2
  else if (e.bag.any fun m => !inR m.fr 0 (n.nodes - 1) || !inR m.dst 0 (n.nodes - 1)) = true then 5
  else if (e.bag.any fun m => decide (60 < m.bytes.length)) = true then 2
  else 0
theorem checkE_rest {n : Net} {e : Eng} (h0 : checkN n = 0) (h1 : (e.routers.length : Int) = n.nodes) : checkE n e = restE n (e.routers.any (formBad n)) (e.routers.any (noneBad n)) (bagErr n e) := by
  rw [checkE, if_neg (not_not_intro h0), restE, bagErr]
  simp only [h1, not_true_eq_false, false_or, ne_eq]
theorem checkEngine_calls (n : Net) (e : Eng) (okn : NetOk n) (ok : EngOk e) (σ : Store) : ACalls Tryz.prog 7 [.agg (netC n), .agg (engC e)] σ fun r σ' => σ' = σ ∧ r = intA1 (checkE n e) := by
  have hC := checkNet_calls n okn
  refine ACalls.cutX ?_
  by_cases h0 : checkN n = 0
  · rw [h0] at hC
    have hn := netIn_of h0
    have n1 := hn.n1
    have n6 := hn.n6
    have hx : I64 (n.alg.size - 1) := by have := hn.alg.s2; have := hn.alg.s24; unfold I64; omega
    by_cases h1 : (e.routers.length : Int) = n.nodes
    · rw [checkE_rest h0 h1]
      obtain ⟨X, hX⟩ : ∃ X, restE n (e.routers.any (formBad n)) (e.routers.any (noneBad n)) (bagErr n e) = X := ⟨_, rfl⟩
      rw [hX]
      have hbl := ok.bl
      refine ACalls_of_awp Tryz.func7 rfl Tryz.results7 ?_
      simp only [List.length_cons, List.length_nil, Tryz.ntmps7, Nat.reduceAdd, Nat.reduceSub, enterA]
      refine AWP_seq_k fun K hK => ?_
      (refine AWP_region ?_; simp -implicitDefEqProofs only [go_sem])
      refine hK _ _ ?_; clear hK K
      refine AWP_freezeP 2 rfl (by simp only [st0]; rfl) ?_
      simp only [ss0, List.set_cons_zero]
      refine AWP_freezeP 3 rfl (by simp only [st1]; rfl) ?_
      simp only [ss1, List.set_cons_zero, List.set_cons_succ]
      (repeat' (first|(refine g_s fun K hK=>?_)|(refine g_b ?_)|(refine g_k ?_;simp only[thenQ,blockQ])|(refine g_c (fun h=>?_) (fun h=>?_)<;>(try simp only[go_sem] at h)<;>(try exact g_f))|((first|refine g_g ?_|refine (hC _).use ?_);(try simp -implicitDefEqProofs only[go_sem,h1]))|(with_reducible refine hK _ _ ?_;clear hK K)|fail))
      have hJ := hK
      clear hK
      refine AWP_each e.routers (fun _ r none => restE n (r.any (formBad n)) (none || r.any (noneBad n)) (bagErr n e) = X) (fun k none _ => [(7, intA1 k), (6, .c (.bool none))]) (fun _ _ τ => σ ++ (.dead :: .dead :: τ)) false [] (by simpa using hX) rfl (ALe_of ?_) ?_ ?_
      · simp -implicitDefEqProofs only [go_sem]
      · rintro k r none τ hk0 hk1 hH L hL
        obtain ⟨w, hw⟩ : ∃ w, at0 e.routers k = w := ⟨_, rfl⟩
        have hwm := at0_mem e.routers hk0 hk1
        rw [hw] at hH hwm
        have hwo := ok.rtr w hwm
        have hrl := hwo.rl
        have htl := hwo.tl
        rw [List.any_cons, List.any_cons] at hH
        have hR := fun S => rowOf_calls n w.routes hx (by omega) S
        simp -implicitDefEqProofs only [go_sem]
        by_cases t1 : (w.told.length : Int) = n.nodes
        · by_cases t2 : (w.routes.length : Int) = n.nodes
          · have hfb : formBad n w = w.told.any (fbL n) := by
              rw [formBad, decide_eq_false (not_not_intro t1), decide_eq_false (not_not_intro t2), Bool.false_or, Bool.false_or]
              rfl
            have hnb : noneBad n w = (decide (rowErr n w.routes = 5) || w.told.any (nbL n)) := rfl
            rw [hfb, hnb, ← Bool.or_assoc, ← Bool.or_assoc] at hH
            obtain ⟨F, hF⟩ : ∃ F, r.any (formBad n) = F := ⟨_, rfl⟩
            obtain ⟨G, hG⟩ : ∃ G, r.any (noneBad n) = G := ⟨_, rfl⟩
            rw [hF, hG] at hH
            have h3 : none = true ∨ (none = false ∧ rowErr n w.routes = 5) ∨ (none = false ∧ rowErr n w.routes ≠ 5) := by
              cases none
              · by_cases h5 : rowErr n w.routes = 5
                · exact .inr (.inl ⟨rfl, h5⟩)
                · exact .inr (.inr ⟨rfl, h5⟩)
              · exact .inl rfl
            obtain ⟨nn, hnn⟩ : ∃ nn, nn = (none || decide (rowErr n w.routes = 5)) := ⟨_, rfl⟩
            rw [← hnn] at hH
            rcases h3 with hv | ⟨hv, h5⟩ | ⟨hv, h5⟩
            all_goals
              subst hv
              first
              | (have hv : nn = true := by rw [hnn, Bool.true_or])
              | (have hv : nn = true := by rw [hnn, decide_eq_true h5, Bool.false_or])
              | (have hv : nn = false := by rw [hnn, decide_eq_false h5, Bool.false_or])
            · (repeat' (first|(refine g_s fun K hK=>?_)|(refine g_b ?_)|(refine g_k ?_;simp only[thenQ,blockQ])|(refine g_c (fun h=>?_) (fun h=>?_)<;>(try simp only[go_sem] at h)<;>(try exact g_f))|(refine g_g ?_;(try simp -implicitDefEqProofs only[go_sem,hw, t1, t2]))|(with_reducible refine hK _ _ ?_;clear hK K)|(with_reducible refine splitB_intro (fun h=>?_) (fun h=>?_)<;>(try simp only[go_sem] at h)<;>(try exact g_f)<;>(try simp -implicitDefEqProofs only[go_sem,hw, t1, t2]))|(with_reducible refine And.intro ?_ ?_;· exact g_x)|fail))
              have hJ := hK
              clear hK
              refine AWP_each w.told (fun _ r9 none9 => restE n (r9.any (fbL n) || F) (none9 || r9.any (nbL n) || G) (bagErr n e) = X) (fun k9 none9 _ => [(9, intA1 k9), (6, .c (.bool none9))]) (fun _ _ τ9 => σ ++ (.dead :: .dead :: (τ ++ .cells 2 [rtrC w] :: τ9))) nn [] hH (by simp [rtrC, intsA, rowsC]) (ALe_of ?_) ?_ ?_
              · simp -implicitDefEqProofs only [go_sem, hv]
                all_goals simp [h5]
              · rintro k9 r9 none9 τ9 hk90 hk91 hH9 L9 hL9
                obtain ⟨l, hl⟩ : ∃ l, at0 w.told k9 = l := ⟨_, rfl⟩
                have hlm := at0_mem w.told hk90 hk91
                rw [hl] at hH9 hlm
                have hll := hwo.tr l hlm
                rw [List.any_cons, List.any_cons] at hH9
                have hRl := fun S => rowOf_calls n l hx (by omega) S
                simp -implicitDefEqProofs only [go_sem]
                by_cases c1 : l = []
                · have e1 : fbL n l = false := by simp [fbL, c1]
                  have e2 : nbL n l = false := by simp [nbL, c1]
                  rw [e1, e2, Bool.false_or, Bool.false_or] at hH9
                  subst c1
                  cases none9
                  all_goals
                    (repeat' (first|(refine g_s fun K hK=>?_)|(refine g_b ?_)|(refine g_k ?_;simp only[thenQ,blockQ])|(refine g_c (fun h=>?_) (fun h=>?_)<;>(try simp only[go_sem] at h)<;>(try exact g_f))|((first|refine g_g ?_|refine g_U ?_);(try simp -implicitDefEqProofs only[go_sem,hw, hl]))|(with_reducible refine hK _ _ ?_;clear hK K)|(with_reducible refine splitB_intro (fun h=>?_) (fun h=>?_)<;>(try simp only[go_sem] at h)<;>(try exact g_f)<;>(try simp -implicitDefEqProofs only[go_sem,hw, hl]))|(with_reducible refine And.intro ?_ ?_;· exact g_x)|fail))
                    refine hL9 _ τ9 _ _ hH9 (ALe_of ?_) (by simp [rtrC, intsA, rowsC])
                    simp -implicitDefEqProofs only [go_sem]
                · have c0 : 0 < l.length := List.length_pos_iff.2 c1
                  by_cases c2 : (l.length : Int) = n.nodes
                  · have e1 : fbL n l = false := by simp [fbL, c2]
                    have e2 : nbL n l = decide (rowErr n l = 5) := by simp [nbL, c1]
                    rw [e1, e2, Bool.false_or, ← Bool.or_assoc none9] at hH9
                    cases none9
                    · by_cases c5 : rowErr n l = 5
                      · rw [decide_eq_true c5] at hH9
                        (repeat' (first|(refine g_s fun K hK=>?_)|(refine g_b ?_)|(refine g_k ?_;simp only[thenQ,blockQ])|(refine g_c (fun h=>?_) (fun h=>?_)<;>(try simp only[go_sem] at h)<;>(try exact g_f))|((first|refine g_g ?_|refine g_U ?_|refine g_q (fun τ=>hRl _) ?_);(try simp -implicitDefEqProofs only[go_sem,hw, hl, c0, c2, c5]))|(with_reducible refine hK _ _ ?_;clear hK K)|(with_reducible refine splitB_intro (fun h=>?_) (fun h=>?_)<;>(try simp only[go_sem] at h)<;>(try exact g_f)<;>(try simp -implicitDefEqProofs only[go_sem,hw, hl, c0, c2, c5]))|(with_reducible refine And.intro ?_ ?_;· exact g_x)|fail))
                        refine hL9 true τ9 _ _ hH9 (ALe_of ?_) (by simp [rtrC, intsA, rowsC])
                        simp -implicitDefEqProofs only [go_sem]
                        all_goals simp [c5]
                      · rw [decide_eq_false c5] at hH9
                        (repeat' (first|(refine g_s fun K hK=>?_)|(refine g_b ?_)|(refine g_k ?_;simp only[thenQ,blockQ])|(refine g_c (fun h=>?_) (fun h=>?_)<;>(try simp only[go_sem] at h)<;>(try exact g_f))|((first|refine g_g ?_|refine g_U ?_|refine g_q (fun τ=>hRl _) ?_);(try simp -implicitDefEqProofs only[go_sem,hw, hl, c0, c2, c5]))|(with_reducible refine hK _ _ ?_;clear hK K)|(with_reducible refine splitB_intro (fun h=>?_) (fun h=>?_)<;>(try simp only[go_sem] at h)<;>(try exact g_f)<;>(try simp -implicitDefEqProofs only[go_sem,hw, hl, c0, c2, c5]))|(with_reducible refine And.intro ?_ ?_;· exact g_x)|fail))
                        refine hL9 false τ9 _ _ hH9 (ALe_of ?_) (by simp [rtrC, intsA, rowsC])
                        simp -implicitDefEqProofs only [go_sem]
                        all_goals simp [c5]
                    · rw [Bool.true_or] at hH9
                      (repeat' (first|(refine g_s fun K hK=>?_)|(refine g_b ?_)|(refine g_k ?_;simp only[thenQ,blockQ])|(refine g_c (fun h=>?_) (fun h=>?_)<;>(try simp only[go_sem] at h)<;>(try exact g_f))|((first|refine g_g ?_|refine g_U ?_);(try simp -implicitDefEqProofs only[go_sem,hw, hl, c0, c2]))|(with_reducible refine hK _ _ ?_;clear hK K)|(with_reducible refine splitB_intro (fun h=>?_) (fun h=>?_)<;>(try simp only[go_sem] at h)<;>(try exact g_f)<;>(try simp -implicitDefEqProofs only[go_sem,hw, hl, c0, c2]))|(with_reducible refine And.intro ?_ ?_;· exact g_x)|fail))
                      refine hL9 true τ9 _ _ hH9 (ALe_of ?_) (by simp [rtrC, intsA, rowsC])
                      simp -implicitDefEqProofs only [go_sem]
                  · have e1 : fbL n l = true := by simp [fbL, c1, c2]
                    rw [e1] at hH9
                    (repeat' (first|(refine g_s fun K hK=>?_)|(refine g_b ?_)|(refine g_k ?_;simp only[thenQ,blockQ])|(refine g_c (fun h=>?_) (fun h=>?_)<;>(try simp only[go_sem] at h)<;>(try exact g_f))|((first|refine g_t ?_|refine g_g ?_|refine g_U ?_);(try simp -implicitDefEqProofs only[go_sem,hw, hl, c0, c2]))|(with_reducible refine hK _ _ ?_;clear hK K)|(with_reducible refine splitB_intro (fun h=>?_) (fun h=>?_)<;>(try simp only[go_sem] at h)<;>(try exact g_f)<;>(try simp -implicitDefEqProofs only[go_sem,hw, hl, c0, c2]))|(with_reducible refine And.intro ?_ ?_;· exact g_x)|fail))
                    rw [← hH9]
                    exact CutQ_c rfl rfl
              · rintro k9 none9 τ9 hk9 hH9 L9
                simp -implicitDefEqProofs only [go_sem]
                (repeat' (first|(refine g_s fun K hK=>?_)|(refine g_e ?_;simp only[thenQ,blockQ,↓reduceIte,Nat.reduceEqDiff])|(refine g_c (fun h=>?_) (fun h=>?_)<;>(try simp only[go_sem] at h)<;>(try exact g_f))|(refine g_g ?_;(try simp -implicitDefEqProofs only[go_sem]))|(with_reducible refine hK _ _ ?_;clear hK K)|fail))
                refine hJ _ _ ?_
                clear hJ
                (repeat' (first|(refine g_g ?_;(try simp -implicitDefEqProofs only[go_sem]))|(with_reducible refine And.intro ?_ ?_;· exact g_x)|fail))
                refine hL none9 (τ ++ .cells 2 [rtrC w] :: τ9) _ _ ?_ (ALe_of ?_) (by simp [rtrC, intsA, rowsC])
                · rw [hF, hG]
                  simpa using hH9
                · simp -implicitDefEqProofs only [go_sem]
            · (repeat' (first|(refine g_s fun K hK=>?_)|(refine g_b ?_)|(refine g_k ?_;simp only[thenQ,blockQ])|(refine g_c (fun h=>?_) (fun h=>?_)<;>(try simp only[go_sem] at h)<;>(try exact g_f))|((first|refine g_g ?_|refine (hR _).use ?_);(try simp -implicitDefEqProofs only[go_sem,hw, t1, t2, h5]))|(with_reducible refine hK _ _ ?_;clear hK K)|(with_reducible refine splitB_intro (fun h=>?_) (fun h=>?_)<;>(try simp only[go_sem] at h)<;>(try exact g_f)<;>(try simp -implicitDefEqProofs only[go_sem,hw, t1, t2, h5]))|(with_reducible refine And.intro ?_ ?_;· exact g_x)|fail))
              have hJ := hK
              clear hK
              refine AWP_each w.told (fun _ r9 none9 => restE n (r9.any (fbL n) || F) (none9 || r9.any (nbL n) || G) (bagErr n e) = X) (fun k9 none9 _ => [(9, intA1 k9), (6, .c (.bool none9))]) (fun _ _ τ9 => σ ++ (.dead :: .dead :: (τ ++ .cells 2 [rtrC w] :: τ9))) nn [] hH (by simp [rtrC, intsA, rowsC]) (ALe_of ?_) ?_ ?_
              · simp -implicitDefEqProofs only [go_sem, hv]
                all_goals simp [h5]
              · rintro k9 r9 none9 τ9 hk90 hk91 hH9 L9 hL9
                obtain ⟨l, hl⟩ : ∃ l, at0 w.told k9 = l := ⟨_, rfl⟩
                have hlm := at0_mem w.told hk90 hk91
                rw [hl] at hH9 hlm
                have hll := hwo.tr l hlm
                rw [List.any_cons, List.any_cons] at hH9
                have hRl := fun S => rowOf_calls n l hx (by omega) S
                simp -implicitDefEqProofs only [go_sem]
                by_cases c1 : l = []
                · have e1 : fbL n l = false := by simp [fbL, c1]
                  have e2 : nbL n l = false := by simp [nbL, c1]
                  rw [e1, e2, Bool.false_or, Bool.false_or] at hH9
                  subst c1
                  cases none9
                  all_goals
                    (repeat' (first|(refine g_s fun K hK=>?_)|(refine g_b ?_)|(refine g_k ?_;simp only[thenQ,blockQ])|(refine g_c (fun h=>?_) (fun h=>?_)<;>(try simp only[go_sem] at h)<;>(try exact g_f))|((first|refine g_g ?_|refine g_U ?_);(try simp -implicitDefEqProofs only[go_sem,hw, hl]))|(with_reducible refine hK _ _ ?_;clear hK K)|(with_reducible refine splitB_intro (fun h=>?_) (fun h=>?_)<;>(try simp only[go_sem] at h)<;>(try exact g_f)<;>(try simp -implicitDefEqProofs only[go_sem,hw, hl]))|(with_reducible refine And.intro ?_ ?_;· exact g_x)|fail))
                    refine hL9 _ τ9 _ _ hH9 (ALe_of ?_) (by simp [rtrC, intsA, rowsC])
                    simp -implicitDefEqProofs only [go_sem]
                · have c0 : 0 < l.length := List.length_pos_iff.2 c1
                  by_cases c2 : (l.length : Int) = n.nodes
                  · have e1 : fbL n l = false := by simp [fbL, c2]
                    have e2 : nbL n l = decide (rowErr n l = 5) := by simp [nbL, c1]
                    rw [e1, e2, Bool.false_or, ← Bool.or_assoc none9] at hH9
                    cases none9
                    · by_cases c5 : rowErr n l = 5
                      · rw [decide_eq_true c5] at hH9
                        (repeat' (first|(refine g_s fun K hK=>?_)|(refine g_b ?_)|(refine g_k ?_;simp only[thenQ,blockQ])|(refine g_c (fun h=>?_) (fun h=>?_)<;>(try simp only[go_sem] at h)<;>(try exact g_f))|((first|refine g_g ?_|refine g_U ?_|refine g_q (fun τ=>hRl _) ?_);(try simp -implicitDefEqProofs only[go_sem,hw, hl, c0, c2, c5]))|(with_reducible refine hK _ _ ?_;clear hK K)|(with_reducible refine splitB_intro (fun h=>?_) (fun h=>?_)<;>(try simp only[go_sem] at h)<;>(try exact g_f)<;>(try simp -implicitDefEqProofs only[go_sem,hw, hl, c0, c2, c5]))|(with_reducible refine And.intro ?_ ?_;· exact g_x)|fail))
                        refine hL9 true τ9 _ _ hH9 (ALe_of ?_) (by simp [rtrC, intsA, rowsC])
                        simp -implicitDefEqProofs only [go_sem]
                        all_goals simp [c5]
                      · rw [decide_eq_false c5] at hH9
                        (repeat' (first|(refine g_s fun K hK=>?_)|(refine g_b ?_)|(refine g_k ?_;simp only[thenQ,blockQ])|(refine g_c (fun h=>?_) (fun h=>?_)<;>(try simp only[go_sem] at h)<;>(try exact g_f))|((first|refine g_g ?_|refine g_U ?_|refine g_q (fun τ=>hRl _) ?_);(try simp -implicitDefEqProofs only[go_sem,hw, hl, c0, c2, c5]))|(with_reducible refine hK _ _ ?_;clear hK K)|(with_reducible refine splitB_intro (fun h=>?_) (fun h=>?_)<;>(try simp only[go_sem] at h)<;>(try exact g_f)<;>(try simp -implicitDefEqProofs only[go_sem,hw, hl, c0, c2, c5]))|(with_reducible refine And.intro ?_ ?_;· exact g_x)|fail))
                        refine hL9 false τ9 _ _ hH9 (ALe_of ?_) (by simp [rtrC, intsA, rowsC])
                        simp -implicitDefEqProofs only [go_sem]
                        all_goals simp [c5]
                    · rw [Bool.true_or] at hH9
                      (repeat' (first|(refine g_s fun K hK=>?_)|(refine g_b ?_)|(refine g_k ?_;simp only[thenQ,blockQ])|(refine g_c (fun h=>?_) (fun h=>?_)<;>(try simp only[go_sem] at h)<;>(try exact g_f))|((first|refine g_g ?_|refine g_U ?_);(try simp -implicitDefEqProofs only[go_sem,hw, hl, c0, c2]))|(with_reducible refine hK _ _ ?_;clear hK K)|(with_reducible refine splitB_intro (fun h=>?_) (fun h=>?_)<;>(try simp only[go_sem] at h)<;>(try exact g_f)<;>(try simp -implicitDefEqProofs only[go_sem,hw, hl, c0, c2]))|(with_reducible refine And.intro ?_ ?_;· exact g_x)|fail))
                      refine hL9 true τ9 _ _ hH9 (ALe_of ?_) (by simp [rtrC, intsA, rowsC])
                      simp -implicitDefEqProofs only [go_sem]
                  · have e1 : fbL n l = true := by simp [fbL, c1, c2]
                    rw [e1] at hH9
                    (repeat' (first|(refine g_s fun K hK=>?_)|(refine g_b ?_)|(refine g_k ?_;simp only[thenQ,blockQ])|(refine g_c (fun h=>?_) (fun h=>?_)<;>(try simp only[go_sem] at h)<;>(try exact g_f))|((first|refine g_t ?_|refine g_g ?_|refine g_U ?_);(try simp -implicitDefEqProofs only[go_sem,hw, hl, c0, c2]))|(with_reducible refine hK _ _ ?_;clear hK K)|(with_reducible refine splitB_intro (fun h=>?_) (fun h=>?_)<;>(try simp only[go_sem] at h)<;>(try exact g_f)<;>(try simp -implicitDefEqProofs only[go_sem,hw, hl, c0, c2]))|(with_reducible refine And.intro ?_ ?_;· exact g_x)|fail))
                    rw [← hH9]
                    exact CutQ_c rfl rfl
              · rintro k9 none9 τ9 hk9 hH9 L9
                simp -implicitDefEqProofs only [go_sem]
                (repeat' (first|(refine g_s fun K hK=>?_)|(refine g_e ?_;simp only[thenQ,blockQ,↓reduceIte,Nat.reduceEqDiff])|(refine g_c (fun h=>?_) (fun h=>?_)<;>(try simp only[go_sem] at h)<;>(try exact g_f))|(refine g_g ?_;(try simp -implicitDefEqProofs only[go_sem]))|(with_reducible refine hK _ _ ?_;clear hK K)|fail))
                refine hJ _ _ ?_
                clear hJ
                (repeat' (first|(refine g_g ?_;(try simp -implicitDefEqProofs only[go_sem]))|(with_reducible refine And.intro ?_ ?_;· exact g_x)|fail))
                refine hL none9 (τ ++ .cells 2 [rtrC w] :: τ9) _ _ ?_ (ALe_of ?_) (by simp [rtrC, intsA, rowsC])
                · rw [hF, hG]
                  simpa using hH9
                · simp -implicitDefEqProofs only [go_sem]
            · (repeat' (first|(refine g_s fun K hK=>?_)|(refine g_b ?_)|(refine g_k ?_;simp only[thenQ,blockQ])|(refine g_c (fun h=>?_) (fun h=>?_)<;>(try simp only[go_sem] at h)<;>(try exact g_f))|((first|refine g_g ?_|refine (hR _).use ?_);(try simp -implicitDefEqProofs only[go_sem,hw, t1, t2, h5]))|(with_reducible refine hK _ _ ?_;clear hK K)|(with_reducible refine splitB_intro (fun h=>?_) (fun h=>?_)<;>(try simp only[go_sem] at h)<;>(try exact g_f)<;>(try simp -implicitDefEqProofs only[go_sem,hw, t1, t2, h5]))|(with_reducible refine And.intro ?_ ?_;· exact g_x)|fail))
              have hJ := hK
              clear hK
              refine AWP_each w.told (fun _ r9 none9 => restE n (r9.any (fbL n) || F) (none9 || r9.any (nbL n) || G) (bagErr n e) = X) (fun k9 none9 _ => [(9, intA1 k9), (6, .c (.bool none9))]) (fun _ _ τ9 => σ ++ (.dead :: .dead :: (τ ++ .cells 2 [rtrC w] :: τ9))) nn [] hH (by simp [rtrC, intsA, rowsC]) (ALe_of ?_) ?_ ?_
              · simp -implicitDefEqProofs only [go_sem, hv]
                all_goals simp [h5]
              · rintro k9 r9 none9 τ9 hk90 hk91 hH9 L9 hL9
                obtain ⟨l, hl⟩ : ∃ l, at0 w.told k9 = l := ⟨_, rfl⟩
                have hlm := at0_mem w.told hk90 hk91
                rw [hl] at hH9 hlm
                have hll := hwo.tr l hlm
                rw [List.any_cons, List.any_cons] at hH9
                have hRl := fun S => rowOf_calls n l hx (by omega) S
                simp -implicitDefEqProofs only [go_sem]
                by_cases c1 : l = []
                · have e1 : fbL n l = false := by simp [fbL, c1]
                  have e2 : nbL n l = false := by simp [nbL, c1]
                  rw [e1, e2, Bool.false_or, Bool.false_or] at hH9
                  subst c1
                  cases none9
                  all_goals
                    (repeat' (first|(refine g_s fun K hK=>?_)|(refine g_b ?_)|(refine g_k ?_;simp only[thenQ,blockQ])|(refine g_c (fun h=>?_) (fun h=>?_)<;>(try simp only[go_sem] at h)<;>(try exact g_f))|((first|refine g_g ?_|refine g_U ?_);(try simp -implicitDefEqProofs only[go_sem,hw, hl]))|(with_reducible refine hK _ _ ?_;clear hK K)|(with_reducible refine splitB_intro (fun h=>?_) (fun h=>?_)<;>(try simp only[go_sem] at h)<;>(try exact g_f)<;>(try simp -implicitDefEqProofs only[go_sem,hw, hl]))|(with_reducible refine And.intro ?_ ?_;· exact g_x)|fail))
                    refine hL9 _ τ9 _ _ hH9 (ALe_of ?_) (by simp [rtrC, intsA, rowsC])
                    simp -implicitDefEqProofs only [go_sem]
                · have c0 : 0 < l.length := List.length_pos_iff.2 c1
                  by_cases c2 : (l.length : Int) = n.nodes
                  · have e1 : fbL n l = false := by simp [fbL, c2]
                    have e2 : nbL n l = decide (rowErr n l = 5) := by simp [nbL, c1]
                    rw [e1, e2, Bool.false_or, ← Bool.or_assoc none9] at hH9
                    cases none9
                    · by_cases c5 : rowErr n l = 5
                      · rw [decide_eq_true c5] at hH9
                        (repeat' (first|(refine g_s fun K hK=>?_)|(refine g_b ?_)|(refine g_k ?_;simp only[thenQ,blockQ])|(refine g_c (fun h=>?_) (fun h=>?_)<;>(try simp only[go_sem] at h)<;>(try exact g_f))|((first|refine g_g ?_|refine g_U ?_|refine g_q (fun τ=>hRl _) ?_);(try simp -implicitDefEqProofs only[go_sem,hw, hl, c0, c2, c5]))|(with_reducible refine hK _ _ ?_;clear hK K)|(with_reducible refine splitB_intro (fun h=>?_) (fun h=>?_)<;>(try simp only[go_sem] at h)<;>(try exact g_f)<;>(try simp -implicitDefEqProofs only[go_sem,hw, hl, c0, c2, c5]))|(with_reducible refine And.intro ?_ ?_;· exact g_x)|fail))
                        refine hL9 true τ9 _ _ hH9 (ALe_of ?_) (by simp [rtrC, intsA, rowsC])
                        simp -implicitDefEqProofs only [go_sem]
                        all_goals simp [c5]
                      · rw [decide_eq_false c5] at hH9
                        (repeat' (first|(refine g_s fun K hK=>?_)|(refine g_b ?_)|(refine g_k ?_;simp only[thenQ,blockQ])|(refine g_c (fun h=>?_) (fun h=>?_)<;>(try simp only[go_sem] at h)<;>(try exact g_f))|((first|refine g_g ?_|refine g_U ?_|refine g_q (fun τ=>hRl _) ?_);(try simp -implicitDefEqProofs only[go_sem,hw, hl, c0, c2, c5]))|(with_reducible refine hK _ _ ?_;clear hK K)|(with_reducible refine splitB_intro (fun h=>?_) (fun h=>?_)<;>(try simp only[go_sem] at h)<;>(try exact g_f)<;>(try simp -implicitDefEqProofs only[go_sem,hw, hl, c0, c2, c5]))|(with_reducible refine And.intro ?_ ?_;· exact g_x)|fail))
                        refine hL9 false τ9 _ _ hH9 (ALe_of ?_) (by simp [rtrC, intsA, rowsC])
                        simp -implicitDefEqProofs only [go_sem]
                        all_goals simp [c5]
                    · rw [Bool.true_or] at hH9
                      (repeat' (first|(refine g_s fun K hK=>?_)|(refine g_b ?_)|(refine g_k ?_;simp only[thenQ,blockQ])|(refine g_c (fun h=>?_) (fun h=>?_)<;>(try simp only[go_sem] at h)<;>(try exact g_f))|((first|refine g_g ?_|refine g_U ?_);(try simp -implicitDefEqProofs only[go_sem,hw, hl, c0, c2]))|(with_reducible refine hK _ _ ?_;clear hK K)|(with_reducible refine splitB_intro (fun h=>?_) (fun h=>?_)<;>(try simp only[go_sem] at h)<;>(try exact g_f)<;>(try simp -implicitDefEqProofs only[go_sem,hw, hl, c0, c2]))|(with_reducible refine And.intro ?_ ?_;· exact g_x)|fail))
                      refine hL9 true τ9 _ _ hH9 (ALe_of ?_) (by simp [rtrC, intsA, rowsC])
                      simp -implicitDefEqProofs only [go_sem]
                  · have e1 : fbL n l = true := by simp [fbL, c1, c2]
                    rw [e1] at hH9
                    (repeat' (first|(refine g_s fun K hK=>?_)|(refine g_b ?_)|(refine g_k ?_;simp only[thenQ,blockQ])|(refine g_c (fun h=>?_) (fun h=>?_)<;>(try simp only[go_sem] at h)<;>(try exact g_f))|((first|refine g_t ?_|refine g_g ?_|refine g_U ?_);(try simp -implicitDefEqProofs only[go_sem,hw, hl, c0, c2]))|(with_reducible refine hK _ _ ?_;clear hK K)|(with_reducible refine splitB_intro (fun h=>?_) (fun h=>?_)<;>(try simp only[go_sem] at h)<;>(try exact g_f)<;>(try simp -implicitDefEqProofs only[go_sem,hw, hl, c0, c2]))|(with_reducible refine And.intro ?_ ?_;· exact g_x)|fail))
                    rw [← hH9]
                    exact CutQ_c rfl rfl
              · rintro k9 none9 τ9 hk9 hH9 L9
                simp -implicitDefEqProofs only [go_sem]
                (repeat' (first|(refine g_s fun K hK=>?_)|(refine g_e ?_;simp only[thenQ,blockQ,↓reduceIte,Nat.reduceEqDiff])|(refine g_c (fun h=>?_) (fun h=>?_)<;>(try simp only[go_sem] at h)<;>(try exact g_f))|(refine g_g ?_;(try simp -implicitDefEqProofs only[go_sem]))|(with_reducible refine hK _ _ ?_;clear hK K)|fail))
                refine hJ _ _ ?_
                clear hJ
                (repeat' (first|(refine g_g ?_;(try simp -implicitDefEqProofs only[go_sem]))|(with_reducible refine And.intro ?_ ?_;· exact g_x)|fail))
                refine hL none9 (τ ++ .cells 2 [rtrC w] :: τ9) _ _ ?_ (ALe_of ?_) (by simp [rtrC, intsA, rowsC])
                · rw [hF, hG]
                  simpa using hH9
                · simp -implicitDefEqProofs only [go_sem]
          · (repeat' (first|(refine g_s fun K hK=>?_)|(refine g_b ?_)|(refine g_k ?_;simp only[thenQ,blockQ])|(refine g_c (fun h=>?_) (fun h=>?_)<;>(try simp only[go_sem] at h)<;>(try exact g_f))|((first|refine g_t ?_|refine g_g ?_);(try simp -implicitDefEqProofs only[go_sem,hw, t1, t2]))|(with_reducible refine hK _ _ ?_;clear hK K)|(with_reducible refine splitB_intro (fun h=>?_) (fun h=>?_)<;>(try simp only[go_sem] at h)<;>(try exact g_f)<;>(try simp -implicitDefEqProofs only[go_sem,hw, t1, t2]))|(with_reducible refine And.intro ?_ ?_;· exact g_x)|fail))
            refine CutQ_c rfl ?_
            rw [← hH, restE, if_pos]
            simp [formBad, t2]
        · (repeat' (first|(refine g_s fun K hK=>?_)|(refine g_b ?_)|(refine g_k ?_;simp only[thenQ,blockQ])|(refine g_c (fun h=>?_) (fun h=>?_)<;>(try simp only[go_sem] at h)<;>(try exact g_f))|((first|refine g_t ?_|refine g_g ?_);(try simp -implicitDefEqProofs only[go_sem,hw, t1]))|(with_reducible refine hK _ _ ?_;clear hK K)|(with_reducible refine splitB_intro (fun h=>?_) (fun h=>?_)<;>(try simp only[go_sem] at h)<;>(try exact g_f)<;>(try simp -implicitDefEqProofs only[go_sem,hw, t1]))|(with_reducible refine And.intro ?_ ?_;· exact g_x)|fail))
          refine CutQ_c rfl ?_
          rw [← hH, restE, if_pos]
          simp [formBad, t1]
      · rintro k none τ hk hH L
        rw [List.any_nil, List.any_nil, Bool.or_false] at hH
        simp -implicitDefEqProofs only [go_sem]
        (repeat' (first|(refine g_s fun K hK=>?_)|(refine g_e ?_;simp only[thenQ,blockQ,↓reduceIte,Nat.reduceEqDiff])|(refine g_c (fun h=>?_) (fun h=>?_)<;>(try simp only[go_sem] at h)<;>(try exact g_f))|(refine g_g ?_;(try simp -implicitDefEqProofs only[go_sem]))|(with_reducible refine hK _ _ ?_;clear hK K)|fail))
        refine hJ _ _ ?_
        clear hJ
        cases none
        · have hH : bagErr n e = X := hH
          rw [bagErr] at hH
          by_cases b1 : 120 < e.bag.length
          · rw [if_pos b1] at hH
            (repeat' (first|(refine g_s fun K hK=>?_)|(refine g_k ?_;simp only[thenQ,blockQ])|(refine g_c (fun h=>?_) (fun h=>?_)<;>(try simp only[go_sem] at h)<;>(try exact g_f))|((first|refine g_t ?_|refine g_g ?_);(try simp -implicitDefEqProofs only[go_sem,b1]))|(with_reducible refine hK _ _ ?_;clear hK K)|fail))
            rw [← hH]
            exact CutQ_c rfl rfl
          · rw [if_neg b1] at hH
            (repeat' (first|(refine g_s fun K hK=>?_)|(refine g_b ?_)|(refine g_k ?_;simp only[thenQ,blockQ])|(refine g_c (fun h=>?_) (fun h=>?_)<;>(try simp only[go_sem] at h)<;>(try exact g_f))|(refine g_g ?_;(try simp -implicitDefEqProofs only[go_sem,b1]))|(with_reducible refine hK _ _ ?_;clear hK K)|fail))
            have hJ := hK
            clear hK
            refine AWP_each e.bag (fun _ r _ => (if (r.any fun m => !inR m.fr 0 (n.nodes - 1) || !inR m.dst 0 (n.nodes - 1)) = true then 5 else if (e.bag.any fun m => decide (60 < m.bytes.length)) = true then 2 else 0) = X) (fun k _ _ => [(10, intA1 k)]) (fun _ _ τ9 => σ ++ (.dead :: .dead :: (τ ++ τ9))) () [] hH (by simp) (ALe_of ?_) ?_ ?_
            · simp -implicitDefEqProofs only [go_sem]
            · rintro k r _ τ9 hk0 hk1 hH L2 hL2
              obtain ⟨w, hw⟩ : ∃ w, at0 e.bag k = w := ⟨_, rfl⟩
              rw [hw, List.any_cons] at hH
              have hI1 := fun S => isNode_calls n w.fr (by unfold I64; omega) S
              have hI2 := fun S => isNode_calls n w.dst (by unfold I64; omega) S
              simp -implicitDefEqProofs only [go_sem]
              cases hb1 : inR w.fr 0 (n.nodes - 1)
              · rw [hb1] at hI1 hH
                (repeat' (first|(refine g_s fun K hK=>?_)|(refine g_b ?_)|(refine g_k ?_;simp only[thenQ,blockQ])|(refine g_c (fun h=>?_) (fun h=>?_)<;>(try simp only[go_sem] at h)<;>(try exact g_f))|((first|refine g_t ?_|refine g_g ?_|refine g_U ?_|refine g_q (fun τ=>hI1 _) ?_);(try simp -implicitDefEqProofs only[go_sem,hw]))|(with_reducible refine hK _ _ ?_;clear hK K)|(with_reducible refine And.intro ?_ ?_;· exact g_x)|fail))
                rw [← hH]
                exact CutQ_c rfl rfl
              · cases hb2 : inR w.dst 0 (n.nodes - 1)
                · rw [hb1] at hI1 hH
                  rw [hb2] at hI2 hH
                  (repeat' (first|(refine g_s fun K hK=>?_)|(refine g_b ?_)|(refine g_k ?_;simp only[thenQ,blockQ])|(refine g_c (fun h=>?_) (fun h=>?_)<;>(try simp only[go_sem] at h)<;>(try exact g_f))|((first|refine g_t ?_|refine g_g ?_|refine g_U ?_|refine g_q (fun τ=>hI1 _) ?_|refine g_q (fun τ=>hI2 _) ?_);(try simp -implicitDefEqProofs only[go_sem,hw]))|(with_reducible refine hK _ _ ?_;clear hK K)|(with_reducible refine And.intro ?_ ?_;· exact g_x)|fail))
                  rw [← hH]
                  exact CutQ_c rfl rfl
                · rw [hb1] at hI1 hH
                  rw [hb2] at hI2 hH
                  (repeat' (first|(refine g_s fun K hK=>?_)|(refine g_b ?_)|(refine g_k ?_;simp only[thenQ,blockQ])|(refine g_c (fun h=>?_) (fun h=>?_)<;>(try simp only[go_sem] at h)<;>(try exact g_f))|((first|refine g_g ?_|refine g_U ?_|refine g_q (fun τ=>hI1 _) ?_|refine g_q (fun τ=>hI2 _) ?_);(try simp -implicitDefEqProofs only[go_sem,hw]))|(with_reducible refine hK _ _ ?_;clear hK K)|(with_reducible refine And.intro ?_ ?_;· exact g_x)|fail))
                  refine hL2 () τ9 _ _ (by simpa using hH) (ALe_of ?_) (by simp)
                  simp -implicitDefEqProofs only [go_sem]
            · rintro k _ τ9 hk hH L2
              have hH : (if (e.bag.any fun m => decide (60 < m.bytes.length)) = true then 2 else 0) = X := by simpa using hH
              simp -implicitDefEqProofs only [go_sem]
              (repeat' (first|(refine g_s fun K hK=>?_)|(refine g_e ?_;simp only[thenQ,blockQ,↓reduceIte,Nat.reduceEqDiff])|(refine g_c (fun h=>?_) (fun h=>?_)<;>(try simp only[go_sem] at h)<;>(try exact g_f))|(refine g_g ?_;(try simp -implicitDefEqProofs only[go_sem]))|(with_reducible refine hK _ _ ?_;clear hK K)|fail))
              refine hJ _ _ ?_
              clear hJ
              (repeat' (first|(refine g_s fun K hK=>?_)|(refine g_b ?_)|(refine g_g ?_;(try simp -implicitDefEqProofs only[go_sem]))|(with_reducible refine hK _ _ ?_;clear hK K)|fail))
              have hJ := hK
              clear hK
              refine AWP_each e.bag (fun _ r _ => (if (r.any fun m => decide (60 < m.bytes.length)) = true then 2 else 0) = X) (fun k _ _ => [(11, intA1 k)]) (fun _ _ τ8 => σ ++ (.dead :: .dead :: (τ ++ (τ9 ++ τ8)))) () [] hH (by simp) (ALe_of ?_) ?_ ?_
              · simp -implicitDefEqProofs only [go_sem]
              · rintro k r _ τ8 hk0 hk1 hH L3 hL3
                obtain ⟨w, hw⟩ : ∃ w, at0 e.bag k = w := ⟨_, rfl⟩
                have hwm := at0_mem e.bag hk0 hk1
                rw [hw] at hH hwm
                rw [List.any_cons] at hH
                have hwl := (ok.mail w hwm).len
                simp -implicitDefEqProofs only [go_sem]
                by_cases c : 60 < w.bytes.length
                · rw [decide_eq_true c] at hH
                  (repeat' (first|(refine g_s fun K hK=>?_)|(refine g_b ?_)|(refine g_k ?_;simp only[thenQ,blockQ])|(refine g_c (fun h=>?_) (fun h=>?_)<;>(try simp only[go_sem] at h)<;>(try exact g_f))|((first|refine g_t ?_|refine g_g ?_);(try simp -implicitDefEqProofs only[go_sem,hw, c]))|(with_reducible refine hK _ _ ?_;clear hK K)|(with_reducible refine And.intro ?_ ?_;· exact g_x)|fail))
                  rw [← hH]
                  exact CutQ_c rfl rfl
                · rw [decide_eq_false c] at hH
                  (repeat' (first|(refine g_s fun K hK=>?_)|(refine g_b ?_)|(refine g_k ?_;simp only[thenQ,blockQ])|(refine g_c (fun h=>?_) (fun h=>?_)<;>(try simp only[go_sem] at h)<;>(try exact g_f))|(refine g_g ?_;(try simp -implicitDefEqProofs only[go_sem,hw, c]))|(with_reducible refine hK _ _ ?_;clear hK K)|(with_reducible refine And.intro ?_ ?_;· exact g_x)|fail))
                  refine hL3 () τ8 _ _ (by simpa using hH) (ALe_of ?_) (by simp)
                  simp -implicitDefEqProofs only [go_sem]
              · rintro k _ τ8 hk hH L3
                simp -implicitDefEqProofs only [go_sem]
                (repeat' (first|(refine g_s fun K hK=>?_)|(refine g_e ?_;simp only[thenQ,blockQ,↓reduceIte,Nat.reduceEqDiff])|(refine g_c (fun h=>?_) (fun h=>?_)<;>(try simp only[go_sem] at h)<;>(try exact g_f))|(refine g_g ?_;(try simp -implicitDefEqProofs only[go_sem]))|(with_reducible refine hK _ _ ?_;clear hK K)|fail))
                refine hJ _ _ ?_
                clear hJ
                (repeat' (first|(refine g_s fun K hK=>?_)|((first|refine g_t ?_|refine g_g ?_);(try simp -implicitDefEqProofs only[go_sem]))|(with_reducible refine hK _ _ ?_;clear hK K)|fail))
                rw [← hH]
                exact CutQ_c rfl rfl
        · (repeat' (first|(refine g_s fun K hK=>?_)|(refine g_c (fun h=>?_) (fun h=>?_)<;>(try simp only[go_sem] at h)<;>(try exact g_f))|((first|refine g_t ?_|refine g_g ?_);(try simp -implicitDefEqProofs only[go_sem]))|(with_reducible refine hK _ _ ?_;clear hK K)|fail))
          rw [← hH]
          exact CutQ_c rfl rfl
    · rw [checkE, if_neg (not_not_intro h0), if_pos (.inl h1)]
      refine ACalls_of_awp Tryz.func7 rfl Tryz.results7 ?_
      simp only [List.length_cons, List.length_nil, Tryz.ntmps7, Nat.reduceAdd, Nat.reduceSub, enterA]
      refine AWP_seq_k fun K hK => ?_
      (refine AWP_region ?_; simp -implicitDefEqProofs only [go_sem])
      refine hK _ _ ?_; clear hK K
      refine AWP_freezeP 2 rfl (by simp only [st0]; rfl) ?_
      simp only [ss0, List.set_cons_zero]
      refine AWP_freezeP 3 rfl (by simp only [st1]; rfl) ?_
      simp only [ss1, List.set_cons_zero, List.set_cons_succ]
      (repeat' (first|(refine g_s fun K hK=>?_)|(refine g_k ?_;simp only[thenQ,blockQ])|(refine g_c (fun h=>?_) (fun h=>?_)<;>(try simp only[go_sem] at h)<;>(try exact g_f))|((first|refine g_t ?_|refine g_g ?_|refine (hC _).use ?_);(try simp -implicitDefEqProofs only[go_sem,h1]))|(with_reducible refine hK _ _ ?_;clear hK K)|fail))
      exact CutQ_c rfl rfl
  · rw [checkE, if_pos h0]
    refine ACalls_of_awp Tryz.func7 rfl Tryz.results7 ?_
    simp only [List.length_cons, List.length_nil, Tryz.ntmps7, Nat.reduceAdd, Nat.reduceSub, enterA]
    refine AWP_seq_k fun K hK => ?_
    (refine AWP_region ?_; simp -implicitDefEqProofs only [go_sem])
    refine hK _ _ ?_; clear hK K
    refine AWP_freezeP 2 rfl (by simp only [st0]; rfl) ?_
    simp only [ss0, List.set_cons_zero]
    refine AWP_freezeP 3 rfl (by simp only [st1]; rfl) ?_
    simp only [ss1, List.set_cons_zero, List.set_cons_succ]
    (repeat' (first|(refine g_s fun K hK=>?_)|(refine g_c (fun h=>?_) (fun h=>?_)<;>(try simp only[go_sem] at h)<;>(try exact g_f))|((first|refine g_t ?_|refine g_g ?_|refine (hC _).use ?_);(try simp -implicitDefEqProofs only[go_sem,h0]))|(with_reducible refine hK _ _ ?_;clear hK K)|fail))
    exact CutQ_c rfl rfl
end Go.Proofs.YtephecognbbaoabGreat
namespace Go.Proofs.YtephecognbbaoabGreat
def cpyV (p : Rtr × Nat × Nat) : List AV := [.own p.2.1 1 0 p.1.routes.length p.1.routes.length, .own p.2.2 1 0 p.1.told.length p.1.told.length]
def cpyO (rb : Nat) (acc : List (Rtr × Nat × Nat)) (gi : List Nat) : List Nat := rb :: (acc.map (·.2.1) ++ (acc.map (·.2.2) ++ gi))
def BagQ (S : Store) (gv : AV) (bag : List Mail) (gi : List Nat) : Prop := ∃ gb, gi = [gb] ∧ gv = .own gb 3 0 bag.length bag.length ∧ S[gb]? = some (.cells 3 (bag.map mailC))
theorem BagQ.app {S τ : Store} {gv : AV} {bag : List Mail} {gi : List Nat} (h : BagQ S gv bag gi) : BagQ (S ++ τ) gv bag gi := by
  obtain ⟨gb, h1, h2, h3⟩ := h
  exact ⟨gb, h1, h2, st_app h3⟩
theorem BagQ.set {S : Store} {gv : AV} {bag : List Mail} {gi : List Nat} {x : Nat} {o : Ob} (h : BagQ S gv bag gi) (hx : x ∉ gi) : BagQ (S.set x o) gv bag gi := by
  obtain ⟨gb, h1, h2, h3⟩ := h
  exact ⟨gb, h1, h2, st_set h3 (fun e => hx (by rw [h1, e]; simp))⟩
structure CpyE (S : Store) (lo : Nat) (e : Eng) (rb : Nat) (acc : List (Rtr × Nat × Nat)) (gv : AV) (gi : List Nat) : Prop where
  hr : acc.map (·.1) = e.routers
  hrb : S[rb]? = some (.cells 2 (acc.map cpyV))
  ho : ∀ i (h : i < acc.length), S[acc[i].2.1]? = some (.cells 1 (acc[i].1.routes.map intC)) ∧ S[acc[i].2.2]? = some (.cells 1 (acc[i].1.told.map rowC))
  bag : BagQ S gv e.bag gi
  nd : (cpyO rb acc gi).Nodup
  lo : ∀ x ∈ cpyO rb acc gi, lo ≤ x
section
variable {S : Store} {lo : Nat} {e : Eng} {rb : Nat} {acc : List (Rtr × Nat × Nat)} {gv : AV} {gi : List Nat}
theorem CpyE.len (h : CpyE S lo e rb acc gv gi) : e.routers.length = acc.length := by rw [← h.hr, List.length_map]
theorem CpyE.at (h : CpyE S lo e rb acc gv gi) {i : Int} (h0 : 0 ≤ i) (h1 : i < e.routers.length) :
    ∃ ro to, acc[i.toNat]? = some (at0 e.routers i, ro, to) ∧ (acc.map cpyV)[i.toNat]? = some (cpyV (at0 e.routers i, ro, to)) ∧ S[ro]? = some (.cells 1 ((at0 e.routers i).routes.map intC)) ∧ S[to]? = some (.cells 1 ((at0 e.routers i).told.map rowC)) := by
  have hi : i.toNat < acc.length := by rw [← h.len]; omega
  have e1 : at0 e.routers i = acc[i.toNat].1 := by
    rw [← h.hr]
    simp [at0, List.getD_eq_getElem?_getD, hi]
  have h2 := h.ho i.toNat hi
  refine ⟨acc[i.toNat].2.1, acc[i.toNat].2.2, ?_, ?_, ?_, ?_⟩
  · rw [List.getElem?_eq_getElem hi, e1]
  · rw [List.getElem?_map, List.getElem?_eq_getElem hi, e1]
    rfl
  · rw [e1]; exact h2.1
  · rw [e1]; exact h2.2
theorem CpyE.ne (h : CpyE S lo e rb acc gv gi) : (∀ k (hk : k < acc.length), rb ≠ acc[k].2.1 ∧ rb ≠ acc[k].2.2 ∧ acc[k].2.1 ∉ gi ∧ acc[k].2.2 ∉ gi) ∧ rb ∉ gi ∧ gi.Nodup ∧ (acc.map (·.2.1)).Nodup ∧ (acc.map (·.2.2)).Nodup ∧ ∀ k q (hk : k < acc.length) (hq : q < acc.length), acc[k].2.1 ≠ acc[q].2.2 := by
  have := h.nd
  rw [cpyO, List.nodup_cons, List.nodup_append, List.nodup_append] at this
  simp only [List.mem_append, not_or] at this
  obtain ⟨⟨h1, h2, h3⟩, h4, ⟨h5, h6, h7⟩, h8⟩ := this
  have m1 : ∀ k (hk : k < acc.length), acc[k].2.1 ∈ acc.map (·.2.1) := fun k hk => List.mem_map.2 ⟨acc[k], List.getElem_mem hk, rfl⟩
  have m2 : ∀ k (hk : k < acc.length), acc[k].2.2 ∈ acc.map (·.2.2) := fun k hk => List.mem_map.2 ⟨acc[k], List.getElem_mem hk, rfl⟩
  exact ⟨fun k hk => ⟨fun e => h1 (by rw [e]; exact m1 k hk), fun e => h2 (by rw [e]; exact m2 k hk), fun hc => h8 _ (m1 k hk) _ (.inr hc) rfl, fun hc => h7 _ (m2 k hk) _ hc rfl⟩, h3, h6, h4, h5, fun k q hk hq => h8 _ (m1 k hk) _ (.inl (m2 q hq))⟩
theorem CpyE.app {τ : Store} (h : CpyE S lo e rb acc gv gi) : CpyE (S ++ τ) lo e rb acc gv gi :=
  ⟨h.hr, st_app h.hrb, fun i hi => ⟨st_app (h.ho i hi).1, st_app (h.ho i hi).2⟩, h.bag.app, h.nd, h.lo⟩
theorem CpyE.set (h : CpyE S lo e rb acc gv gi) {x : Nat} {o : Ob} (hx : x ∉ cpyO rb acc gi) : CpyE (S.set x o) lo e rb acc gv gi := by
  have hne : ∀ y ∈ cpyO rb acc gi, x ≠ y := fun y hy e => hx (e ▸ hy)
  refine ⟨h.hr, st_set h.hrb (hne _ (by simp [cpyO])), fun i hi => ⟨st_set (h.ho i hi).1 (hne _ ?_), st_set (h.ho i hi).2 (hne _ ?_)⟩, h.bag.set fun hc => hne x (by simp [cpyO, hc]) rfl, h.nd, h.lo⟩
  · exact List.mem_cons_of_mem _ (List.mem_append_left _ (List.mem_map.2 ⟨acc[i], List.getElem_mem hi, rfl⟩))
  · exact List.mem_cons_of_mem _ (List.mem_append_right _ (List.mem_append_left _ (List.mem_map.2 ⟨acc[i], List.getElem_mem hi, rfl⟩)))
theorem CpyE.setLo (h : CpyE S lo e rb acc gv gi) {x : Nat} {o : Ob} (hx : x < lo) : CpyE (S.set x o) lo e rb acc gv gi :=
  h.set fun hc => by have := h.lo x hc; omega
theorem CpyE.lt (h : CpyE S lo e rb acc gv gi) : ∀ x ∈ cpyO rb acc gi, x < S.length := fun x hx => by
  simp only [cpyO, List.mem_cons, List.mem_append, List.mem_map] at hx
  rcases hx with rfl | ⟨p, hp, rfl⟩ | ⟨p, hp, rfl⟩ | hx
  · exact (List.getElem?_eq_some_iff.1 h.hrb).1
  · obtain ⟨i, hi, rfl⟩ := List.mem_iff_getElem.1 hp
    exact (List.getElem?_eq_some_iff.1 (h.ho i hi).1).1
  · obtain ⟨i, hi, rfl⟩ := List.mem_iff_getElem.1 hp
    exact (List.getElem?_eq_some_iff.1 (h.ho i hi).2).1
  · obtain ⟨gb, h1, h2, h3⟩ := h.bag
    rw [h1, List.mem_singleton] at hx
    subst hx
    exact (List.getElem?_eq_some_iff.1 h3).1
theorem CpyE.less {lo' : Nat} (h : CpyE S lo e rb acc gv gi) (hl : lo' ≤ lo) : CpyE S lo' e rb acc gv gi :=
  ⟨h.hr, h.hrb, h.ho, h.bag, h.nd, fun x hx => Nat.le_trans hl (h.lo x hx)⟩
theorem bag_deep {bag : List Mail} (h : BagQ S gv bag gi) {D : Nat → Prop} (hD : ∀ x ∈ gi, D x) : Deep S D gv (.sl (bag.map mailC)) := by
  obtain ⟨gb, h1, h2, h3⟩ := h
  rw [h2]
  exact .ownW (hD gb (by rw [h1]; simp)) h3 (by simp) (.same _)
theorem CpyE.deepRows (h : CpyE S lo e rb acc gv gi) {D : Nat → Prop} (hD : ∀ x ∈ acc.map (·.2.1) ++ acc.map (·.2.2), D x) : DeepR S D (acc.map cpyV) (e.routers.map rtrC) := by
  refine ⟨by simp [h.len], fun i h1 h2 => ?_⟩
  have hi : i < acc.length := by simpa using h1
  have e1 : (e.routers.map rtrC)[i] = rtrC acc[i].1 := by simp [← h.hr]
  rw [e1, List.getElem_map, cpyV, rtrC]
  refine .cons (.ownW (hD _ ?_) (h.ho i hi).1 (by simp) (.same _)) (.cons (.ownW (hD _ ?_) (h.ho i hi).2 (by simp) (.same _)) .nil)
  · exact List.mem_append_left _ (List.mem_map.2 ⟨acc[i], List.getElem_mem hi, rfl⟩)
  · exact List.mem_append_right _ (List.mem_map.2 ⟨acc[i], List.getElem_mem hi, rfl⟩)
theorem CpyE.deepI (h : CpyE S lo e rb acc gv gi) {D : Nat → Prop} (hD : ∀ x ∈ cpyO rb acc gi, D x) : DeepL S D [.own rb 2 0 e.routers.length e.routers.length, gv] (engC e) :=
  .cons (.ownW (hD rb (by simp [cpyO])) h.hrb (by rw [h.len, List.length_map]) (h.deepRows fun x hx => hD x (by
    simp only [cpyO, List.mem_cons, List.mem_append] at hx ⊢
    rcases hx with h | h
    · exact .inr (.inl h)
    · exact .inr (.inr (.inl h))))) (.cons (bag_deep h.bag fun x hx => hD x (by simp [cpyO, hx])) .nil)
theorem CpyE.deep (h : CpyE S lo e rb acc gv gi) {D : Nat → Prop} (hD : ∀ x, lo ≤ x → D x) : DeepL S D [.own rb 2 0 e.routers.length e.routers.length, gv] (engC e) :=
  h.deepI fun x hx => hD x (h.lo x hx)
theorem map_setV {X Y : Type} (f : X → Y) (l : List X) (i : Nat) (p q : X) (hp : l[i]? = some p) (h : f q = f p) : (l.set i q).map f = l.map f := by
  obtain ⟨hi, e1⟩ := List.getElem?_eq_some_iff.1 hp
  rw [List.map_set, h, ← e1, ← List.getElem_map f (h := by simpa using hi)]
  exact List.set_getElem_self _
/-- A router's routes are written. -/
theorem CpyE.routes (h : CpyE S lo e rb acc gv gi) {i : Int} {ro to : Nat} (h0 : 0 ≤ i) (hp : acc[i.toNat]? = some (at0 e.routers i, ro, to)) (l : List Int) (hl : l.length = (at0 e.routers i).routes.length) :
    CpyE (S.set ro (.cells 1 (l.map intC))) lo (setR e i ⟨l, (at0 e.routers i).told⟩) rb (acc.set i.toNat (⟨l, (at0 e.routers i).told⟩, ro, to)) gv gi := by
  obtain ⟨hi, hq⟩ := List.getElem?_eq_some_iff.1 hp
  obtain ⟨n1, n2, n3, n4, n5, n6⟩ := h.ne
  have ea : acc[i.toNat].2.1 = ro := by rw [hq]
  have eO : cpyO rb (acc.set i.toNat (⟨l, (at0 e.routers i).told⟩, ro, to)) gi = cpyO rb acc gi := by
    rw [cpyO, cpyO, map_setV (·.2.1) acc i.toNat _ (⟨l, (at0 e.routers i).told⟩, ro, to) hp rfl, map_setV (·.2.2) acc i.toNat _ (⟨l, (at0 e.routers i).told⟩, ro, to) hp rfl]
  have hm := n1 i.toNat hi
  rw [ea] at hm
  refine ⟨?_, ?_, fun k hk => ?_, h.bag.set hm.2.2.1, by rw [eO]; exact h.nd, by rw [eO]; exact h.lo⟩
  · rw [setR, List.map_set, h.hr]
  · rw [map_setV cpyV acc _ _ _ hp (by simp [cpyV, hl])]
    exact st_set h.hrb hm.1.symm
  · have hk' : k < acc.length := by simpa using hk
    have hk2 := h.ho k hk'
    by_cases he : i.toNat = k
    · subst he
      simp only [List.getElem_set_self]
      rw [hq] at hk2
      exact ⟨st_self hk2.1, st_set hk2.2 (by have := n6 _ _ hi hi; rw [hq] at this; exact this)⟩
    · simp only [List.getElem_set_ne he]
      refine ⟨st_set hk2.1 fun e1 => he ?_, st_set hk2.2 fun e1 => n6 _ _ hi hk' (by rw [ea]; exact e1)⟩
      exact nodup_inj n4 _ _ (by simpa using hi) (by simpa using hk') (by simpa [ea] using e1)
/-- A router's told rows are written. -/
theorem CpyE.told (h : CpyE S lo e rb acc gv gi) {i : Int} {ro to : Nat} (h0 : 0 ≤ i) (hp : acc[i.toNat]? = some (at0 e.routers i, ro, to)) (l : List (List Int)) (hl : l.length = (at0 e.routers i).told.length) :
    CpyE (S.set to (.cells 1 (l.map rowC))) lo (setR e i ⟨(at0 e.routers i).routes, l⟩) rb (acc.set i.toNat (⟨(at0 e.routers i).routes, l⟩, ro, to)) gv gi := by
  obtain ⟨hi, hq⟩ := List.getElem?_eq_some_iff.1 hp
  obtain ⟨n1, n2, n3, n4, n5, n6⟩ := h.ne
  have ea : acc[i.toNat].2.2 = to := by rw [hq]
  have eO : cpyO rb (acc.set i.toNat (⟨(at0 e.routers i).routes, l⟩, ro, to)) gi = cpyO rb acc gi := by
    rw [cpyO, cpyO, map_setV (·.2.1) acc i.toNat _ (⟨(at0 e.routers i).routes, l⟩, ro, to) hp rfl, map_setV (·.2.2) acc i.toNat _ (⟨(at0 e.routers i).routes, l⟩, ro, to) hp rfl]
  have hm := n1 i.toNat hi
  rw [ea] at hm
  refine ⟨?_, ?_, fun k hk => ?_, h.bag.set hm.2.2.2, by rw [eO]; exact h.nd, by rw [eO]; exact h.lo⟩
  · rw [setR, List.map_set, h.hr]
  · rw [map_setV cpyV acc _ _ _ hp (by simp [cpyV, hl])]
    exact st_set h.hrb hm.2.1.symm
  · have hk' : k < acc.length := by simpa using hk
    have hk2 := h.ho k hk'
    by_cases he : i.toNat = k
    · subst he
      simp only [List.getElem_set_self]
      rw [hq] at hk2
      exact ⟨st_set hk2.1 (by have := n6 _ _ hi hi; rw [hq] at this; exact this.symm), st_self hk2.2⟩
    · simp only [List.getElem_set_ne he]
      refine ⟨st_set hk2.1 fun e1 => n6 _ _ hk' hi (by rw [ea]; exact e1.symm), st_set hk2.2 fun e1 => he ?_⟩
      exact nodup_inj n5 _ _ (by simpa using hi) (by simpa using hk') (by simpa [ea] using e1)
/-- Another bag. -/
theorem CpyE.bagged (h : CpyE S lo e rb acc gv gi) {gv' : AV} {gi' : List Nat} {bag : List Mail} {S' : Store}
    (hs : ∀ x ∈ rb :: (acc.map (·.2.1) ++ acc.map (·.2.2)), S'[x]? = S[x]?) (hbag : BagQ S' gv' bag gi') (hn : gi'.Nodup) (hg : ∀ x ∈ gi', S.length ≤ x) (hlo : lo ≤ S.length) : CpyE S' lo ⟨e.routers, bag⟩ rb acc gv' gi' := by
  have hlt : ∀ x ∈ rb :: (acc.map (·.2.1) ++ acc.map (·.2.2)), x < S.length := fun x hx => by
    simp only [List.mem_cons, List.mem_append, List.mem_map] at hx
    rcases hx with rfl | ⟨p, hp, rfl⟩ | ⟨p, hp, rfl⟩
    · exact (List.getElem?_eq_some_iff.1 h.hrb).1
    · obtain ⟨i, hi, rfl⟩ := List.mem_iff_getElem.1 hp
      exact (List.getElem?_eq_some_iff.1 (h.ho i hi).1).1
    · obtain ⟨i, hi, rfl⟩ := List.mem_iff_getElem.1 hp
      exact (List.getElem?_eq_some_iff.1 (h.ho i hi).2).1
  have h1 := h.nd
  rw [cpyO, ← List.append_assoc, ← List.cons_append, List.nodup_append] at h1
  refine ⟨h.hr, ?_, fun k hk => ⟨?_, ?_⟩, hbag, ?_, ?_⟩
  · rw [hs rb (by simp)]
    exact h.hrb
  · rw [hs _ (List.mem_cons_of_mem _ (List.mem_append_left _ (List.mem_map.2 ⟨acc[k], List.getElem_mem hk, rfl⟩)))]
    exact (h.ho k hk).1
  · rw [hs _ (List.mem_cons_of_mem _ (List.mem_append_right _ (List.mem_map.2 ⟨acc[k], List.getElem_mem hk, rfl⟩)))]
    exact (h.ho k hk).2
  · rw [cpyO, ← List.append_assoc, ← List.cons_append, List.nodup_append]
    exact ⟨h1.1, hn, fun x hx y hy e => by have := hlt x hx; have := hg y hy; omega⟩
  · intro x hx
    rw [cpyO, ← List.append_assoc, ← List.cons_append, List.mem_append] at hx
    rcases hx with hx | hx
    · exact h.lo x (by rw [cpyO, ← List.append_assoc, ← List.cons_append]; exact List.mem_append_left _ hx)
    · have := hg x hx
      omega
/-- Another bag, behind all; an object ahead of all is written. -/
theorem CpyE.rebag {gb : Nat} (h : CpyE S lo e rb acc gv [gb]) {y : Nat} (hy : y < lo) {o o' : Ob} {X : Store} {bag : List Mail} {g : Nat} (hX : (((S.set gb o).set y o') ++ X)[g]? = some (.cells 3 (bag.map mailC))) (hg : S.length ≤ g) (hlo : lo ≤ S.length) :
    CpyE (((S.set gb o).set y o') ++ X) lo ⟨e.routers, bag⟩ rb acc (.own g 3 0 bag.length bag.length) [g] := by
  obtain ⟨n1, n2, n3, n4, n5, n6⟩ := h.ne
  refine h.bagged (fun x hx => ?_) ⟨g, rfl, rfl, hX⟩ (by simp) (fun x hx => by rw [List.mem_singleton.1 hx]; exact hg) hlo
  have hlt : x < S.length := by
    simp only [List.mem_cons, List.mem_append, List.mem_map] at hx
    rcases hx with rfl | ⟨p, hp, rfl⟩ | ⟨p, hp, rfl⟩
    · exact (List.getElem?_eq_some_iff.1 h.hrb).1
    · obtain ⟨i, hi, rfl⟩ := List.mem_iff_getElem.1 hp
      exact (List.getElem?_eq_some_iff.1 (h.ho i hi).1).1
    · obtain ⟨i, hi, rfl⟩ := List.mem_iff_getElem.1 hp
      exact (List.getElem?_eq_some_iff.1 (h.ho i hi).2).1
  have hxl : lo ≤ x := h.lo x (by
    simp only [cpyO, List.mem_cons, List.mem_append] at hx ⊢
    rcases hx with h | h | h
    · exact .inl h
    · exact .inr (.inl h)
    · exact .inr (.inr (.inl h)))
  have hxg : gb ≠ x := by
    rintro rfl
    simp only [List.mem_cons, List.mem_append, List.mem_map] at hx
    rcases hx with e | ⟨p, hp, e⟩ | ⟨p, hp, e⟩
    · exact n2 (by rw [← e]; simp)
    · obtain ⟨i, hi, rfl⟩ := List.mem_iff_getElem.1 hp
      exact (n1 i hi).2.2.1 (by rw [e]; simp)
    · obtain ⟨i, hi, rfl⟩ := List.mem_iff_getElem.1 hp
      exact (n1 i hi).2.2.2 (by rw [e]; simp)
  rw [List.getElem?_append_left (by simpa using hlt), List.getElem?_set_ne (by omega), List.getElem?_set_ne hxg]
/-- The bag is written where it lies. -/
theorem CpyE.bagIn {gb : Nat} (h : CpyE S lo e rb acc gv [gb]) (bag : List Mail) (ho : (S[gb]?).isSome = true) : CpyE (S.set gb (.cells 3 (bag.map mailC))) lo ⟨e.routers, bag⟩ rb acc (.own gb 3 0 bag.length bag.length) [gb] := by
  obtain ⟨n1, n2, n3, n4, n5, n6⟩ := h.ne
  obtain ⟨o, ho⟩ := Option.isSome_iff_exists.1 ho
  refine ⟨h.hr, st_set h.hrb (fun e => n2 (by rw [e]; simp)), fun i hi => ⟨st_set (h.ho i hi).1 (fun e => (n1 i hi).2.2.1 (by rw [e]; simp)), st_set (h.ho i hi).2 (fun e => (n1 i hi).2.2.2 (by rw [e]; simp))⟩, ⟨gb, rfl, rfl, st_self ho⟩, h.nd, h.lo⟩
end
end Go.Proofs.YtephecognbbaoabGreat
namespace Go.Proofs.YtephecognbbaoabGreat
theorem freeze_last {rd : Option Nat} {P : Program} {N : Nat} {Q : Post} {α : AF} {c : Code} (β τ : Store) (o : Ob) (rest : List (List Int)) (l : List Int)
    (h : AWPr rd P N c Q α (β ++ (o :: (τ ++ [.dead, .cells 1 ((rest ++ [l]).map rowC)])))) : AWPr rd P N c Q α (β ++ (o :: (τ ++ [.cells 1 (l.map intC), .cells 1 (rest.map rowC ++ [[.own (β.length + (τ.length + 1)) 1 0 l.length l.length]])]))) := by
  obtain ⟨γ, hγ⟩ : ∃ γ : Store, β ++ (o :: τ) = γ := ⟨_, rfl⟩
  have hl : β.length + (τ.length + 1) = γ.length := by rw [← hγ]; simp
  have e0 : ∀ x y : Ob, β ++ (o :: (τ ++ [x, y])) = γ ++ [x, y] := fun x y => by rw [← hγ]; simp
  rw [hl, e0]
  rw [e0] at h
  refine AWP_freezeC (γ.length + 1) rest.length 0 (k := 1) (rows := rest.map rowC ++ [[.own γ.length 1 0 l.length l.length]]) (e := [.own γ.length 1 0 l.length l.length]) (a := .own γ.length 1 0 l.length l.length) (es := l.map intC) ?_ (by simp) rfl ?_ ?_ ?_
  · show (((γ ++ [Ob.cells 1 (l.map intC), .cells 1 (rest.map rowC ++ [[.own γ.length 1 0 l.length l.length]])]) : Store).set γ.length .dead)[γ.length + 1]? = _
    rw [List.getElem?_set_ne (by omega)]
    simp
  · simp [elemsA]
  · have e1 : ((γ ++ [Ob.cells 1 (l.map intC), .cells 1 (rest.map rowC ++ [[.own γ.length 1 0 l.length l.length]])]).set γ.length .dead).set (γ.length + 1) (Ob.cells 1 ((rest.map rowC ++ [[AV.own γ.length 1 0 l.length l.length]]).set rest.length ([AV.own γ.length 1 0 l.length l.length].set 0 (.sl (l.map intC))))) = γ ++ [.dead, .cells 1 ((rest ++ [l]).map rowC)] := by
      rw [List.set_append_right _ _ (by omega), Nat.sub_self, List.set_append_right _ _ (by omega), Nat.add_sub_cancel_left]
      simp [rowC, intsA]
    show AWPr rd P N c Q α (((γ ++ [Ob.cells 1 (l.map intC), .cells 1 (rest.map rowC ++ [[.own γ.length 1 0 l.length l.length]])]).set γ.length .dead).set (γ.length + 1) (Ob.cells 1 ((rest.map rowC ++ [[AV.own γ.length 1 0 l.length l.length]]).set rest.length ([AV.own γ.length 1 0 l.length l.length].set 0 (.sl (l.map intC))))))
    rw [e1]
    exact h
  · simp
def tldO (b : Nat) : List (List Int) → Store
  | [] => [.dead, .dead]
  | l :: rest => [.cells 1 (l.map intC), .cells 1 (rest.reverse.map rowC ++ [[.own b 1 0 l.length l.length]])]
theorem nodup_two {A B : List Nat} {m r t : Nat} (h : (A ++ B).Nodup) (hA : ∀ x ∈ A, x < m) (hB : ∀ x ∈ B, x < m) (hr : m ≤ r) (ht : r < t) : ((A ++ [r]) ++ (B ++ [t])).Nodup := by
  rw [List.nodup_append] at h
  obtain ⟨h1, h2, h3⟩ := h
  rw [List.nodup_append, List.nodup_append, List.nodup_append]
  refine ⟨⟨h1, by simp, fun x hx y hy e => ?_⟩, ⟨h2, by simp, fun x hx y hy e => ?_⟩, fun x hx y hy e => ?_⟩
  · rw [List.mem_singleton.1 hy] at e; have := hA x hx; omega
  · rw [List.mem_singleton.1 hy] at e; have := hB x hx; omega
  · rcases List.mem_append.1 hx with hx | hx <;> rcases List.mem_append.1 hy with hy | hy
    · exact h3 x hx y hy e
    · rw [List.mem_singleton.1 hy] at e; have := hA x hx; omega
    · rw [List.mem_singleton.1 hx] at e; have := hB y hy; omega
    · rw [List.mem_singleton.1 hx, List.mem_singleton.1 hy] at e; omega
theorem copied_calls (n : Net) (e : Eng) (hn : NetIn n) (he : EngIn n e) (ok : EngOk e) (σ : Store) : ACalls Tryz.prog 32 [.agg (engC e)] σ fun r σ' => ∃ τ, σ' = σ ++ τ ∧ ∃ rb acc gv gi, r = .agg [.own rb 2 0 e.routers.length e.routers.length, gv] ∧ CpyE (σ ++ τ) σ.length e rb acc gv gi := by
  have n1 := hn.n1
  have n6 := hn.n6
  have hel := he.len
  refine ACalls_of_awp Tryz.func32 rfl Tryz.results32 ?_
  simp only [List.length_cons, List.length_nil, Tryz.ntmps32, Nat.reduceAdd, Nat.reduceSub, enterA]
  refine AWP_seq_k fun K hK => ?_
  (refine AWP_region ?_; simp -implicitDefEqProofs only [go_sem])
  refine hK _ _ ?_; clear hK K
  refine AWP_freezeP 1 rfl (by simp only [st0]; rfl) ?_
  simp only [ss0, List.set_cons_zero]
  (repeat' (first|(refine g_s fun K hK=>?_)|(refine g_b ?_)|(refine g_g ?_;(try simp -implicitDefEqProofs only[go_sem]))|(with_reducible refine hK _ _ ?_;clear hK K)|fail))
  refine AWP_pad ?_
  have hJ := hK
  clear hK
  obtain ⟨ρ, hρ⟩ : ∃ ρ : Store, σ ++ [.dead, .cells 2 [[.c (.slice none 0 0), .c (.slice none 0 0)]]] = ρ := ⟨_, rfl⟩
  have hlen : σ.length + 2 = ρ.length := by rw [← hρ]; simp
  refine AWP_each e.routers (fun k r (s : List (Rtr × Nat × Nat) × Store) => s.1.map (·.1) ++ r = e.routers ∧ (∀ p ∈ s.1, ρ.length + 1 ≤ p.2.1 ∧ ρ.length + 1 ≤ p.2.2 ∧ ((ρ ++ [.dead]) ++ s.2)[p.2.1]? = some (.cells 1 (p.1.routes.map intC)) ∧ ((ρ ++ [.dead]) ++ s.2)[p.2.2]? = some (.cells 1 (p.1.told.map rowC))) ∧ (s.1.map (·.2.1) ++ s.1.map (·.2.2)).Nodup)
    (fun k s _ => [(4, intA1 k), (3, .ptr ρ.length 2 0 0)]) (fun _ s _ => ρ ++ (.cells 2 [[accV 2 (ρ.length + (s.2.length + 1)) s.1, .c (.slice none 0 0)]] :: (s.2 ++ [accO cpyV 2 s.1]))) ([], []) [] ⟨rfl, fun p hp => (by cases hp), List.nodup_nil⟩ ?_ (ALe_of ?_) ?_ ?_
  · rw [← hρ]
    simp [accV, accO]
  · simp -implicitDefEqProofs only [go_sem, hlen]
  · rintro k r ⟨acc, T⟩ τ9 hk0 hk1 ⟨h3, h4, h5⟩ L hL
    obtain ⟨w, hw⟩ : ∃ w, at0 e.routers k = w := ⟨_, rfl⟩
    have hwm := at0_mem e.routers hk0 hk1
    rw [hw] at h3 hwm
    have hwi := he.rtr w hwm
    have hwo := ok.rtr w hwm
    have hrl := hwi.rl
    have htl := hwi.tl
    have hal : acc.length + 1 ≤ 6 := by have := congrArg List.length h3; simp at this; omega
    obtain ⟨y1, wr1, hwr⟩ : ∃ p l, w.routes = p :: l := by cases h : w.routes with | nil => rw [h] at hrl; simp at hrl; omega | cons p l => exact ⟨p, l, rfl⟩
    rcases acc with _ | ⟨p0, acc⟩
    · simp -implicitDefEqProofs only [go_sem, accV, accO]
      (repeat' (first|(refine g_s fun K hK=>?_)|(refine g_b ?_)|(refine g_k ?_;simp only[thenQ,blockQ])|(refine g_c (fun h=>?_) (fun h=>?_)<;>(try simp only[go_sem] at h)<;>(try exact g_f))|(refine g_g ?_;(try simp -implicitDefEqProofs only[go_sem,hw]))|(with_reducible refine hK _ _ ?_;clear hK K)|(with_reducible refine And.intro ?_ ?_;· exact g_x)|fail))
      refine AWP_pad ?_
      obtain ⟨β, hβ⟩ : ∃ β : Store, ρ ++ (.cells 2 [[.c (.slice none 0 0), .c (.slice none 0 0)]] :: (T ++ [.dead, .dead, .cells 1 (w.routes.map intC)])) = β := ⟨_, rfl⟩
      have hbl : β.length = ρ.length + (T.length + 4) := by rw [← hβ]; simp
      have hJ2 := hK
      clear hK
      refine AWP_pad ?_
      refine AWP_each w.told (fun _ r9 racc => racc.reverse ++ r9 = w.told) (fun k9 racc τ => [(6, intA1 k9), (5, .ptr β.length 2 0 0)]) (fun _ racc τ => β ++ (.cells 2 [[.own (ρ.length + (T.length + 3)) 1 0 w.routes.length w.routes.length, accV 1 (β.length + (τ.length + 2)) racc]] :: (τ ++ tldO (β.length + (τ.length + 1)) racc))) [] [] rfl ?_ (ALe_of ?_) ?_ ?_
      · rw [← hβ]
        simp [accV, tldO]
      · simp -implicitDefEqProofs only [go_sem, hbl]
      · rintro k9 r9 racc τ hk90 hk91 hH9 L9 hL9
        obtain ⟨l, hl⟩ : ∃ l, at0 w.told k9 = l := ⟨_, rfl⟩
        have hlm := at0_mem w.told hk90 hk91
        rw [hl] at hH9 hlm
        have hll := hwo.tr l hlm
        have htal : racc.length + 1 ≤ 6 := by have := congrArg List.length hH9; simp at this; omega
        rcases racc with _ | ⟨y, racc⟩
        · simp -implicitDefEqProofs only [go_sem, accV, tldO]
          (repeat' (first|(refine g_s fun K hK=>?_)|(refine g_b ?_)|(refine g_k ?_;simp only[thenQ,blockQ])|(refine g_c (fun h=>?_) (fun h=>?_)<;>(try simp only[go_sem] at h)<;>(try exact g_f))|((first|refine g_g ?_|refine AWP_drawC (β ++ (.cells 2 [[.own (ρ.length + (T.length + 3)) 1 0 w.routes.length w.routes.length, .c (.slice none 0 0)]] :: τ)) ⟨_, by simp; rfl⟩ tab_mixed (by decide +kernel) ?_);(try simp -implicitDefEqProofs only[go_sem,hw, hl]))|(with_reducible refine hK _ _ ?_;clear hK K)|(with_reducible refine And.intro ?_ ?_;· exact g_x)|fail))
          refine hL9 [l] (τ ++ [.dead, .dead, .dead]) _ _ (by simpa using hH9) (ALe_of ?_) ?_
          · simp -implicitDefEqProofs only [go_sem, hbl]
          · simp [accV, tldO]
        · simp only [accV, tldO]
          refine freeze_last β τ _ racc.reverse y ?_
          simp only [List.length_cons] at htal
          have hrl9 : ((racc.reverse ++ [y]).map rowC).length = racc.length + 1 := by simp
          obtain ⟨rows, hrows⟩ : ∃ rows, (racc.reverse ++ [y]).map rowC = rows := ⟨_, rfl⟩
          have hr1 : ∀ e' ∈ rows, e'.length = 1 := by rw [← hrows]; intro e' he'; obtain ⟨q, _, rfl⟩ := List.mem_map.1 he'; rfl
          have hr2 : ∀ e' ∈ rows, e'.all oneA = true := by rw [← hrows]; intro e' he'; obtain ⟨q, _, rfl⟩ := List.mem_map.1 he'; rfl
          rw [hrows] at hrl9 ⊢
          simp -implicitDefEqProofs only [go_sem]
          (repeat' (first|(refine g_s fun K hK=>?_)|(refine g_b ?_)|(refine g_k ?_;simp only[thenQ,blockQ])|(refine g_c (fun h=>?_) (fun h=>?_)<;>(try simp only[go_sem] at h)<;>(try exact g_f))|((first|refine g_g ?_|refine AWP_drawC (β ++ (.cells 2 [[.own (ρ.length + (T.length + 3)) 1 0 w.routes.length w.routes.length, .own (β.length + (τ.length + 2)) 1 0 (racc.length + 1) (racc.length + 1)]] :: τ)) ⟨_, by simp; rfl⟩ tab_mixed (by decide +kernel) ?_);(try simp -implicitDefEqProofs only[go_sem,hw, hl, hrl9]))|(with_reducible refine hK _ _ ?_;clear hK K)|(with_reducible refine And.intro ?_ ?_;· exact g_x)|fail))
          refine hL9 (l :: y :: racc) (τ ++ [.dead, .dead, .dead]) _ _ (by simpa using hH9) (ALe_of ?_) ?_
          · simp -implicitDefEqProofs only [go_sem, hbl]
          · simp [accV, tldO, ← hrows]
      · rintro k9 racc τ hk9 hH9 L9
        rw [List.append_nil] at hH9
        rcases racc with _ | ⟨y, racc⟩
        · rw [← hH9] at htl
          simp at htl
          omega
        simp only [accV, tldO]
        refine freeze_last β τ _ racc.reverse y ?_
        have hH9 : racc.reverse ++ [y] = w.told := by simpa using hH9
        have hH8 : racc.length + 1 = w.told.length := by rw [← hH9]; simp
        rw [hH9, hH8]
        simp -implicitDefEqProofs only [go_sem]
        (repeat' (first|(refine g_s fun K hK=>?_)|(refine g_e ?_;simp only[thenQ,blockQ,↓reduceIte,Nat.reduceEqDiff])|(refine g_c (fun h=>?_) (fun h=>?_)<;>(try simp only[go_sem] at h)<;>(try exact g_f))|(refine g_g ?_;(try simp -implicitDefEqProofs only[go_sem,hw]))|(with_reducible refine hK _ _ ?_;clear hK K)|(with_reducible refine And.intro ?_ ?_;· exact g_x)|fail))
        refine hJ2 _ _ ?_
        clear hJ2
        subst hβ
        (repeat' (first|(refine g_g ?_;(try simp -implicitDefEqProofs only[go_sem]))|(clear hK K;first|(with_reducible refine hK _ _ ?_;clear hK K)|(clear hK K;with_reducible refine hK _ _ ?_;clear hK K)|(clear hK K;clear hK K;with_reducible refine hK _ _ ?_;clear hK K))|(with_reducible refine And.intro ?_ ?_;· exact g_x)|fail))
        refine hL ([(w, ρ.length + (T.length + 3), ρ.length + (T.length + (4 + (τ.length + 2))))], T ++ .dead :: .dead :: .cells 1 (w.routes.map intC) :: .cells 2 [[.own (ρ.length + (T.length + 3)) 1 0 w.routes.length w.routes.length, .own (ρ.length + (T.length + (4 + (τ.length + 2)))) 1 0 w.told.length w.told.length]] :: (τ ++ [.dead, .cells 1 (w.told.map rowC), .cells 2 [[.own (ρ.length + (T.length + 3)) 1 0 w.routes.length w.routes.length, .own (ρ.length + (T.length + (4 + (τ.length + 2)))) 1 0 w.told.length w.told.length]]])) [] _ _ ⟨by simpa using h3, ?_, by simp; omega⟩ (ALe_of ?_) ?_
        · intro p hp
          rcases List.mem_singleton.1 hp with rfl
          refine ⟨by simp only; omega, by simp only; omega, ?_, ?_⟩
          · simp -implicitDefEqProofs only [go_sem]
          · simp -implicitDefEqProofs only [go_sem]
            have e7 : T.length + (4 + (τ.length + 2)) = T.length + (τ.length + 1 + 1 + 1 + 1 + 1) + 1 := by omega
            rw [e7, List.getElem?_cons_succ, List.getElem?_append_right (by omega), Nat.add_sub_cancel_left]
            simp
        · simp -implicitDefEqProofs only [go_sem, hlen]
        · simp [accO, accV, cpyV]
          omega
    · simp only [List.length_cons] at hal
      simp -implicitDefEqProofs only [go_sem, accV, accO]
      (repeat' (first|(refine g_s fun K hK=>?_)|(refine g_b ?_)|(refine g_k ?_;simp only[thenQ,blockQ])|(refine g_c (fun h=>?_) (fun h=>?_)<;>(try simp only[go_sem] at h)<;>(try exact g_f))|(refine g_g ?_;(try simp -implicitDefEqProofs only[go_sem,hw]))|(with_reducible refine hK _ _ ?_;clear hK K)|(with_reducible refine And.intro ?_ ?_;· exact g_x)|fail))
      refine AWP_pad ?_
      obtain ⟨β, hβ⟩ : ∃ β : Store, ρ ++ (.cells 2 [[.own (ρ.length + (T.length + 1)) 2 0 (acc.length + 1) (acc.length + 1), .c (.slice none 0 0)]] :: (T ++ [.cells 2 (cpyV p0 :: acc.map cpyV), .dead, .cells 1 (w.routes.map intC)])) = β := ⟨_, rfl⟩
      have hbl : β.length = ρ.length + (T.length + 4) := by rw [← hβ]; simp
      have hJ2 := hK
      clear hK
      refine AWP_pad ?_
      refine AWP_each w.told (fun _ r9 racc => racc.reverse ++ r9 = w.told) (fun k9 racc τ => [(6, intA1 k9), (5, .ptr β.length 2 0 0)]) (fun _ racc τ => β ++ (.cells 2 [[.own (ρ.length + (T.length + 3)) 1 0 w.routes.length w.routes.length, accV 1 (β.length + (τ.length + 2)) racc]] :: (τ ++ tldO (β.length + (τ.length + 1)) racc))) [] [] rfl ?_ (ALe_of ?_) ?_ ?_
      · rw [← hβ]
        simp [accV, tldO]
      · simp -implicitDefEqProofs only [go_sem, hbl]
      · rintro k9 r9 racc τ hk90 hk91 hH9 L9 hL9
        obtain ⟨l, hl⟩ : ∃ l, at0 w.told k9 = l := ⟨_, rfl⟩
        have hlm := at0_mem w.told hk90 hk91
        rw [hl] at hH9 hlm
        have hll := hwo.tr l hlm
        have htal : racc.length + 1 ≤ 6 := by have := congrArg List.length hH9; simp at this; omega
        rcases racc with _ | ⟨y, racc⟩
        · simp -implicitDefEqProofs only [go_sem, accV, tldO]
          (repeat' (first|(refine g_s fun K hK=>?_)|(refine g_b ?_)|(refine g_k ?_;simp only[thenQ,blockQ])|(refine g_c (fun h=>?_) (fun h=>?_)<;>(try simp only[go_sem] at h)<;>(try exact g_f))|((first|refine g_g ?_|refine AWP_drawC (β ++ (.cells 2 [[.own (ρ.length + (T.length + 3)) 1 0 w.routes.length w.routes.length, .c (.slice none 0 0)]] :: τ)) ⟨_, by simp; rfl⟩ tab_mixed (by decide +kernel) ?_);(try simp -implicitDefEqProofs only[go_sem,hw, hl]))|(with_reducible refine hK _ _ ?_;clear hK K)|(with_reducible refine And.intro ?_ ?_;· exact g_x)|fail))
          refine hL9 [l] (τ ++ [.dead, .dead, .dead]) _ _ (by simpa using hH9) (ALe_of ?_) ?_
          · simp -implicitDefEqProofs only [go_sem, hbl]
          · simp [accV, tldO]
        · simp only [accV, tldO]
          refine freeze_last β τ _ racc.reverse y ?_
          simp only [List.length_cons] at htal
          have hrl9 : ((racc.reverse ++ [y]).map rowC).length = racc.length + 1 := by simp
          obtain ⟨rows, hrows⟩ : ∃ rows, (racc.reverse ++ [y]).map rowC = rows := ⟨_, rfl⟩
          have hr1 : ∀ e' ∈ rows, e'.length = 1 := by rw [← hrows]; intro e' he'; obtain ⟨q, _, rfl⟩ := List.mem_map.1 he'; rfl
          have hr2 : ∀ e' ∈ rows, e'.all oneA = true := by rw [← hrows]; intro e' he'; obtain ⟨q, _, rfl⟩ := List.mem_map.1 he'; rfl
          rw [hrows] at hrl9 ⊢
          simp -implicitDefEqProofs only [go_sem]
          (repeat' (first|(refine g_s fun K hK=>?_)|(refine g_b ?_)|(refine g_k ?_;simp only[thenQ,blockQ])|(refine g_c (fun h=>?_) (fun h=>?_)<;>(try simp only[go_sem] at h)<;>(try exact g_f))|((first|refine g_g ?_|refine AWP_drawC (β ++ (.cells 2 [[.own (ρ.length + (T.length + 3)) 1 0 w.routes.length w.routes.length, .own (β.length + (τ.length + 2)) 1 0 (racc.length + 1) (racc.length + 1)]] :: τ)) ⟨_, by simp; rfl⟩ tab_mixed (by decide +kernel) ?_);(try simp -implicitDefEqProofs only[go_sem,hw, hl, hrl9]))|(with_reducible refine hK _ _ ?_;clear hK K)|(with_reducible refine And.intro ?_ ?_;· exact g_x)|fail))
          refine hL9 (l :: y :: racc) (τ ++ [.dead, .dead, .dead]) _ _ (by simpa using hH9) (ALe_of ?_) ?_
          · simp -implicitDefEqProofs only [go_sem, hbl]
          · simp [accV, tldO, ← hrows]
      · rintro k9 racc τ hk9 hH9 L9
        rw [List.append_nil] at hH9
        rcases racc with _ | ⟨y, racc⟩
        · rw [← hH9] at htl
          simp at htl
          omega
        simp only [accV, tldO]
        refine freeze_last β τ _ racc.reverse y ?_
        have hH9 : racc.reverse ++ [y] = w.told := by simpa using hH9
        have hH8 : racc.length + 1 = w.told.length := by rw [← hH9]; simp
        rw [hH9, hH8]
        simp -implicitDefEqProofs only [go_sem]
        (repeat' (first|(refine g_s fun K hK=>?_)|(refine g_e ?_;simp only[thenQ,blockQ,↓reduceIte,Nat.reduceEqDiff])|(refine g_c (fun h=>?_) (fun h=>?_)<;>(try simp only[go_sem] at h)<;>(try exact g_f))|(refine g_g ?_;(try simp -implicitDefEqProofs only[go_sem,hw]))|(with_reducible refine hK _ _ ?_;clear hK K)|(with_reducible refine And.intro ?_ ?_;· exact g_x)|fail))
        refine hJ2 _ _ ?_
        clear hJ2
        subst hβ
        have em : ∀ (Z : List Ob), (ρ ++ (.cells 2 [[.own (ρ.length + (T.length + 1)) 2 0 (acc.length + 1) (acc.length + 1), .c (.slice none 0 0)]] :: (T ++ [.cells 2 (cpyV p0 :: acc.map cpyV), .dead, .cells 1 (w.routes.map intC)]))) ++ Z = ρ ++ (.cells 2 [[.own (ρ.length + (T.length + 1)) 2 0 (acc.length + 1) (acc.length + 1), .c (.slice none 0 0)]] :: (T ++ (.cells 2 (cpyV p0 :: acc.map cpyV) :: .dead :: .cells 1 (w.routes.map intC) :: Z))) := fun Z => by simp
        rw [em]
        refine AWP_moveC ρ.length 0 0 (b := ρ.length + (T.length + 1)) (by omega) (by first | rfl | (simp -implicitDefEqProofs only [go_sem]; done) | (simp -implicitDefEqProofs only [go_sem]; rfl)) rfl rfl (by first | rfl | (simp -implicitDefEqProofs only [go_sem]; done) | (simp -implicitDefEqProofs only [go_sem]; rfl)) ?_
        simp -implicitDefEqProofs only [go_sem]
        (repeat' (first|(refine g_g ?_;(try simp -implicitDefEqProofs only[go_sem]))|(clear hK K;first|(with_reducible refine hK _ _ ?_;clear hK K)|(clear hK K;with_reducible refine hK _ _ ?_;clear hK K)|(clear hK K;clear hK K;with_reducible refine hK _ _ ?_;clear hK K))|(with_reducible refine And.intro ?_ ?_;· exact g_x)|fail))
        refine hL (p0 :: (acc ++ [(w, ρ.length + (T.length + 3), ρ.length + (T.length + (4 + (τ.length + 2))))]), T ++ .dead :: .dead :: .cells 1 (w.routes.map intC) :: .cells 2 [[.own (ρ.length + (T.length + 3)) 1 0 w.routes.length w.routes.length, .own (ρ.length + (T.length + (4 + (τ.length + 2)))) 1 0 w.told.length w.told.length]] :: (τ ++ [.dead, .cells 1 (w.told.map rowC), .dead, .cells 2 [[.own (ρ.length + (T.length + 3)) 1 0 w.routes.length w.routes.length, .own (ρ.length + (T.length + (4 + (τ.length + 2)))) 1 0 w.told.length w.told.length]]])) [] _ _ ⟨by simpa using h3, ?_, ?_⟩ (ALe_of ?_) ?_
        · intro p hp
          rw [← List.cons_append] at hp
          rcases List.mem_append.1 hp with hp | hp
          · obtain ⟨h6, h7, h8, h9⟩ := h4 p hp
            refine ⟨h6, h7, ?_, ?_⟩
            · rw [← List.append_assoc]
              exact st_app h8
            · rw [← List.append_assoc]
              exact st_app h9
          · rcases List.mem_singleton.1 hp with rfl
            refine ⟨by simp only; omega, by simp only; omega, ?_, ?_⟩
            · simp -implicitDefEqProofs only [go_sem]
            · simp -implicitDefEqProofs only [go_sem]
              have e7 : T.length + (4 + (τ.length + 2)) = T.length + (τ.length + 1 + 1 + 1 + 1 + 1) + 1 := by omega
              rw [e7, List.getElem?_cons_succ, List.getElem?_append_right (by omega), Nat.add_sub_cancel_left]
              simp
        · rw [← List.cons_append, List.map_append, List.map_append]
          refine nodup_two (m := ρ.length + (T.length + 1)) h5 (fun x hx => ?_) (fun x hx => ?_) (by simp only; omega) (by simp only; omega)
          · obtain ⟨p, hp, rfl⟩ := List.mem_map.1 hx
            have := (List.getElem?_eq_some_iff.1 (h4 p hp).2.2.1).1
            simpa using this
          · obtain ⟨p, hp, rfl⟩ := List.mem_map.1 hx
            have := (List.getElem?_eq_some_iff.1 (h4 p hp).2.2.2).1
            simpa using this
        · simp -implicitDefEqProofs only [go_sem, hlen]
        · simp [accO, accV, cpyV]
          omega
  · rintro k ⟨acc, T⟩ τ9 hk ⟨h3, h4, h5⟩ L
    have hacc : 1 ≤ acc.length := by have := congrArg List.length h3; simp at this; omega
    obtain ⟨p0, acc, rfl⟩ : ∃ p l, acc = p :: l := by cases acc with | nil => cases hacc | cons p l => exact ⟨p, l, rfl⟩
    simp only [List.append_nil] at h3
    have hbl := he.bag
    have hcL : ∀ X, (ρ ++ X)[σ.length + 1]? = some (.cells 2 [[.c (.slice none 0 0), .c (.slice none 0 0)]]) := fun X => by rw [← hρ]; exact st_app (by simp)
    have hcS : ∀ X o, (ρ ++ X).set (σ.length + 1) o = σ ++ ([.dead, o] ++ X) := fun X o => by
      rw [← hρ, List.append_assoc, List.set_append_right _ _ (by omega), Nat.add_sub_cancel_left]
      rfl
    simp -implicitDefEqProofs only [go_sem, accV, accO]
    (repeat' (first|(refine g_s fun K hK=>?_)|(refine g_e ?_;simp only[thenQ,blockQ,↓reduceIte,Nat.reduceEqDiff])|(refine g_c (fun h=>?_) (fun h=>?_)<;>(try simp only[go_sem] at h)<;>(try exact g_f))|(refine g_g ?_;(try simp -implicitDefEqProofs only[go_sem]))|(with_reducible refine hK _ _ ?_;clear hK K)|fail))
    refine hJ _ _ ?_
    clear hJ
    (repeat' (first|(refine g_s fun K hK=>?_)|((first|refine g_t ?_|refine g_g ?_);(try simp -implicitDefEqProofs only[go_sem,hcL, hcS]))|(with_reducible refine hK _ _ ?_;clear hK K)|(with_reducible refine And.intro ?_ ?_;· exact g_x)|fail))
    have eer : e.routers.length = acc.length + 1 := by rw [← h3]; simp
    refine ⟨.dead :: .cells 2 [[.own (ρ.length + (T.length + 1)) 2 0 (acc.length + 1) (acc.length + 1), .own (ρ.length + (T.length + 3)) 3 0 e.bag.length e.bag.length]] :: .cells 2 [[.own (ρ.length + (T.length + 1)) 2 0 (acc.length + 1) (acc.length + 1), .own (ρ.length + (T.length + 3)) 3 0 e.bag.length e.bag.length]] :: (T ++ [.cells 2 ((p0 :: acc).map cpyV), .dead, .cells 3 (e.bag.map mailC)]), rfl, ρ.length + (T.length + 1), p0 :: acc, _, [ρ.length + (T.length + 3)], by rw [eer], ?_⟩
    have hpl : ∀ p ∈ p0 :: acc, (ρ.length + 1 ≤ p.2.1 ∧ p.2.1 < ρ.length + (T.length + 1)) ∧ (ρ.length + 1 ≤ p.2.2 ∧ p.2.2 < ρ.length + (T.length + 1)) := fun p hp => by
      obtain ⟨h6, h7, h8, h9⟩ := h4 p hp
      have l8 := (List.getElem?_eq_some_iff.1 h8).1
      have l9 := (List.getElem?_eq_some_iff.1 h9).1
      simp at l8 l9
      omega
    have hup : ∀ (o1 o2 : Ob) X x o, ρ.length + 1 ≤ x → ((ρ ++ [.dead]) ++ T)[x]? = some o → (σ ++ (.dead :: o1 :: o2 :: (T ++ X)))[x]? = some o := fun o1 o2 X x o hx ho => by
      obtain ⟨q, hq⟩ : ∃ q, x = ρ.length + 1 + q := ⟨x - ρ.length - 1, by omega⟩
      have h7 : x = (ρ ++ [Ob.dead]).length + q := by simp; omega
      rw [h7, List.getElem?_append_right (by omega), Nat.add_sub_cancel_left] at ho
      have h8 : x = σ.length + (q + 1 + 1 + 1) := by omega
      rw [h8, List.getElem?_append_right (by omega), Nat.add_sub_cancel_left, List.getElem?_cons_succ, List.getElem?_cons_succ, List.getElem?_cons_succ]
      exact st_app ho
    refine ⟨h3, ?_, fun i hi => ?_, ⟨_, rfl, rfl, ?_⟩, ?_, ?_⟩
    · have h8 : ρ.length + (T.length + 1) = σ.length + (T.length + 1 + 1 + 1) := by omega
      rw [h8, List.getElem?_append_right (by omega), Nat.add_sub_cancel_left, List.getElem?_cons_succ, List.getElem?_cons_succ, List.getElem?_cons_succ, List.getElem?_append_right (by omega), Nat.sub_self]
      rfl
    · obtain ⟨h6, h7, h8, h9⟩ := h4 _ (List.getElem_mem hi)
      exact ⟨hup _ _ _ _ _ h6 h8, hup _ _ _ _ _ h7 h9⟩
    · have h8 : ρ.length + (T.length + 3) = σ.length + (T.length + 2 + 1 + 1 + 1) := by omega
      rw [h8, List.getElem?_append_right (by omega), Nat.add_sub_cancel_left, List.getElem?_cons_succ, List.getElem?_cons_succ, List.getElem?_cons_succ, List.getElem?_append_right (by omega), Nat.add_sub_cancel_left]
      rfl
    · rw [cpyO, ← List.append_assoc, List.nodup_cons, List.nodup_append]
      simp only [List.mem_append, List.mem_map, List.mem_singleton, not_or, not_exists, not_and]
      refine ⟨⟨⟨fun p hp hc => ?_, fun p hp hc => ?_⟩, by omega⟩, h5, by simp, ?_⟩
      · have := hpl p hp; omega
      · have := hpl p hp; omega
      · rintro x (⟨p, hp, rfl⟩ | ⟨p, hp, rfl⟩) y rfl hc
        · have := hpl p hp; omega
        · have := hpl p hp; omega
    · intro x hx
      simp only [cpyO, List.mem_cons, List.mem_append, List.mem_map, List.not_mem_nil, or_false] at hx
      rcases hx with rfl | ⟨p, hp, rfl⟩ | ⟨p, hp, rfl⟩ | rfl
      · omega
      · have := hpl p (by simpa using hp); omega
      · have := hpl p (by simpa using hp); omega
      · omega
end Go.Proofs.YtephecognbbaoabGreat
namespace Go.Proofs.YtephecognbbaoabGreat
theorem CpyE.bagApp {S : Store} {lo : Nat} {e : Eng} {rb : Nat} {acc : List (Rtr × Nat × Nat)} {gv : AV} {gi : List Nat} (h : CpyE S lo e rb acc gv gi) {m : Store} {gv' : AV} {gi' : List Nat} {bag : List Mail} (hbag : BagQ (S ++ m) gv' bag gi') (hn : gi'.Nodup) (hg : ∀ x ∈ gi', S.length ≤ x) (hlo : lo ≤ S.length) :
    CpyE (S ++ m) lo ⟨e.routers, bag⟩ rb acc gv' gi' :=
  h.bagged (fun x hx => by
    have hlt : x < S.length := by
      simp only [List.mem_cons, List.mem_append, List.mem_map] at hx
      rcases hx with rfl | ⟨p, hp, rfl⟩ | ⟨p, hp, rfl⟩
      · exact (List.getElem?_eq_some_iff.1 h.hrb).1
      · obtain ⟨i, hi, rfl⟩ := List.mem_iff_getElem.1 hp
        exact (List.getElem?_eq_some_iff.1 (h.ho i hi).1).1
      · obtain ⟨i, hi, rfl⟩ := List.mem_iff_getElem.1 hp
        exact (List.getElem?_eq_some_iff.1 (h.ho i hi).2).1
    rw [List.getElem?_append_left hlt]) hbag hn hg hlo
theorem without_calls (n : Net) (e : Eng) (hn : NetIn n) (he : EngIn n e) (ok : EngOk e) (at' : Int) (h0 : 0 ≤ at') (h1 : at' < e.bag.length) (σ : Store) : ACalls Tryz.prog 30 [.agg (engC e), intA1 at'] σ fun r σ' => ∃ τ, σ' = σ ++ τ ∧ ∃ rb acc gv gi, r = .agg [.own rb 2 0 e.routers.length e.routers.length, gv] ∧ CpyE (σ ++ τ) σ.length (dropE e at') rb acc gv gi := by
  have hbg := he.bag
  refine ACalls_of_awp Tryz.func30 rfl Tryz.results30 ?_
  simp only [List.length_cons, List.length_nil, Tryz.ntmps30, Nat.reduceAdd, Nat.reduceSub, enterA]
  refine AWP_seq_k fun K hK => ?_
  (refine AWP_region ?_; simp -implicitDefEqProofs only [go_sem])
  refine hK _ _ ?_; clear hK K
  refine AWP_freezeP 2 rfl (by simp only [st0]; rfl) ?_
  simp only [ss0, List.set_cons_zero]
  (repeat' (first|(refine g_s fun K hK=>?_)|(refine g_g ?_;(try simp -implicitDefEqProofs only[go_sem]))|fail))
  obtain ⟨ρ, hρ⟩ : ∃ ρ : Store, σ ++ [.dead, .cells 2 [[.c (.slice none 0 0), .c (.slice none 0 0)]]] = ρ := ⟨_, rfl⟩
  have hlen : ρ.length = σ.length + 2 := by rw [← hρ]; simp
  rw [hρ]
  refine (copied_calls n e hn he ok ρ).mono ?_
  rintro r S' ⟨τ, rfl, rb, acc, gv, gi, rfl, hM⟩
  obtain ⟨gb, rfl, rfl, hgb⟩ := hM.bag
  have hcL : ∀ X, (ρ ++ X)[σ.length + 1]? = some (.cells 2 [[.c (.slice none 0 0), .c (.slice none 0 0)]]) := fun X => by rw [← hρ]; exact st_app (by simp)
  have hcS : ∀ X o, (ρ ++ X).set (σ.length + 1) o = σ ++ ([.dead, o] ++ X) := fun X o => by
    rw [← hρ, List.append_assoc, List.set_append_right _ _ (by omega), Nat.add_sub_cancel_left]
    rfl
  have hM3 : ∀ o, CpyE (σ ++ ([.dead, o] ++ τ)) ρ.length e rb acc (.own gb 3 0 e.bag.length e.bag.length) [gb] := fun o => by
    rw [← hcS τ o]
    exact hM.setLo (by omega)
  obtain ⟨X, hX⟩ : ∃ X, e.bag.take at'.toNat = X := ⟨_, rfl⟩
  obtain ⟨Y, hY⟩ : ∃ Y, (e.bag.drop (at' + 1).toNat).take (e.bag.length - (at' + 1).toNat) = Y := ⟨_, rfl⟩
  have hY2 : Y = e.bag.drop (at' + 1).toNat := by
    rw [← hY, List.take_of_length_le]
    simp
  have hXY : (dropE e at').bag = X ++ Y := by
    rw [dropE, List.eraseIdx_eq_take_drop_succ, hX, hY2]
    have e : (at' + 1).toNat = at'.toNat + 1 := by omega
    rw [e]
  have hxy : X.length + Y.length ≤ 120 := by
    rw [← hX, hY2, List.length_take, List.length_drop]
    omega
  simp -implicitDefEqProofs only [go_sem]
  (repeat' (first|(refine g_s fun K hK=>?_)|((first|refine g_t ?_|refine g_g ?_|refine g_W ?_);(try simp -implicitDefEqProofs only[go_sem,← List.map_drop, ← List.map_take, Nat.sub_zero, hX, hY, List.length_map, hcL, hcS]))|(with_reducible refine hK _ _ ?_;clear hK K)|(with_reducible refine And.intro ?_ ?_;· exact g_x)|fail))
  have hm := ((hM3 (.cells 2 [[.own rb 2 0 e.routers.length e.routers.length, .own (ρ.length + (τ.length + 3)) 3 0 (X.length + Y.length) (X.length + Y.length)]])).bagApp (m := [.cells 2 [[.own rb 2 0 e.routers.length e.routers.length, .own (ρ.length + (τ.length + 3)) 3 0 (X.length + Y.length) (X.length + Y.length)]], .dead, .dead, .cells 3 ((X ++ Y).map mailC)]) (bag := X ++ Y) (gv' := .own (ρ.length + (τ.length + 3)) 3 0 (X ++ Y).length (X ++ Y).length) (gi' := [ρ.length + (τ.length + 3)])
    ⟨_, rfl, rfl, by
      rw [hlen, List.append_assoc, List.getElem?_append_right (by omega)]
      have e1 : σ.length + 2 + (τ.length + 3) - σ.length = τ.length + 3 + 2 := by omega
      rw [e1]
      simp⟩ (by simp) (fun x hx => by rw [List.mem_singleton.1 hx]; simp; omega) (by simp; omega)).less (by omega : σ.length ≤ ρ.length)
  have ed : dropE e at' = ⟨e.routers, X ++ Y⟩ := by rw [← hXY]; rfl
  rw [ed]
  refine ⟨_, rfl, rb, acc, _, [ρ.length + (τ.length + 3)], rfl, ?_⟩
  simpa using hm
end Go.Proofs.YtephecognbbaoabGreat
