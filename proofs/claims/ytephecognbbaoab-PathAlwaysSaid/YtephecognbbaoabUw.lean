/- Routes with paths: when states are the same; what must be in any case. -/
import Derived.Test.YtephecognbbaoabUh
import Derived.Test.YtephecognbbaoabNm
namespace Go.Proofs.Ytephecognbbaoab
open Go
set_option linter.all false
set_option maxRecDepth 100000
set_option maxHeartbeats 4000000

theorem samePaths_calls (a b : List (List Rt)) (hl : a.length ≤ 1000000000000000000) (hp : ∀ r ∈ a, r.length ≤ 1000000000000000000 ∧ ∀ t ∈ r, t.p.length ≤ 1000000000000000000) (σ : Store) : ACalls Try.prog 46 [rtsC a, rtsC b] σ fun r σ' => σ' = σ ∧ r = .c (.bool (decide (a = b))) := by
  refine ACalls_of_awp Try.func46 rfl Try.results46 ?_
  simp only [List.length_cons, List.length_nil, Try.ntmps46, Nat.reduceAdd, Nat.reduceSub, enterA]
  (repeat' (first|(refine g_s fun K hK=>?_)|(refine g_b ?_)|(refine g_r ?_)|(refine g_k ?_;simp only[thenQ,blockQ])|(refine g_e ?_;simp only[thenQ,blockQ,↓reduceIte,Nat.reduceEqDiff])|(refine g_c (fun h=>?_) (fun h=>?_)<;>(try simp only[go_sem] at h)<;>(try exact g_f))|((first|refine g_t ?_|refine g_g ?_|refine g_U ?_|refine g_A ?_|refine g_W ?_);(try simp -implicitDefEqProofs only[go_sem]))|(with_reducible refine hK _ _ ?_;clear hK K)|(clear hK K;first|(with_reducible refine hK _ _ ?_;clear hK K)|(clear hK K;with_reducible refine hK _ _ ?_;clear hK K)|(clear hK K;clear hK K;with_reducible refine hK _ _ ?_;clear hK K))|(with_reducible refine splitB_intro (fun h=>?_) (fun h=>?_)<;>(try simp only[go_sem] at h)<;>(try exact g_f)<;>(try simp -implicitDefEqProofs only[go_sem]))|(with_reducible refine And.intro (fun h=>?_) (fun h=>?_)<;>(try simp only[go_sem] at h)<;>(try exact g_f))|(with_reducible refine And.intro ?_ ?_;· exact g_x)|(with_reducible intro h;(try simp only[go_sem] at h);(try exact g_f))))
  · rw [decide_eq_false (fun e : a = b => h (by rw [e]))]
  have hle : a.length = b.length := by omega
  refine AWP_for (a.length : Int) (fun k _ => ∀ i : Int, 0 ≤ i → i < k → at0 a i = at0 b i) (fun k _ _ => [(5, intA1 k)]) (fun _ _ _ => σ) () [] (by omega) (fun i h1 h2 => by omega) rfl (ALe_of ?_) ?_
  · simp -implicitDefEqProofs only [go_sem]
  · rintro k _ τ hk0 hk1 hH L hL
    by_cases hk2 : k < a.length
    · have hm := hp _ (at0_mem a hk0 hk2)
      obtain ⟨u, hu⟩ : ∃ u, at0 a k = u := ⟨_, rfl⟩
      obtain ⟨v, hv⟩ : ∃ v, at0 b k = v := ⟨_, rfl⟩
      rw [hu] at hm
      simp -implicitDefEqProofs only [go_sem]
      (repeat' (first|(refine g_s fun K hK=>?_)|(refine g_b ?_)|(refine g_r ?_)|(refine g_k ?_;simp only[thenQ,blockQ])|(refine g_e ?_;simp only[thenQ,blockQ,↓reduceIte,Nat.reduceEqDiff])|(refine g_c (fun h=>?_) (fun h=>?_)<;>(try simp only[go_sem] at h)<;>(try exact g_f))|((first|refine g_t ?_|refine g_g ?_|refine g_U ?_|refine g_A ?_|refine g_W ?_);(try simp -implicitDefEqProofs only[go_sem,hu, hv]))|(with_reducible refine hK _ _ ?_;clear hK K)|(clear hK K;first|(with_reducible refine hK _ _ ?_;clear hK K)|(clear hK K;with_reducible refine hK _ _ ?_;clear hK K)|(clear hK K;clear hK K;with_reducible refine hK _ _ ?_;clear hK K))|(with_reducible refine splitB_intro (fun h=>?_) (fun h=>?_)<;>(try simp only[go_sem] at h)<;>(try exact g_f)<;>(try simp -implicitDefEqProofs only[go_sem,hu, hv]))|(with_reducible refine And.intro (fun h=>?_) (fun h=>?_)<;>(try simp only[go_sem] at h)<;>(try exact g_f))|(with_reducible refine And.intro ?_ ?_;· exact g_x)|(with_reducible intro h;(try simp only[go_sem] at h);(try exact g_f))))
      · rw [decide_eq_false (fun e : a = b => h (by rw [← hu, ← hv, e]))]
      have huv : u.length = v.length := by omega
      have hJ := hK
      clear hK
      refine AWP_for (u.length : Int) (fun j _ => ∀ i : Int, 0 ≤ i → i < j → at0 u i = at0 v i) (fun j _ _ => [(6, intA1 j)]) (fun _ _ _ => σ) () [] (by omega) (fun i h1 h2 => by omega) rfl (ALe_of ?_) ?_
      · simp -implicitDefEqProofs only [go_sem]
      · rintro j _ τ2 hj0 hj1 hH2 L2 hL2
        by_cases hj2 : j < u.length
        · have hm2 := hm.2 _ (at0_mem u hj0 hj2)
          have hS := sameRoute_calls (at0 u j) (at0 v j) hm2
          simp -implicitDefEqProofs only [go_sem]
          (repeat' (first|(refine g_s fun K hK=>?_)|(refine g_b ?_)|(refine g_r ?_)|(refine g_k ?_;simp only[thenQ,blockQ])|(refine g_e ?_;simp only[thenQ,blockQ,↓reduceIte,Nat.reduceEqDiff])|(refine g_c (fun h=>?_) (fun h=>?_)<;>(try simp only[go_sem] at h)<;>(try exact g_f))|((first|refine g_t ?_|refine g_g ?_|refine g_U ?_|refine g_A ?_|refine (hS _).use ?_|refine g_q (fun τ=>hS _) ?_|refine g_W ?_);(try simp -implicitDefEqProofs only[go_sem,hu, hv]))|(with_reducible refine hK _ _ ?_;clear hK K)|(clear hK K;first|(with_reducible refine hK _ _ ?_;clear hK K)|(clear hK K;with_reducible refine hK _ _ ?_;clear hK K)|(clear hK K;clear hK K;with_reducible refine hK _ _ ?_;clear hK K))|(with_reducible refine splitB_intro (fun h=>?_) (fun h=>?_)<;>(try simp only[go_sem] at h)<;>(try exact g_f)<;>(try simp -implicitDefEqProofs only[go_sem,hu, hv]))|(with_reducible refine And.intro (fun h=>?_) (fun h=>?_)<;>(try simp only[go_sem] at h)<;>(try exact g_f))|(with_reducible refine And.intro ?_ ?_;· exact g_x)|(with_reducible intro h;(try simp only[go_sem] at h);(try exact g_f))))
          · have hne : at0 u j ≠ at0 v j := by simpa using h
            rw [decide_eq_false (fun e : a = b => hne (by rw [← hu, ← hv, e]))]
          · have heq : at0 u j = at0 v j := by simpa using h
            refine hL2 hj2 () [] _ _ ?_ (ALe_of ?_) rfl
            · intro i h1 h2
              rcases Int.lt_or_eq_of_le (Int.le_of_lt_add_one h2) with h3 | h3
              · exact hH2 i h1 h3
              · rw [h3]; exact heq
            · simp -implicitDefEqProofs only [go_sem]
        · have heq : u = v := at0_eq huv fun i h1 h2 => hH2 i h1 (by omega)
          simp -implicitDefEqProofs only [go_sem]
          (repeat' (first|(refine g_s fun K hK=>?_)|(refine g_b ?_)|(refine g_r ?_)|(refine g_k ?_;simp only[thenQ,blockQ])|(refine g_e ?_;simp only[thenQ,blockQ,↓reduceIte,Nat.reduceEqDiff])|(refine g_c (fun h=>?_) (fun h=>?_)<;>(try simp only[go_sem] at h)<;>(try exact g_f))|((first|refine g_t ?_|refine g_g ?_|refine g_U ?_|refine g_A ?_|refine g_W ?_);(try simp -implicitDefEqProofs only[go_sem,hu]))|(with_reducible refine hK _ _ ?_;clear hK K)|(clear hK K;first|(with_reducible refine hK _ _ ?_;clear hK K)|(clear hK K;with_reducible refine hK _ _ ?_;clear hK K)|(clear hK K;clear hK K;with_reducible refine hK _ _ ?_;clear hK K))|(with_reducible refine splitB_intro (fun h=>?_) (fun h=>?_)<;>(try simp only[go_sem] at h)<;>(try exact g_f)<;>(try simp -implicitDefEqProofs only[go_sem,hu]))|(with_reducible refine And.intro (fun h=>?_) (fun h=>?_)<;>(try simp only[go_sem] at h)<;>(try exact g_f))|(with_reducible refine And.intro ?_ ?_;· exact g_x)|(with_reducible intro h;(try simp only[go_sem] at h);(try exact g_f))))
          refine hJ _ _ ?_
          clear hJ
          (repeat' (first|(refine g_s fun K hK=>?_)|(refine g_b ?_)|(refine g_r ?_)|(refine g_k ?_;simp only[thenQ,blockQ])|(refine g_e ?_;simp only[thenQ,blockQ,↓reduceIte,Nat.reduceEqDiff])|(refine g_c (fun h=>?_) (fun h=>?_)<;>(try simp only[go_sem] at h)<;>(try exact g_f))|((first|refine g_t ?_|refine g_g ?_|refine g_U ?_|refine g_A ?_|refine g_W ?_);(try simp -implicitDefEqProofs only[go_sem]))|(with_reducible refine hK _ _ ?_;clear hK K)|(clear hK K;first|(with_reducible refine hK _ _ ?_;clear hK K)|(clear hK K;with_reducible refine hK _ _ ?_;clear hK K)|(clear hK K;clear hK K;with_reducible refine hK _ _ ?_;clear hK K))|(with_reducible refine splitB_intro (fun h=>?_) (fun h=>?_)<;>(try simp only[go_sem] at h)<;>(try exact g_f)<;>(try simp -implicitDefEqProofs only[go_sem]))|(with_reducible refine And.intro (fun h=>?_) (fun h=>?_)<;>(try simp only[go_sem] at h)<;>(try exact g_f))|(with_reducible refine And.intro ?_ ?_;· exact g_x)|(with_reducible intro h;(try simp only[go_sem] at h);(try exact g_f))))
          refine hL hk2 () [] _ _ ?_ (ALe_of ?_) rfl
          · intro i h1 h2
            rcases Int.lt_or_eq_of_le (Int.le_of_lt_add_one h2) with h3 | h3
            · exact hH i h1 h3
            · rw [h3, hu, hv]; exact heq
          · simp -implicitDefEqProofs only [go_sem]
    · simp -implicitDefEqProofs only [go_sem]
      (repeat' (first|(refine g_s fun K hK=>?_)|(refine g_b ?_)|(refine g_r ?_)|(refine g_k ?_;simp only[thenQ,blockQ])|(refine g_e ?_;simp only[thenQ,blockQ,↓reduceIte,Nat.reduceEqDiff])|(refine g_c (fun h=>?_) (fun h=>?_)<;>(try simp only[go_sem] at h)<;>(try exact g_f))|((first|refine g_t ?_|refine g_g ?_|refine g_U ?_|refine g_A ?_|refine g_W ?_);(try simp -implicitDefEqProofs only[go_sem]))|(with_reducible refine hK _ _ ?_;clear hK K)|(clear hK K;first|(with_reducible refine hK _ _ ?_;clear hK K)|(clear hK K;with_reducible refine hK _ _ ?_;clear hK K)|(clear hK K;clear hK K;with_reducible refine hK _ _ ?_;clear hK K))|(with_reducible refine splitB_intro (fun h=>?_) (fun h=>?_)<;>(try simp only[go_sem] at h)<;>(try exact g_f)<;>(try simp -implicitDefEqProofs only[go_sem]))|(with_reducible refine And.intro (fun h=>?_) (fun h=>?_)<;>(try simp only[go_sem] at h)<;>(try exact g_f))|(with_reducible refine And.intro ?_ ?_;· exact g_x)|(with_reducible intro h;(try simp only[go_sem] at h);(try exact g_f))))
      rw [decide_eq_true (at0_eq hle fun i h1 h2 => hH i h1 (by omega) : a = b)]

def inv2 : List (List Rt) := [[⟨2, []⟩, ⟨2, []⟩], [⟨2, []⟩, ⟨2, []⟩]]
def end2 : List (List Rt) := [[⟨0, [0]⟩, ⟨1, [0, 1]⟩], [⟨1, [1, 0]⟩, ⟨0, [1]⟩]]
def invV : AV := .sl [[.sl [[intA1 2, .c (.slice none 0 0)], [intA1 2, .c (.slice none 0 0)]]], [.sl [[intA1 2, .c (.slice none 0 0)], [intA1 2, .c (.slice none 0 0)]]]]

theorem inv2_ok : RtsOk inv2 := ⟨by decide, fun r hr => by
  have : r = [⟨2, []⟩, ⟨2, []⟩] := by
    rcases List.mem_cons.1 hr with rfl | hr
    · rfl
    · exact List.mem_singleton.1 hr
  subst this
  refine ⟨by decide, fun t ht => ?_⟩
  have : t = ⟨2, []⟩ := by
    rcases List.mem_cons.1 ht with rfl | ht
    · rfl
    · exact List.mem_singleton.1 ht
  subst this
  exact ⟨by unfold I64; decide, by decide⟩⟩
theorem inv2_fit : fitPErr twoN inv2 = 0 := by decide +kernel
theorem inv2_settle : settlePA twoN inv2 10 = ((end2, 2), 0) := by
  have h : settleP twoN 10 0 inv2 = (end2, 2) := by decide +kernel
  rw [settlePA, if_neg (not_not_intro inv2_fit), if_pos (by decide)]
  show (settleP twoN 10 0 inv2, (0 : Int)) = _
  rw [h]

theorem inv2_deep (S : Store) : Deep S (· ∈ ([] : List Nat)) invV (rtsC inv2) := by
  have row : DeepL S (· ∈ ([] : List Nat)) [.sl [[intA1 2, .c (.slice none 0 0)], [intA1 2, .c (.slice none 0 0)]]] [.sl [rtC ⟨2, []⟩, rtC ⟨2, []⟩]] :=
    .cons (.slR (.cons (.cons (.same _) (.cons .nil .nil)) (.cons (.cons (.same _) (.cons .nil .nil)) .nil))) .nil
  exact .slR (.cons row (.cons row .nil))

theorem pathBegun_calls (σ : Store) : ACalls Try.prog 44 [] σ fun r σ' => σ' = σ ∧ r = .c (.bool true) := by
  have hkl : ∀ S : Store, killL [] S = S := fun _ => rfl
  have hS : ∀ S, ACalls Try.prog 40 [.agg (netC twoN), invV, intA1 10] S fun r σ' => σ' = S ∧ r = .tup [rtsC end2, intA1 2, intA1 0] := fun S => by
    have h := pathSettle_calls twoN inv2 10 twoN_ok inv2_ok (by unfold I64; decide) S
    rw [inv2_settle] at h
    exact ACalls.useD [] S (by have := StDeep.kill [] S; rwa [hkl] at this) (.cons (.same _) (.cons (inv2_deep S) (.cons (.same _) .nil))) h
  have hF : ∀ S, ACalls Try.prog 45 [.agg (netC twoN), invV] S fun r σ' => σ' = S ∧ r = intA1 0 := fun S => by
    have h := fitP_calls twoN inv2 twoN_ok inv2_ok S
    rw [inv2_fit] at h
    exact ACalls.useD [] S (by have := StDeep.kill [] S; rwa [hkl] at this) (.cons (.same _) (.cons (inv2_deep S) .nil)) h
  have hE : ∀ S, ACalls Try.prog 102 [.agg (rtC ⟨1, [0, 1]⟩), .agg (rtC ⟨1, [0, 1]⟩)] S fun r σ' => σ' = S ∧ r = .c (.bool true) := fun S => sameRoute_calls ⟨1, [0, 1]⟩ ⟨1, [0, 1]⟩ (by decide) S
  unfold invV at hS hF
  have a0 : at0 end2 0 = [⟨0, [0]⟩, ⟨1, [0, 1]⟩] := rfl
  have a1 : at0 ([⟨0, [0]⟩, ⟨1, [0, 1]⟩] : List Rt) 1 = ⟨1, [0, 1]⟩ := rfl
  have l1 : end2.length = 2 := rfl
  refine ACalls.cutX ?_
  refine ACalls_of_awp Try.func44 rfl Try.results44 ?_
  simp only [List.length_cons, List.length_nil, Try.ntmps44, Nat.reduceAdd, Nat.reduceSub, enterA]
  (repeat' (first|(refine g_s fun K hK=>?_)|(refine g_b ?_)|(refine g_r ?_)|(refine g_k ?_;simp only[thenQ,blockQ])|(refine g_e ?_;simp only[thenQ,blockQ,↓reduceIte,Nat.reduceEqDiff])|(refine g_c (fun h=>?_) (fun h=>?_)<;>(try simp only[go_sem] at h)<;>(try exact g_f))|((first|refine g_t ?_|refine g_G ?_|refine g_U ?_|refine g_A ?_|refine (two_calls _).use ?_|refine g_q (fun τ=>two_calls _) ?_|refine (hS _).use ?_|refine g_q (fun τ=>hS _) ?_|refine (hF _).use ?_|refine g_q (fun τ=>hF _) ?_|refine (hE _).use ?_|refine g_q (fun τ=>hE _) ?_|refine g_W ?_);(try simp -implicitDefEqProofs only[go_sem,a0, a1, l1]))|(with_reducible refine hK _ _ ?_;clear hK K)|(clear hK K;first|(with_reducible refine hK _ _ ?_;clear hK K)|(clear hK K;with_reducible refine hK _ _ ?_;clear hK K)|(clear hK K;clear hK K;with_reducible refine hK _ _ ?_;clear hK K))|(with_reducible refine splitB_intro (fun h=>?_) (fun h=>?_)<;>(try simp only[go_sem] at h)<;>(try exact g_f)<;>(try simp -implicitDefEqProofs only[go_sem,a0, a1, l1]))|(with_reducible refine And.intro (fun h=>?_) (fun h=>?_)<;>(try simp only[go_sem] at h)<;>(try exact g_f))|(with_reducible refine And.intro ?_ ?_;· exact g_x)|(with_reducible intro h;(try simp only[go_sem] at h);(try exact g_f))))
  exact CutQ_c (τ := []) (by simp) rfl

end Go.Proofs.Ytephecognbbaoab
