/- Routes with paths: what must be in any case; the law PathRounds. -/
import Derived.Test.YtephecognbbaoabUi
namespace Go.Proofs.Ytephecognbbaoab
open Go
set_option linter.all false
set_option maxRecDepth 100000
set_option maxHeartbeats 4000000

def inv2 : List (List Rt) := [[⟨2, []⟩, ⟨2, []⟩], [⟨2, []⟩, ⟨2, []⟩]]
def end2 : List (List Rt) := [[⟨0, [0]⟩, ⟨1, [0, 1]⟩], [⟨1, [1, 0]⟩, ⟨0, [1]⟩]]
def invV : AV := .sl [[.sl [[intA1 2, .c (.slice none 0 0)], [intA1 2, .c (.slice none 0 0)]]], [.sl [[intA1 2, .c (.slice none 0 0)], [intA1 2, .c (.slice none 0 0)]]]]

theorem inv2_ok : RtsOk inv2 := ⟨by decide, fun r hr => by
  have : r = [⟨2, []⟩, ⟨2, []⟩] := by
    rcases List.mem_cons.1 hr with rfl | hr
    · rfl
    · exact List.mem_singleton.1 hr
  subst this
  refine ⟨by decide, fun t ht => ?_⟩
  have : t = ⟨2, []⟩ := by
    rcases List.mem_cons.1 ht with rfl | ht
    · rfl
    · exact List.mem_singleton.1 ht
  subst this
  exact ⟨by unfold I64; decide, by decide⟩⟩
theorem inv2_fit : fitPErr twoN inv2 = 0 := by decide +kernel
theorem inv2_settle : settlePA twoN inv2 10 = ((end2, 2), 0) := by
  have h : settleP twoN 10 0 inv2 = (end2, 2) := by decide +kernel
  rw [settlePA, if_neg (not_not_intro inv2_fit), if_pos (by decide)]
  show (settleP twoN 10 0 inv2, (0 : Int)) = _
  rw [h]

theorem inv2_deep (S : Store) : Deep S (· ∈ ([] : List Nat)) invV (rtsC inv2) := by
  have row : DeepL S (· ∈ ([] : List Nat)) [.sl [[intA1 2, .c (.slice none 0 0)], [intA1 2, .c (.slice none 0 0)]]] [.sl [rtC ⟨2, []⟩, rtC ⟨2, []⟩]] :=
    .cons (.slR (.cons (.cons (.same _) (.cons .nil .nil)) (.cons (.cons (.same _) (.cons .nil .nil)) .nil))) .nil
  exact .slR (.cons row (.cons row .nil))

theorem pathBegun_calls (σ : Store) : ACalls Try.prog 44 [] σ fun r σ' => σ' = σ ∧ r = .c (.bool true) := by
  have hkl : ∀ S : Store, killL [] S = S := fun _ => rfl
  have hS : ∀ S, ACalls Try.prog 40 [.agg (netC twoN), invV, intA1 10] S fun r σ' => σ' = S ∧ r = .tup [rtsC end2, intA1 2, intA1 0] := fun S => by
    have h := pathSettle_calls twoN inv2 10 twoN_ok inv2_ok (by unfold I64; decide) S
    rw [inv2_settle] at h
    exact ACalls.useD [] S (by have := StDeep.kill [] S; rwa [hkl] at this) (.cons (.same _) (.cons (inv2_deep S) (.cons (.same _) .nil))) h
  have hF : ∀ S, ACalls Try.prog 45 [.agg (netC twoN), invV] S fun r σ' => σ' = S ∧ r = intA1 0 := fun S => by
    have h := fitP_calls twoN inv2 twoN_ok inv2_ok S
    rw [inv2_fit] at h
    exact ACalls.useD [] S (by have := StDeep.kill [] S; rwa [hkl] at this) (.cons (.same _) (.cons (inv2_deep S) .nil)) h
  have hE : ∀ S, ACalls Try.prog 102 [.agg (rtC ⟨1, [0, 1]⟩), .agg (rtC ⟨1, [0, 1]⟩)] S fun r σ' => σ' = S ∧ r = .c (.bool true) := fun S => sameRoute_calls ⟨1, [0, 1]⟩ ⟨1, [0, 1]⟩ (by decide) S
  unfold invV at hS hF
  have a0 : at0 end2 0 = [⟨0, [0]⟩, ⟨1, [0, 1]⟩] := rfl
  have a1 : at0 ([⟨0, [0]⟩, ⟨1, [0, 1]⟩] : List Rt) 1 = ⟨1, [0, 1]⟩ := rfl
  have l1 : end2.length = 2 := rfl
  refine ACalls.cutX ?_
  refine ACalls_of_awp Try.func44 rfl Try.results44 ?_
  simp only [List.length_cons, List.length_nil, Try.ntmps44, Nat.reduceAdd, Nat.reduceSub, enterA]
  (repeat' (first|(refine g_s fun K hK=>?_)|(refine g_b ?_)|(refine g_r ?_)|(refine g_k ?_;simp only[thenQ,blockQ])|(refine g_e ?_;simp only[thenQ,blockQ,↓reduceIte,Nat.reduceEqDiff])|(refine g_c (fun h=>?_) (fun h=>?_)<;>(try simp only[go_sem] at h)<;>(try exact g_f))|((first|refine g_t ?_|refine g_G ?_|refine g_U ?_|refine g_A ?_|refine (two_calls _).use ?_|refine g_q (fun τ=>two_calls _) ?_|refine (hS _).use ?_|refine g_q (fun τ=>hS _) ?_|refine (hF _).use ?_|refine g_q (fun τ=>hF _) ?_|refine (hE _).use ?_|refine g_q (fun τ=>hE _) ?_|refine g_W ?_);(try simp -implicitDefEqProofs only[go_sem,a0, a1, l1]))|(with_reducible refine hK _ _ ?_;clear hK K)|(clear hK K;first|(with_reducible refine hK _ _ ?_;clear hK K)|(clear hK K;with_reducible refine hK _ _ ?_;clear hK K)|(clear hK K;clear hK K;with_reducible refine hK _ _ ?_;clear hK K))|(with_reducible refine splitB_intro (fun h=>?_) (fun h=>?_)<;>(try simp only[go_sem] at h)<;>(try exact g_f)<;>(try simp -implicitDefEqProofs only[go_sem,a0, a1, l1]))|(with_reducible refine And.intro (fun h=>?_) (fun h=>?_)<;>(try simp only[go_sem] at h)<;>(try exact g_f))|(with_reducible refine And.intro ?_ ?_;· exact g_x)|(with_reducible intro h;(try simp only[go_sem] at h);(try exact g_f))))
  exact CutQ_c (τ := []) (by simp) rfl

theorem pathRounds_calls (n : Net) (x : List (List Rt)) (most : Int) (okn : NetOk n) (ok : RtsOk x) (hm : I64 most) (σ : Store) : ACalls Try.prog 8 [.agg (netC n), rtsC x, intA1 most] σ fun r σ' => σ' = σ ∧ r = .c (.bool true) := by
  have hl := okn.len
  have hR := pathRound_calls n x okn ok
  have hS := pathSettle_calls n x most okn ok hm
  have hF := fitP_calls n x okn ok
  have hG := fitPaths_calls n x okn ok
  have small : ∀ {y : List (List Rt)}, NetIn n → FitP n y → ∀ S, ACalls Try.prog 46 [rtsC y, rtsC y] S fun r σ' => σ' = S ∧ r = .c (.bool true) := fun {y} hn hy S => by
    have hs6 := hy.small hn
    have := samePaths_calls y y (by omega) (fun r hr => ⟨by have := (hs6.2 r hr).1; omega, fun t ht => by have := (hs6.2 r hr).2 t ht; omega⟩) S
    rwa [decide_eq_true rfl] at this
  have empty : ∀ S, ACalls Try.prog 46 [rtsC [], .c (.slice none 0 0)] S fun r σ' => σ' = S ∧ r = .c (.bool true) := fun S =>
    (samePaths_calls [] [] (by decide) (fun r hr => by cases hr) S).argW (args := [rtsC [], .c (.slice none 0 0)]) (.cons (.refl _) (.cons .nil .nil))
  refine ACalls.cutX ?_
  by_cases h0 : fitPErr n x = 0
  · obtain ⟨hc, hx⟩ := fitP_of h0
    have hn := netIn_of hc
    rw [roundPA, if_pos h0] at hR
    rw [settlePA, if_neg (not_not_intro h0)] at hS
    rw [h0] at hF hG
    have hRo := roundPaths_calls n x hn hx hl
    have hE1 := small hn (hx.round hn)
    obtain ⟨y, hy⟩ : ∃ y, roundP n x = y := ⟨_, rfl⟩
    rw [hy] at hR hRo hE1
    unfold roundPC at hR
    unfold settlePC at hS
    by_cases h1 : inR most 0 1000 = true
    · have h2 := inR_iff.1 h1
      rw [if_pos h1] at hS
      have hSP := settlePaths_calls n x most hn hx hl h2
      have key : ∀ (f : Nat) (k : Int) (x : List (List Rt)), FitP n x → FitP n (settleP n f k x).1 := by
        intro f
        induction f with
        | zero => intro k x h; exact h
        | succ f ih =>
          intro k x h
          by_cases hs : x = roundP n x
          · rw [settleP_same hs]; exact h
          · rw [settleP_next hs]; exact ih _ _ (h.round hn)
      have hE2 := small hn (key most.toNat 0 x hx)
      obtain ⟨z, hz⟩ : ∃ z, settleP n most.toNat 0 x = z := ⟨_, rfl⟩
      rw [hz] at hS hSP hE2
      refine ACalls_of_awp Try.func8 rfl Try.results8 ?_
      simp only [List.length_cons, List.length_nil, Try.ntmps8, Nat.reduceAdd, Nat.reduceSub, enterA]
      (repeat' (first|(refine g_s fun K hK=>?_)|(refine g_b ?_)|(refine g_r ?_)|(refine g_k ?_;simp only[thenQ,blockQ])|(refine g_e ?_;simp only[thenQ,blockQ,↓reduceIte,Nat.reduceEqDiff])|(refine g_c (fun h=>?_) (fun h=>?_)<;>(try simp only[go_sem] at h)<;>(try exact g_f))|((first|refine g_t ?_|refine g_g ?_|refine g_U ?_|refine g_A ?_|refine (hR _).use ?_|refine g_q (fun τ=>hR _) ?_|refine (hS _).use ?_|refine g_q (fun τ=>hS _) ?_|refine (hF _).use ?_|refine g_q (fun τ=>hF _) ?_|refine (hG _).use ?_|refine g_q (fun τ=>hG _) ?_|refine (hRo _).use ?_|refine g_q (fun τ=>hRo _) ?_|refine (hSP _).use ?_|refine g_q (fun τ=>hSP _) ?_|refine (pathBegun_calls _).use ?_|refine g_q (fun τ=>pathBegun_calls _) ?_|refine (hE1 _).use ?_|refine g_q (fun τ=>hE1 _) ?_|refine (hE2 _).use ?_|refine g_q (fun τ=>hE2 _) ?_|refine g_W ?_);(try simp -implicitDefEqProofs only[go_sem]))|(with_reducible refine hK _ _ ?_;clear hK K)|(clear hK K;first|(with_reducible refine hK _ _ ?_;clear hK K)|(clear hK K;with_reducible refine hK _ _ ?_;clear hK K)|(clear hK K;clear hK K;with_reducible refine hK _ _ ?_;clear hK K))|(with_reducible refine splitB_intro (fun h=>?_) (fun h=>?_)<;>(try simp only[go_sem] at h)<;>(try exact g_f)<;>(try simp -implicitDefEqProofs only[go_sem]))|(with_reducible refine And.intro (fun h=>?_) (fun h=>?_)<;>(try simp only[go_sem] at h)<;>(try exact g_f))|(with_reducible refine And.intro ?_ ?_;· exact g_x)|(with_reducible intro h;(try simp only[go_sem] at h);(try exact g_f))))
      all_goals (refine CutQ_c rfl ?_; simp)
    · rw [if_neg h1] at hS
      have h1' : most < 0 ∨ 1000 < most := by rw [← not_inR]; simpa using h1
      refine ACalls_of_awp Try.func8 rfl Try.results8 ?_
      simp only [List.length_cons, List.length_nil, Try.ntmps8, Nat.reduceAdd, Nat.reduceSub, enterA]
      (repeat' (first|(refine g_s fun K hK=>?_)|(refine g_b ?_)|(refine g_r ?_)|(refine g_k ?_;simp only[thenQ,blockQ])|(refine g_e ?_;simp only[thenQ,blockQ,↓reduceIte,Nat.reduceEqDiff])|(refine g_c (fun h=>?_) (fun h=>?_)<;>(try simp only[go_sem] at h)<;>(try exact g_f))|((first|refine g_t ?_|refine g_g ?_|refine g_U ?_|refine g_A ?_|refine (hR _).use ?_|refine g_q (fun τ=>hR _) ?_|refine (hS _).use ?_|refine g_q (fun τ=>hS _) ?_|refine (hF _).use ?_|refine g_q (fun τ=>hF _) ?_|refine (hG _).use ?_|refine g_q (fun τ=>hG _) ?_|refine (hRo _).use ?_|refine g_q (fun τ=>hRo _) ?_|refine (pathBegun_calls _).use ?_|refine g_q (fun τ=>pathBegun_calls _) ?_|refine (hE1 _).use ?_|refine g_q (fun τ=>hE1 _) ?_|refine (empty _).use ?_|refine g_q (fun τ=>empty _) ?_|refine g_W ?_);(try simp -implicitDefEqProofs only[go_sem]))|(with_reducible refine hK _ _ ?_;clear hK K)|(clear hK K;first|(with_reducible refine hK _ _ ?_;clear hK K)|(clear hK K;with_reducible refine hK _ _ ?_;clear hK K)|(clear hK K;clear hK K;with_reducible refine hK _ _ ?_;clear hK K))|(with_reducible refine splitB_intro (fun h=>?_) (fun h=>?_)<;>(try simp only[go_sem] at h)<;>(try exact g_f)<;>(try simp -implicitDefEqProofs only[go_sem]))|(with_reducible refine And.intro (fun h=>?_) (fun h=>?_)<;>(try simp only[go_sem] at h)<;>(try exact g_f))|(with_reducible refine And.intro ?_ ?_;· exact g_x)|(with_reducible intro h;(try simp only[go_sem] at h);(try exact g_f))))
      all_goals (refine CutQ_c rfl ?_; simp)
  · rw [roundPA, if_neg h0] at hR
    rw [settlePA, if_pos h0] at hS
    unfold roundPC at hR
    unfold settlePC at hS
    obtain ⟨e, he⟩ : ∃ e, fitPErr n x = e := ⟨_, rfl⟩
    rw [he] at h0 hR hS hF hG
    refine ACalls_of_awp Try.func8 rfl Try.results8 ?_
    simp only [List.length_cons, List.length_nil, Try.ntmps8, Nat.reduceAdd, Nat.reduceSub, enterA]
    (repeat' (first|(refine g_s fun K hK=>?_)|(refine g_b ?_)|(refine g_r ?_)|(refine g_k ?_;simp only[thenQ,blockQ])|(refine g_e ?_;simp only[thenQ,blockQ,↓reduceIte,Nat.reduceEqDiff])|(refine g_c (fun h=>?_) (fun h=>?_)<;>(try simp only[go_sem] at h)<;>(try exact g_f))|((first|refine g_t ?_|refine g_g ?_|refine g_U ?_|refine g_A ?_|refine (hR _).use ?_|refine g_q (fun τ=>hR _) ?_|refine (hS _).use ?_|refine g_q (fun τ=>hS _) ?_|refine (hF _).use ?_|refine g_q (fun τ=>hF _) ?_|refine (hG _).use ?_|refine g_q (fun τ=>hG _) ?_|refine (pathBegun_calls _).use ?_|refine g_q (fun τ=>pathBegun_calls _) ?_|refine (empty _).use ?_|refine g_q (fun τ=>empty _) ?_|refine g_W ?_);(try simp -implicitDefEqProofs only[go_sem]))|(with_reducible refine hK _ _ ?_;clear hK K)|(clear hK K;first|(with_reducible refine hK _ _ ?_;clear hK K)|(clear hK K;with_reducible refine hK _ _ ?_;clear hK K)|(clear hK K;clear hK K;with_reducible refine hK _ _ ?_;clear hK K))|(with_reducible refine splitB_intro (fun h=>?_) (fun h=>?_)<;>(try simp only[go_sem] at h)<;>(try exact g_f)<;>(try simp -implicitDefEqProofs only[go_sem]))|(with_reducible refine And.intro (fun h=>?_) (fun h=>?_)<;>(try simp only[go_sem] at h)<;>(try exact g_f))|(with_reducible refine And.intro ?_ ?_;· exact g_x)|(with_reducible intro h;(try simp only[go_sem] at h);(try exact g_f))))
    all_goals (refine CutQ_c rfl ?_; simp)
end Go.Proofs.Ytephecognbbaoab
