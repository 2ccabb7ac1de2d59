/- Cycles of schedules: as the document counts them. -/
import Derived.Test.YtephecognbbaoabYe
namespace Go.Proofs.Ytephecognbbaoab
open Go
set_option linter.all false
set_option maxRecDepth 100000
set_option maxHeartbeats 4000000

theorem used_calls (n : Net) (u : Trn) (k i to : Int) (hn : NetIn n) (hu : TrnIn n u) (hk0 : 0 ≤ k) (hk1 : k ≤ 1000) (hi0 : 0 ≤ i) (hi1 : i < n.nodes) (ht0 : 0 ≤ to) (ht1 : to < n.nodes) (σ : Store) :
    ACalls Try.prog 90 [.agg (trnC u), intA1 (k + 1), intA1 i, intA1 to] σ fun r σ' => σ' = σ ∧ r = intA1 (usedA u k i to) := by
  have hgl := hu.len
  have hgr := hu.row _ (at0_mem u.ages hi0 (by omega))
  have hag := at2_age hu ⟨hi0, hi1⟩ ⟨ht0, ht1⟩
  obtain ⟨g, hg⟩ : ∃ g, at0 (at0 u.ages i) to = g := ⟨_, rfl⟩
  have hag2 : 1 ≤ g ∧ g ≤ 20 := by rw [← hg]; exact hag
  have hus : usedA u k i to = max 0 (k + 1 - g) := by rw [← hg]; rfl
  rw [hus]
  refine ACalls.cutX ?_
  refine ACalls_of_awp Try.func90 rfl Try.results90 ?_
  simp only [List.length_cons, List.length_nil, Try.ntmps90, Nat.reduceAdd, Nat.reduceSub, enterA]
  refine AWP_seq_k fun K hK => ?_
  (refine AWP_region ?_; simp -implicitDefEqProofs only [go_sem])
  refine hK _ _ ?_; clear hK K
  refine AWP_freezeP 4 rfl (by simp only [st0]; rfl) ?_
  simp only [ss0, List.set_cons_zero]
  (repeat' (first|(refine g_s fun K hK=>?_)|(refine g_b ?_)|(refine g_r ?_)|(refine g_k ?_;simp only[thenQ,blockQ])|(refine g_e ?_;simp only[thenQ,blockQ,↓reduceIte,Nat.reduceEqDiff])|(refine g_c (fun h=>?_) (fun h=>?_)<;>(try simp only[go_sem] at h)<;>(try exact g_f))|((first|refine g_t ?_|refine g_g ?_|refine g_U ?_|refine g_A ?_|refine g_W ?_);(try simp -implicitDefEqProofs only[go_sem,hg]))|(with_reducible refine hK _ _ ?_;clear hK K)|(clear hK K;first|(with_reducible refine hK _ _ ?_;clear hK K)|(clear hK K;with_reducible refine hK _ _ ?_;clear hK K)|(clear hK K;clear hK K;with_reducible refine hK _ _ ?_;clear hK K))|(with_reducible refine splitB_intro (fun h=>?_) (fun h=>?_)<;>(try simp only[go_sem] at h)<;>(try exact g_f)<;>(try simp -implicitDefEqProofs only[go_sem,hg]))|(with_reducible refine And.intro (fun h=>?_) (fun h=>?_)<;>(try simp only[go_sem] at h)<;>(try exact g_f))|(with_reducible refine And.intro ?_ ?_;· exact g_x)|(with_reducible intro h;(try simp only[go_sem] at h);(try exact g_f))))
  · exact CutQ_c rfl (by rw [show max 0 (k + 1 - g) = 0 by omega])
  · exact CutQ_c rfl (by rw [show max 0 (k + 1 - g) = k + 1 - g by omega])

theorem uses_calls (n : Net) (t : List Trn) (k e : Int) (u : Trn) (hn : NetIn n) (hl : n.links.length ≤ 5864062014634) (htl : t.length ≤ 200) (hk0 : 0 ≤ k) (hk1 : k < t.length) (hu : TrnIn n u) (he : at0 t k = u) (σ : Store) :
    ACalls Try.prog 93 [.agg (netC n), trnsA t, intA1 (k + 1), intA1 e] σ fun r σ' => σ' = σ ∧ r = .c (.bool (usesA n u k e)) := by
  have n1 := hn.n1
  have n6 := hn.n6
  have hal := hu.act
  have hkk : k + 1 - 1 = k := by omega
  refine ACalls.cutX ?_
  refine ACalls_of_awp Try.func93 rfl Try.results93 ?_
  simp only [List.length_cons, List.length_nil, Try.ntmps93, Nat.reduceAdd, Nat.reduceSub, enterA]
  refine AWP_seq_k fun K hK => ?_
  (refine AWP_region ?_; simp -implicitDefEqProofs only [go_sem])
  refine hK _ _ ?_; clear hK K
  refine AWP_freezeP 4 rfl (by simp only [st0]; rfl) ?_
  simp only [ss0, List.set_cons_zero]
  (repeat' (first|(refine g_s fun K hK=>?_)|(refine g_b ?_)|(refine g_r ?_)|(refine g_k ?_;simp only[thenQ,blockQ])|(refine g_e ?_;simp only[thenQ,blockQ,↓reduceIte,Nat.reduceEqDiff])|(refine g_c (fun h=>?_) (fun h=>?_)<;>(try simp only[go_sem] at h)<;>(try exact g_f))|((first|refine g_t ?_|refine g_g ?_|refine g_U ?_|refine g_A ?_|refine g_W ?_);(try simp -implicitDefEqProofs only[go_sem]))|(with_reducible refine hK _ _ ?_;clear hK K)|(clear hK K;first|(with_reducible refine hK _ _ ?_;clear hK K)|(clear hK K;with_reducible refine hK _ _ ?_;clear hK K)|(clear hK K;clear hK K;with_reducible refine hK _ _ ?_;clear hK K))|(with_reducible refine splitB_intro (fun h=>?_) (fun h=>?_)<;>(try simp only[go_sem] at h)<;>(try exact g_f)<;>(try simp -implicitDefEqProofs only[go_sem]))|(with_reducible refine And.intro (fun h=>?_) (fun h=>?_)<;>(try simp only[go_sem] at h)<;>(try exact g_f))|(with_reducible refine And.intro ?_ ?_;· exact g_x)|(with_reducible intro h;(try simp only[go_sem] at h);(try exact g_f))))
  have hJ := hK
  clear hK
  refine AWP_each (ints n.nodes) (fun _ r _ => usesA n u k e = r.any fun i => (ints n.nodes).any fun to => at0 u.act i && (decide (0 ≤ edgeOf n i to) && decide (usedA u k i to < e))) (fun i _ _ => [(9, intA1 i)]) (fun _ _ _ => σ ++ [.dead]) () [] rfl rfl (ALe_of ?_) ?_ ?_
  · simp -implicitDefEqProofs only [go_sem]
  · rintro i r _ τ hi0 hi1 h3 L hL
    rw [ints_length] at hi1
    rw [at0_ints hi0 (by omega), List.any_cons] at h3
    obtain ⟨a, ha⟩ : ∃ a, at0 u.act i = a := ⟨_, rfl⟩
    rw [ha] at h3
    simp -implicitDefEqProofs only [go_sem]
    (repeat' (first|(refine g_s fun K hK=>?_)|(refine g_b ?_)|(refine g_r ?_)|(refine g_k ?_;simp only[thenQ,blockQ])|(refine g_e ?_;simp only[thenQ,blockQ,↓reduceIte,Nat.reduceEqDiff])|(refine g_c (fun h=>?_) (fun h=>?_)<;>(try simp only[go_sem] at h)<;>(try exact g_f))|((first|refine g_t ?_|refine g_g ?_|refine g_U ?_|refine g_A ?_|refine g_W ?_);(try simp -implicitDefEqProofs only[go_sem]))|(with_reducible refine hK _ _ ?_;clear hK K)|(clear hK K;first|(with_reducible refine hK _ _ ?_;clear hK K)|(clear hK K;with_reducible refine hK _ _ ?_;clear hK K)|(clear hK K;clear hK K;with_reducible refine hK _ _ ?_;clear hK K))|(with_reducible refine splitB_intro (fun h=>?_) (fun h=>?_)<;>(try simp only[go_sem] at h)<;>(try exact g_f)<;>(try simp -implicitDefEqProofs only[go_sem]))|(with_reducible refine And.intro (fun h=>?_) (fun h=>?_)<;>(try simp only[go_sem] at h)<;>(try exact g_f))|(with_reducible refine And.intro ?_ ?_;· exact g_x)|(with_reducible intro h;(try simp only[go_sem] at h);(try exact g_f))))
    have hJ2 := hK
    clear hK
    refine AWP_each (ints n.nodes) (fun _ r9 _ => ((ints n.nodes).any fun to => a && (decide (0 ≤ edgeOf n i to) && decide (usedA u k i to < e))) = r9.any fun to => a && (decide (0 ≤ edgeOf n i to) && decide (usedA u k i to < e))) (fun to _ _ => [(10, intA1 to)]) (fun _ _ _ => σ ++ [.dead]) () [] rfl rfl (ALe_of ?_) ?_ ?_
    · simp -implicitDefEqProofs only [go_sem]
    · rintro to r9 _ τ9 ht0 ht1 h4 L2 hL2
      rw [ints_length] at ht1
      rw [at0_ints ht0 (by omega), List.any_cons] at h4
      have hU := used_calls n u k i to hn hu hk0 (by omega) hi0 (by omega) ht0 (by omega)
      obtain ⟨g, hg⟩ : ∃ g, edgeOf n i to = g := ⟨_, rfl⟩
      have hE := edgeOf_calls n i to hl
      obtain ⟨s, hs⟩ : ∃ s, usedA u k i to = s := ⟨_, rfl⟩
      rw [hg] at hE h4
      rw [hs] at hU h4
      simp -implicitDefEqProofs only [go_sem]
      cases a
      · rw [Bool.false_and, Bool.false_or] at h4
        (repeat' (first|(refine g_s fun K hK=>?_)|(refine g_b ?_)|(refine g_r ?_)|(refine g_k ?_;simp only[thenQ,blockQ])|(refine g_e ?_;simp only[thenQ,blockQ,↓reduceIte,Nat.reduceEqDiff])|(refine g_c (fun h=>?_) (fun h=>?_)<;>(try simp only[go_sem] at h)<;>(try exact g_f))|((first|refine g_t ?_|refine g_g ?_|refine g_U ?_|refine g_A ?_|refine g_W ?_);(try simp -implicitDefEqProofs only[go_sem,hkk, he, ha]))|(with_reducible refine hK _ _ ?_;clear hK K)|(clear hK K;first|(with_reducible refine hK _ _ ?_;clear hK K)|(clear hK K;with_reducible refine hK _ _ ?_;clear hK K)|(clear hK K;clear hK K;with_reducible refine hK _ _ ?_;clear hK K))|(with_reducible refine splitB_intro (fun h=>?_) (fun h=>?_)<;>(try simp only[go_sem] at h)<;>(try exact g_f)<;>(try simp -implicitDefEqProofs only[go_sem,hkk, he, ha]))|(with_reducible refine And.intro (fun h=>?_) (fun h=>?_)<;>(try simp only[go_sem] at h)<;>(try exact g_f))|(with_reducible refine And.intro ?_ ?_;· exact g_x)|(with_reducible intro h;(try simp only[go_sem] at h);(try exact g_f))))
        refine hL2 () [] _ _ h4 (ALe_of ?_) rfl
        simp -implicitDefEqProofs only [go_sem]
      · rw [Bool.true_and] at h4
        by_cases hg0 : 0 ≤ g
        · by_cases hse : s < e
          · rw [decide_eq_true hg0, decide_eq_true hse, Bool.and_self, Bool.true_or] at h4
            (repeat' (first|(refine g_s fun K hK=>?_)|(refine g_b ?_)|(refine g_r ?_)|(refine g_k ?_;simp only[thenQ,blockQ])|(refine g_e ?_;simp only[thenQ,blockQ,↓reduceIte,Nat.reduceEqDiff])|(refine g_c (fun h=>?_) (fun h=>?_)<;>(try simp only[go_sem] at h)<;>(try exact g_f))|((first|refine g_t ?_|refine g_g ?_|refine g_U ?_|refine g_A ?_|refine (hE _).use ?_|refine g_q (fun τ=>hE _) ?_|refine (hU _).use ?_|refine g_q (fun τ=>hU _) ?_|refine g_W ?_);(try simp -implicitDefEqProofs only[go_sem,hkk, he, ha]))|(with_reducible refine hK _ _ ?_;clear hK K)|(clear hK K;first|(with_reducible refine hK _ _ ?_;clear hK K)|(clear hK K;with_reducible refine hK _ _ ?_;clear hK K)|(clear hK K;clear hK K;with_reducible refine hK _ _ ?_;clear hK K))|(with_reducible refine splitB_intro (fun h=>?_) (fun h=>?_)<;>(try simp only[go_sem] at h)<;>(try exact g_f)<;>(try simp -implicitDefEqProofs only[go_sem,hkk, he, ha]))|(with_reducible refine And.intro (fun h=>?_) (fun h=>?_)<;>(try simp only[go_sem] at h)<;>(try exact g_f))|(with_reducible refine And.intro ?_ ?_;· exact g_x)|(with_reducible intro h;(try simp only[go_sem] at h);(try exact g_f))))
            refine CutQ_c rfl ?_
            rw [h3, h4, Bool.true_or]
          · rw [decide_eq_true hg0, decide_eq_false hse, Bool.and_false, Bool.false_or] at h4
            (repeat' (first|(refine g_s fun K hK=>?_)|(refine g_b ?_)|(refine g_r ?_)|(refine g_k ?_;simp only[thenQ,blockQ])|(refine g_e ?_;simp only[thenQ,blockQ,↓reduceIte,Nat.reduceEqDiff])|(refine g_c (fun h=>?_) (fun h=>?_)<;>(try simp only[go_sem] at h)<;>(try exact g_f))|((first|refine g_t ?_|refine g_g ?_|refine g_U ?_|refine g_A ?_|refine (hE _).use ?_|refine g_q (fun τ=>hE _) ?_|refine (hU _).use ?_|refine g_q (fun τ=>hU _) ?_|refine g_W ?_);(try simp -implicitDefEqProofs only[go_sem,hkk, he, ha]))|(with_reducible refine hK _ _ ?_;clear hK K)|(clear hK K;first|(with_reducible refine hK _ _ ?_;clear hK K)|(clear hK K;with_reducible refine hK _ _ ?_;clear hK K)|(clear hK K;clear hK K;with_reducible refine hK _ _ ?_;clear hK K))|(with_reducible refine splitB_intro (fun h=>?_) (fun h=>?_)<;>(try simp only[go_sem] at h)<;>(try exact g_f)<;>(try simp -implicitDefEqProofs only[go_sem,hkk, he, ha]))|(with_reducible refine And.intro (fun h=>?_) (fun h=>?_)<;>(try simp only[go_sem] at h)<;>(try exact g_f))|(with_reducible refine And.intro ?_ ?_;· exact g_x)|(with_reducible intro h;(try simp only[go_sem] at h);(try exact g_f))))
            refine hL2 () [] _ _ h4 (ALe_of ?_) rfl
            simp -implicitDefEqProofs only [go_sem]
        · rw [decide_eq_false hg0, Bool.false_and, Bool.false_or] at h4
          (repeat' (first|(refine g_s fun K hK=>?_)|(refine g_b ?_)|(refine g_r ?_)|(refine g_k ?_;simp only[thenQ,blockQ])|(refine g_e ?_;simp only[thenQ,blockQ,↓reduceIte,Nat.reduceEqDiff])|(refine g_c (fun h=>?_) (fun h=>?_)<;>(try simp only[go_sem] at h)<;>(try exact g_f))|((first|refine g_t ?_|refine g_g ?_|refine g_U ?_|refine g_A ?_|refine (hE _).use ?_|refine g_q (fun τ=>hE _) ?_|refine (hU _).use ?_|refine g_q (fun τ=>hU _) ?_|refine g_W ?_);(try simp -implicitDefEqProofs only[go_sem,hkk, he, ha]))|(with_reducible refine hK _ _ ?_;clear hK K)|(clear hK K;first|(with_reducible refine hK _ _ ?_;clear hK K)|(clear hK K;with_reducible refine hK _ _ ?_;clear hK K)|(clear hK K;clear hK K;with_reducible refine hK _ _ ?_;clear hK K))|(with_reducible refine splitB_intro (fun h=>?_) (fun h=>?_)<;>(try simp only[go_sem] at h)<;>(try exact g_f)<;>(try simp -implicitDefEqProofs only[go_sem,hkk, he, ha]))|(with_reducible refine And.intro (fun h=>?_) (fun h=>?_)<;>(try simp only[go_sem] at h)<;>(try exact g_f))|(with_reducible refine And.intro ?_ ?_;· exact g_x)|(with_reducible intro h;(try simp only[go_sem] at h);(try exact g_f))))
          refine hL2 () [] _ _ h4 (ALe_of ?_) rfl
          simp -implicitDefEqProofs only [go_sem]
    · rintro to _ τ9 ht h4 L2
      rw [ints_length] at ht
      simp -implicitDefEqProofs only [go_sem]
      (repeat' (first|(refine g_s fun K hK=>?_)|(refine g_b ?_)|(refine g_r ?_)|(refine g_k ?_;simp only[thenQ,blockQ])|(refine g_e ?_;simp only[thenQ,blockQ,↓reduceIte,Nat.reduceEqDiff])|(refine g_c (fun h=>?_) (fun h=>?_)<;>(try simp only[go_sem] at h)<;>(try exact g_f))|((first|refine g_t ?_|refine g_g ?_|refine g_U ?_|refine g_A ?_|refine g_W ?_);(try simp -implicitDefEqProofs only[go_sem]))|(with_reducible refine hK _ _ ?_;clear hK K)|(clear hK K;first|(with_reducible refine hK _ _ ?_;clear hK K)|(clear hK K;with_reducible refine hK _ _ ?_;clear hK K)|(clear hK K;clear hK K;with_reducible refine hK _ _ ?_;clear hK K))|(with_reducible refine splitB_intro (fun h=>?_) (fun h=>?_)<;>(try simp only[go_sem] at h)<;>(try exact g_f)<;>(try simp -implicitDefEqProofs only[go_sem]))|(with_reducible refine And.intro (fun h=>?_) (fun h=>?_)<;>(try simp only[go_sem] at h)<;>(try exact g_f))|(with_reducible refine And.intro ?_ ?_;· exact g_x)|(with_reducible intro h;(try simp only[go_sem] at h);(try exact g_f))))
      refine hJ2 _ _ ?_
      clear hJ2
      (repeat' (first|(refine g_s fun K hK=>?_)|(refine g_b ?_)|(refine g_r ?_)|(refine g_k ?_;simp only[thenQ,blockQ])|(refine g_e ?_;simp only[thenQ,blockQ,↓reduceIte,Nat.reduceEqDiff])|(refine g_c (fun h=>?_) (fun h=>?_)<;>(try simp only[go_sem] at h)<;>(try exact g_f))|((first|refine g_t ?_|refine g_g ?_|refine g_U ?_|refine g_A ?_|refine g_W ?_);(try simp -implicitDefEqProofs only[go_sem]))|(with_reducible refine hK _ _ ?_;clear hK K)|(clear hK K;first|(with_reducible refine hK _ _ ?_;clear hK K)|(clear hK K;with_reducible refine hK _ _ ?_;clear hK K)|(clear hK K;clear hK K;with_reducible refine hK _ _ ?_;clear hK K))|(with_reducible refine splitB_intro (fun h=>?_) (fun h=>?_)<;>(try simp only[go_sem] at h)<;>(try exact g_f)<;>(try simp -implicitDefEqProofs only[go_sem]))|(with_reducible refine And.intro (fun h=>?_) (fun h=>?_)<;>(try simp only[go_sem] at h)<;>(try exact g_f))|(with_reducible refine And.intro ?_ ?_;· exact g_x)|(with_reducible intro h;(try simp only[go_sem] at h);(try exact g_f))))
      refine hL () [] _ _ (by rw [h3, h4]; simp) (ALe_of ?_) rfl
      simp -implicitDefEqProofs only [go_sem]
  · rintro i _ τ hi h3 L
    rw [ints_length] at hi
    simp -implicitDefEqProofs only [go_sem]
    (repeat' (first|(refine g_s fun K hK=>?_)|(refine g_b ?_)|(refine g_r ?_)|(refine g_k ?_;simp only[thenQ,blockQ])|(refine g_e ?_;simp only[thenQ,blockQ,↓reduceIte,Nat.reduceEqDiff])|(refine g_c (fun h=>?_) (fun h=>?_)<;>(try simp only[go_sem] at h)<;>(try exact g_f))|((first|refine g_t ?_|refine g_g ?_|refine g_U ?_|refine g_A ?_|refine g_W ?_);(try simp -implicitDefEqProofs only[go_sem]))|(with_reducible refine hK _ _ ?_;clear hK K)|(clear hK K;first|(with_reducible refine hK _ _ ?_;clear hK K)|(clear hK K;with_reducible refine hK _ _ ?_;clear hK K)|(clear hK K;clear hK K;with_reducible refine hK _ _ ?_;clear hK K))|(with_reducible refine splitB_intro (fun h=>?_) (fun h=>?_)<;>(try simp only[go_sem] at h)<;>(try exact g_f)<;>(try simp -implicitDefEqProofs only[go_sem]))|(with_reducible refine And.intro (fun h=>?_) (fun h=>?_)<;>(try simp only[go_sem] at h)<;>(try exact g_f))|(with_reducible refine And.intro ?_ ?_;· exact g_x)|(with_reducible intro h;(try simp only[go_sem] at h);(try exact g_f))))
    refine hJ _ _ ?_
    clear hJ
    (repeat' (first|(refine g_s fun K hK=>?_)|(refine g_b ?_)|(refine g_r ?_)|(refine g_k ?_;simp only[thenQ,blockQ])|(refine g_e ?_;simp only[thenQ,blockQ,↓reduceIte,Nat.reduceEqDiff])|(refine g_c (fun h=>?_) (fun h=>?_)<;>(try simp only[go_sem] at h)<;>(try exact g_f))|((first|refine g_t ?_|refine g_g ?_|refine g_U ?_|refine g_A ?_|refine g_W ?_);(try simp -implicitDefEqProofs only[go_sem]))|(with_reducible refine hK _ _ ?_;clear hK K)|(clear hK K;first|(with_reducible refine hK _ _ ?_;clear hK K)|(clear hK K;with_reducible refine hK _ _ ?_;clear hK K)|(clear hK K;clear hK K;with_reducible refine hK _ _ ?_;clear hK K))|(with_reducible refine splitB_intro (fun h=>?_) (fun h=>?_)<;>(try simp only[go_sem] at h)<;>(try exact g_f)<;>(try simp -implicitDefEqProofs only[go_sem]))|(with_reducible refine And.intro (fun h=>?_) (fun h=>?_)<;>(try simp only[go_sem] at h)<;>(try exact g_f))|(with_reducible refine And.intro ?_ ?_;· exact g_x)|(with_reducible intro h;(try simp only[go_sem] at h);(try exact g_f))))
    refine CutQ_c rfl ?_
    rw [h3]
    rfl

theorem metL_congr {n : Net} {s s' : List Int} (h : ∀ q, q ∈ s' ↔ q ∈ s) : metL n s' = metL n s := List.map_congr_left fun q _ => by simp [h q]

/-- As many as there are: none is left. -/
theorem met_left {n : Net} {ms : List Int} (h : Met n ms) : ((ints n.nodes).any fun i => !decide (i ∈ ms)) = !decide (n.nodes ≤ ms.length) := by
  rw [Bool.eq_iff_iff, List.any_eq_true, Bool.not_eq_true', decide_eq_false_iff_not, met_all h]
  constructor
  · rintro ⟨i, hi, h2⟩ h3
    have := mem_ints.1 hi
    simp [h3 i this.1 this.2] at h2
  · intro h2
    apply Classical.byContradiction
    intro h3
    refine h2 fun i h0 h1 => ?_
    apply Classical.byContradiction
    intro h4
    exact h3 ⟨i, mem_ints.2 ⟨h0, h1⟩, by simp [h4]⟩

theorem cyclesOf_calls (n : Net) (t : List Trn) (hc : checkN n = 0) (hl : n.links.length ≤ 5864062014634) (htl : t.length ≤ 200) (ht : ∀ u ∈ t, TrnIn n u) (σ : Store) :
    ACalls Try.prog 37 [.agg (netC n), trnsA t] σ fun r σ' => σ' = σ ∧ r = intA1 (cyclesA n t) := by
  have hn := netIn_of hc
  have n1 := hn.n1
  have n6 := hn.n6
  have hnn : ((n.nodes.toNat : Nat) : Int) = n.nodes := by omega
  obtain ⟨V, hV⟩ : ∃ V, cyclesA n t = V := ⟨_, rfl⟩
  rw [hV]
  refine ACalls.cutX ?_
  refine ACalls_of_awp Try.func37 rfl Try.results37 ?_
  simp only [List.length_cons, List.length_nil, Try.ntmps37, Nat.reduceAdd, Nat.reduceSub, enterA]
  refine AWP_seq_k fun K hK => ?_
  (refine AWP_region ?_; simp -implicitDefEqProofs only [go_sem])
  refine hK _ _ ?_; clear hK K
  refine AWP_freezeP 2 rfl (by simp only [st0]; rfl) ?_
  simp only [ss0, List.set_cons_zero]
  (repeat' (first|(refine g_s fun K hK=>?_)|(refine g_b ?_)|(refine g_r ?_)|(refine g_k ?_;simp only[thenQ,blockQ])|(refine g_e ?_;simp only[thenQ,blockQ,↓reduceIte,Nat.reduceEqDiff])|(refine g_c (fun h=>?_) (fun h=>?_)<;>(try simp only[go_sem] at h)<;>(try exact g_f))|((first|refine g_t ?_|refine g_g ?_|refine g_U ?_|refine g_A ?_|refine g_W ?_);(try simp -implicitDefEqProofs only[go_sem]))|(with_reducible refine hK _ _ ?_;clear hK K)|(clear hK K;first|(with_reducible refine hK _ _ ?_;clear hK K)|(clear hK K;with_reducible refine hK _ _ ?_;clear hK K)|(clear hK K;clear hK K;with_reducible refine hK _ _ ?_;clear hK K))|(with_reducible refine splitB_intro (fun h=>?_) (fun h=>?_)<;>(try simp only[go_sem] at h)<;>(try exact g_f)<;>(try simp -implicitDefEqProofs only[go_sem]))|(with_reducible refine And.intro (fun h=>?_) (fun h=>?_)<;>(try simp only[go_sem] at h)<;>(try exact g_f))|(with_reducible refine And.intro ?_ ?_;· exact g_x)|(with_reducible intro h;(try simp only[go_sem] at h);(try exact g_f))))
  refine AWP_for ((t.length : Int) + 1) (fun k (s : Int × Int) => cyclesF n t (t.length + 1 - k.toNat) s.1 s.2 = V ∧ k ≤ s.1 ∧ s.1 ≤ t.length ∧ 0 ≤ s.2 ∧ s.2 ≤ k) (fun _ s _ => [(6, intA1 s.1), (5, intA1 s.2)]) (fun _ _ τ => σ ++ (.dead :: τ)) (0, 0) [] (by omega) ⟨hV, by simp, by simp, by simp, by simp⟩ rfl (ALe_of ?_) ?_
  · simp -implicitDefEqProofs only [go_sem]
  · rintro k ⟨fr, many⟩ τ hk0 hk1 ⟨h3, h4, h5, h6, h7⟩ L hL
    have h4 : k ≤ fr := h4
    have h5 : fr ≤ t.length := h5
    have h6 : 0 ≤ many := h6
    have h7 : many ≤ k := h7
    have hf : t.length + 1 - k.toNat = (t.length + 1 - (k + 1).toNat) + 1 := by omega
    rw [hf, cyclesF] at h3
    have hrng := fun to => cycle_rng n1 ht (show 0 ≤ fr by omega) h5 (to := to)
    obtain ⟨E, hE⟩ : ∃ E, endF n (t.drop fr.toNat) fr [] = E := ⟨_, rfl⟩
    have hcy : cycleA n t fr = E.map fun e => doneF n e (t.drop e.toNat) e e := by rw [cycleA, hE]
    rw [hcy] at h3 hrng
    have hnone := met_none n
    simp -implicitDefEqProofs only [go_sem]
    (repeat' (first|(refine g_s fun K hK=>?_)|(refine g_b ?_)|(refine g_r ?_)|(refine g_k ?_;simp only[thenQ,blockQ])|(refine g_e ?_;simp only[thenQ,blockQ,↓reduceIte,Nat.reduceEqDiff])|(refine g_c (fun h=>?_) (fun h=>?_)<;>(try simp only[go_sem] at h)<;>(try exact g_f))|((first|refine g_t ?_|refine g_g ?_|refine g_U ?_|refine g_A ?_|refine g_W ?_);(try simp -implicitDefEqProofs only[go_sem,hnone, hnn]))|(with_reducible refine hK _ _ ?_;clear hK K)|(clear hK K;first|(with_reducible refine hK _ _ ?_;clear hK K)|(clear hK K;with_reducible refine hK _ _ ?_;clear hK K)|(clear hK K;clear hK K;with_reducible refine hK _ _ ?_;clear hK K))|(with_reducible refine splitB_intro (fun h=>?_) (fun h=>?_)<;>(try simp only[go_sem] at h)<;>(try exact g_f)<;>(try simp -implicitDefEqProofs only[go_sem,hnone, hnn]))|(with_reducible refine And.intro (fun h=>?_) (fun h=>?_)<;>(try simp only[go_sem] at h)<;>(try exact g_f))|(with_reducible refine And.intro ?_ ?_;· exact g_x)|(with_reducible intro h;(try simp only[go_sem] at h);(try exact g_f))))
    have hJ2 := hK
    clear hK
    refine AWP_for ((t.length : Int) - fr) (fun q ms => Met n ms ∧ endF n (t.drop (fr + q).toNat) (fr + q) ms = E) (fun q _ _ => [(7, intA1 (fr + q))]) (fun _ ms τ2 => σ ++ (.dead :: (τ ++ metO n ms :: τ2))) [] [] (by omega) ⟨Met.nil n, by rw [Int.add_zero]; exact hE⟩ ?_ (ALe_of ?_) ?_
    · simp [metO, hnone]
    · simp -implicitDefEqProofs only [go_sem, Int.add_zero]
    · rintro q ms τ2 hq0 hq1 ⟨hM, h8⟩ L2 hL2
      have hKb := nodup_len (by omega) hM.nd hM.mem
      have hml := metL_len n ms
      obtain ⟨e, he⟩ : ∃ e, fr + q = e := ⟨_, rfl⟩
      rw [he] at h8
      simp -implicitDefEqProofs only [go_sem, he]
      (repeat' (first|(refine g_s fun K hK=>?_)|(refine g_b ?_)|(refine g_r ?_)|(refine g_k ?_;simp only[thenQ,blockQ])|(refine g_e ?_;simp only[thenQ,blockQ,↓reduceIte,Nat.reduceEqDiff])|(refine g_c (fun h=>?_) (fun h=>?_)<;>(try simp only[go_sem] at h)<;>(try exact g_f))|((first|refine g_t ?_|refine g_g ?_|refine g_U ?_|refine g_A ?_|refine g_W ?_);(try simp -implicitDefEqProofs only[go_sem]))|(with_reducible refine hK _ _ ?_;clear hK K)|(clear hK K;first|(with_reducible refine hK _ _ ?_;clear hK K)|(clear hK K;with_reducible refine hK _ _ ?_;clear hK K)|(clear hK K;clear hK K;with_reducible refine hK _ _ ?_;clear hK K))|(with_reducible refine splitB_intro (fun h=>?_) (fun h=>?_)<;>(try simp only[go_sem] at h)<;>(try exact g_f)<;>(try simp -implicitDefEqProofs only[go_sem]))|(with_reducible refine And.intro (fun h=>?_) (fun h=>?_)<;>(try simp only[go_sem] at h)<;>(try exact g_f))|(with_reducible refine And.intro ?_ ?_;· exact g_x)|(with_reducible intro h;(try simp only[go_sem] at h);(try exact g_f))))
      have hJ3 := hK
      clear hK
      refine AWP_each (ints n.nodes) (fun _ r left => (left || r.any fun i => !decide (i ∈ ms)) = !decide (n.nodes ≤ ms.length)) (fun i left _ => [(10, intA1 i), (9, .c (.bool left))]) (fun _ _ _ => σ ++ (.dead :: (τ ++ metO n ms :: τ2))) false [] (by rw [met_left hM]; rfl) rfl (ALe_of ?_) ?_ ?_
      · simp -implicitDefEqProofs only [go_sem]
      · rintro i r left τ3 hi0 hi1 h9 L3 hL3
        rw [ints_length] at hi1
        rw [at0_ints hi0 (by omega), List.any_cons] at h9
        have hg := met_get n ms hi0 (by omega)
        simp -implicitDefEqProofs only [go_sem]
        unfold metO
        cases left
        · (repeat' (first|(refine g_s fun K hK=>?_)|(refine g_b ?_)|(refine g_r ?_)|(refine g_k ?_;simp only[thenQ,blockQ])|(refine g_e ?_;simp only[thenQ,blockQ,↓reduceIte,Nat.reduceEqDiff])|(refine g_c (fun h=>?_) (fun h=>?_)<;>(try simp only[go_sem] at h)<;>(try exact g_f))|((first|refine g_t ?_|refine g_g ?_|refine g_U ?_|refine g_A ?_|refine g_W ?_);(try simp -implicitDefEqProofs only[go_sem,hg, hml]))|(with_reducible refine hK _ _ ?_;clear hK K)|(clear hK K;first|(with_reducible refine hK _ _ ?_;clear hK K)|(clear hK K;with_reducible refine hK _ _ ?_;clear hK K)|(clear hK K;clear hK K;with_reducible refine hK _ _ ?_;clear hK K))|(with_reducible refine splitB_intro (fun h=>?_) (fun h=>?_)<;>(try simp only[go_sem] at h)<;>(try exact g_f)<;>(try simp -implicitDefEqProofs only[go_sem,hg, hml]))|(with_reducible refine And.intro (fun h=>?_) (fun h=>?_)<;>(try simp only[go_sem] at h)<;>(try exact g_f))|(with_reducible refine And.intro ?_ ?_;· exact g_x)|(with_reducible intro h;(try simp only[go_sem] at h);(try exact g_f))))
          refine hL3 (!decide (i ∈ ms)) [] _ _ (by simpa using h9) (ALe_of ?_) rfl
          simp -implicitDefEqProofs only [go_sem]
        · (repeat' (first|(refine g_s fun K hK=>?_)|(refine g_b ?_)|(refine g_r ?_)|(refine g_k ?_;simp only[thenQ,blockQ])|(refine g_e ?_;simp only[thenQ,blockQ,↓reduceIte,Nat.reduceEqDiff])|(refine g_c (fun h=>?_) (fun h=>?_)<;>(try simp only[go_sem] at h)<;>(try exact g_f))|((first|refine g_t ?_|refine g_g ?_|refine g_U ?_|refine g_A ?_|refine g_W ?_);(try simp -implicitDefEqProofs only[go_sem,hg, hml]))|(with_reducible refine hK _ _ ?_;clear hK K)|(clear hK K;first|(with_reducible refine hK _ _ ?_;clear hK K)|(clear hK K;with_reducible refine hK _ _ ?_;clear hK K)|(clear hK K;clear hK K;with_reducible refine hK _ _ ?_;clear hK K))|(with_reducible refine splitB_intro (fun h=>?_) (fun h=>?_)<;>(try simp only[go_sem] at h)<;>(try exact g_f)<;>(try simp -implicitDefEqProofs only[go_sem,hg, hml]))|(with_reducible refine And.intro (fun h=>?_) (fun h=>?_)<;>(try simp only[go_sem] at h)<;>(try exact g_f))|(with_reducible refine And.intro ?_ ?_;· exact g_x)|(with_reducible intro h;(try simp only[go_sem] at h);(try exact g_f))))
          refine hL3 true [] _ _ (by simpa using h9) (ALe_of ?_) rfl
          simp -implicitDefEqProofs only [go_sem]
      · rintro i left τ3 hi h9 L3
        rw [ints_length] at hi
        rw [List.any_nil, Bool.or_false] at h9
        simp -implicitDefEqProofs only [go_sem]
        (repeat' (first|(refine g_s fun K hK=>?_)|(refine g_b ?_)|(refine g_r ?_)|(refine g_k ?_;simp only[thenQ,blockQ])|(refine g_e ?_;simp only[thenQ,blockQ,↓reduceIte,Nat.reduceEqDiff])|(refine g_c (fun h=>?_) (fun h=>?_)<;>(try simp only[go_sem] at h)<;>(try exact g_f))|((first|refine g_t ?_|refine g_g ?_|refine g_U ?_|refine g_A ?_|refine g_W ?_);(try simp -implicitDefEqProofs only[go_sem]))|(with_reducible refine hK _ _ ?_;clear hK K)|(clear hK K;first|(with_reducible refine hK _ _ ?_;clear hK K)|(clear hK K;with_reducible refine hK _ _ ?_;clear hK K)|(clear hK K;clear hK K;with_reducible refine hK _ _ ?_;clear hK K))|(with_reducible refine splitB_intro (fun h=>?_) (fun h=>?_)<;>(try simp only[go_sem] at h)<;>(try exact g_f)<;>(try simp -implicitDefEqProofs only[go_sem]))|(with_reducible refine And.intro (fun h=>?_) (fun h=>?_)<;>(try simp only[go_sem] at h)<;>(try exact g_f))|(with_reducible refine And.intro ?_ ?_;· exact g_x)|(with_reducible intro h;(try simp only[go_sem] at h);(try exact g_f))))
        refine hJ3 _ _ ?_
        clear hJ3
        by_cases hdone : n.nodes ≤ ms.length
        · rw [decide_eq_true hdone] at h9
          have h9 : left = false := h9
          subst h9
          have hE2 : E = some e := by
            rw [← h8]
            cases t.drop e.toNat <;> rw [endF, if_pos hdone]
          rw [hE2] at h3
          have h3 : cyclesF n t (t.length + 1 - (k + 1).toNat) (doneF n e (t.drop e.toNat) e e) (many + 1) = V := h3
          obtain ⟨D, hDe⟩ : ∃ D, doneF n e (t.drop e.toNat) e e = D := ⟨_, rfl⟩
          have hDr := hrng D (by rw [hE2, Option.map_some, hDe])
          rw [hDe] at h3
          (repeat' (first|(refine g_s fun K hK=>?_)|(refine g_b ?_)|(refine g_r ?_)|(refine g_k ?_;simp only[thenQ,blockQ])|(refine g_e ?_;simp only[thenQ,blockQ,↓reduceIte,Nat.reduceEqDiff])|(refine g_c (fun h=>?_) (fun h=>?_)<;>(try simp only[go_sem] at h)<;>(try exact g_f))|((first|refine g_t ?_|refine g_g ?_|refine g_U ?_|refine g_A ?_|refine g_W ?_);(try simp -implicitDefEqProofs only[go_sem]))|(with_reducible refine hK _ _ ?_;clear hK K)|(clear hK K;first|(with_reducible refine hK _ _ ?_;clear hK K)|(clear hK K;with_reducible refine hK _ _ ?_;clear hK K)|(clear hK K;clear hK K;with_reducible refine hK _ _ ?_;clear hK K))|(with_reducible refine splitB_intro (fun h=>?_) (fun h=>?_)<;>(try simp only[go_sem] at h)<;>(try exact g_f)<;>(try simp -implicitDefEqProofs only[go_sem]))|(with_reducible refine And.intro (fun h=>?_) (fun h=>?_)<;>(try simp only[go_sem] at h)<;>(try exact g_f))|(with_reducible refine And.intro ?_ ?_;· exact g_x)|(with_reducible intro h;(try simp only[go_sem] at h);(try exact g_f))))
          refine hJ2 _ _ ?_
          clear hJ2
          (repeat' (first|(refine g_s fun K hK=>?_)|(refine g_b ?_)|(refine g_r ?_)|(refine g_k ?_;simp only[thenQ,blockQ])|(refine g_e ?_;simp only[thenQ,blockQ,↓reduceIte,Nat.reduceEqDiff])|(refine g_c (fun h=>?_) (fun h=>?_)<;>(try simp only[go_sem] at h)<;>(try exact g_f))|((first|refine g_t ?_|refine g_g ?_|refine g_U ?_|refine g_A ?_|refine g_W ?_);(try simp -implicitDefEqProofs only[go_sem]))|(with_reducible refine hK _ _ ?_;clear hK K)|(clear hK K;first|(with_reducible refine hK _ _ ?_;clear hK K)|(clear hK K;with_reducible refine hK _ _ ?_;clear hK K)|(clear hK K;clear hK K;with_reducible refine hK _ _ ?_;clear hK K))|(with_reducible refine splitB_intro (fun h=>?_) (fun h=>?_)<;>(try simp only[go_sem] at h)<;>(try exact g_f)<;>(try simp -implicitDefEqProofs only[go_sem]))|(with_reducible refine And.intro (fun h=>?_) (fun h=>?_)<;>(try simp only[go_sem] at h)<;>(try exact g_f))|(with_reducible refine And.intro ?_ ?_;· exact g_x)|(with_reducible intro h;(try simp only[go_sem] at h);(try exact g_f))))
          have hJ4 := hK
          clear hK
          refine AWP_for ((t.length : Int) - e) (fun p d => doneF n e (t.drop (e + p).toNat) (e + p) d = D) (fun p d _ => [(13, intA1 (e + p + 1)), (12, intA1 d)]) (fun _ _ _ => σ ++ (.dead :: (τ ++ metO n ms :: τ2))) e [] (by omega) (by rw [Int.add_zero]; exact hDe) rfl (ALe_of ?_) ?_
          · simp -implicitDefEqProofs only [go_sem, Int.add_zero]
          · rintro p d τ4 hp0 hp1 h10 L4 hL4
            have hep : e + (p + 1) = e + p + 1 := by omega
            rw [hep] at hL4
            obtain ⟨kk, hk⟩ : ∃ kk, e + p = kk := ⟨_, rfl⟩
            rw [hk] at h10 hL4
            simp -implicitDefEqProofs only [go_sem, hk]
            by_cases hlt : kk < t.length
            · obtain ⟨u, hu⟩ : ∃ u, at0 t kk = u := ⟨_, rfl⟩
              have hui := ht u (by rw [← hu]; exact at0_mem t (by omega) hlt)
              rw [drop_cons t (by omega) hlt hu, doneF, ← uses_eq hc] at h10
              have hU := uses_calls n t kk e u hn hl htl (by omega) hlt hui hu
              cases hus : usesA n u kk e
              · rw [hus] at hU
                rw [hus, if_neg (by decide)] at h10
                (repeat' (first|(refine g_s fun K hK=>?_)|(refine g_b ?_)|(refine g_r ?_)|(refine g_k ?_;simp only[thenQ,blockQ])|(refine g_e ?_;simp only[thenQ,blockQ,↓reduceIte,Nat.reduceEqDiff])|(refine g_c (fun h=>?_) (fun h=>?_)<;>(try simp only[go_sem] at h)<;>(try exact g_f))|((first|refine g_t ?_|refine g_g ?_|refine g_U ?_|refine g_A ?_|refine (hU _).use ?_|refine g_q (fun τ=>hU _) ?_|refine g_W ?_);(try simp -implicitDefEqProofs only[go_sem]))|(with_reducible refine hK _ _ ?_;clear hK K)|(clear hK K;first|(with_reducible refine hK _ _ ?_;clear hK K)|(clear hK K;with_reducible refine hK _ _ ?_;clear hK K)|(clear hK K;clear hK K;with_reducible refine hK _ _ ?_;clear hK K))|(with_reducible refine splitB_intro (fun h=>?_) (fun h=>?_)<;>(try simp only[go_sem] at h)<;>(try exact g_f)<;>(try simp -implicitDefEqProofs only[go_sem]))|(with_reducible refine And.intro (fun h=>?_) (fun h=>?_)<;>(try simp only[go_sem] at h)<;>(try exact g_f))|(with_reducible refine And.intro ?_ ?_;· exact g_x)|(with_reducible intro h;(try simp only[go_sem] at h);(try exact g_f))))
                refine hL4 (by omega) d [] _ _ h10 (ALe_of ?_) rfl
                simp -implicitDefEqProofs only [go_sem]
              · rw [hus] at hU
                rw [hus, if_pos rfl] at h10
                (repeat' (first|(refine g_s fun K hK=>?_)|(refine g_b ?_)|(refine g_r ?_)|(refine g_k ?_;simp only[thenQ,blockQ])|(refine g_e ?_;simp only[thenQ,blockQ,↓reduceIte,Nat.reduceEqDiff])|(refine g_c (fun h=>?_) (fun h=>?_)<;>(try simp only[go_sem] at h)<;>(try exact g_f))|((first|refine g_t ?_|refine g_g ?_|refine g_U ?_|refine g_A ?_|refine (hU _).use ?_|refine g_q (fun τ=>hU _) ?_|refine g_W ?_);(try simp -implicitDefEqProofs only[go_sem]))|(with_reducible refine hK _ _ ?_;clear hK K)|(clear hK K;first|(with_reducible refine hK _ _ ?_;clear hK K)|(clear hK K;with_reducible refine hK _ _ ?_;clear hK K)|(clear hK K;clear hK K;with_reducible refine hK _ _ ?_;clear hK K))|(with_reducible refine splitB_intro (fun h=>?_) (fun h=>?_)<;>(try simp only[go_sem] at h)<;>(try exact g_f)<;>(try simp -implicitDefEqProofs only[go_sem]))|(with_reducible refine And.intro (fun h=>?_) (fun h=>?_)<;>(try simp only[go_sem] at h)<;>(try exact g_f))|(with_reducible refine And.intro ?_ ?_;· exact g_x)|(with_reducible intro h;(try simp only[go_sem] at h);(try exact g_f))))
                refine hL4 (by omega) (kk + 1) [] _ _ h10 (ALe_of ?_) rfl
                simp -implicitDefEqProofs only [go_sem]
            · rw [List.drop_of_length_le (by omega), doneF] at h10
              subst h10
              (repeat' (first|(refine g_s fun K hK=>?_)|(refine g_b ?_)|(refine g_r ?_)|(refine g_k ?_;simp only[thenQ,blockQ])|(refine g_e ?_;simp only[thenQ,blockQ,↓reduceIte,Nat.reduceEqDiff])|(refine g_c (fun h=>?_) (fun h=>?_)<;>(try simp only[go_sem] at h)<;>(try exact g_f))|((first|refine g_t ?_|refine g_g ?_|refine g_U ?_|refine g_A ?_|refine g_W ?_);(try simp -implicitDefEqProofs only[go_sem]))|(with_reducible refine hK _ _ ?_;clear hK K)|(clear hK K;first|(with_reducible refine hK _ _ ?_;clear hK K)|(clear hK K;with_reducible refine hK _ _ ?_;clear hK K)|(clear hK K;clear hK K;with_reducible refine hK _ _ ?_;clear hK K))|(with_reducible refine splitB_intro (fun h=>?_) (fun h=>?_)<;>(try simp only[go_sem] at h)<;>(try exact g_f)<;>(try simp -implicitDefEqProofs only[go_sem]))|(with_reducible refine And.intro (fun h=>?_) (fun h=>?_)<;>(try simp only[go_sem] at h)<;>(try exact g_f))|(with_reducible refine And.intro ?_ ?_;· exact g_x)|(with_reducible intro h;(try simp only[go_sem] at h);(try exact g_f))))
              refine hJ4 _ _ ?_
              clear hJ4
              (repeat' (first|(refine g_s fun K hK=>?_)|(refine g_b ?_)|(refine g_r ?_)|(refine g_k ?_;simp only[thenQ,blockQ])|(refine g_e ?_;simp only[thenQ,blockQ,↓reduceIte,Nat.reduceEqDiff])|(refine g_c (fun h=>?_) (fun h=>?_)<;>(try simp only[go_sem] at h)<;>(try exact g_f))|((first|refine g_t ?_|refine g_g ?_|refine g_U ?_|refine g_A ?_|refine g_W ?_);(try simp -implicitDefEqProofs only[go_sem]))|(with_reducible refine hK _ _ ?_;clear hK K)|(clear hK K;first|(with_reducible refine hK _ _ ?_;clear hK K)|(clear hK K;with_reducible refine hK _ _ ?_;clear hK K)|(clear hK K;clear hK K;with_reducible refine hK _ _ ?_;clear hK K))|(with_reducible refine splitB_intro (fun h=>?_) (fun h=>?_)<;>(try simp only[go_sem] at h)<;>(try exact g_f)<;>(try simp -implicitDefEqProofs only[go_sem]))|(with_reducible refine And.intro (fun h=>?_) (fun h=>?_)<;>(try simp only[go_sem] at h)<;>(try exact g_f))|(with_reducible refine And.intro ?_ ?_;· exact g_x)|(with_reducible intro h;(try simp only[go_sem] at h);(try exact g_f))))
              refine hL (by omega) (d, many + 1) (τ ++ metO n ms :: τ2) _ _ ⟨h3, ?_, ?_, ?_, ?_⟩ (ALe_of ?_) rfl
              · show k + 1 ≤ d
                omega
              · exact hDr.2
              · show 0 ≤ many + 1
                omega
              · show many + 1 ≤ k + 1
                omega
              · simp -implicitDefEqProofs only [go_sem]
        · rw [decide_eq_false hdone] at h9
          have h9 : left = true := h9
          subst h9
          by_cases hend : e = t.length
          · have hE2 : E = none := by
              rw [← h8, List.drop_of_length_le (by omega), endF, if_neg hdone]
            rw [hE2] at h3
            have h3 : many = V := h3
            subst h3
            (repeat' (first|(refine g_s fun K hK=>?_)|(refine g_b ?_)|(refine g_r ?_)|(refine g_k ?_;simp only[thenQ,blockQ])|(refine g_e ?_;simp only[thenQ,blockQ,↓reduceIte,Nat.reduceEqDiff])|(refine g_c (fun h=>?_) (fun h=>?_)<;>(try simp only[go_sem] at h)<;>(try exact g_f))|((first|refine g_t ?_|refine g_g ?_|refine g_U ?_|refine g_A ?_|refine g_W ?_);(try simp -implicitDefEqProofs only[go_sem]))|(with_reducible refine hK _ _ ?_;clear hK K)|(clear hK K;first|(with_reducible refine hK _ _ ?_;clear hK K)|(clear hK K;with_reducible refine hK _ _ ?_;clear hK K)|(clear hK K;clear hK K;with_reducible refine hK _ _ ?_;clear hK K))|(with_reducible refine splitB_intro (fun h=>?_) (fun h=>?_)<;>(try simp only[go_sem] at h)<;>(try exact g_f)<;>(try simp -implicitDefEqProofs only[go_sem]))|(with_reducible refine And.intro (fun h=>?_) (fun h=>?_)<;>(try simp only[go_sem] at h)<;>(try exact g_f))|(with_reducible refine And.intro ?_ ?_;· exact g_x)|(with_reducible intro h;(try simp only[go_sem] at h);(try exact g_f))))
            exact CutQ_c rfl rfl
          · have hlt : e < t.length := by omega
            obtain ⟨u, hu⟩ : ∃ u, at0 t e = u := ⟨_, rfl⟩
            have hui := ht u (by rw [← hu]; exact at0_mem t (by omega) hlt)
            have hal := hui.act
            rw [drop_cons t (by omega) hlt hu, endF, if_neg hdone] at h8
            have hep : fr + (q + 1) = e + 1 := by omega
            rw [hep] at hL2
            obtain ⟨M, hMe⟩ : ∃ M, addK ms 0 u.act = M := ⟨_, rfl⟩
            rw [hMe] at h8
            have hee : e + 1 - 1 = e := by omega
            (repeat' (first|(refine g_s fun K hK=>?_)|(refine g_b ?_)|(refine g_r ?_)|(refine g_k ?_;simp only[thenQ,blockQ])|(refine g_e ?_;simp only[thenQ,blockQ,↓reduceIte,Nat.reduceEqDiff])|(refine g_c (fun h=>?_) (fun h=>?_)<;>(try simp only[go_sem] at h)<;>(try exact g_f))|((first|refine g_t ?_|refine g_g ?_|refine g_U ?_|refine g_A ?_|refine g_W ?_);(try simp -implicitDefEqProofs only[go_sem]))|(with_reducible refine hK _ _ ?_;clear hK K)|(clear hK K;first|(with_reducible refine hK _ _ ?_;clear hK K)|(clear hK K;with_reducible refine hK _ _ ?_;clear hK K)|(clear hK K;clear hK K;with_reducible refine hK _ _ ?_;clear hK K))|(with_reducible refine splitB_intro (fun h=>?_) (fun h=>?_)<;>(try simp only[go_sem] at h)<;>(try exact g_f)<;>(try simp -implicitDefEqProofs only[go_sem]))|(with_reducible refine And.intro (fun h=>?_) (fun h=>?_)<;>(try simp only[go_sem] at h)<;>(try exact g_f))|(with_reducible refine And.intro ?_ ?_;· exact g_x)|(with_reducible intro h;(try simp only[go_sem] at h);(try exact g_f))))
            refine AWP_each u.act (fun i r ms' => addK ms' i r = M ∧ Met n ms') (fun i _ _ => [(11, intA1 i)]) (fun _ ms' _ => σ ++ (.dead :: (τ ++ metO n ms' :: τ2))) ms [] ⟨hMe, hM⟩ rfl (ALe_of ?_) ?_ ?_
            · simp -implicitDefEqProofs only [go_sem]
            · rintro i r ms' τ5 hi0 hi1 ⟨h10, h11⟩ L5 hL5
              obtain ⟨a, ha⟩ : ∃ a, at0 u.act i = a := ⟨_, rfl⟩
              rw [ha] at h10
              have h10s := addK_step h10
              clear h10
              have hg := met_get n ms' hi0 (by omega)
              have hml' := metL_len n ms'
              have hin : i < n.nodes := by omega
              obtain ⟨m2, hm2⟩ : ∃ m2, (if a = true then (if i ∈ ms' then ms' else ms' ++ [i]) else ms') = m2 := ⟨_, rfl⟩
              have hmem : ∀ q, q ∈ m2 ↔ q ∈ ms' ∨ (q = i ∧ a = true) := fun q => by
                rw [← hm2]
                by_cases ha' : a = true
                · rw [if_pos ha']
                  by_cases hm : i ∈ ms'
                  · rw [if_pos hm]
                    constructor
                    · exact .inl
                    · rintro (h | ⟨rfl, _⟩)
                      · exact h
                      · exact hm
                  · rw [if_neg hm, List.mem_append, List.mem_singleton]
                    simp [ha']
                · rw [if_neg ha']
                  simp [ha']
              have hupd := met_upd n ms' m2 (k := i) (v := decide (i ∈ ms') || a) hi0 hin (by rw [Bool.eq_iff_iff]; simp [hmem]) (fun q hq => by simp [hmem, hq])
              have hmet : Met n m2 := by
                rw [← hm2]
                split
                · split
                  · exact h11
                  · rename_i hni
                    exact h11.add ⟨hi0, hin⟩ hni
                · exact h11
              rw [hm2] at h10s
              simp -implicitDefEqProofs only [go_sem]
              unfold metO
              by_cases hm : i ∈ ms'
              · rw [decide_eq_true hm, Bool.true_or] at hupd
                rw [decide_eq_true hm] at hg
                (repeat' (first|(refine g_s fun K hK=>?_)|(refine g_b ?_)|(refine g_r ?_)|(refine g_k ?_;simp only[thenQ,blockQ])|(refine g_e ?_;simp only[thenQ,blockQ,↓reduceIte,Nat.reduceEqDiff])|(refine g_c (fun h=>?_) (fun h=>?_)<;>(try simp only[go_sem] at h)<;>(try exact g_f))|((first|refine g_t ?_|refine g_g ?_|refine g_U ?_|refine g_A ?_|refine g_W ?_);(try simp -implicitDefEqProofs only[go_sem,hg, hml', hupd, hee, hu, ha]))|(with_reducible refine hK _ _ ?_;clear hK K)|(clear hK K;first|(with_reducible refine hK _ _ ?_;clear hK K)|(clear hK K;with_reducible refine hK _ _ ?_;clear hK K)|(clear hK K;clear hK K;with_reducible refine hK _ _ ?_;clear hK K))|(with_reducible refine splitB_intro (fun h=>?_) (fun h=>?_)<;>(try simp only[go_sem] at h)<;>(try exact g_f)<;>(try simp -implicitDefEqProofs only[go_sem,hg, hml', hupd, hee, hu, ha]))|(with_reducible refine And.intro (fun h=>?_) (fun h=>?_)<;>(try simp only[go_sem] at h)<;>(try exact g_f))|(with_reducible refine And.intro ?_ ?_;· exact g_x)|(with_reducible intro h;(try simp only[go_sem] at h);(try exact g_f))))
                refine hL5 m2 [] _ _ ⟨h10s, hmet⟩ (ALe_of ?_) rfl
                simp -implicitDefEqProofs only [go_sem]
              · rw [decide_eq_false hm, Bool.false_or] at hupd
                rw [decide_eq_false hm] at hg
                cases a
                · (repeat' (first|(refine g_s fun K hK=>?_)|(refine g_b ?_)|(refine g_r ?_)|(refine g_k ?_;simp only[thenQ,blockQ])|(refine g_e ?_;simp only[thenQ,blockQ,↓reduceIte,Nat.reduceEqDiff])|(refine g_c (fun h=>?_) (fun h=>?_)<;>(try simp only[go_sem] at h)<;>(try exact g_f))|((first|refine g_t ?_|refine g_g ?_|refine g_U ?_|refine g_A ?_|refine g_W ?_);(try simp -implicitDefEqProofs only[go_sem,hg, hml', hupd, hee, hu, ha]))|(with_reducible refine hK _ _ ?_;clear hK K)|(clear hK K;first|(with_reducible refine hK _ _ ?_;clear hK K)|(clear hK K;with_reducible refine hK _ _ ?_;clear hK K)|(clear hK K;clear hK K;with_reducible refine hK _ _ ?_;clear hK K))|(with_reducible refine splitB_intro (fun h=>?_) (fun h=>?_)<;>(try simp only[go_sem] at h)<;>(try exact g_f)<;>(try simp -implicitDefEqProofs only[go_sem,hg, hml', hupd, hee, hu, ha]))|(with_reducible refine And.intro (fun h=>?_) (fun h=>?_)<;>(try simp only[go_sem] at h)<;>(try exact g_f))|(with_reducible refine And.intro ?_ ?_;· exact g_x)|(with_reducible intro h;(try simp only[go_sem] at h);(try exact g_f))))
                  refine hL5 m2 [] _ _ ⟨h10s, hmet⟩ (ALe_of ?_) rfl
                  simp -implicitDefEqProofs only [go_sem]
                · (repeat' (first|(refine g_s fun K hK=>?_)|(refine g_b ?_)|(refine g_r ?_)|(refine g_k ?_;simp only[thenQ,blockQ])|(refine g_e ?_;simp only[thenQ,blockQ,↓reduceIte,Nat.reduceEqDiff])|(refine g_c (fun h=>?_) (fun h=>?_)<;>(try simp only[go_sem] at h)<;>(try exact g_f))|((first|refine g_t ?_|refine g_g ?_|refine g_U ?_|refine g_A ?_|refine g_W ?_);(try simp -implicitDefEqProofs only[go_sem,hg, hml', hupd, hee, hu, ha]))|(with_reducible refine hK _ _ ?_;clear hK K)|(clear hK K;first|(with_reducible refine hK _ _ ?_;clear hK K)|(clear hK K;with_reducible refine hK _ _ ?_;clear hK K)|(clear hK K;clear hK K;with_reducible refine hK _ _ ?_;clear hK K))|(with_reducible refine splitB_intro (fun h=>?_) (fun h=>?_)<;>(try simp only[go_sem] at h)<;>(try exact g_f)<;>(try simp -implicitDefEqProofs only[go_sem,hg, hml', hupd, hee, hu, ha]))|(with_reducible refine And.intro (fun h=>?_) (fun h=>?_)<;>(try simp only[go_sem] at h)<;>(try exact g_f))|(with_reducible refine And.intro ?_ ?_;· exact g_x)|(with_reducible intro h;(try simp only[go_sem] at h);(try exact g_f))))
                  refine hL5 m2 [] _ _ ⟨h10s, hmet⟩ (ALe_of ?_) rfl
                  simp -implicitDefEqProofs only [go_sem]
            · rintro i ms' τ5 hi ⟨h10, h11⟩ L5
              have h10 : ms' = M := h10
              subst h10
              have hin : ¬ i < n.nodes := by omega
              simp -implicitDefEqProofs only [go_sem]
              (repeat' (first|(refine g_s fun K hK=>?_)|(refine g_b ?_)|(refine g_r ?_)|(refine g_k ?_;simp only[thenQ,blockQ])|(refine g_e ?_;simp only[thenQ,blockQ,↓reduceIte,Nat.reduceEqDiff])|(refine g_c (fun h=>?_) (fun h=>?_)<;>(try simp only[go_sem] at h)<;>(try exact g_f))|((first|refine g_t ?_|refine g_g ?_|refine g_U ?_|refine g_A ?_|refine g_W ?_);(try simp -implicitDefEqProofs only[go_sem]))|(with_reducible refine hK _ _ ?_;clear hK K)|(clear hK K;first|(with_reducible refine hK _ _ ?_;clear hK K)|(clear hK K;with_reducible refine hK _ _ ?_;clear hK K)|(clear hK K;clear hK K;with_reducible refine hK _ _ ?_;clear hK K))|(with_reducible refine splitB_intro (fun h=>?_) (fun h=>?_)<;>(try simp only[go_sem] at h)<;>(try exact g_f)<;>(try simp -implicitDefEqProofs only[go_sem]))|(with_reducible refine And.intro (fun h=>?_) (fun h=>?_)<;>(try simp only[go_sem] at h)<;>(try exact g_f))|(with_reducible refine And.intro ?_ ?_;· exact g_x)|(with_reducible intro h;(try simp only[go_sem] at h);(try exact g_f))))
              refine hL2 (by omega) ms' τ2 _ _ ⟨h11, h8⟩ (ALe_of ?_) rfl
              simp -implicitDefEqProofs only [go_sem]
end Go.Proofs.Ytephecognbbaoab
