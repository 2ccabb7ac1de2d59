/- What a path weighs: as the program and as the document find it. -/
import Derived.Test.YtephecognbbaoabTd
import Derived.Test.YtephecognbbaoabNg
namespace Go.Proofs.Ytephecognbbaoab
open Go
set_option linter.all false
set_option maxRecDepth 100000
set_option maxHeartbeats 4000000

theorem tedge_calls (n : Net) (i k : Int) (hl : n.links.length ≤ 5864062014634) (σ : Store) : ACalls Try.prog 121 [.agg (netC n), intA1 i, intA1 k] σ fun r σ' => σ' = σ ∧ r = intA1 (edgeOf n i k) := by
  refine ACalls.cutX ?_
  refine ACalls_of_awp Try.func121 rfl Try.results121 ?_
  simp only [List.length_cons, List.length_nil, Try.ntmps121, Nat.reduceAdd, Nat.reduceSub, enterA]
  refine AWP_seq_k fun K hK => ?_
  (refine AWP_region ?_; simp -implicitDefEqProofs only [go_sem])
  refine hK _ _ ?_; clear hK K
  refine AWP_freezeP 3 rfl (by simp only [st0]; rfl) ?_
  simp only [ss0, List.set_cons_zero]
  (repeat' (first|(refine g_s fun K hK=>?_)|(refine g_b ?_)|(refine g_r ?_)|(refine g_k ?_;simp only[thenQ,blockQ])|(refine g_e ?_;simp only[thenQ,blockQ,↓reduceIte,Nat.reduceEqDiff])|(refine g_c (fun h=>?_) (fun h=>?_)<;>(try simp only[go_sem] at h)<;>(try exact g_f))|((first|refine g_t ?_|refine g_g ?_|refine g_U ?_|refine g_A ?_|refine g_W ?_);(try simp -implicitDefEqProofs only[go_sem]))|(with_reducible refine hK _ _ ?_;clear hK K)|(clear hK K;first|(with_reducible refine hK _ _ ?_;clear hK K)|(clear hK K;with_reducible refine hK _ _ ?_;clear hK K)|(clear hK K;clear hK K;with_reducible refine hK _ _ ?_;clear hK K))|(with_reducible refine splitB_intro (fun h=>?_) (fun h=>?_)<;>(try simp only[go_sem] at h)<;>(try exact g_f)<;>(try simp -implicitDefEqProofs only[go_sem]))|(with_reducible refine And.intro (fun h=>?_) (fun h=>?_)<;>(try simp only[go_sem] at h)<;>(try exact g_f))|(with_reducible refine And.intro ?_ ?_;· exact g_x)|(with_reducible intro h;(try simp only[go_sem] at h);(try exact g_f))))
  have hJ := hK
  clear hK
  refine AWP_each n.links (fun _ r _ => (n.links.find? fun l => decide (l.fr = i) && decide (l.dst = k)) = r.find? fun l => decide (l.fr = i) && decide (l.dst = k)) (fun q _ _ => [(12, intA1 q)]) (fun _ _ τ => σ ++ (.dead :: τ)) () [] rfl rfl (ALe_of ?_) ?_ ?_
  · simp -implicitDefEqProofs only [go_sem]
  · rintro q r _ τ hq0 hq1 hH L hL
    obtain ⟨l, hl⟩ : ∃ l, at0 n.links q = l := ⟨_, rfl⟩
    rw [hl] at hH
    simp -implicitDefEqProofs only [go_sem]
    (repeat' (first|(refine g_s fun K hK=>?_)|(refine g_b ?_)|(refine g_r ?_)|(refine g_k ?_;simp only[thenQ,blockQ])|(refine g_e ?_;simp only[thenQ,blockQ,↓reduceIte,Nat.reduceEqDiff])|(refine g_c (fun h=>?_) (fun h=>?_)<;>(try simp only[go_sem] at h)<;>(try exact g_f))|((first|refine g_t ?_|refine g_g ?_|refine g_U ?_|refine g_A ?_|refine g_W ?_);(try simp -implicitDefEqProofs only[go_sem,hl]))|(with_reducible refine hK _ _ ?_;clear hK K)|(clear hK K;first|(with_reducible refine hK _ _ ?_;clear hK K)|(clear hK K;with_reducible refine hK _ _ ?_;clear hK K)|(clear hK K;clear hK K;with_reducible refine hK _ _ ?_;clear hK K))|(with_reducible refine splitB_intro (fun h=>?_) (fun h=>?_)<;>(try simp only[go_sem] at h)<;>(try exact g_f)<;>(try simp -implicitDefEqProofs only[go_sem,hl]))|(with_reducible refine And.intro (fun h=>?_) (fun h=>?_)<;>(try simp only[go_sem] at h)<;>(try exact g_f))|(with_reducible refine And.intro ?_ ?_;· exact g_x)|(with_reducible intro h;(try simp only[go_sem] at h);(try exact g_f))))
    all_goals try
      (have e : (decide (l.fr = i) && decide (l.dst = k)) = true := by simp [*]
       refine CutQ_c rfl ?_
       rw [List.find?_cons_of_pos (by exact e)] at hH
       rw [edgeOf, hH]
       rfl)
    all_goals
      have e : ¬ (decide (l.fr = i) && decide (l.dst = k)) = true := by simp [*]
      rw [List.find?_cons_of_neg (by exact e)] at hH
      refine hL () (τ ++ [.cells 3 [lnkC l]]) _ _ hH (ALe_of ?_) ?_
      · simp -implicitDefEqProofs only [go_sem]
      · simp [lnkC, intA1]
  · rintro q _ τ hq hH L
    simp -implicitDefEqProofs only [go_sem]
    (repeat' (first|(refine g_s fun K hK=>?_)|(refine g_b ?_)|(refine g_r ?_)|(refine g_k ?_;simp only[thenQ,blockQ])|(refine g_e ?_;simp only[thenQ,blockQ,↓reduceIte,Nat.reduceEqDiff])|(refine g_c (fun h=>?_) (fun h=>?_)<;>(try simp only[go_sem] at h)<;>(try exact g_f))|((first|refine g_t ?_|refine g_g ?_|refine g_U ?_|refine g_A ?_|refine g_W ?_);(try simp -implicitDefEqProofs only[go_sem]))|(with_reducible refine hK _ _ ?_;clear hK K)|(clear hK K;first|(with_reducible refine hK _ _ ?_;clear hK K)|(clear hK K;with_reducible refine hK _ _ ?_;clear hK K)|(clear hK K;clear hK K;with_reducible refine hK _ _ ?_;clear hK K))|(with_reducible refine splitB_intro (fun h=>?_) (fun h=>?_)<;>(try simp only[go_sem] at h)<;>(try exact g_f)<;>(try simp -implicitDefEqProofs only[go_sem]))|(with_reducible refine And.intro (fun h=>?_) (fun h=>?_)<;>(try simp only[go_sem] at h)<;>(try exact g_f))|(with_reducible refine And.intro ?_ ?_;· exact g_x)|(with_reducible intro h;(try simp only[go_sem] at h);(try exact g_f))))
    refine hJ _ _ ?_
    clear hJ
    (repeat' (first|(refine g_s fun K hK=>?_)|(refine g_b ?_)|(refine g_r ?_)|(refine g_k ?_;simp only[thenQ,blockQ])|(refine g_e ?_;simp only[thenQ,blockQ,↓reduceIte,Nat.reduceEqDiff])|(refine g_c (fun h=>?_) (fun h=>?_)<;>(try simp only[go_sem] at h)<;>(try exact g_f))|((first|refine g_t ?_|refine g_g ?_|refine g_U ?_|refine g_A ?_|refine g_W ?_);(try simp -implicitDefEqProofs only[go_sem]))|(with_reducible refine hK _ _ ?_;clear hK K)|(clear hK K;first|(with_reducible refine hK _ _ ?_;clear hK K)|(clear hK K;with_reducible refine hK _ _ ?_;clear hK K)|(clear hK K;clear hK K;with_reducible refine hK _ _ ?_;clear hK K))|(with_reducible refine splitB_intro (fun h=>?_) (fun h=>?_)<;>(try simp only[go_sem] at h)<;>(try exact g_f)<;>(try simp -implicitDefEqProofs only[go_sem]))|(with_reducible refine And.intro (fun h=>?_) (fun h=>?_)<;>(try simp only[go_sem] at h)<;>(try exact g_f))|(with_reducible refine And.intro ?_ ?_;· exact g_x)|(with_reducible intro h;(try simp only[go_sem] at h);(try exact g_f))))
    refine CutQ_c rfl ?_
    rw [edgeOf, hH]
    rfl

theorem weigh1_calls (n : Net) (v : Int) (σ : Store) : ACalls Try.prog 120 [intA1 v, .cp (netC n) 0] σ fun r' σ' => σ' = σ ∧ r' = .c (.bool (!inR v 0 (n.nodes - 1))) := by
  refine ACalls_of_awp Try.func120 rfl Try.results120 ?_
  simp only [List.length_cons, List.length_nil, Try.ntmps120, Nat.reduceAdd, Nat.reduceSub, enterA]
  (repeat' (first|(refine g_s fun K hK=>?_)|(refine g_b ?_)|(refine g_r ?_)|(refine g_k ?_;simp only[thenQ,blockQ])|(refine g_e ?_;simp only[thenQ,blockQ,↓reduceIte,Nat.reduceEqDiff])|(refine g_c (fun h=>?_) (fun h=>?_)<;>(try simp only[go_sem] at h)<;>(try exact g_f))|((first|refine g_t ?_|refine g_g ?_|refine g_U ?_|refine g_A ?_|refine (tisNode_calls n v _).use ?_|refine g_q (fun τ=>tisNode_calls n v _) ?_|refine g_W ?_);(try simp -implicitDefEqProofs only[go_sem]))|(with_reducible refine hK _ _ ?_;clear hK K)|(clear hK K;first|(with_reducible refine hK _ _ ?_;clear hK K)|(clear hK K;with_reducible refine hK _ _ ?_;clear hK K)|(clear hK K;clear hK K;with_reducible refine hK _ _ ?_;clear hK K))|(with_reducible refine splitB_intro (fun h=>?_) (fun h=>?_)<;>(try simp only[go_sem] at h)<;>(try exact g_f)<;>(try simp -implicitDefEqProofs only[go_sem]))|(with_reducible refine And.intro (fun h=>?_) (fun h=>?_)<;>(try simp only[go_sem] at h)<;>(try exact g_f))|(with_reducible refine And.intro ?_ ?_;· exact g_x)|(with_reducible intro h;(try simp only[go_sem] at h);(try exact g_f))))

theorem at0_mid {X : Type} [Inhabited X] {l : List X} {a : X} {r : List X} : at0 (l ++ a :: r) (l.length : Int) = a := by
  simp [at0, List.getD_eq_getElem?_getD]

theorem weigh_any {n : Net} {p : List Int} (h : (p.any fun i => !inR i 0 (n.nodes - 1)) = false) : ∀ x ∈ p, 0 ≤ x ∧ x < n.nodes := fun x hx => by
  have h1 := List.any_eq_false.1 h x hx
  have h2 : inR x 0 (n.nodes - 1) = true := by simpa using h1
  have := inR_iff.1 h2
  omega

def weighC (n : Net) (p : List Int) : AV := .tup [intA1 (weighV n p), intA1 (weighErr n p)]

theorem weighC_bad {n : Net} {p : List Int} {e : Int} (h : weighErr n p = e) (he : e ≠ 0) : weighC n p = .tup [intA1 0, intA1 e] := by
  rw [weighC, weighV, h, if_neg he]

theorem weigh_calls (n : Net) (p : List Int) (okn : NetOk n) (hpl : p.length ≤ 17592186044000) (σ : Store) : ACalls Try.prog 61 [.agg (netC n), intsA p] σ fun r σ' => σ' = σ ∧ r = weighC n p := by
  have hC := netCheck_calls n okn
  have hl := okn.len
  refine ACalls.cutX ?_
  by_cases h0 : checkN n = 0
  · have hn := netIn_of h0
    have n1 := hn.n1
    have n6 := hn.n6
    have s2 := hn.alg.s2
    rw [h0] at hC
    by_cases hp : p = []
    · have hz := weighC_bad (n := n) (p := p) (e := 1) (by rw [weighErr, if_neg (not_not_intro h0), if_pos hp]) (by decide)
      rw [hz]
      subst hp
      refine ACalls_of_awp Try.func61 rfl Try.results61 ?_
      simp only [List.length_cons, List.length_nil, Try.ntmps61, Nat.reduceAdd, Nat.reduceSub, enterA]
      (repeat' (first|(refine g_s fun K hK=>?_)|(refine g_b ?_)|(refine g_r ?_)|(refine g_k ?_;simp only[thenQ,blockQ])|(refine g_e ?_;simp only[thenQ,blockQ,↓reduceIte,Nat.reduceEqDiff])|(refine g_c (fun h=>?_) (fun h=>?_)<;>(try simp only[go_sem] at h)<;>(try exact g_f))|((first|refine g_t ?_|refine g_g ?_|refine g_U ?_|refine g_A ?_|refine (hC _).use ?_|refine g_q (fun τ=>hC _) ?_|refine g_W ?_);(try simp -implicitDefEqProofs only[go_sem]))|(with_reducible refine hK _ _ ?_;clear hK K)|(clear hK K;first|(with_reducible refine hK _ _ ?_;clear hK K)|(clear hK K;with_reducible refine hK _ _ ?_;clear hK K)|(clear hK K;clear hK K;with_reducible refine hK _ _ ?_;clear hK K))|(with_reducible refine splitB_intro (fun h=>?_) (fun h=>?_)<;>(try simp only[go_sem] at h)<;>(try exact g_f)<;>(try simp -implicitDefEqProofs only[go_sem]))|(with_reducible refine And.intro (fun h=>?_) (fun h=>?_)<;>(try simp only[go_sem] at h)<;>(try exact g_f))|(with_reducible refine And.intro ?_ ?_;· exact g_x)|(with_reducible intro h;(try simp only[go_sem] at h);(try exact g_f))))
      exact CutQ_2 rfl rfl
    · have hp0 : 0 < p.length := List.length_pos_iff.2 hp
      have hpe : ¬ (p.length : Int) = 0 := by omega
      refine ACalls_of_awp Try.func61 rfl Try.results61 ?_
      simp only [List.length_cons, List.length_nil, Try.ntmps61, Nat.reduceAdd, Nat.reduceSub, enterA]
      refine AWP_seq_k fun K hK => ?_
      (refine AWP_region ?_; simp -implicitDefEqProofs only [go_sem])
      refine hK _ _ ?_; clear hK K
      refine AWP_freezeP 2 rfl (by simp only [st0]; rfl) ?_
      simp only [ss0, List.set_cons_zero]
      (repeat' (first|(refine g_s fun K hK=>?_)|(refine g_b ?_)|(refine g_r ?_)|(refine g_k ?_;simp only[thenQ,blockQ])|(refine g_e ?_;simp only[thenQ,blockQ,↓reduceIte,Nat.reduceEqDiff])|(refine g_c (fun h=>?_) (fun h=>?_)<;>(try simp only[go_sem] at h)<;>(try exact g_f))|((first|refine g_t ?_|refine g_g ?_|refine g_U ?_|refine g_A ?_|refine (hC _).use ?_|refine g_q (fun τ=>hC _) ?_|refine (containsFunc_int p (fun v => !inR v 0 (n.nodes - 1)) _ [] [.cp (netC n) 0] _ (by omega) (by kernel_rfl) (fun v hv => weigh1_calls n v _)).use ?_|refine g_q (fun τ=>containsFunc_int p (fun v => !inR v 0 (n.nodes - 1)) _ [] [.cp (netC n) 0] _ (by omega) (by kernel_rfl) (fun v hv => weigh1_calls n v _)) ?_|refine g_W ?_);(try simp -implicitDefEqProofs only[go_sem,hpe]))|(with_reducible refine hK _ _ ?_;clear hK K)|(clear hK K;first|(with_reducible refine hK _ _ ?_;clear hK K)|(clear hK K;with_reducible refine hK _ _ ?_;clear hK K)|(clear hK K;clear hK K;with_reducible refine hK _ _ ?_;clear hK K))|(with_reducible refine splitB_intro (fun h=>?_) (fun h=>?_)<;>(try simp only[go_sem] at h)<;>(try exact g_f)<;>(try simp -implicitDefEqProofs only[go_sem,hpe]))|(with_reducible refine And.intro (fun h=>?_) (fun h=>?_)<;>(try simp only[go_sem] at h)<;>(try exact g_f))|(with_reducible refine And.intro ?_ ?_;· exact g_x)|(with_reducible intro h;(try simp only[go_sem] at h);(try exact g_f))))
      · refine CutQ_2 rfl ?_
        rw [weighC_bad (e := 5) (by rw [weighErr, if_neg (not_not_intro h0), if_neg hp, if_pos h]) (by decide)]
        rfl
      have hany := h
      clear h
      have hrng := weigh_any hany
      have hJ := hK
      clear hK
      obtain ⟨p', z, hpz⟩ : ∃ p' z, p = p' ++ [z] := by
        rcases List.eq_nil_or_concat p with e | ⟨p', z, e⟩
        · exact absurd e hp
        · exact ⟨p', z, by rw [e, List.concat_eq_append]⟩
      refine AWP_for ((p.length : Int) - 1) (fun k (q : List Int) => (∃ pre, p = pre ++ q) ∧ (q.length : Int) = k + 1 ∧ (weighA n q).2 = true) (fun k q _ => [(8, intA1 ((p.length : Int) - 2 - k)), (7, intA1 (weighA n q).1)]) (fun _ _ _ => σ ++ [.dead]) [z] [] (by omega) ⟨⟨p', hpz⟩, rfl, rfl⟩ rfl (ALe_of ?_) ?_
      · simp -implicitDefEqProofs only [go_sem]
        simp [weighA]
      · rintro k q τ hk0 hk1 ⟨⟨pre, hpre⟩, hql, hok⟩ L hL
        rcases q with _ | ⟨b, r⟩
        · simp at hql; omega
        have hw := weigh_in hn (b :: r)
        have hw0 := hw.1
        have hw1 := hw.2
        obtain ⟨w, hwe⟩ : ∃ w, (weighA n (b :: r)).1 = w := ⟨_, rfl⟩
        rw [hwe] at hw0 hw1
        by_cases hlt : k < (p.length : Int) - 1
        · have hL := hL hlt
          obtain ⟨pre', a, rfl⟩ : ∃ pre' a, pre = pre' ++ [a] := by
            rcases List.eq_nil_or_concat pre with e | ⟨p', z, e⟩
            · rw [e, List.nil_append] at hpre
              rw [← hpre] at hql
              omega
            · exact ⟨p', z, by rw [e, List.concat_eq_append]⟩
          have hpl2 : (p.length : Int) = pre'.length + 1 + (k + 1) := by rw [hpre]; simp at hql ⊢; omega
          have hi : (p.length : Int) - 2 - k = pre'.length := by omega
          have ha : at0 p (pre'.length : Int) = a := by rw [hpre, List.append_assoc]; exact at0_mid
          have hb : at0 p ((pre'.length : Int) + 1) = b := by
            have e : ((pre'.length : Int) + 1) = ((pre' ++ [a]).length : Int) := by simp
            rw [hpre, e]
            exact at0_mid
          obtain ⟨m, hm⟩ : ∃ m : Int, (pre'.length : Int) = m := ⟨_, rfl⟩
          rw [hm] at hi ha hb hpl2
          have hm0 : 0 ≤ m := by omega
          simp -implicitDefEqProofs only [go_sem, hwe]
          rw [hi]
          by_cases he : 0 ≤ edgeOf n a b
          · have hei := edge_in hn he
            have hel := hn.alg.edge_len he hei
            have hmo := weigh_more hok he
            have hov : at0 (at0 n.alg.edges (edgeOf n a b)) w = overA n (edgeOf n a b) (weighA n (b :: r)).1 := by rw [hwe]; rfl
            (repeat' (first|(refine g_s fun K hK=>?_)|(refine g_b ?_)|(refine g_r ?_)|(refine g_k ?_;simp only[thenQ,blockQ])|(refine g_e ?_;simp only[thenQ,blockQ,↓reduceIte,Nat.reduceEqDiff])|(refine g_c (fun h=>?_) (fun h=>?_)<;>(try simp only[go_sem] at h)<;>(try exact g_f))|((first|refine g_t ?_|refine g_g ?_|refine g_U ?_|refine g_A ?_|refine (tedge_calls n a b hl _).use ?_|refine g_q (fun τ=>tedge_calls n a b hl _) ?_|refine g_W ?_);(try simp -implicitDefEqProofs only[go_sem,ha, hb]))|(with_reducible refine hK _ _ ?_;clear hK K)|(clear hK K;first|(with_reducible refine hK _ _ ?_;clear hK K)|(clear hK K;with_reducible refine hK _ _ ?_;clear hK K)|(clear hK K;clear hK K;with_reducible refine hK _ _ ?_;clear hK K))|(with_reducible refine splitB_intro (fun h=>?_) (fun h=>?_)<;>(try simp only[go_sem] at h)<;>(try exact g_f)<;>(try simp -implicitDefEqProofs only[go_sem,ha, hb]))|(with_reducible refine And.intro (fun h=>?_) (fun h=>?_)<;>(try simp only[go_sem] at h)<;>(try exact g_f))|(with_reducible refine And.intro ?_ ?_;· exact g_x)|(with_reducible intro h;(try simp only[go_sem] at h);(try exact g_f))))
            refine hL (a :: b :: r) [] _ _ ⟨⟨pre', by rw [hpre]; simp⟩, by simp at hql ⊢; omega, by rw [hmo]⟩ (ALe_of ?_) rfl
            simp -implicitDefEqProofs only [go_sem, hmo, hov]
            rw [show m - 1 = (p.length : Int) - 2 - (k + 1) by omega]
          · have hz : (weighA n p).2 = false := by
              cases e : (weighA n p).2
              · rfl
              · rw [hpre, List.append_assoc] at e
                exact absurd (ok_edge pre' e) he
            (repeat' (first|(refine g_s fun K hK=>?_)|(refine g_b ?_)|(refine g_r ?_)|(refine g_k ?_;simp only[thenQ,blockQ])|(refine g_e ?_;simp only[thenQ,blockQ,↓reduceIte,Nat.reduceEqDiff])|(refine g_c (fun h=>?_) (fun h=>?_)<;>(try simp only[go_sem] at h)<;>(try exact g_f))|((first|refine g_t ?_|refine g_g ?_|refine g_U ?_|refine g_A ?_|refine (tedge_calls n a b hl _).use ?_|refine g_q (fun τ=>tedge_calls n a b hl _) ?_|refine g_W ?_);(try simp -implicitDefEqProofs only[go_sem,ha, hb]))|(with_reducible refine hK _ _ ?_;clear hK K)|(clear hK K;first|(with_reducible refine hK _ _ ?_;clear hK K)|(clear hK K;with_reducible refine hK _ _ ?_;clear hK K)|(clear hK K;clear hK K;with_reducible refine hK _ _ ?_;clear hK K))|(with_reducible refine splitB_intro (fun h=>?_) (fun h=>?_)<;>(try simp only[go_sem] at h)<;>(try exact g_f)<;>(try simp -implicitDefEqProofs only[go_sem,ha, hb]))|(with_reducible refine And.intro (fun h=>?_) (fun h=>?_)<;>(try simp only[go_sem] at h)<;>(try exact g_f))|(with_reducible refine And.intro ?_ ?_;· exact g_x)|(with_reducible intro h;(try simp only[go_sem] at h);(try exact g_f))))
            refine CutQ_2 rfl ?_
            rw [weighC_bad (e := 5) (by rw [weighErr, if_neg (not_not_intro h0), if_neg hp, if_neg (by rw [hany]; simp), hz]; rfl) (by decide)]
            rfl
        · have hk : k = (p.length : Int) - 1 := by omega
          have hq : p = b :: r := by
            have : pre.length = 0 := by
              have := congrArg List.length hpre
              simp at this hql
              omega
            rw [List.length_eq_zero_iff.1 this] at hpre
            exact hpre
          have hwz : weighErr n p = 0 := by rw [weighErr, if_neg (not_not_intro h0), if_neg hp, if_neg (by rw [hany]; simp), if_pos (by rw [hq]; exact hok)]
          simp -implicitDefEqProofs only [go_sem, hwe]
          (repeat' (first|(refine g_s fun K hK=>?_)|(refine g_b ?_)|(refine g_r ?_)|(refine g_k ?_;simp only[thenQ,blockQ])|(refine g_e ?_;simp only[thenQ,blockQ,↓reduceIte,Nat.reduceEqDiff])|(refine g_c (fun h=>?_) (fun h=>?_)<;>(try simp only[go_sem] at h)<;>(try exact g_f))|((first|refine g_t ?_|refine g_g ?_|refine g_U ?_|refine g_A ?_|refine g_W ?_);(try simp -implicitDefEqProofs only[go_sem]))|(with_reducible refine hK _ _ ?_;clear hK K)|(clear hK K;first|(with_reducible refine hK _ _ ?_;clear hK K)|(clear hK K;with_reducible refine hK _ _ ?_;clear hK K)|(clear hK K;clear hK K;with_reducible refine hK _ _ ?_;clear hK K))|(with_reducible refine splitB_intro (fun h=>?_) (fun h=>?_)<;>(try simp only[go_sem] at h)<;>(try exact g_f)<;>(try simp -implicitDefEqProofs only[go_sem]))|(with_reducible refine And.intro (fun h=>?_) (fun h=>?_)<;>(try simp only[go_sem] at h)<;>(try exact g_f))|(with_reducible refine And.intro ?_ ?_;· exact g_x)|(with_reducible intro h;(try simp only[go_sem] at h);(try exact g_f))))
          refine hJ _ _ ?_
          clear hJ
          (repeat' (first|(refine g_s fun K hK=>?_)|(refine g_b ?_)|(refine g_r ?_)|(refine g_k ?_;simp only[thenQ,blockQ])|(refine g_e ?_;simp only[thenQ,blockQ,↓reduceIte,Nat.reduceEqDiff])|(refine g_c (fun h=>?_) (fun h=>?_)<;>(try simp only[go_sem] at h)<;>(try exact g_f))|((first|refine g_t ?_|refine g_g ?_|refine g_U ?_|refine g_A ?_|refine g_W ?_);(try simp -implicitDefEqProofs only[go_sem]))|(with_reducible refine hK _ _ ?_;clear hK K)|(clear hK K;first|(with_reducible refine hK _ _ ?_;clear hK K)|(clear hK K;with_reducible refine hK _ _ ?_;clear hK K)|(clear hK K;clear hK K;with_reducible refine hK _ _ ?_;clear hK K))|(with_reducible refine splitB_intro (fun h=>?_) (fun h=>?_)<;>(try simp only[go_sem] at h)<;>(try exact g_f)<;>(try simp -implicitDefEqProofs only[go_sem]))|(with_reducible refine And.intro (fun h=>?_) (fun h=>?_)<;>(try simp only[go_sem] at h)<;>(try exact g_f))|(with_reducible refine And.intro ?_ ?_;· exact g_x)|(with_reducible intro h;(try simp only[go_sem] at h);(try exact g_f))))
          refine CutQ_2 rfl ?_
          rw [weighC, weighV, hwz, if_pos rfl, hq, hwe]
          rfl
  · refine ACalls_of_awp Try.func61 rfl Try.results61 ?_
    simp only [List.length_cons, List.length_nil, Try.ntmps61, Nat.reduceAdd, Nat.reduceSub, enterA]
    (repeat' (first|(refine g_s fun K hK=>?_)|(refine g_b ?_)|(refine g_r ?_)|(refine g_k ?_;simp only[thenQ,blockQ])|(refine g_e ?_;simp only[thenQ,blockQ,↓reduceIte,Nat.reduceEqDiff])|(refine g_c (fun h=>?_) (fun h=>?_)<;>(try simp only[go_sem] at h)<;>(try exact g_f))|((first|refine g_t ?_|refine g_g ?_|refine g_U ?_|refine g_A ?_|refine (hC _).use ?_|refine g_q (fun τ=>hC _) ?_|refine g_W ?_);(try simp -implicitDefEqProofs only[go_sem]))|(with_reducible refine hK _ _ ?_;clear hK K)|(clear hK K;first|(with_reducible refine hK _ _ ?_;clear hK K)|(clear hK K;with_reducible refine hK _ _ ?_;clear hK K)|(clear hK K;clear hK K;with_reducible refine hK _ _ ?_;clear hK K))|(with_reducible refine splitB_intro (fun h=>?_) (fun h=>?_)<;>(try simp only[go_sem] at h)<;>(try exact g_f)<;>(try simp -implicitDefEqProofs only[go_sem]))|(with_reducible refine And.intro (fun h=>?_) (fun h=>?_)<;>(try simp only[go_sem] at h)<;>(try exact g_f))|(with_reducible refine And.intro ?_ ?_;· exact g_x)|(with_reducible intro h;(try simp only[go_sem] at h);(try exact g_f))))
    refine CutQ_2 rfl ?_
    rw [weighC_bad (e := checkN n) (by rw [weighErr, if_pos h0]) h0]
    rfl
end Go.Proofs.Ytephecognbbaoab
