/- Routes with paths: Best and Extend, errors too; and the law PathBests. -/
import Derived.Test.YtephecognbbaoabUc
namespace Go.Proofs.Ytephecognbbaoab
open Go
set_option linter.all false
set_option maxRecDepth 100000
set_option maxHeartbeats 4000000

def noR : Rt := ⟨0, []⟩
def rtE (x : Rt × Int) : AV := .tup [.agg (rtC x.1), intA1 x.2]

def bestPA (n : Net) (a b : Rt) : Rt × Int :=
  if checkN n ≠ 0 then (noR, checkN n) else if rightB n a = true then (if rightB n b = true then (bestR n a b, 0) else (noR, 4)) else (noR, 4)

theorem pathBest_calls (n : Net) (a b : Rt) (okn : NetOk n) (hpa : a.p.length ≤ 17592186044000) (hpb : b.p.length ≤ 17592186044000) (σ : Store) :
    ACalls Try.prog 47 [.agg (netC n), .agg (rtC a), .agg (rtC b)] σ fun r σ' => σ' = σ ∧ r = rtE (bestPA n a b) := by
  have hC := netCheck_calls n okn
  have finN : ∀ {S τ : Store} {e e' : Int}, S = σ ++ τ → e = e' → CutQ σ (.tup [.agg [intA1 0, intsA []], intA1 e']) (.tup [.agg [intA1 0, .c (.slice none 0 0)], intA1 e]) S := fun {S τ e e'} h1 h2 => by
    rw [h2]
    exact CutQ_w h1 (.tupL (.cons (.aggL (.cons (.c _) (.cons (.c _) .nil))) (.cons (.c _) .nil))) (.tup (.cons (.agg (.cons (.refl _) (.cons .nil .nil))) (.cons (.refl _) .nil)))
  refine ACalls.cutX ?_
  refine ACalls_of_awp Try.func47 rfl Try.results47 ?_
  simp only [List.length_cons, List.length_nil, Try.ntmps47, Nat.reduceAdd, Nat.reduceSub, enterA]
  refine AWP_seq_k fun K hK => ?_
  (refine AWP_region ?_; simp -implicitDefEqProofs only [go_sem])
  refine hK _ _ ?_; clear hK K
  refine AWP_freezeP 3 rfl (by simp only [st0]; rfl) ?_
  simp only [ss0, List.set_cons_zero]
  refine AWP_freezeP 4 rfl (by simp only [st1]; rfl) ?_
  simp only [ss1, List.set_cons_zero, List.set_cons_succ]
  refine AWP_freezeP 5 rfl (by simp only [st1]; rfl) ?_
  simp only [ss1, List.set_cons_zero, List.set_cons_succ]
  by_cases h0 : checkN n = 0
  · have hn := netIn_of h0
    rw [h0] at hC
    rw [bestPA, if_neg (not_not_intro h0)]
    have hRa := right_calls n a hn hpa
    have hRb := right_calls n b hn hpb
    cases ha : rightB n a
    · rw [ha] at hRa
      rw [if_neg (by decide)]
      (repeat' (first|(refine g_s fun K hK=>?_)|(refine g_b ?_)|(refine g_r ?_)|(refine g_k ?_;simp only[thenQ,blockQ])|(refine g_e ?_;simp only[thenQ,blockQ,↓reduceIte,Nat.reduceEqDiff])|(refine g_c (fun h=>?_) (fun h=>?_)<;>(try simp only[go_sem] at h)<;>(try exact g_f))|((first|refine g_t ?_|refine g_g ?_|refine g_U ?_|refine g_A ?_|refine (hC _).use ?_|refine g_q (fun τ=>hC _) ?_|refine (hRa _).use ?_|refine g_q (fun τ=>hRa _) ?_|refine g_W ?_);(try simp -implicitDefEqProofs only[go_sem]))|(with_reducible refine hK _ _ ?_;clear hK K)|(clear hK K;first|(with_reducible refine hK _ _ ?_;clear hK K)|(clear hK K;with_reducible refine hK _ _ ?_;clear hK K)|(clear hK K;clear hK K;with_reducible refine hK _ _ ?_;clear hK K))|(with_reducible refine splitB_intro (fun h=>?_) (fun h=>?_)<;>(try simp only[go_sem] at h)<;>(try exact g_f)<;>(try simp -implicitDefEqProofs only[go_sem]))|(with_reducible refine And.intro (fun h=>?_) (fun h=>?_)<;>(try simp only[go_sem] at h)<;>(try exact g_f))|(with_reducible refine And.intro ?_ ?_;· exact g_x)|(with_reducible intro h;(try simp only[go_sem] at h);(try exact g_f))))
      exact finN rfl rfl
    · rw [ha] at hRa
      rw [if_pos rfl]
      cases hb : rightB n b
      · rw [hb] at hRb
        rw [if_neg (by decide)]
        (repeat' (first|(refine g_s fun K hK=>?_)|(refine g_b ?_)|(refine g_r ?_)|(refine g_k ?_;simp only[thenQ,blockQ])|(refine g_e ?_;simp only[thenQ,blockQ,↓reduceIte,Nat.reduceEqDiff])|(refine g_c (fun h=>?_) (fun h=>?_)<;>(try simp only[go_sem] at h)<;>(try exact g_f))|((first|refine g_t ?_|refine g_g ?_|refine g_U ?_|refine g_A ?_|refine (hC _).use ?_|refine g_q (fun τ=>hC _) ?_|refine (hRa _).use ?_|refine g_q (fun τ=>hRa _) ?_|refine (hRb _).use ?_|refine g_q (fun τ=>hRb _) ?_|refine g_W ?_);(try simp -implicitDefEqProofs only[go_sem]))|(with_reducible refine hK _ _ ?_;clear hK K)|(clear hK K;first|(with_reducible refine hK _ _ ?_;clear hK K)|(clear hK K;with_reducible refine hK _ _ ?_;clear hK K)|(clear hK K;clear hK K;with_reducible refine hK _ _ ?_;clear hK K))|(with_reducible refine splitB_intro (fun h=>?_) (fun h=>?_)<;>(try simp only[go_sem] at h)<;>(try exact g_f)<;>(try simp -implicitDefEqProofs only[go_sem]))|(with_reducible refine And.intro (fun h=>?_) (fun h=>?_)<;>(try simp only[go_sem] at h)<;>(try exact g_f))|(with_reducible refine And.intro ?_ ?_;· exact g_x)|(with_reducible intro h;(try simp only[go_sem] at h);(try exact g_f))))
        exact finN rfl rfl
      · rw [hb] at hRb
        rw [if_pos rfl]
        have ra := rightB_iff.1 ha
        have rb := rightB_iff.1 hb
        have hB := best_calls n a b hn ra rb hpa hpb
        have hbr := (bestR_facts hn ra rb).1
        have hO := own_rt_calls (bestR n a b) (by have := right_len hn hbr; omega)
        (repeat' (first|(refine g_s fun K hK=>?_)|(refine g_b ?_)|(refine g_r ?_)|(refine g_k ?_;simp only[thenQ,blockQ])|(refine g_e ?_;simp only[thenQ,blockQ,↓reduceIte,Nat.reduceEqDiff])|(refine g_c (fun h=>?_) (fun h=>?_)<;>(try simp only[go_sem] at h)<;>(try exact g_f))|((first|refine g_t ?_|refine g_g ?_|refine g_U ?_|refine g_A ?_|refine (hC _).use ?_|refine g_q (fun τ=>hC _) ?_|refine (hRa _).use ?_|refine g_q (fun τ=>hRa _) ?_|refine (hRb _).use ?_|refine g_q (fun τ=>hRb _) ?_|refine (hB _).use ?_|refine g_q (fun τ=>hB _) ?_|refine (hO _).use ?_|refine g_q (fun τ=>hO _) ?_|refine g_W ?_);(try simp -implicitDefEqProofs only[go_sem]))|(with_reducible refine hK _ _ ?_;clear hK K)|(clear hK K;first|(with_reducible refine hK _ _ ?_;clear hK K)|(clear hK K;with_reducible refine hK _ _ ?_;clear hK K)|(clear hK K;clear hK K;with_reducible refine hK _ _ ?_;clear hK K))|(with_reducible refine splitB_intro (fun h=>?_) (fun h=>?_)<;>(try simp only[go_sem] at h)<;>(try exact g_f)<;>(try simp -implicitDefEqProofs only[go_sem]))|(with_reducible refine And.intro (fun h=>?_) (fun h=>?_)<;>(try simp only[go_sem] at h)<;>(try exact g_f))|(with_reducible refine And.intro ?_ ?_;· exact g_x)|(with_reducible intro h;(try simp only[go_sem] at h);(try exact g_f))))
        exact CutQ_w rfl (.tupL (.cons (.aggL (.cons (.c _) (.cons (.ints _) .nil))) (.cons (.c _) .nil))) (.eq rfl)
  · rw [bestPA, if_pos h0]
    (repeat' (first|(refine g_s fun K hK=>?_)|(refine g_b ?_)|(refine g_r ?_)|(refine g_k ?_;simp only[thenQ,blockQ])|(refine g_e ?_;simp only[thenQ,blockQ,↓reduceIte,Nat.reduceEqDiff])|(refine g_c (fun h=>?_) (fun h=>?_)<;>(try simp only[go_sem] at h)<;>(try exact g_f))|((first|refine g_t ?_|refine g_g ?_|refine g_U ?_|refine g_A ?_|refine (hC _).use ?_|refine g_q (fun τ=>hC _) ?_|refine g_W ?_);(try simp -implicitDefEqProofs only[go_sem]))|(with_reducible refine hK _ _ ?_;clear hK K)|(clear hK K;first|(with_reducible refine hK _ _ ?_;clear hK K)|(clear hK K;with_reducible refine hK _ _ ?_;clear hK K)|(clear hK K;clear hK K;with_reducible refine hK _ _ ?_;clear hK K))|(with_reducible refine splitB_intro (fun h=>?_) (fun h=>?_)<;>(try simp only[go_sem] at h)<;>(try exact g_f)<;>(try simp -implicitDefEqProofs only[go_sem]))|(with_reducible refine And.intro (fun h=>?_) (fun h=>?_)<;>(try simp only[go_sem] at h)<;>(try exact g_f))|(with_reducible refine And.intro ?_ ?_;· exact g_x)|(with_reducible intro h;(try simp only[go_sem] at h);(try exact g_f))))
    exact finN rfl rfl

def extPA (n : Net) (i e : Int) (r : Rt) : Rt × Int :=
  if checkN n ≠ 0 then (noR, checkN n) else if 0 ≤ e ∧ e < n.links.length then
    (if (at0 n.links e).fr = i then
      (if rightB n r = true then (if r.w ≠ n.alg.size - 1 ∧ at0 r.p 0 ≠ (at0 n.links e).dst then (noR, 4) else (extR n i (at0 n.links e).edge r, 0)) else (noR, 4))
     else (noR, 1)) else (noR, 5)

theorem pathExtend_calls (n : Net) (i e : Int) (r : Rt) (okn : NetOk n) (hp : r.p.length ≤ 17592186044000) (σ : Store) :
    ACalls Try.prog 48 [.agg (netC n), intA1 i, intA1 e, .agg (rtC r)] σ fun r' σ' => σ' = σ ∧ r' = rtE (extPA n i e r) := by
  have hl := okn.len
  have hC := netCheck_calls n okn
  have finN : ∀ {S τ : Store} {e e' : Int}, S = σ ++ τ → e = e' → CutQ σ (.tup [.agg [intA1 0, intsA []], intA1 e']) (.tup [.agg [intA1 0, .c (.slice none 0 0)], intA1 e]) S := fun {S τ e e'} h1 h2 => by
    rw [h2]
    exact CutQ_w h1 (.tupL (.cons (.aggL (.cons (.c _) (.cons (.c _) .nil))) (.cons (.c _) .nil))) (.tup (.cons (.agg (.cons (.refl _) (.cons .nil .nil))) (.cons (.refl _) .nil)))
  refine ACalls.cutX ?_
  refine ACalls_of_awp Try.func48 rfl Try.results48 ?_
  simp only [List.length_cons, List.length_nil, Try.ntmps48, Nat.reduceAdd, Nat.reduceSub, enterA]
  refine AWP_seq_k fun K hK => ?_
  (refine AWP_region ?_; simp -implicitDefEqProofs only [go_sem])
  refine hK _ _ ?_; clear hK K
  refine AWP_freezeP 4 rfl (by simp only [st0]; rfl) ?_
  simp only [ss0, List.set_cons_zero]
  refine AWP_freezeP 7 rfl (by simp only [st1]; rfl) ?_
  simp only [ss1, List.set_cons_zero, List.set_cons_succ]
  by_cases h0 : checkN n = 0
  · have hn := netIn_of h0
    rw [h0] at hC
    rw [extPA, if_neg (not_not_intro h0)]
    by_cases he : 0 ≤ e ∧ e < n.links.length
    · obtain ⟨he0, he1⟩ := he
      have hmem := at0_mem n.links he0 he1
      obtain ⟨l, hla⟩ : ∃ l, at0 n.links e = l := ⟨_, rfl⟩
      rw [hla] at hmem
      rw [if_pos ⟨he0, he1⟩, hla]
      have hlk := hn.lnk l hmem
      by_cases hf : l.fr = i
      · subst hf
        rw [if_pos rfl]
        have hR := right_calls n r hn hp
        have hV := fun S => pvalid_calls n r (by have := hn.alg.s2; have := hn.alg.s24; unfold I64; omega) S
        cases hr : rightB n r
        · rw [hr] at hR
          rw [if_neg (by decide)]
          (repeat' (first|(refine g_s fun K hK=>?_)|(refine g_b ?_)|(refine g_r ?_)|(refine g_k ?_;simp only[thenQ,blockQ])|(refine g_e ?_;simp only[thenQ,blockQ,↓reduceIte,Nat.reduceEqDiff])|(refine g_c (fun h=>?_) (fun h=>?_)<;>(try simp only[go_sem] at h)<;>(try exact g_f))|((first|refine g_t ?_|refine g_g ?_|refine g_U ?_|refine g_A ?_|refine (hC _).use ?_|refine g_q (fun τ=>hC _) ?_|refine (hR _).use ?_|refine g_q (fun τ=>hR _) ?_|refine g_W ?_);(try simp -implicitDefEqProofs only[go_sem,hla]))|(with_reducible refine hK _ _ ?_;clear hK K)|(clear hK K;first|(with_reducible refine hK _ _ ?_;clear hK K)|(clear hK K;with_reducible refine hK _ _ ?_;clear hK K)|(clear hK K;clear hK K;with_reducible refine hK _ _ ?_;clear hK K))|(with_reducible refine splitB_intro (fun h=>?_) (fun h=>?_)<;>(try simp only[go_sem] at h)<;>(try exact g_f)<;>(try simp -implicitDefEqProofs only[go_sem,hla]))|(with_reducible refine And.intro (fun h=>?_) (fun h=>?_)<;>(try simp only[go_sem] at h)<;>(try exact g_f))|(with_reducible refine And.intro ?_ ?_;· exact g_x)|(with_reducible intro h;(try simp only[go_sem] at h);(try exact g_f))))
          exact finN rfl rfl
        · rw [hr] at hR
          rw [if_pos rfl]
          have rr := rightB_iff.1 hr
          have h6 := right_len hn rr
          have hX := extend_calls n l r hn hlk rr (by omega)
          by_cases hv : r.w = n.alg.size - 1
          · rw [decide_eq_false (not_not_intro hv)] at hV
            rw [if_neg (by rw [not_and]; intro h; exact absurd hv h)]
            (repeat' (first|(refine g_s fun K hK=>?_)|(refine g_b ?_)|(refine g_r ?_)|(refine g_k ?_;simp only[thenQ,blockQ])|(refine g_e ?_;simp only[thenQ,blockQ,↓reduceIte,Nat.reduceEqDiff])|(refine g_c (fun h=>?_) (fun h=>?_)<;>(try simp only[go_sem] at h)<;>(try exact g_f))|((first|refine g_t ?_|refine g_g ?_|refine g_U ?_|refine g_A ?_|refine (hC _).use ?_|refine g_q (fun τ=>hC _) ?_|refine (hR _).use ?_|refine g_q (fun τ=>hR _) ?_|refine (hV _).use ?_|refine g_q (fun τ=>hV _) ?_|refine (hX _).use ?_|refine g_q (fun τ=>hX _) ?_|refine g_W ?_);(try simp -implicitDefEqProofs only[go_sem,hla]))|(with_reducible refine hK _ _ ?_;clear hK K)|(clear hK K;first|(with_reducible refine hK _ _ ?_;clear hK K)|(clear hK K;with_reducible refine hK _ _ ?_;clear hK K)|(clear hK K;clear hK K;with_reducible refine hK _ _ ?_;clear hK K))|(with_reducible refine splitB_intro (fun h=>?_) (fun h=>?_)<;>(try simp only[go_sem] at h)<;>(try exact g_f)<;>(try simp -implicitDefEqProofs only[go_sem,hla]))|(with_reducible refine And.intro (fun h=>?_) (fun h=>?_)<;>(try simp only[go_sem] at h)<;>(try exact g_f))|(with_reducible refine And.intro ?_ ?_;· exact g_x)|(with_reducible intro h;(try simp only[go_sem] at h);(try exact g_f))))
            exact CutQ_w rfl (.tupL (.cons (.aggL (.cons (.c _) (.cons (.ints _) .nil))) (.cons (.c _) .nil))) (.eq rfl)
          · rw [decide_eq_true hv] at hV
            have hne := rr.ne hv
            have hpl : 0 < r.p.length := List.length_pos_iff.2 hne
            by_cases hd : at0 r.p 0 = l.dst
            · rw [if_neg (by rw [not_and]; intro _; exact not_not_intro hd)]
              (repeat' (first|(refine g_s fun K hK=>?_)|(refine g_b ?_)|(refine g_r ?_)|(refine g_k ?_;simp only[thenQ,blockQ])|(refine g_e ?_;simp only[thenQ,blockQ,↓reduceIte,Nat.reduceEqDiff])|(refine g_c (fun h=>?_) (fun h=>?_)<;>(try simp only[go_sem] at h)<;>(try exact g_f))|((first|refine g_t ?_|refine g_g ?_|refine g_U ?_|refine g_A ?_|refine (hC _).use ?_|refine g_q (fun τ=>hC _) ?_|refine (hR _).use ?_|refine g_q (fun τ=>hR _) ?_|refine (hV _).use ?_|refine g_q (fun τ=>hV _) ?_|refine (hX _).use ?_|refine g_q (fun τ=>hX _) ?_|refine g_W ?_);(try simp -implicitDefEqProofs only[go_sem,hla, hd]))|(with_reducible refine hK _ _ ?_;clear hK K)|(clear hK K;first|(with_reducible refine hK _ _ ?_;clear hK K)|(clear hK K;with_reducible refine hK _ _ ?_;clear hK K)|(clear hK K;clear hK K;with_reducible refine hK _ _ ?_;clear hK K))|(with_reducible refine splitB_intro (fun h=>?_) (fun h=>?_)<;>(try simp only[go_sem] at h)<;>(try exact g_f)<;>(try simp -implicitDefEqProofs only[go_sem,hla, hd]))|(with_reducible refine And.intro (fun h=>?_) (fun h=>?_)<;>(try simp only[go_sem] at h)<;>(try exact g_f))|(with_reducible refine And.intro ?_ ?_;· exact g_x)|(with_reducible intro h;(try simp only[go_sem] at h);(try exact g_f))))
              exact CutQ_w rfl (.tupL (.cons (.aggL (.cons (.c _) (.cons (.ints _) .nil))) (.cons (.c _) .nil))) (.eq rfl)
            · rw [if_pos ⟨hv, hd⟩]
              (repeat' (first|(refine g_s fun K hK=>?_)|(refine g_b ?_)|(refine g_r ?_)|(refine g_k ?_;simp only[thenQ,blockQ])|(refine g_e ?_;simp only[thenQ,blockQ,↓reduceIte,Nat.reduceEqDiff])|(refine g_c (fun h=>?_) (fun h=>?_)<;>(try simp only[go_sem] at h)<;>(try exact g_f))|((first|refine g_t ?_|refine g_g ?_|refine g_U ?_|refine g_A ?_|refine (hC _).use ?_|refine g_q (fun τ=>hC _) ?_|refine (hR _).use ?_|refine g_q (fun τ=>hR _) ?_|refine (hV _).use ?_|refine g_q (fun τ=>hV _) ?_|refine (hX _).use ?_|refine g_q (fun τ=>hX _) ?_|refine g_W ?_);(try simp -implicitDefEqProofs only[go_sem,hla]))|(with_reducible refine hK _ _ ?_;clear hK K)|(clear hK K;first|(with_reducible refine hK _ _ ?_;clear hK K)|(clear hK K;with_reducible refine hK _ _ ?_;clear hK K)|(clear hK K;clear hK K;with_reducible refine hK _ _ ?_;clear hK K))|(with_reducible refine splitB_intro (fun h=>?_) (fun h=>?_)<;>(try simp only[go_sem] at h)<;>(try exact g_f)<;>(try simp -implicitDefEqProofs only[go_sem,hla]))|(with_reducible refine And.intro (fun h=>?_) (fun h=>?_)<;>(try simp only[go_sem] at h)<;>(try exact g_f))|(with_reducible refine And.intro ?_ ?_;· exact g_x)|(with_reducible intro h;(try simp only[go_sem] at h);(try exact g_f))))
              exact finN rfl rfl
      · rw [if_neg hf]
        (repeat' (first|(refine g_s fun K hK=>?_)|(refine g_b ?_)|(refine g_r ?_)|(refine g_k ?_;simp only[thenQ,blockQ])|(refine g_e ?_;simp only[thenQ,blockQ,↓reduceIte,Nat.reduceEqDiff])|(refine g_c (fun h=>?_) (fun h=>?_)<;>(try simp only[go_sem] at h)<;>(try exact g_f))|((first|refine g_t ?_|refine g_g ?_|refine g_U ?_|refine g_A ?_|refine (hC _).use ?_|refine g_q (fun τ=>hC _) ?_|refine g_W ?_);(try simp -implicitDefEqProofs only[go_sem,hla]))|(with_reducible refine hK _ _ ?_;clear hK K)|(clear hK K;first|(with_reducible refine hK _ _ ?_;clear hK K)|(clear hK K;with_reducible refine hK _ _ ?_;clear hK K)|(clear hK K;clear hK K;with_reducible refine hK _ _ ?_;clear hK K))|(with_reducible refine splitB_intro (fun h=>?_) (fun h=>?_)<;>(try simp only[go_sem] at h)<;>(try exact g_f)<;>(try simp -implicitDefEqProofs only[go_sem,hla]))|(with_reducible refine And.intro (fun h=>?_) (fun h=>?_)<;>(try simp only[go_sem] at h)<;>(try exact g_f))|(with_reducible refine And.intro ?_ ?_;· exact g_x)|(with_reducible intro h;(try simp only[go_sem] at h);(try exact g_f))))
        exact finN rfl rfl
    · rw [if_neg he]
      by_cases he0 : e < 0
      · (repeat' (first|(refine g_s fun K hK=>?_)|(refine g_b ?_)|(refine g_r ?_)|(refine g_k ?_;simp only[thenQ,blockQ])|(refine g_e ?_;simp only[thenQ,blockQ,↓reduceIte,Nat.reduceEqDiff])|(refine g_c (fun h=>?_) (fun h=>?_)<;>(try simp only[go_sem] at h)<;>(try exact g_f))|((first|refine g_t ?_|refine g_g ?_|refine g_U ?_|refine g_A ?_|refine (hC _).use ?_|refine g_q (fun τ=>hC _) ?_|refine g_W ?_);(try simp -implicitDefEqProofs only[go_sem]))|(with_reducible refine hK _ _ ?_;clear hK K)|(clear hK K;first|(with_reducible refine hK _ _ ?_;clear hK K)|(clear hK K;with_reducible refine hK _ _ ?_;clear hK K)|(clear hK K;clear hK K;with_reducible refine hK _ _ ?_;clear hK K))|(with_reducible refine splitB_intro (fun h=>?_) (fun h=>?_)<;>(try simp only[go_sem] at h)<;>(try exact g_f)<;>(try simp -implicitDefEqProofs only[go_sem]))|(with_reducible refine And.intro (fun h=>?_) (fun h=>?_)<;>(try simp only[go_sem] at h)<;>(try exact g_f))|(with_reducible refine And.intro ?_ ?_;· exact g_x)|(with_reducible intro h;(try simp only[go_sem] at h);(try exact g_f))))
        exact finN rfl rfl
      · (repeat' (first|(refine g_s fun K hK=>?_)|(refine g_b ?_)|(refine g_r ?_)|(refine g_k ?_;simp only[thenQ,blockQ])|(refine g_e ?_;simp only[thenQ,blockQ,↓reduceIte,Nat.reduceEqDiff])|(refine g_c (fun h=>?_) (fun h=>?_)<;>(try simp only[go_sem] at h)<;>(try exact g_f))|((first|refine g_t ?_|refine g_g ?_|refine g_U ?_|refine g_A ?_|refine (hC _).use ?_|refine g_q (fun τ=>hC _) ?_|refine g_W ?_);(try simp -implicitDefEqProofs only[go_sem]))|(with_reducible refine hK _ _ ?_;clear hK K)|(clear hK K;first|(with_reducible refine hK _ _ ?_;clear hK K)|(clear hK K;with_reducible refine hK _ _ ?_;clear hK K)|(clear hK K;clear hK K;with_reducible refine hK _ _ ?_;clear hK K))|(with_reducible refine splitB_intro (fun h=>?_) (fun h=>?_)<;>(try simp only[go_sem] at h)<;>(try exact g_f)<;>(try simp -implicitDefEqProofs only[go_sem]))|(with_reducible refine And.intro (fun h=>?_) (fun h=>?_)<;>(try simp only[go_sem] at h)<;>(try exact g_f))|(with_reducible refine And.intro ?_ ?_;· exact g_x)|(with_reducible intro h;(try simp only[go_sem] at h);(try exact g_f))))
        exact finN rfl rfl
  · rw [extPA, if_pos h0]
    (repeat' (first|(refine g_s fun K hK=>?_)|(refine g_b ?_)|(refine g_r ?_)|(refine g_k ?_;simp only[thenQ,blockQ])|(refine g_e ?_;simp only[thenQ,blockQ,↓reduceIte,Nat.reduceEqDiff])|(refine g_c (fun h=>?_) (fun h=>?_)<;>(try simp only[go_sem] at h)<;>(try exact g_f))|((first|refine g_t ?_|refine g_g ?_|refine g_U ?_|refine g_A ?_|refine (hC _).use ?_|refine g_q (fun τ=>hC _) ?_|refine g_W ?_);(try simp -implicitDefEqProofs only[go_sem]))|(with_reducible refine hK _ _ ?_;clear hK K)|(clear hK K;first|(with_reducible refine hK _ _ ?_;clear hK K)|(clear hK K;with_reducible refine hK _ _ ?_;clear hK K)|(clear hK K;clear hK K;with_reducible refine hK _ _ ?_;clear hK K))|(with_reducible refine splitB_intro (fun h=>?_) (fun h=>?_)<;>(try simp only[go_sem] at h)<;>(try exact g_f)<;>(try simp -implicitDefEqProofs only[go_sem]))|(with_reducible refine And.intro (fun h=>?_) (fun h=>?_)<;>(try simp only[go_sem] at h)<;>(try exact g_f))|(with_reducible refine And.intro ?_ ?_;· exact g_x)|(with_reducible intro h;(try simp only[go_sem] at h);(try exact g_f))))
    exact finN rfl rfl
end Go.Proofs.Ytephecognbbaoab
