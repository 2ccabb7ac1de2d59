/- Walks by tables: as the program and as the document go them. -/
import Derived.Test.YtephecognbbaoabNd
import Derived.Test.YtephecognbbaoabPv
namespace Go.Proofs.Ytephecognbbaoab
open Go
set_option linter.all false
set_option maxRecDepth 100000
set_option maxHeartbeats 4000000

theorem CutQ_2 {σ σ' τ : Store} {X : AV} {a b : Value} (hs : σ' = σ ++ τ) (hx : .tup [.c a, .c b] = X) : CutQ σ X (.tup [.c a, .c b]) σ' := CutQ_w hs (.tupL (.cons (.c _) (.cons (.c _) .nil))) (.eq hx)

theorem any_mem (l : List Int) (v : Int) : (l.any fun x => decide (v = x)) = decide (v ∈ l) := by
  rw [Bool.eq_iff_iff, List.any_eq_true, decide_eq_true_eq]
  constructor
  · rintro ⟨x, hx, h⟩
    rw [of_decide_eq_true h]
    exact hx
  · exact fun h => ⟨v, h, decide_eq_true rfl⟩

theorem index_calls (l : List Int) (v : Int) (hl : l.length ≤ 1000000000000000000) (σ : Store) :
    ACalls Try.prog 160 [intsA l, intA1 v] σ fun r σ' => σ' = σ ∧ r = intA1 (firstI (fun x => decide (v = x)) 0 l) := by
  refine ACalls_of_awp Try.func160 rfl Try.results160 ?_
  simp only [List.length_cons, List.length_nil, Try.ntmps160, Nat.reduceAdd, Nat.reduceSub, enterA]
  (repeat' (first|(refine g_s fun K hK=>?_)|(refine g_b ?_)|(refine g_r ?_)|(refine g_k ?_;simp only[thenQ,blockQ])|(refine g_e ?_;simp only[thenQ,blockQ,↓reduceIte,Nat.reduceEqDiff])|(refine g_c (fun h=>?_) (fun h=>?_)<;>(try simp only[go_sem] at h)<;>(try exact g_f))|((first|refine g_t ?_|refine g_g ?_|refine g_U ?_|refine g_A ?_|refine g_W ?_);(try simp -implicitDefEqProofs only[go_sem]))|(with_reducible refine hK _ _ ?_;clear hK K)|(clear hK K;first|(with_reducible refine hK _ _ ?_;clear hK K)|(clear hK K;with_reducible refine hK _ _ ?_;clear hK K)|(clear hK K;clear hK K;with_reducible refine hK _ _ ?_;clear hK K))|(with_reducible refine splitB_intro (fun h=>?_) (fun h=>?_)<;>(try simp only[go_sem] at h)<;>(try exact g_f)<;>(try simp -implicitDefEqProofs only[go_sem]))|(with_reducible refine And.intro (fun h=>?_) (fun h=>?_)<;>(try simp only[go_sem] at h)<;>(try exact g_f))|(with_reducible refine And.intro ?_ ?_;· exact g_x)|(with_reducible intro h;(try simp only[go_sem] at h);(try exact g_f))))
  refine AWP_each l (fun k r _ => firstI (fun x => decide (v = x)) 0 l = firstI (fun x => decide (v = x)) k r) (fun k _ _ => [(8, intA1 k)]) (fun _ _ _ => σ) () [] rfl rfl (ALe_of ?_) ?_ ?_
  · simp -implicitDefEqProofs only [go_sem]
  · rintro k r s τ hk0 hk1 h1 L hL
    obtain ⟨x, hx⟩ : ∃ x, at0 l k = x := ⟨_, rfl⟩
    rw [hx] at h1
    simp -implicitDefEqProofs only [go_sem]
    (repeat' (first|(refine g_s fun K hK=>?_)|(refine g_b ?_)|(refine g_r ?_)|(refine g_k ?_;simp only[thenQ,blockQ])|(refine g_e ?_;simp only[thenQ,blockQ,↓reduceIte,Nat.reduceEqDiff])|(refine g_c (fun h=>?_) (fun h=>?_)<;>(try simp only[go_sem] at h)<;>(try exact g_f))|((first|refine g_t ?_|refine g_g ?_|refine g_U ?_|refine g_A ?_|refine g_W ?_);(try simp -implicitDefEqProofs only[go_sem,hx]))|(with_reducible refine hK _ _ ?_;clear hK K)|(clear hK K;first|(with_reducible refine hK _ _ ?_;clear hK K)|(clear hK K;with_reducible refine hK _ _ ?_;clear hK K)|(clear hK K;clear hK K;with_reducible refine hK _ _ ?_;clear hK K))|(with_reducible refine splitB_intro (fun h=>?_) (fun h=>?_)<;>(try simp only[go_sem] at h)<;>(try exact g_f)<;>(try simp -implicitDefEqProofs only[go_sem,hx]))|(with_reducible refine And.intro (fun h=>?_) (fun h=>?_)<;>(try simp only[go_sem] at h)<;>(try exact g_f))|(with_reducible refine And.intro ?_ ?_;· exact g_x)|(with_reducible intro h;(try simp only[go_sem] at h);(try exact g_f))))
    · rw [h1, firstI, if_pos (by simp [*])]
    · refine hL () [] _ _ ?_ (ALe_of ?_) rfl
      · rw [h1, firstI, if_neg (by simp [*])]
      · simp -implicitDefEqProofs only [go_sem]
  · intro k s τ hk h1 L
    simp -implicitDefEqProofs only [go_sem]
    (repeat' (first|(refine g_s fun K hK=>?_)|(refine g_b ?_)|(refine g_r ?_)|(refine g_k ?_;simp only[thenQ,blockQ])|(refine g_e ?_;simp only[thenQ,blockQ,↓reduceIte,Nat.reduceEqDiff])|(refine g_c (fun h=>?_) (fun h=>?_)<;>(try simp only[go_sem] at h)<;>(try exact g_f))|((first|refine g_t ?_|refine g_g ?_|refine g_U ?_|refine g_A ?_|refine g_W ?_);(try simp -implicitDefEqProofs only[go_sem]))|(with_reducible refine hK _ _ ?_;clear hK K)|(clear hK K;first|(with_reducible refine hK _ _ ?_;clear hK K)|(clear hK K;with_reducible refine hK _ _ ?_;clear hK K)|(clear hK K;clear hK K;with_reducible refine hK _ _ ?_;clear hK K))|(with_reducible refine splitB_intro (fun h=>?_) (fun h=>?_)<;>(try simp only[go_sem] at h)<;>(try exact g_f)<;>(try simp -implicitDefEqProofs only[go_sem]))|(with_reducible refine And.intro (fun h=>?_) (fun h=>?_)<;>(try simp only[go_sem] at h)<;>(try exact g_f))|(with_reducible refine And.intro ?_ ?_;· exact g_x)|(with_reducible intro h;(try simp only[go_sem] at h);(try exact g_f))))
    rw [h1, firstI]

theorem contains_calls (l : List Int) (v : Int) (hl : l.length ≤ 1000000000000000000) (σ : Store) :
    ACalls Try.prog 117 [intsA l, intA1 v] σ fun r σ' => σ' = σ ∧ r = .c (.bool (decide (v ∈ l))) := by
  refine ACalls_of_awp Try.func117 rfl Try.results117 ?_
  simp only [List.length_cons, List.length_nil, Try.ntmps117, Nat.reduceAdd, Nat.reduceSub, enterA]
  (repeat' (first|(refine g_s fun K hK=>?_)|(refine g_b ?_)|(refine g_r ?_)|(refine g_k ?_;simp only[thenQ,blockQ])|(refine g_e ?_;simp only[thenQ,blockQ,↓reduceIte,Nat.reduceEqDiff])|(refine g_c (fun h=>?_) (fun h=>?_)<;>(try simp only[go_sem] at h)<;>(try exact g_f))|((first|refine g_t ?_|refine g_g ?_|refine g_U ?_|refine g_A ?_|refine (index_calls l v hl _).use ?_|refine g_q (fun τ=>index_calls l v hl _) ?_|refine g_W ?_);(try simp -implicitDefEqProofs only[go_sem]))|(with_reducible refine hK _ _ ?_;clear hK K)|(clear hK K;first|(with_reducible refine hK _ _ ?_;clear hK K)|(clear hK K;with_reducible refine hK _ _ ?_;clear hK K)|(clear hK K;clear hK K;with_reducible refine hK _ _ ?_;clear hK K))|(with_reducible refine splitB_intro (fun h=>?_) (fun h=>?_)<;>(try simp only[go_sem] at h)<;>(try exact g_f)<;>(try simp -implicitDefEqProofs only[go_sem]))|(with_reducible refine And.intro (fun h=>?_) (fun h=>?_)<;>(try simp only[go_sem] at h)<;>(try exact g_f))|(with_reducible refine And.intro ?_ ?_;· exact g_x)|(with_reducible intro h;(try simp only[go_sem] at h);(try exact g_f))))
  have e := firstI_ge (fun x => decide (v = x)) l 0 (Int.le_refl _)
  rw [any_mem] at e
  exact congrArg (fun b => AV.c (.bool b)) e

theorem has_calls (l : List Int) (v : Int) (hl : l.length ≤ 1000000000000000000) (σ : Store) :
    ACalls Try.prog 58 [intsA l, intA1 v] σ fun r σ' => σ' = σ ∧ r = .c (.bool (decide (v ∈ l))) := by
  refine ACalls_of_awp Try.func58 rfl Try.results58 ?_
  simp only [List.length_cons, List.length_nil, Try.ntmps58, Nat.reduceAdd, Nat.reduceSub, enterA]
  (repeat' (first|(refine g_s fun K hK=>?_)|(refine g_b ?_)|(refine g_r ?_)|(refine g_k ?_;simp only[thenQ,blockQ])|(refine g_e ?_;simp only[thenQ,blockQ,↓reduceIte,Nat.reduceEqDiff])|(refine g_c (fun h=>?_) (fun h=>?_)<;>(try simp only[go_sem] at h)<;>(try exact g_f))|((first|refine g_t ?_|refine g_g ?_|refine g_U ?_|refine g_A ?_|refine g_W ?_);(try simp -implicitDefEqProofs only[go_sem]))|(with_reducible refine hK _ _ ?_;clear hK K)|(clear hK K;first|(with_reducible refine hK _ _ ?_;clear hK K)|(clear hK K;with_reducible refine hK _ _ ?_;clear hK K)|(clear hK K;clear hK K;with_reducible refine hK _ _ ?_;clear hK K))|(with_reducible refine splitB_intro (fun h=>?_) (fun h=>?_)<;>(try simp only[go_sem] at h)<;>(try exact g_f)<;>(try simp -implicitDefEqProofs only[go_sem]))|(with_reducible refine And.intro (fun h=>?_) (fun h=>?_)<;>(try simp only[go_sem] at h)<;>(try exact g_f))|(with_reducible refine And.intro ?_ ?_;· exact g_x)|(with_reducible intro h;(try simp only[go_sem] at h);(try exact g_f))))
  refine AWP_each l (fun _ r _ => decide (v ∈ l) = decide (v ∈ r)) (fun k _ _ => [(5, intA1 k)]) (fun _ _ _ => σ) () [] rfl rfl (ALe_of ?_) ?_ ?_
  · simp -implicitDefEqProofs only [go_sem]
  · rintro k r s τ hk0 hk1 h1 L hL
    obtain ⟨x, hx⟩ : ∃ x, at0 l k = x := ⟨_, rfl⟩
    rw [hx] at h1
    simp -implicitDefEqProofs only [go_sem]
    (repeat' (first|(refine g_s fun K hK=>?_)|(refine g_b ?_)|(refine g_r ?_)|(refine g_k ?_;simp only[thenQ,blockQ])|(refine g_e ?_;simp only[thenQ,blockQ,↓reduceIte,Nat.reduceEqDiff])|(refine g_c (fun h=>?_) (fun h=>?_)<;>(try simp only[go_sem] at h)<;>(try exact g_f))|((first|refine g_t ?_|refine g_g ?_|refine g_U ?_|refine g_A ?_|refine g_W ?_);(try simp -implicitDefEqProofs only[go_sem,hx]))|(with_reducible refine hK _ _ ?_;clear hK K)|(clear hK K;first|(with_reducible refine hK _ _ ?_;clear hK K)|(clear hK K;with_reducible refine hK _ _ ?_;clear hK K)|(clear hK K;clear hK K;with_reducible refine hK _ _ ?_;clear hK K))|(with_reducible refine splitB_intro (fun h=>?_) (fun h=>?_)<;>(try simp only[go_sem] at h)<;>(try exact g_f)<;>(try simp -implicitDefEqProofs only[go_sem,hx]))|(with_reducible refine And.intro (fun h=>?_) (fun h=>?_)<;>(try simp only[go_sem] at h)<;>(try exact g_f))|(with_reducible refine And.intro ?_ ?_;· exact g_x)|(with_reducible intro h;(try simp only[go_sem] at h);(try exact g_f))))
    · rw [h1, decide_eq_true]
      simp [*]
    · refine hL () [] _ _ ?_ (ALe_of ?_) rfl
      · rw [h1]
        congr 1
        have : ¬ v = x := by omega
        simp [this]
      · simp -implicitDefEqProofs only [go_sem]
  · intro k s τ hk h1 L
    simp -implicitDefEqProofs only [go_sem]
    (repeat' (first|(refine g_s fun K hK=>?_)|(refine g_b ?_)|(refine g_r ?_)|(refine g_k ?_;simp only[thenQ,blockQ])|(refine g_e ?_;simp only[thenQ,blockQ,↓reduceIte,Nat.reduceEqDiff])|(refine g_c (fun h=>?_) (fun h=>?_)<;>(try simp only[go_sem] at h)<;>(try exact g_f))|((first|refine g_t ?_|refine g_g ?_|refine g_U ?_|refine g_A ?_|refine g_W ?_);(try simp -implicitDefEqProofs only[go_sem]))|(with_reducible refine hK _ _ ?_;clear hK K)|(clear hK K;first|(with_reducible refine hK _ _ ?_;clear hK K)|(clear hK K;with_reducible refine hK _ _ ?_;clear hK K)|(clear hK K;clear hK K;with_reducible refine hK _ _ ?_;clear hK K))|(with_reducible refine splitB_intro (fun h=>?_) (fun h=>?_)<;>(try simp only[go_sem] at h)<;>(try exact g_f)<;>(try simp -implicitDefEqProofs only[go_sem]))|(with_reducible refine And.intro (fun h=>?_) (fun h=>?_)<;>(try simp only[go_sem] at h)<;>(try exact g_f))|(with_reducible refine And.intro ?_ ?_;· exact g_x)|(with_reducible intro h;(try simp only[go_sem] at h);(try exact g_f))))
    rw [h1]
    simp

theorem contains_own (l : List Int) (v : Int) (hl : l.length ≤ 1000000000000000000) (σ : Store) {b n c : Nat} (he : elemsA σ (.own b 1 0 n c) = some (l.map intC)) :
    ACalls Try.prog 117 [.own b 1 0 n c, intA1 v] σ fun r σ' => σ' = σ ∧ r = .c (.bool (decide (v ∈ l))) := by
  refine (ACalls.borrow (args := [.own b 1 0 n c, intA1 v]) (args' := [intsA l, intA1 v]) (R := fun w => w = .bool (decide (v ∈ l))) (And.intro (.inr ⟨_, he, rfl⟩) (And.intro (.inl rfl) trivial)) fun τ => ?_).mono ?_
  · exact (contains_calls l v hl τ).mono fun _ _ ⟨h1, h2⟩ => ⟨h1, _, h2, rfl⟩
  · rintro r σ' ⟨h1, w, rfl, rfl⟩
    exact ⟨h1, rfl⟩

theorem has_own (l : List Int) (v : Int) (hl : l.length ≤ 1000000000000000000) (σ : Store) {b n c : Nat} (he : elemsA σ (.own b 1 0 n c) = some (l.map intC)) :
    ACalls Try.prog 58 [.own b 1 0 n c, intA1 v] σ fun r σ' => σ' = σ ∧ r = .c (.bool (decide (v ∈ l))) := by
  refine (ACalls.borrow (args := [.own b 1 0 n c, intA1 v]) (args' := [intsA l, intA1 v]) (R := fun w => w = .bool (decide (v ∈ l))) (And.intro (.inr ⟨_, he, rfl⟩) (And.intro (.inl rfl) trivial)) fun τ => ?_).mono ?_
  · exact (has_calls l v hl τ).mono fun _ _ ⟨h1, h2⟩ => ⟨h1, _, h2, rfl⟩
  · rintro r σ' ⟨h1, w, rfl, rfl⟩
    exact ⟨h1, rfl⟩

theorem tisNode_calls (n : Net) (i : Int) (σ : Store) : ACalls Try.prog 116 [.agg (netC n), intA1 i] σ fun r σ' => σ' = σ ∧ r = .c (.bool (inR i 0 (n.nodes - 1))) := by
  refine ACalls.cutX ?_
  refine ACalls_of_awp Try.func116 rfl Try.results116 ?_
  simp only [List.length_cons, List.length_nil, Try.ntmps116, Nat.reduceAdd, Nat.reduceSub, enterA]
  refine AWP_seq_k fun K hK => ?_
  (refine AWP_region ?_; simp -implicitDefEqProofs only [go_sem])
  refine hK _ _ ?_; clear hK K
  refine AWP_freezeP 2 rfl (by simp only [st0]; rfl) ?_
  simp only [ss0, List.set_cons_zero]
  (repeat' (first|(refine g_s fun K hK=>?_)|(refine g_b ?_)|(refine g_r ?_)|(refine g_k ?_;simp only[thenQ,blockQ])|(refine g_e ?_;simp only[thenQ,blockQ,↓reduceIte,Nat.reduceEqDiff])|(refine g_c (fun h=>?_) (fun h=>?_)<;>(try simp only[go_sem] at h)<;>(try exact g_f))|((first|refine g_t ?_|refine g_g ?_|refine g_U ?_|refine g_A ?_|refine g_W ?_);(try simp -implicitDefEqProofs only[go_sem]))|(with_reducible refine hK _ _ ?_;clear hK K)|(clear hK K;first|(with_reducible refine hK _ _ ?_;clear hK K)|(clear hK K;with_reducible refine hK _ _ ?_;clear hK K)|(clear hK K;clear hK K;with_reducible refine hK _ _ ?_;clear hK K))|(with_reducible refine splitB_intro (fun h=>?_) (fun h=>?_)<;>(try simp only[go_sem] at h)<;>(try exact g_f)<;>(try simp -implicitDefEqProofs only[go_sem]))|(with_reducible refine And.intro (fun h=>?_) (fun h=>?_)<;>(try simp only[go_sem] at h)<;>(try exact g_f))|(with_reducible refine And.intro ?_ ?_;· exact g_x)|(with_reducible intro h;(try simp only[go_sem] at h);(try exact g_f))))
  all_goals (refine CutQ_c rfl ?_; simp [inR, h, Int.not_le.2]; try omega)

theorem walk1_calls (n : Net) (r : List Int) (σ : Store) : ACalls Try.prog 113 [intsA r, .cp (netC n) 0] σ fun r' σ' => σ' = σ ∧ r' = .c (.bool ((r.length : Int) != n.nodes)) := by
  refine ACalls_of_awp Try.func113 rfl Try.results113 ?_
  simp only [List.length_cons, List.length_nil, Try.ntmps113, Nat.reduceAdd, Nat.reduceSub, enterA]
  (repeat' (first|(refine g_s fun K hK=>?_)|(refine g_b ?_)|(refine g_r ?_)|(refine g_k ?_;simp only[thenQ,blockQ])|(refine g_e ?_;simp only[thenQ,blockQ,↓reduceIte,Nat.reduceEqDiff])|(refine g_c (fun h=>?_) (fun h=>?_)<;>(try simp only[go_sem] at h)<;>(try exact g_f))|((first|refine g_t ?_|refine g_g ?_|refine g_U ?_|refine g_A ?_|refine g_W ?_);(try simp -implicitDefEqProofs only[go_sem]))|(with_reducible refine hK _ _ ?_;clear hK K)|(clear hK K;first|(with_reducible refine hK _ _ ?_;clear hK K)|(clear hK K;with_reducible refine hK _ _ ?_;clear hK K)|(clear hK K;clear hK K;with_reducible refine hK _ _ ?_;clear hK K))|(with_reducible refine splitB_intro (fun h=>?_) (fun h=>?_)<;>(try simp only[go_sem] at h)<;>(try exact g_f)<;>(try simp -implicitDefEqProofs only[go_sem]))|(with_reducible refine And.intro (fun h=>?_) (fun h=>?_)<;>(try simp only[go_sem] at h)<;>(try exact g_f))|(with_reducible refine And.intro ?_ ?_;· exact g_x)|(with_reducible intro h;(try simp only[go_sem] at h);(try exact g_f))))

def badT (n : Net) (v : Int) : Bool := !(decide (v = -1) || inR v 0 (n.nodes - 1))

theorem walk2_calls (n : Net) (v : Int) (σ : Store) : ACalls Try.prog 115 [intA1 v, .cp (netC n) 0] σ fun r' σ' => σ' = σ ∧ r' = .c (.bool (badT n v)) := by
  refine ACalls_of_awp Try.func115 rfl Try.results115 ?_
  simp only [List.length_cons, List.length_nil, Try.ntmps115, Nat.reduceAdd, Nat.reduceSub, enterA]
  (repeat' (first|(refine g_s fun K hK=>?_)|(refine g_b ?_)|(refine g_r ?_)|(refine g_k ?_;simp only[thenQ,blockQ])|(refine g_e ?_;simp only[thenQ,blockQ,↓reduceIte,Nat.reduceEqDiff])|(refine g_c (fun h=>?_) (fun h=>?_)<;>(try simp only[go_sem] at h)<;>(try exact g_f))|((first|refine g_t ?_|refine g_g ?_|refine g_U ?_|refine g_A ?_|refine (tisNode_calls n v _).use ?_|refine g_q (fun τ=>tisNode_calls n v _) ?_|refine g_W ?_);(try simp -implicitDefEqProofs only[go_sem]))|(with_reducible refine hK _ _ ?_;clear hK K)|(clear hK K;first|(with_reducible refine hK _ _ ?_;clear hK K)|(clear hK K;with_reducible refine hK _ _ ?_;clear hK K)|(clear hK K;clear hK K;with_reducible refine hK _ _ ?_;clear hK K))|(with_reducible refine splitB_intro (fun h=>?_) (fun h=>?_)<;>(try simp only[go_sem] at h)<;>(try exact g_f)<;>(try simp -implicitDefEqProofs only[go_sem]))|(with_reducible refine And.intro (fun h=>?_) (fun h=>?_)<;>(try simp only[go_sem] at h)<;>(try exact g_f))|(with_reducible refine And.intro ?_ ?_;· exact g_x)|(with_reducible intro h;(try simp only[go_sem] at h);(try exact g_f))))
  all_goals simp [badT, *]

end Go.Proofs.Ytephecognbbaoab
