/- Turns, as the program and as the document checks them. -/
import Derived.Test.YtephecognbbaoabMt
import Derived.Test.YtephecognbbaoabPv
namespace Go.Proofs.Ytephecognbbaoab
open Go
set_option linter.all false
set_option maxRecDepth 100000
set_option maxHeartbeats 4000000

def trnC (t : Trn) : List AV := [boolsA t.act, rowsC t.ages]
def trnsA (l : List Trn) : AV := .sl (l.map trnC)
attribute [go_sem] trnC trnsA
theorem trnC_len (l : List Trn) : (∀ e', e' ∈ l.map trnC → e'.length = 2) = True := len_map (f := trnC) (fun _ => rfl) l
theorem trnC_one (l : List Trn) : (∀ e', e' ∈ l.map trnC → e'.all oneA = true) = True := one_map (f := trnC) (fun _ => rfl) l
attribute [go_sem] trnC_len trnC_one

/-- What is known of turns that came in. -/
structure TrnOk (t : Trn) : Prop where
  act : t.act.length ≤ 140737488355328
  ages : StOk t.ages
structure TsOk (t : List Trn) : Prop where
  len : t.length ≤ 2932031007402
  trn : ∀ u ∈ t, TrnOk u

theorem turn1_calls (n : Net) (r : List Int) (σ : Store) : ACalls Try.prog 149 [intsA r, .cp (netC n) 0] σ fun r' σ' => σ' = σ ∧ r' = .c (.bool ((r.length : Int) != n.nodes)) := by
  refine ACalls_of_awp Try.func149 rfl Try.results149 ?_
  simp only [List.length_cons, List.length_nil, Try.ntmps149, Nat.reduceAdd, Nat.reduceSub, enterA]
  (repeat' (first|(refine g_s fun K hK=>?_)|(refine g_b ?_)|(refine g_r ?_)|(refine g_k ?_;simp only[thenQ,blockQ])|(refine g_e ?_;simp only[thenQ,blockQ,↓reduceIte,Nat.reduceEqDiff])|(refine g_c (fun h=>?_) (fun h=>?_)<;>(try simp only[go_sem] at h)<;>(try exact g_f))|((first|refine g_t ?_|refine g_g ?_|refine g_U ?_|refine g_A ?_|refine g_W ?_);(try simp -implicitDefEqProofs only[go_sem]))|(with_reducible refine hK _ _ ?_;clear hK K)|(clear hK K;first|(with_reducible refine hK _ _ ?_;clear hK K)|(clear hK K;with_reducible refine hK _ _ ?_;clear hK K)|(clear hK K;clear hK K;with_reducible refine hK _ _ ?_;clear hK K))|(with_reducible refine splitB_intro (fun h=>?_) (fun h=>?_)<;>(try simp only[go_sem] at h)<;>(try exact g_f)<;>(try simp -implicitDefEqProofs only[go_sem]))|(with_reducible refine And.intro (fun h=>?_) (fun h=>?_)<;>(try simp only[go_sem] at h)<;>(try exact g_f))|(with_reducible refine And.intro ?_ ?_;· exact g_x)|(with_reducible intro h;(try simp only[go_sem] at h);(try exact g_f))))

theorem turn2_calls (v : Int) (σ : Store) : ACalls Try.prog 150 [intA1 v] σ fun r' σ' => σ' = σ ∧ r' = .c (.bool (!inR v 1 20)) := by
  refine ACalls_of_awp Try.func150 rfl Try.results150 ?_
  simp only [List.length_cons, List.length_nil, Try.ntmps150, Nat.reduceAdd, Nat.reduceSub, enterA]
  (repeat' (first|(refine g_s fun K hK=>?_)|(refine g_b ?_)|(refine g_r ?_)|(refine g_k ?_;simp only[thenQ,blockQ])|(refine g_e ?_;simp only[thenQ,blockQ,↓reduceIte,Nat.reduceEqDiff])|(refine g_c (fun h=>?_) (fun h=>?_)<;>(try simp only[go_sem] at h)<;>(try exact g_f))|((first|refine g_t ?_|refine g_g ?_|refine g_U ?_|refine g_A ?_|refine g_W ?_);(try simp -implicitDefEqProofs only[go_sem]))|(with_reducible refine hK _ _ ?_;clear hK K)|(clear hK K;first|(with_reducible refine hK _ _ ?_;clear hK K)|(clear hK K;with_reducible refine hK _ _ ?_;clear hK K)|(clear hK K;clear hK K;with_reducible refine hK _ _ ?_;clear hK K))|(with_reducible refine splitB_intro (fun h=>?_) (fun h=>?_)<;>(try simp only[go_sem] at h)<;>(try exact g_f)<;>(try simp -implicitDefEqProofs only[go_sem]))|(with_reducible refine And.intro (fun h=>?_) (fun h=>?_)<;>(try simp only[go_sem] at h)<;>(try exact g_f))|(with_reducible refine And.intro ?_ ?_;· exact g_x)|(with_reducible intro h;(try simp only[go_sem] at h);(try exact g_f))))
  · rw [inR, decide_eq_false (by omega)]; rfl
  · have h1 : (1 : Int) ≤ v := by omega
    by_cases h2 : v ≤ 20
    · simp [inR, h1, h2] <;> omega
    · simp [inR, h1, h2] <;> omega

theorem turn_calls (n : Net) (t : Trn) (ok : TrnOk t) (σ : Store) : ACalls Try.prog 89 [.agg (netC n), .agg (trnC t)] σ fun r σ' => σ' = σ ∧ r = intA1 (turnErr n t) := by
  have hlen := ok.ages.len
  have halen := ok.act
  refine ACalls.cutX ?_
  refine ACalls_of_awp Try.func89 rfl Try.results89 ?_
  simp only [List.length_cons, List.length_nil, Try.ntmps89, Nat.reduceAdd, Nat.reduceSub, enterA]
  refine AWP_seq_k fun K hK => ?_
  (refine AWP_region ?_; simp -implicitDefEqProofs only [go_sem])
  refine hK _ _ ?_; clear hK K
  refine AWP_freezeP 2 rfl (by simp only [st0]; rfl) ?_
  simp only [ss0, List.set_cons_zero]
  refine AWP_freezeP 3 rfl (by simp only [st1]; rfl) ?_
  simp only [ss1, List.set_cons_zero, List.set_cons_succ]
  (repeat' (first|(refine g_s fun K hK=>?_)|(refine g_b ?_)|(refine g_r ?_)|(refine g_k ?_;simp only[thenQ,blockQ])|(refine g_e ?_;simp only[thenQ,blockQ,↓reduceIte,Nat.reduceEqDiff])|(refine g_c (fun h=>?_) (fun h=>?_)<;>(try simp only[go_sem] at h)<;>(try exact g_f))|((first|refine g_t ?_|refine g_g ?_|refine g_U ?_|refine g_A ?_|refine (containsFunc_rows t.ages (fun r => (r.length : Int) != n.nodes) _ [] [.cp (netC n) 0] _ (by omega) (by kernel_rfl) (fun r hr => turn1_calls n r _)).use ?_|refine g_q (fun τ=>containsFunc_rows t.ages (fun r => (r.length : Int) != n.nodes) _ [] [.cp (netC n) 0] _ (by omega) (by kernel_rfl) (fun r hr => turn1_calls n r _)) ?_|refine g_W ?_);(try simp -implicitDefEqProofs only[go_sem]))|(with_reducible refine hK _ _ ?_;clear hK K)|(clear hK K;first|(with_reducible refine hK _ _ ?_;clear hK K)|(clear hK K;with_reducible refine hK _ _ ?_;clear hK K)|(clear hK K;clear hK K;with_reducible refine hK _ _ ?_;clear hK K))|(with_reducible refine splitB_intro (fun h=>?_) (fun h=>?_)<;>(try simp only[go_sem] at h)<;>(try exact g_f)<;>(try simp -implicitDefEqProofs only[go_sem]))|(with_reducible refine And.intro (fun h=>?_) (fun h=>?_)<;>(try simp only[go_sem] at h)<;>(try exact g_f))|(with_reducible refine And.intro ?_ ?_;· exact g_x)|(with_reducible intro h;(try simp only[go_sem] at h);(try exact g_f))))
  · refine CutQ_c rfl ?_
    rw [turnErr, if_pos (.inl (by assumption))]
  · refine CutQ_c rfl ?_
    rw [turnErr, if_pos (.inr (.inl (by assumption)))]
  · refine CutQ_c rfl ?_
    rw [turnErr, if_pos (.inr (.inr (by rw [← any_ne]; exact h)))]
  have hne : ¬ ((t.act.length : Int) ≠ n.nodes ∨ (t.ages.length : Int) ≠ n.nodes ∨ t.ages.any (fun r => decide ((r.length : Int) ≠ n.nodes)) = true) := by
    rw [not_or, not_or, ← any_ne, h]
    exact ⟨not_not_intro (by assumption), not_not_intro (by assumption), by simp⟩
  have hrow : ∀ r ∈ t.ages, r.length ≤ 1000000000000000000 := fun r hr => by have := ok.ages.row r hr; omega
  have hJ := hK
  clear hK
  refine AWP_each t.ages (fun _ r _ => (t.ages.any fun w => w.any fun v => !inR v 1 20) = r.any fun w => w.any fun v => !inR v 1 20) (fun k _ _ => [(30, intA1 k)]) (fun _ _ _ => σ ++ [.dead, .dead]) () [] rfl rfl (ALe_of ?_) ?_ ?_
  · simp -implicitDefEqProofs only [go_sem]
  · rintro k r _ τ hk0 hk1 hH L hL
    have hmem := at0_mem t.ages hk0 hk1
    obtain ⟨w, hw⟩ : ∃ w, at0 t.ages k = w := ⟨_, rfl⟩
    rw [hw] at hH hmem
    rw [List.any_cons] at hH
    simp -implicitDefEqProofs only [go_sem]
    (repeat' (first|(refine g_s fun K hK=>?_)|(refine g_b ?_)|(refine g_r ?_)|(refine g_k ?_;simp only[thenQ,blockQ])|(refine g_e ?_;simp only[thenQ,blockQ,↓reduceIte,Nat.reduceEqDiff])|(refine g_c (fun h=>?_) (fun h=>?_)<;>(try simp only[go_sem] at h)<;>(try exact g_f))|((first|refine g_t ?_|refine g_g ?_|refine g_U ?_|refine g_A ?_|refine (containsFunc_int w (fun v => !inR v 1 20) _ [] [] _ (hrow w hmem) (by kernel_rfl) (fun v hv => turn2_calls v _)).use ?_|refine g_q (fun τ=>containsFunc_int w (fun v => !inR v 1 20) _ [] [] _ (hrow w hmem) (by kernel_rfl) (fun v hv => turn2_calls v _)) ?_|refine g_W ?_);(try simp -implicitDefEqProofs only[go_sem,hw]))|(with_reducible refine hK _ _ ?_;clear hK K)|(clear hK K;first|(with_reducible refine hK _ _ ?_;clear hK K)|(clear hK K;with_reducible refine hK _ _ ?_;clear hK K)|(clear hK K;clear hK K;with_reducible refine hK _ _ ?_;clear hK K))|(with_reducible refine splitB_intro (fun h=>?_) (fun h=>?_)<;>(try simp only[go_sem] at h)<;>(try exact g_f)<;>(try simp -implicitDefEqProofs only[go_sem,hw]))|(with_reducible refine And.intro (fun h=>?_) (fun h=>?_)<;>(try simp only[go_sem] at h)<;>(try exact g_f))|(with_reducible refine And.intro ?_ ?_;· exact g_x)|(with_reducible intro h;(try simp only[go_sem] at h);(try exact g_f))))
    · refine CutQ_c rfl ?_
      rw [turnErr, if_neg hne, if_pos (by rw [hH, h, Bool.true_or])]
    · refine hL () [] _ _ (by rw [hH, h, Bool.false_or]) (ALe_of ?_) rfl
      simp -implicitDefEqProofs only [go_sem]
  · rintro k _ τ hk hH L
    simp -implicitDefEqProofs only [go_sem]
    (repeat' (first|(refine g_s fun K hK=>?_)|(refine g_b ?_)|(refine g_r ?_)|(refine g_k ?_;simp only[thenQ,blockQ])|(refine g_e ?_;simp only[thenQ,blockQ,↓reduceIte,Nat.reduceEqDiff])|(refine g_c (fun h=>?_) (fun h=>?_)<;>(try simp only[go_sem] at h)<;>(try exact g_f))|((first|refine g_t ?_|refine g_g ?_|refine g_U ?_|refine g_A ?_|refine g_W ?_);(try simp -implicitDefEqProofs only[go_sem]))|(with_reducible refine hK _ _ ?_;clear hK K)|(clear hK K;first|(with_reducible refine hK _ _ ?_;clear hK K)|(clear hK K;with_reducible refine hK _ _ ?_;clear hK K)|(clear hK K;clear hK K;with_reducible refine hK _ _ ?_;clear hK K))|(with_reducible refine splitB_intro (fun h=>?_) (fun h=>?_)<;>(try simp only[go_sem] at h)<;>(try exact g_f)<;>(try simp -implicitDefEqProofs only[go_sem]))|(with_reducible refine And.intro (fun h=>?_) (fun h=>?_)<;>(try simp only[go_sem] at h)<;>(try exact g_f))|(with_reducible refine And.intro ?_ ?_;· exact g_x)|(with_reducible intro h;(try simp only[go_sem] at h);(try exact g_f))))
    refine hJ _ _ ?_
    clear hJ
    (repeat' (first|(refine g_s fun K hK=>?_)|(refine g_b ?_)|(refine g_r ?_)|(refine g_k ?_;simp only[thenQ,blockQ])|(refine g_e ?_;simp only[thenQ,blockQ,↓reduceIte,Nat.reduceEqDiff])|(refine g_c (fun h=>?_) (fun h=>?_)<;>(try simp only[go_sem] at h)<;>(try exact g_f))|((first|refine g_t ?_|refine g_g ?_|refine g_U ?_|refine g_A ?_|refine g_W ?_);(try simp -implicitDefEqProofs only[go_sem]))|(with_reducible refine hK _ _ ?_;clear hK K)|(clear hK K;first|(with_reducible refine hK _ _ ?_;clear hK K)|(clear hK K;with_reducible refine hK _ _ ?_;clear hK K)|(clear hK K;clear hK K;with_reducible refine hK _ _ ?_;clear hK K))|(with_reducible refine splitB_intro (fun h=>?_) (fun h=>?_)<;>(try simp only[go_sem] at h)<;>(try exact g_f)<;>(try simp -implicitDefEqProofs only[go_sem]))|(with_reducible refine And.intro (fun h=>?_) (fun h=>?_)<;>(try simp only[go_sem] at h)<;>(try exact g_f))|(with_reducible refine And.intro ?_ ?_;· exact g_x)|(with_reducible intro h;(try simp only[go_sem] at h);(try exact g_f))))
    refine CutQ_c rfl ?_
    rw [turnErr, if_neg hne, if_neg (by rw [hH]; simp)]

theorem asyncCheck_calls (n : Net) (t : List Trn) (okn : NetOk n) (ok : TsOk t) (σ : Store) : ACalls Try.prog 33 [.agg (netC n), trnsA t] σ fun r σ' => σ' = σ ∧ r = intA1 (checkT n t) := by
  have hlen := ok.len
  have hC := netCheck_calls n okn
  refine ACalls.cutX ?_
  by_cases h0 : checkN n = 0
  · rw [h0] at hC
    refine ACalls_of_awp Try.func33 rfl Try.results33 ?_
    simp only [List.length_cons, List.length_nil, Try.ntmps33, Nat.reduceAdd, Nat.reduceSub, enterA]
    refine AWP_seq_k fun K hK => ?_
    (refine AWP_region ?_; simp -implicitDefEqProofs only [go_sem])
    refine hK _ _ ?_; clear hK K
    refine AWP_freezeP 2 rfl (by simp only [st0]; rfl) ?_
    simp only [ss0, List.set_cons_zero]
    (repeat' (first|(refine g_s fun K hK=>?_)|(refine g_b ?_)|(refine g_r ?_)|(refine g_k ?_;simp only[thenQ,blockQ])|(refine g_e ?_;simp only[thenQ,blockQ,↓reduceIte,Nat.reduceEqDiff])|(refine g_c (fun h=>?_) (fun h=>?_)<;>(try simp only[go_sem] at h)<;>(try exact g_f))|((first|refine g_t ?_|refine g_g ?_|refine g_U ?_|refine g_A ?_|refine (hC _).use ?_|refine g_q (fun τ=>hC _) ?_|refine g_W ?_);(try simp -implicitDefEqProofs only[go_sem]))|(with_reducible refine hK _ _ ?_;clear hK K)|(clear hK K;first|(with_reducible refine hK _ _ ?_;clear hK K)|(clear hK K;with_reducible refine hK _ _ ?_;clear hK K)|(clear hK K;clear hK K;with_reducible refine hK _ _ ?_;clear hK K))|(with_reducible refine splitB_intro (fun h=>?_) (fun h=>?_)<;>(try simp only[go_sem] at h)<;>(try exact g_f)<;>(try simp -implicitDefEqProofs only[go_sem]))|(with_reducible refine And.intro (fun h=>?_) (fun h=>?_)<;>(try simp only[go_sem] at h)<;>(try exact g_f))|(with_reducible refine And.intro ?_ ?_;· exact g_x)|(with_reducible intro h;(try simp only[go_sem] at h);(try exact g_f))))
    · refine CutQ_c rfl ?_
      rw [checkT, if_neg (not_not_intro h0), if_pos (by omega)]
    have h200 : ¬ t.length > 200 := by omega
    have hJ := hK
    clear hK
    refine AWP_each t (fun _ r _ => turnsErr n t = turnsErr n r) (fun k _ _ => [(19, intA1 k)]) (fun _ _ τ => σ ++ (.dead :: τ)) () [] rfl rfl (ALe_of ?_) ?_ ?_
    · simp -implicitDefEqProofs only [go_sem]
    · rintro k r _ τ hk0 hk1 hH L hL
      have hmem := at0_mem t hk0 hk1
      obtain ⟨u, hu⟩ : ∃ u, at0 t k = u := ⟨_, rfl⟩
      rw [hu] at hH hmem
      rw [turnsErr] at hH
      simp -implicitDefEqProofs only [go_sem]
      (repeat' (first|(refine g_s fun K hK=>?_)|(refine g_b ?_)|(refine g_r ?_)|(refine g_k ?_;simp only[thenQ,blockQ])|(refine g_e ?_;simp only[thenQ,blockQ,↓reduceIte,Nat.reduceEqDiff])|(refine g_c (fun h=>?_) (fun h=>?_)<;>(try simp only[go_sem] at h)<;>(try exact g_f))|((first|refine g_t ?_|refine g_g ?_|refine g_U ?_|refine g_A ?_|refine (turn_calls n u (ok.trn u hmem) _).use ?_|refine g_q (fun τ=>turn_calls n u (ok.trn u hmem) _) ?_|refine g_W ?_);(try simp -implicitDefEqProofs only[go_sem,hu]))|(with_reducible refine hK _ _ ?_;clear hK K)|(clear hK K;first|(with_reducible refine hK _ _ ?_;clear hK K)|(clear hK K;with_reducible refine hK _ _ ?_;clear hK K)|(clear hK K;clear hK K;with_reducible refine hK _ _ ?_;clear hK K))|(with_reducible refine splitB_intro (fun h=>?_) (fun h=>?_)<;>(try simp only[go_sem] at h)<;>(try exact g_f)<;>(try simp -implicitDefEqProofs only[go_sem,hu]))|(with_reducible refine And.intro (fun h=>?_) (fun h=>?_)<;>(try simp only[go_sem] at h)<;>(try exact g_f))|(with_reducible refine And.intro ?_ ?_;· exact g_x)|(with_reducible intro h;(try simp only[go_sem] at h);(try exact g_f))))
      · refine CutQ_c rfl ?_
        rw [checkT, if_neg (not_not_intro h0), if_neg h200, hH, if_pos (by assumption)]
      · refine hL () (τ ++ [.cells 2 [trnC u]]) _ _ (by rw [hH, if_neg (by simp [*])]) (ALe_of ?_) (by simp [trnC, boolsA, rowsC])
        simp -implicitDefEqProofs only [go_sem]
    · rintro k _ τ hk hH L
      simp -implicitDefEqProofs only [go_sem]
      (repeat' (first|(refine g_s fun K hK=>?_)|(refine g_b ?_)|(refine g_r ?_)|(refine g_k ?_;simp only[thenQ,blockQ])|(refine g_e ?_;simp only[thenQ,blockQ,↓reduceIte,Nat.reduceEqDiff])|(refine g_c (fun h=>?_) (fun h=>?_)<;>(try simp only[go_sem] at h)<;>(try exact g_f))|((first|refine g_t ?_|refine g_g ?_|refine g_U ?_|refine g_A ?_|refine g_W ?_);(try simp -implicitDefEqProofs only[go_sem]))|(with_reducible refine hK _ _ ?_;clear hK K)|(clear hK K;first|(with_reducible refine hK _ _ ?_;clear hK K)|(clear hK K;with_reducible refine hK _ _ ?_;clear hK K)|(clear hK K;clear hK K;with_reducible refine hK _ _ ?_;clear hK K))|(with_reducible refine splitB_intro (fun h=>?_) (fun h=>?_)<;>(try simp only[go_sem] at h)<;>(try exact g_f)<;>(try simp -implicitDefEqProofs only[go_sem]))|(with_reducible refine And.intro (fun h=>?_) (fun h=>?_)<;>(try simp only[go_sem] at h)<;>(try exact g_f))|(with_reducible refine And.intro ?_ ?_;· exact g_x)|(with_reducible intro h;(try simp only[go_sem] at h);(try exact g_f))))
      refine hJ _ _ ?_
      clear hJ
      (repeat' (first|(refine g_s fun K hK=>?_)|(refine g_b ?_)|(refine g_r ?_)|(refine g_k ?_;simp only[thenQ,blockQ])|(refine g_e ?_;simp only[thenQ,blockQ,↓reduceIte,Nat.reduceEqDiff])|(refine g_c (fun h=>?_) (fun h=>?_)<;>(try simp only[go_sem] at h)<;>(try exact g_f))|((first|refine g_t ?_|refine g_g ?_|refine g_U ?_|refine g_A ?_|refine g_W ?_);(try simp -implicitDefEqProofs only[go_sem]))|(with_reducible refine hK _ _ ?_;clear hK K)|(clear hK K;first|(with_reducible refine hK _ _ ?_;clear hK K)|(clear hK K;with_reducible refine hK _ _ ?_;clear hK K)|(clear hK K;clear hK K;with_reducible refine hK _ _ ?_;clear hK K))|(with_reducible refine splitB_intro (fun h=>?_) (fun h=>?_)<;>(try simp only[go_sem] at h)<;>(try exact g_f)<;>(try simp -implicitDefEqProofs only[go_sem]))|(with_reducible refine And.intro (fun h=>?_) (fun h=>?_)<;>(try simp only[go_sem] at h)<;>(try exact g_f))|(with_reducible refine And.intro ?_ ?_;· exact g_x)|(with_reducible intro h;(try simp only[go_sem] at h);(try exact g_f))))
      refine CutQ_c rfl ?_
      rw [checkT, if_neg (not_not_intro h0), if_neg h200, hH]
      rfl
  · refine ACalls_of_awp Try.func33 rfl Try.results33 ?_
    simp only [List.length_cons, List.length_nil, Try.ntmps33, Nat.reduceAdd, Nat.reduceSub, enterA]
    (repeat' (first|(refine g_s fun K hK=>?_)|(refine g_b ?_)|(refine g_r ?_)|(refine g_k ?_;simp only[thenQ,blockQ])|(refine g_e ?_;simp only[thenQ,blockQ,↓reduceIte,Nat.reduceEqDiff])|(refine g_c (fun h=>?_) (fun h=>?_)<;>(try simp only[go_sem] at h)<;>(try exact g_f))|((first|refine g_t ?_|refine g_g ?_|refine g_U ?_|refine g_A ?_|refine (hC _).use ?_|refine g_q (fun τ=>hC _) ?_|refine g_W ?_);(try simp -implicitDefEqProofs only[go_sem]))|(with_reducible refine hK _ _ ?_;clear hK K)|(clear hK K;first|(with_reducible refine hK _ _ ?_;clear hK K)|(clear hK K;with_reducible refine hK _ _ ?_;clear hK K)|(clear hK K;clear hK K;with_reducible refine hK _ _ ?_;clear hK K))|(with_reducible refine splitB_intro (fun h=>?_) (fun h=>?_)<;>(try simp only[go_sem] at h)<;>(try exact g_f)<;>(try simp -implicitDefEqProofs only[go_sem]))|(with_reducible refine And.intro (fun h=>?_) (fun h=>?_)<;>(try simp only[go_sem] at h)<;>(try exact g_f))|(with_reducible refine And.intro ?_ ?_;· exact g_x)|(with_reducible intro h;(try simp only[go_sem] at h);(try exact g_f))))
    refine CutQ_c rfl ?_
    rw [checkT, if_pos h0]
end Go.Proofs.Ytephecognbbaoab
