/- Few numbers, sorted in place. -/
import Derived.Test.YtephecognbbaoaaGreatZLk
import Derived.Test.YtephecognbbaoaaGreatZSo
open Go
set_option linter.all false
set_option maxRecDepth 100000
set_option maxHeartbeats 4000000
namespace Go.Proofs.YtephecognbbaoaaGreat
open Go
set_option linter.all false
set_option maxRecDepth 100000
set_option maxHeartbeats 4000000
theorem isNaN0_calls (x : Int) (σ : Store) : ACalls Tryz.prog 175 [intA1 x] σ fun r' σ' => σ' = σ ∧ r' = .c (.bool false) := by
  refine ACalls_of_awp Tryz.func175 rfl Tryz.results175 ?_
  simp only [List.length_cons, List.length_nil, Tryz.ntmps175, Nat.reduceAdd, Nat.reduceSub, enterA]
  (repeat' (first|(refine g_s fun K hK=>?_)|(refine g_b ?_)|(refine g_r ?_)|(refine g_k ?_;simp only[thenQ,blockQ])|(refine g_e ?_;simp only[thenQ,blockQ,↓reduceIte,Nat.reduceEqDiff])|(refine g_c (fun h=>?_) (fun h=>?_)<;>(try simp only[go_sem] at h)<;>(try exact g_f))|((first|refine g_t ?_|refine g_g ?_|refine g_U ?_|refine g_A ?_|refine g_W ?_);(try simp -implicitDefEqProofs only[go_sem]))|(with_reducible refine hK _ _ ?_;clear hK K)|(clear hK K;first|(with_reducible refine hK _ _ ?_;clear hK K)|(clear hK K;with_reducible refine hK _ _ ?_;clear hK K)|(clear hK K;clear hK K;with_reducible refine hK _ _ ?_;clear hK K))|(with_reducible refine splitB_intro (fun h=>?_) (fun h=>?_)<;>(try simp only[go_sem] at h)<;>(try exact g_f)<;>(try simp -implicitDefEqProofs only[go_sem]))|(with_reducible refine And.intro (fun h=>?_) (fun h=>?_)<;>(try simp only[go_sem] at h)<;>(try exact g_f))|(with_reducible refine And.intro ?_ ?_;· exact g_x)|(with_reducible intro h;(try simp only[go_sem] at h);(try exact g_f))))
  all_goals simp
theorem ok_less : callOk Tryz.prog 165 = true := by kernel_rfl
theorem ok_nan0 : callOk Tryz.prog 175 = true := by kernel_rfl
theorem ok_ins : callOk Tryz.prog 159 = true := by kernel_rfl
theorem ok_pdq : callOk Tryz.prog 147 = true := by kernel_rfl
theorem ok_len : callOk Tryz.prog 148 = true := by kernel_rfl
theorem ok_len64 : callOk Tryz.prog 169 = true := by kernel_rfl
attribute [go_sem] ok_less ok_nan0 ok_ins ok_pdq ok_len ok_len64
theorem less_calls (a b : Int) (σ : Store) : ACalls Tryz.prog 165 [intA1 a, intA1 b] σ fun r' σ' => σ' = σ ∧ r' = .c (.bool (decide (a < b))) := by
  have h := isNaN0_calls
  refine ACalls_of_awp Tryz.func165 rfl Tryz.results165 ?_
  simp only [List.length_cons, List.length_nil, Tryz.ntmps165, Nat.reduceAdd, Nat.reduceSub, enterA]
  (repeat' (first|(refine g_s fun K hK=>?_)|(refine g_b ?_)|(refine g_r ?_)|(refine g_k ?_;simp only[thenQ,blockQ])|(refine g_e ?_;simp only[thenQ,blockQ,↓reduceIte,Nat.reduceEqDiff])|(refine g_c (fun h=>?_) (fun h=>?_)<;>(try simp only[go_sem] at h)<;>(try exact g_f))|((first|refine g_t ?_|refine g_g ?_|refine g_U ?_|refine g_A ?_|refine (h _ _).use ?_|refine g_q (fun τ=>h _ _) ?_|refine g_W ?_);(try simp -implicitDefEqProofs only[go_sem]))|(with_reducible refine hK _ _ ?_;clear hK K)|(clear hK K;first|(with_reducible refine hK _ _ ?_;clear hK K)|(clear hK K;with_reducible refine hK _ _ ?_;clear hK K)|(clear hK K;clear hK K;with_reducible refine hK _ _ ?_;clear hK K))|(with_reducible refine splitB_intro (fun h=>?_) (fun h=>?_)<;>(try simp only[go_sem] at h)<;>(try exact g_f)<;>(try simp -implicitDefEqProofs only[go_sem]))|(with_reducible refine And.intro (fun h=>?_) (fun h=>?_)<;>(try simp only[go_sem] at h)<;>(try exact g_f))|(with_reducible refine And.intro ?_ ?_;· exact g_x)|(with_reducible intro h;(try simp only[go_sem] at h);(try exact g_f))))
theorem get_mapN (l : List Int) {k : Nat} (h : k < l.length) : (l.map intC)[k]? = some [.c (.int .i64 (l.getD k 0))] := by
  simp [List.getD_eq_getElem?_getD, h, intC]
theorem insertion_calls (S : Store) (b c : Nat) (l : List Int) (hb : S[b]? = some (.cells 1 (l.map intC))) (hl : l.length ≤ 12) (hl1 : 1 ≤ l.length) :
    ACalls Tryz.prog 159 [.own b 1 0 l.length c, intA1 0, intA1 l.length] S fun r S' => S' = S.set b (.cells 1 ((sortI l).map intC)) ∧ r = .tup [] := by
  have hlt : b < S.length := (List.getElem?_eq_some_iff.1 hb).1
  have hgS : ∀ o, (S.set b o)[b]? = some o := fun o => List.getElem?_set_self hlt
  have hsS : ∀ o o', (S.set b o).set b o' = S.set b o' := fun o o' => List.set_set ..
  have hS0 : S = S.set b (.cells 1 (l.map intC)) := by
    obtain ⟨h1, h2⟩ := List.getElem?_eq_some_iff.1 hb
    rw [← h2, List.set_getElem_self]
  refine ACalls_of_awp Tryz.func159 rfl Tryz.results159 ?_
  simp only [List.length_cons, List.length_nil, Tryz.ntmps159, Nat.reduceAdd, Nat.reduceSub, enterA]
  (repeat' (first|(refine g_s fun K hK=>?_)|(refine g_b ?_)|(refine g_r ?_)|(refine g_k ?_;simp only[thenQ,blockQ])|(refine g_e ?_;simp only[thenQ,blockQ,↓reduceIte,Nat.reduceEqDiff])|(refine g_c (fun h=>?_) (fun h=>?_)<;>(try simp only[go_sem] at h)<;>(try exact g_f))|((first|refine g_t ?_|refine g_g ?_|refine g_U ?_|refine g_A ?_|refine g_W ?_);(try simp -implicitDefEqProofs only[go_sem]))|(with_reducible refine hK _ _ ?_;clear hK K)|(clear hK K;first|(with_reducible refine hK _ _ ?_;clear hK K)|(clear hK K;with_reducible refine hK _ _ ?_;clear hK K)|(clear hK K;clear hK K;with_reducible refine hK _ _ ?_;clear hK K))|(with_reducible refine splitB_intro (fun h=>?_) (fun h=>?_)<;>(try simp only[go_sem] at h)<;>(try exact g_f)<;>(try simp -implicitDefEqProofs only[go_sem]))|(with_reducible refine And.intro (fun h=>?_) (fun h=>?_)<;>(try simp only[go_sem] at h)<;>(try exact g_f))|(with_reducible refine And.intro ?_ ?_;· exact g_x)|(with_reducible intro h;(try simp only[go_sem] at h);(try exact g_f))))
  refine AWP_for ((l.length : Int) - 1) (fun k (st : List Int) => st.length = l.length ∧ sortI l = insS (l.length - 1 - k.toNat) (k.toNat + 1) st) (fun k _ _ => [(6, intA1 (k + 1))]) (fun _ st _ => S.set b (.cells 1 (st.map intC))) l [] (by omega) ⟨rfl, rfl⟩ hS0.symm (ALe_of ?_) ?_
  · simp -implicitDefEqProofs only [go_sem]
  · rintro k st τ hk0 hk1 ⟨h3, h4⟩ L hL
    by_cases hk2 : k < (l.length : Int) - 1
    · have ef : l.length - 1 - k.toNat = (l.length - 1 - (k + 1).toNat) + 1 := by omega
      have ek : (k + 1).toNat = k.toNat + 1 := by omega
      rw [ef, insS] at h4
      have i1 : I64 (k + 1) := by unfold I64; omega
      have i2 : I64 (k + 1 + 1) := by unfold I64; omega
      simp -implicitDefEqProofs only [go_sem]
      (repeat' (first|(refine g_s fun K hK=>?_)|(refine g_b ?_)|(refine g_r ?_)|(refine g_k ?_;simp only[thenQ,blockQ])|(refine g_e ?_;simp only[thenQ,blockQ,↓reduceIte,Nat.reduceEqDiff])|(refine g_c (fun h=>?_) (fun h=>?_)<;>(try simp only[go_sem] at h)<;>(try exact g_f))|((first|refine g_t ?_|refine g_g ?_|refine g_U ?_|refine g_A ?_|refine g_W ?_);(try simp -implicitDefEqProofs only[go_sem,i1, i2]))|(with_reducible refine hK _ _ ?_;clear hK K)|(clear hK K;first|(with_reducible refine hK _ _ ?_;clear hK K)|(clear hK K;with_reducible refine hK _ _ ?_;clear hK K)|(clear hK K;clear hK K;with_reducible refine hK _ _ ?_;clear hK K))|(with_reducible refine splitB_intro (fun h=>?_) (fun h=>?_)<;>(try simp only[go_sem] at h)<;>(try exact g_f)<;>(try simp -implicitDefEqProofs only[go_sem,i1, i2]))|(with_reducible refine And.intro (fun h=>?_) (fun h=>?_)<;>(try simp only[go_sem] at h)<;>(try exact g_f))|(with_reducible refine And.intro ?_ ?_;· exact g_x)|(with_reducible intro h;(try simp only[go_sem] at h);(try exact g_f))))
      have hJ2 := hK
      clear hK
      refine AWP_for (k + 1) (fun q (s2 : List Int) => s2.length = l.length ∧ insJ (k.toNat + 1) st = insJ (k.toNat + 1 - q.toNat) s2) (fun q _ _ => [(7, intA1 (k + 1 - q))]) (fun _ s2 _ => S.set b (.cells 1 (s2.map intC))) st [] (by omega) ⟨h3, rfl⟩ rfl (ALe_of ?_) ?_
      · simp -implicitDefEqProofs only [go_sem]
        simp
      · rintro q s2 τ2 hq0 hq1 ⟨h5, h6⟩ L2 hL2
        by_cases hq2 : q < k + 1
        · obtain ⟨j, hj⟩ : ∃ j : Nat, k + 1 - q = (j : Int) + 1 := ⟨(k - q).toNat, by omega⟩
          have ej : k.toNat + 1 - q.toNat = j + 1 := by omega
          have ej2 : k.toNat + 1 - (q + 1).toNat = j := by omega
          have tj : ((j : Int) + 1).toNat = j + 1 := by omega
          have hjl : j + 1 < s2.length := by omega
          have e1 : (j : Int) + 1 - 1 = j := by omega
          have g1 := get_mapN s2 (k := j + 1) hjl
          have g2 := get_mapN s2 (k := j) (by omega)
          have g3 := get_mapN (s2.set (j + 1) (s2.getD j 0)) (k := j) (by rw [List.length_set]; omega)
          have hc := less_calls (s2.getD (j + 1) 0) (s2.getD j 0)
          have j1 : I64 (j : Int) := by unfold I64; omega
          have m1 : ∀ v, (s2.map intC).set (j + 1) [.c (.int .i64 v)] = (s2.set (j + 1) v).map intC := fun v => set_map s2 (j + 1) v
          have m2 : ∀ v, ((s2.set (j + 1) (s2.getD j 0)).map intC).set j [.c (.int .i64 v)] = (swp0 s2 j v).map intC := fun v => set_map _ j v
          have hins : insJ (j + 1) s2 = if s2.getD (j + 1) 0 < s2.getD j 0 then insJ j (swp s2 j) else s2 := rfl
          have hj' : k + 1 - (q + 1) = j := by omega
          rw [ej, hins] at h6
          simp -implicitDefEqProofs only [go_sem, hj]
          by_cases hlt2 : s2.getD (j + 1) 0 < s2.getD j 0
          · rw [if_pos hlt2] at h6
            rw [decide_eq_true hlt2] at hc
            (repeat' (first|(refine g_s fun K hK=>?_)|(refine g_b ?_)|(refine g_r ?_)|(refine g_k ?_;simp only[thenQ,blockQ])|(refine g_e ?_;simp only[thenQ,blockQ,↓reduceIte,Nat.reduceEqDiff])|(refine g_c (fun h=>?_) (fun h=>?_)<;>(try simp only[go_sem] at h)<;>(try exact g_f))|((first|refine g_t ?_|refine g_G ?_|refine AWP_drawX tab_mixed (by decide +kernel) ?_|refine (hc _).use ?_|refine g_q (fun τ=>hc _) ?_);(try simp -implicitDefEqProofs only[go_sem,hgS, hsS, g1, g2, g3, tj, e1, j1, m1, m2]))|(with_reducible refine hK _ _ ?_;clear hK K)|(clear hK K;first|(with_reducible refine hK _ _ ?_;clear hK K)|(clear hK K;with_reducible refine hK _ _ ?_;clear hK K)|(clear hK K;clear hK K;with_reducible refine hK _ _ ?_;clear hK K))|(with_reducible refine splitB_intro (fun h=>?_) (fun h=>?_)<;>(try simp only[go_sem] at h)<;>(try exact g_f)<;>(try simp -implicitDefEqProofs only[go_sem,hgS, hsS, g1, g2, g3, tj, e1, j1, m1, m2]))|(with_reducible refine And.intro (fun h=>?_) (fun h=>?_)<;>(try simp only[go_sem] at h)<;>(try exact g_f))|(with_reducible refine And.intro ?_ ?_;· exact g_x)|(with_reducible intro h;(try simp only[go_sem] at h);(try exact g_f))))
            refine hL2 (by omega) (swp s2 j) τ2 _ _ ⟨by rw [swp_len]; exact h5, by rw [h6, ej2]⟩ (ALe_of ?_) rfl
            simp -implicitDefEqProofs only [go_sem, hj']
          · rw [if_neg hlt2] at h6
            rw [decide_eq_false hlt2] at hc
            (repeat' (first|(refine g_s fun K hK=>?_)|(refine g_b ?_)|(refine g_r ?_)|(refine g_k ?_;simp only[thenQ,blockQ])|(refine g_e ?_;simp only[thenQ,blockQ,↓reduceIte,Nat.reduceEqDiff])|(refine g_c (fun h=>?_) (fun h=>?_)<;>(try simp only[go_sem] at h)<;>(try exact g_f))|((first|refine g_t ?_|refine g_g ?_|refine g_U ?_|refine g_A ?_|refine (hc _).use ?_|refine g_q (fun τ=>hc _) ?_|refine g_W ?_);(try simp -implicitDefEqProofs only[go_sem,hgS, hsS, g1, g2, tj, e1, j1]))|(with_reducible refine hK _ _ ?_;clear hK K)|(clear hK K;first|(with_reducible refine hK _ _ ?_;clear hK K)|(clear hK K;with_reducible refine hK _ _ ?_;clear hK K)|(clear hK K;clear hK K;with_reducible refine hK _ _ ?_;clear hK K))|(with_reducible refine splitB_intro (fun h=>?_) (fun h=>?_)<;>(try simp only[go_sem] at h)<;>(try exact g_f)<;>(try simp -implicitDefEqProofs only[go_sem,hgS, hsS, g1, g2, tj, e1, j1]))|(with_reducible refine And.intro (fun h=>?_) (fun h=>?_)<;>(try simp only[go_sem] at h)<;>(try exact g_f))|(with_reducible refine And.intro ?_ ?_;· exact g_x)|(with_reducible intro h;(try simp only[go_sem] at h);(try exact g_f))))
            refine hJ2 _ _ ?_
            clear hJ2
            (repeat' (first|(refine g_s fun K hK=>?_)|(refine g_b ?_)|(refine g_r ?_)|(refine g_k ?_;simp only[thenQ,blockQ])|(refine g_e ?_;simp only[thenQ,blockQ,↓reduceIte,Nat.reduceEqDiff])|(refine g_c (fun h=>?_) (fun h=>?_)<;>(try simp only[go_sem] at h)<;>(try exact g_f))|((first|refine g_t ?_|refine g_g ?_|refine g_U ?_|refine g_A ?_|refine g_W ?_);(try simp -implicitDefEqProofs only[go_sem,i2]))|(with_reducible refine hK _ _ ?_;clear hK K)|(clear hK K;first|(with_reducible refine hK _ _ ?_;clear hK K)|(clear hK K;with_reducible refine hK _ _ ?_;clear hK K)|(clear hK K;clear hK K;with_reducible refine hK _ _ ?_;clear hK K))|(with_reducible refine splitB_intro (fun h=>?_) (fun h=>?_)<;>(try simp only[go_sem] at h)<;>(try exact g_f)<;>(try simp -implicitDefEqProofs only[go_sem,i2]))|(with_reducible refine And.intro (fun h=>?_) (fun h=>?_)<;>(try simp only[go_sem] at h)<;>(try exact g_f))|(with_reducible refine And.intro ?_ ?_;· exact g_x)|(with_reducible intro h;(try simp only[go_sem] at h);(try exact g_f))))
            refine hL hk2 s2 τ _ _ ⟨h5, by rw [h4, h6, ek]⟩ (ALe_of ?_) rfl
            simp -implicitDefEqProofs only [go_sem]
        · have hqk : q = k + 1 := by omega
          have e0 : k + 1 - q = 0 := by omega
          have ej : k.toNat + 1 - q.toNat = 0 := by omega
          have hins : insJ 0 s2 = s2 := rfl
          rw [ej, hins] at h6
          simp -implicitDefEqProofs only [go_sem, e0]
          (repeat' (first|(refine g_s fun K hK=>?_)|(refine g_b ?_)|(refine g_r ?_)|(refine g_k ?_;simp only[thenQ,blockQ])|(refine g_e ?_;simp only[thenQ,blockQ,↓reduceIte,Nat.reduceEqDiff])|(refine g_c (fun h=>?_) (fun h=>?_)<;>(try simp only[go_sem] at h)<;>(try exact g_f))|((first|refine g_t ?_|refine g_g ?_|refine g_U ?_|refine g_A ?_|refine g_W ?_);(try simp -implicitDefEqProofs only[go_sem,hgS]))|(with_reducible refine hK _ _ ?_;clear hK K)|(clear hK K;first|(with_reducible refine hK _ _ ?_;clear hK K)|(clear hK K;with_reducible refine hK _ _ ?_;clear hK K)|(clear hK K;clear hK K;with_reducible refine hK _ _ ?_;clear hK K))|(with_reducible refine splitB_intro (fun h=>?_) (fun h=>?_)<;>(try simp only[go_sem] at h)<;>(try exact g_f)<;>(try simp -implicitDefEqProofs only[go_sem,hgS]))|(with_reducible refine And.intro (fun h=>?_) (fun h=>?_)<;>(try simp only[go_sem] at h)<;>(try exact g_f))|(with_reducible refine And.intro ?_ ?_;· exact g_x)|(with_reducible intro h;(try simp only[go_sem] at h);(try exact g_f))))
          refine hJ2 _ _ ?_
          clear hJ2
          (repeat' (first|(refine g_s fun K hK=>?_)|(refine g_b ?_)|(refine g_r ?_)|(refine g_k ?_;simp only[thenQ,blockQ])|(refine g_e ?_;simp only[thenQ,blockQ,↓reduceIte,Nat.reduceEqDiff])|(refine g_c (fun h=>?_) (fun h=>?_)<;>(try simp only[go_sem] at h)<;>(try exact g_f))|((first|refine g_t ?_|refine g_g ?_|refine g_U ?_|refine g_A ?_|refine g_W ?_);(try simp -implicitDefEqProofs only[go_sem,i2]))|(with_reducible refine hK _ _ ?_;clear hK K)|(clear hK K;first|(with_reducible refine hK _ _ ?_;clear hK K)|(clear hK K;with_reducible refine hK _ _ ?_;clear hK K)|(clear hK K;clear hK K;with_reducible refine hK _ _ ?_;clear hK K))|(with_reducible refine splitB_intro (fun h=>?_) (fun h=>?_)<;>(try simp only[go_sem] at h)<;>(try exact g_f)<;>(try simp -implicitDefEqProofs only[go_sem,i2]))|(with_reducible refine And.intro (fun h=>?_) (fun h=>?_)<;>(try simp only[go_sem] at h)<;>(try exact g_f))|(with_reducible refine And.intro ?_ ?_;· exact g_x)|(with_reducible intro h;(try simp only[go_sem] at h);(try exact g_f))))
          refine hL hk2 s2 τ _ _ ⟨h5, by rw [h4, h6, ek]⟩ (ALe_of ?_) rfl
          simp -implicitDefEqProofs only [go_sem]
    · have hkl : l.length - 1 - k.toNat = 0 := by omega
      rw [hkl] at h4
      have h4 : sortI l = st := h4
      simp -implicitDefEqProofs only [go_sem]
      (repeat' (first|(refine g_s fun K hK=>?_)|(refine g_b ?_)|(refine g_r ?_)|(refine g_k ?_;simp only[thenQ,blockQ])|(refine g_e ?_;simp only[thenQ,blockQ,↓reduceIte,Nat.reduceEqDiff])|(refine g_c (fun h=>?_) (fun h=>?_)<;>(try simp only[go_sem] at h)<;>(try exact g_f))|((first|refine g_t ?_|refine g_g ?_|refine g_U ?_|refine g_A ?_|refine g_W ?_);(try simp -implicitDefEqProofs only[go_sem]))|(with_reducible refine hK _ _ ?_;clear hK K)|(clear hK K;first|(with_reducible refine hK _ _ ?_;clear hK K)|(clear hK K;with_reducible refine hK _ _ ?_;clear hK K)|(clear hK K;clear hK K;with_reducible refine hK _ _ ?_;clear hK K))|(with_reducible refine splitB_intro (fun h=>?_) (fun h=>?_)<;>(try simp only[go_sem] at h)<;>(try exact g_f)<;>(try simp -implicitDefEqProofs only[go_sem]))|(with_reducible refine And.intro (fun h=>?_) (fun h=>?_)<;>(try simp only[go_sem] at h)<;>(try exact g_f))|(with_reducible refine And.intro ?_ ?_;· exact g_x)|(with_reducible intro h;(try simp only[go_sem] at h);(try exact g_f))))
      rw [h4]
      exact ⟨rfl, rfl⟩
theorem pdq_calls (S : Store) (b c : Nat) (l : List Int) (v : Int) (hb : S[b]? = some (.cells 1 (l.map intC))) (hl : l.length ≤ 12) (hl1 : 1 ≤ l.length) :
    ACalls Tryz.prog 147 [.own b 1 0 l.length c, intA1 0, intA1 l.length, intA1 v] S fun r S' => S' = S.set b (.cells 1 ((sortI l).map intC)) ∧ r = .tup [] := by
  have hI := insertion_calls S b c l hb hl hl1
  have i0 : I64 ((l.length : Int) - 0) := by unfold I64; omega
  have e0 : (l.length : Int) - 0 = l.length := Int.sub_zero _
  refine ACalls_of_awp Tryz.func147 rfl Tryz.results147 ?_
  simp only [List.length_cons, List.length_nil, Tryz.ntmps147, Nat.reduceAdd, Nat.reduceSub, enterA]
  (repeat' (first|(refine g_s fun K hK=>?_)|(refine g_b ?_)|(refine g_r ?_)|(refine g_k ?_;simp only[thenQ,blockQ])|(refine g_e ?_;simp only[thenQ,blockQ,↓reduceIte,Nat.reduceEqDiff])|(refine g_c (fun h=>?_) (fun h=>?_)<;>(try simp only[go_sem] at h)<;>(try exact g_f))|((first|refine g_t ?_|refine g_g ?_|refine g_U ?_|refine g_A ?_|refine g_W ?_);(try simp -implicitDefEqProofs only[go_sem]))|(with_reducible refine hK _ _ ?_;clear hK K)|(clear hK K;first|(with_reducible refine hK _ _ ?_;clear hK K)|(clear hK K;with_reducible refine hK _ _ ?_;clear hK K)|(clear hK K;clear hK K;with_reducible refine hK _ _ ?_;clear hK K))|(with_reducible refine splitB_intro (fun h=>?_) (fun h=>?_)<;>(try simp only[go_sem] at h)<;>(try exact g_f)<;>(try simp -implicitDefEqProofs only[go_sem]))|(with_reducible refine And.intro (fun h=>?_) (fun h=>?_)<;>(try simp only[go_sem] at h)<;>(try exact g_f))|(with_reducible refine And.intro ?_ ?_;· exact g_x)|(with_reducible intro h;(try simp only[go_sem] at h);(try exact g_f))))
  refine AWP_rounds 1 ?_
  (repeat' (first|(refine g_s fun K hK=>?_)|(refine g_b ?_)|(refine g_r ?_)|(refine g_k ?_;simp only[thenQ,blockQ])|(refine g_e ?_;simp only[thenQ,blockQ,↓reduceIte,Nat.reduceEqDiff])|(refine g_c (fun h=>?_) (fun h=>?_)<;>(try simp only[go_sem] at h)<;>(try exact g_f))|((first|refine g_t ?_|refine g_g ?_|refine g_U ?_|refine g_A ?_|refine ACalls.useA (hI) ?_|refine g_W ?_);(try simp -implicitDefEqProofs only[go_sem,i0, e0]))|(with_reducible refine hK _ _ ?_;clear hK K)|(clear hK K;first|(with_reducible refine hK _ _ ?_;clear hK K)|(clear hK K;with_reducible refine hK _ _ ?_;clear hK K)|(clear hK K;clear hK K;with_reducible refine hK _ _ ?_;clear hK K))|(with_reducible refine splitB_intro (fun h=>?_) (fun h=>?_)<;>(try simp only[go_sem] at h)<;>(try exact g_f)<;>(try simp -implicitDefEqProofs only[go_sem,i0, e0]))|(with_reducible refine And.intro (fun h=>?_) (fun h=>?_)<;>(try simp only[go_sem] at h)<;>(try exact g_f))|(with_reducible refine And.intro ?_ ?_;· exact g_x)|(with_reducible intro h;(try simp only[go_sem] at h);(try exact g_f))))
theorem on_at {α : Type} {x : Option α} {Q : α → Prop} (v : α) (h : x = some v) (hq : Q v) : on x Q := by rw [h]; exact hq
theorem blen_calls (n : Int) (h : n = 0 ∨ n = 1 ∨ n = 2 ∨ n = 3 ∨ n = 4 ∨ n = 5 ∨ n = 6) (σ : Store) : ACalls Tryz.prog 169 [.c (.int .u64 n)] σ fun r σ' => σ' = σ ∧ r = intA1 (if n = 0 then 0 else if n < 2 then 1 else if n < 4 then 2 else 3) := by
  rcases h with rfl | rfl | rfl | rfl | rfl | rfl | rfl
  all_goals refine ACalls_of_awp Tryz.func169 rfl Tryz.results169 ?_
            simp only [List.length_cons, List.length_nil, Tryz.ntmps169, Nat.reduceAdd, Nat.reduceSub, enterA]
  all_goals (repeat' (first|(refine g_s fun K hK=>?_)|(refine g_b ?_)|(refine g_r ?_)|(refine g_k ?_;simp only[thenQ,blockQ])|(refine g_e ?_;simp only[thenQ,blockQ,↓reduceIte,Nat.reduceEqDiff])|(refine g_c (fun h=>?_) (fun h=>?_)<;>(try simp only[go_sem] at h)<;>(try exact g_f))|((first|refine g_t ?_|refine g_g ?_|refine g_U ?_|refine g_A ?_|refine g_W ?_);(try simp -implicitDefEqProofs only[go_sem]))|(with_reducible refine hK _ _ ?_;clear hK K)|(clear hK K;first|(with_reducible refine hK _ _ ?_;clear hK K)|(clear hK K;with_reducible refine hK _ _ ?_;clear hK K)|(clear hK K;clear hK K;with_reducible refine hK _ _ ?_;clear hK K))|(with_reducible refine splitB_intro (fun h=>?_) (fun h=>?_)<;>(try simp only[go_sem] at h)<;>(try exact g_f)<;>(try simp -implicitDefEqProofs only[go_sem]))|(with_reducible refine And.intro (fun h=>?_) (fun h=>?_)<;>(try simp only[go_sem] at h)<;>(try exact g_f))|(with_reducible refine And.intro ?_ ?_;· exact g_x)|(with_reducible intro h;(try simp only[go_sem] at h);(try exact g_f))))
  · have u : ((UInt8.toNat 0 : Nat) : Int) = 0 := rfl
    refine on_at 0 (by kernel_rfl) ?_
    simp -implicitDefEqProofs only [go_sem, u]
    (repeat' (first|(refine g_s fun K hK=>?_)|(refine g_b ?_)|(refine g_r ?_)|(refine g_k ?_;simp only[thenQ,blockQ])|(refine g_e ?_;simp only[thenQ,blockQ,↓reduceIte,Nat.reduceEqDiff])|(refine g_c (fun h=>?_) (fun h=>?_)<;>(try simp only[go_sem] at h)<;>(try exact g_f))|((first|refine g_t ?_|refine g_g ?_|refine g_U ?_|refine g_A ?_|refine g_W ?_);(try simp -implicitDefEqProofs only[go_sem]))|(with_reducible refine hK _ _ ?_;clear hK K)|(clear hK K;first|(with_reducible refine hK _ _ ?_;clear hK K)|(clear hK K;with_reducible refine hK _ _ ?_;clear hK K)|(clear hK K;clear hK K;with_reducible refine hK _ _ ?_;clear hK K))|(with_reducible refine splitB_intro (fun h=>?_) (fun h=>?_)<;>(try simp only[go_sem] at h)<;>(try exact g_f)<;>(try simp -implicitDefEqProofs only[go_sem]))|(with_reducible refine And.intro (fun h=>?_) (fun h=>?_)<;>(try simp only[go_sem] at h)<;>(try exact g_f))|(with_reducible refine And.intro ?_ ?_;· exact g_x)|(with_reducible intro h;(try simp only[go_sem] at h);(try exact g_f))))
  · have u : ((UInt8.toNat 1 : Nat) : Int) = 1 := rfl
    refine on_at 1 (by kernel_rfl) ?_
    simp -implicitDefEqProofs only [go_sem, u]
    (repeat' (first|(refine g_s fun K hK=>?_)|(refine g_b ?_)|(refine g_r ?_)|(refine g_k ?_;simp only[thenQ,blockQ])|(refine g_e ?_;simp only[thenQ,blockQ,↓reduceIte,Nat.reduceEqDiff])|(refine g_c (fun h=>?_) (fun h=>?_)<;>(try simp only[go_sem] at h)<;>(try exact g_f))|((first|refine g_t ?_|refine g_g ?_|refine g_U ?_|refine g_A ?_|refine g_W ?_);(try simp -implicitDefEqProofs only[go_sem]))|(with_reducible refine hK _ _ ?_;clear hK K)|(clear hK K;first|(with_reducible refine hK _ _ ?_;clear hK K)|(clear hK K;with_reducible refine hK _ _ ?_;clear hK K)|(clear hK K;clear hK K;with_reducible refine hK _ _ ?_;clear hK K))|(with_reducible refine splitB_intro (fun h=>?_) (fun h=>?_)<;>(try simp only[go_sem] at h)<;>(try exact g_f)<;>(try simp -implicitDefEqProofs only[go_sem]))|(with_reducible refine And.intro (fun h=>?_) (fun h=>?_)<;>(try simp only[go_sem] at h)<;>(try exact g_f))|(with_reducible refine And.intro ?_ ?_;· exact g_x)|(with_reducible intro h;(try simp only[go_sem] at h);(try exact g_f))))
  · have u : ((UInt8.toNat 2 : Nat) : Int) = 2 := rfl
    refine on_at 2 (by kernel_rfl) ?_
    simp -implicitDefEqProofs only [go_sem, u]
    (repeat' (first|(refine g_s fun K hK=>?_)|(refine g_b ?_)|(refine g_r ?_)|(refine g_k ?_;simp only[thenQ,blockQ])|(refine g_e ?_;simp only[thenQ,blockQ,↓reduceIte,Nat.reduceEqDiff])|(refine g_c (fun h=>?_) (fun h=>?_)<;>(try simp only[go_sem] at h)<;>(try exact g_f))|((first|refine g_t ?_|refine g_g ?_|refine g_U ?_|refine g_A ?_|refine g_W ?_);(try simp -implicitDefEqProofs only[go_sem]))|(with_reducible refine hK _ _ ?_;clear hK K)|(clear hK K;first|(with_reducible refine hK _ _ ?_;clear hK K)|(clear hK K;with_reducible refine hK _ _ ?_;clear hK K)|(clear hK K;clear hK K;with_reducible refine hK _ _ ?_;clear hK K))|(with_reducible refine splitB_intro (fun h=>?_) (fun h=>?_)<;>(try simp only[go_sem] at h)<;>(try exact g_f)<;>(try simp -implicitDefEqProofs only[go_sem]))|(with_reducible refine And.intro (fun h=>?_) (fun h=>?_)<;>(try simp only[go_sem] at h)<;>(try exact g_f))|(with_reducible refine And.intro ?_ ?_;· exact g_x)|(with_reducible intro h;(try simp only[go_sem] at h);(try exact g_f))))
  · have u : ((UInt8.toNat 2 : Nat) : Int) = 2 := rfl
    refine on_at 2 (by kernel_rfl) ?_
    simp -implicitDefEqProofs only [go_sem, u]
    (repeat' (first|(refine g_s fun K hK=>?_)|(refine g_b ?_)|(refine g_r ?_)|(refine g_k ?_;simp only[thenQ,blockQ])|(refine g_e ?_;simp only[thenQ,blockQ,↓reduceIte,Nat.reduceEqDiff])|(refine g_c (fun h=>?_) (fun h=>?_)<;>(try simp only[go_sem] at h)<;>(try exact g_f))|((first|refine g_t ?_|refine g_g ?_|refine g_U ?_|refine g_A ?_|refine g_W ?_);(try simp -implicitDefEqProofs only[go_sem]))|(with_reducible refine hK _ _ ?_;clear hK K)|(clear hK K;first|(with_reducible refine hK _ _ ?_;clear hK K)|(clear hK K;with_reducible refine hK _ _ ?_;clear hK K)|(clear hK K;clear hK K;with_reducible refine hK _ _ ?_;clear hK K))|(with_reducible refine splitB_intro (fun h=>?_) (fun h=>?_)<;>(try simp only[go_sem] at h)<;>(try exact g_f)<;>(try simp -implicitDefEqProofs only[go_sem]))|(with_reducible refine And.intro (fun h=>?_) (fun h=>?_)<;>(try simp only[go_sem] at h)<;>(try exact g_f))|(with_reducible refine And.intro ?_ ?_;· exact g_x)|(with_reducible intro h;(try simp only[go_sem] at h);(try exact g_f))))
  · have u : ((UInt8.toNat 3 : Nat) : Int) = 3 := rfl
    refine on_at 3 (by kernel_rfl) ?_
    simp -implicitDefEqProofs only [go_sem, u]
    (repeat' (first|(refine g_s fun K hK=>?_)|(refine g_b ?_)|(refine g_r ?_)|(refine g_k ?_;simp only[thenQ,blockQ])|(refine g_e ?_;simp only[thenQ,blockQ,↓reduceIte,Nat.reduceEqDiff])|(refine g_c (fun h=>?_) (fun h=>?_)<;>(try simp only[go_sem] at h)<;>(try exact g_f))|((first|refine g_t ?_|refine g_g ?_|refine g_U ?_|refine g_A ?_|refine g_W ?_);(try simp -implicitDefEqProofs only[go_sem]))|(with_reducible refine hK _ _ ?_;clear hK K)|(clear hK K;first|(with_reducible refine hK _ _ ?_;clear hK K)|(clear hK K;with_reducible refine hK _ _ ?_;clear hK K)|(clear hK K;clear hK K;with_reducible refine hK _ _ ?_;clear hK K))|(with_reducible refine splitB_intro (fun h=>?_) (fun h=>?_)<;>(try simp only[go_sem] at h)<;>(try exact g_f)<;>(try simp -implicitDefEqProofs only[go_sem]))|(with_reducible refine And.intro (fun h=>?_) (fun h=>?_)<;>(try simp only[go_sem] at h)<;>(try exact g_f))|(with_reducible refine And.intro ?_ ?_;· exact g_x)|(with_reducible intro h;(try simp only[go_sem] at h);(try exact g_f))))
  · have u : ((UInt8.toNat 3 : Nat) : Int) = 3 := rfl
    refine on_at 3 (by kernel_rfl) ?_
    simp -implicitDefEqProofs only [go_sem, u]
    (repeat' (first|(refine g_s fun K hK=>?_)|(refine g_b ?_)|(refine g_r ?_)|(refine g_k ?_;simp only[thenQ,blockQ])|(refine g_e ?_;simp only[thenQ,blockQ,↓reduceIte,Nat.reduceEqDiff])|(refine g_c (fun h=>?_) (fun h=>?_)<;>(try simp only[go_sem] at h)<;>(try exact g_f))|((first|refine g_t ?_|refine g_g ?_|refine g_U ?_|refine g_A ?_|refine g_W ?_);(try simp -implicitDefEqProofs only[go_sem]))|(with_reducible refine hK _ _ ?_;clear hK K)|(clear hK K;first|(with_reducible refine hK _ _ ?_;clear hK K)|(clear hK K;with_reducible refine hK _ _ ?_;clear hK K)|(clear hK K;clear hK K;with_reducible refine hK _ _ ?_;clear hK K))|(with_reducible refine splitB_intro (fun h=>?_) (fun h=>?_)<;>(try simp only[go_sem] at h)<;>(try exact g_f)<;>(try simp -implicitDefEqProofs only[go_sem]))|(with_reducible refine And.intro (fun h=>?_) (fun h=>?_)<;>(try simp only[go_sem] at h)<;>(try exact g_f))|(with_reducible refine And.intro ?_ ?_;· exact g_x)|(with_reducible intro h;(try simp only[go_sem] at h);(try exact g_f))))
  · have u : ((UInt8.toNat 3 : Nat) : Int) = 3 := rfl
    refine on_at 3 (by kernel_rfl) ?_
    simp -implicitDefEqProofs only [go_sem, u]
    (repeat' (first|(refine g_s fun K hK=>?_)|(refine g_b ?_)|(refine g_r ?_)|(refine g_k ?_;simp only[thenQ,blockQ])|(refine g_e ?_;simp only[thenQ,blockQ,↓reduceIte,Nat.reduceEqDiff])|(refine g_c (fun h=>?_) (fun h=>?_)<;>(try simp only[go_sem] at h)<;>(try exact g_f))|((first|refine g_t ?_|refine g_g ?_|refine g_U ?_|refine g_A ?_|refine g_W ?_);(try simp -implicitDefEqProofs only[go_sem]))|(with_reducible refine hK _ _ ?_;clear hK K)|(clear hK K;first|(with_reducible refine hK _ _ ?_;clear hK K)|(clear hK K;with_reducible refine hK _ _ ?_;clear hK K)|(clear hK K;clear hK K;with_reducible refine hK _ _ ?_;clear hK K))|(with_reducible refine splitB_intro (fun h=>?_) (fun h=>?_)<;>(try simp only[go_sem] at h)<;>(try exact g_f)<;>(try simp -implicitDefEqProofs only[go_sem]))|(with_reducible refine And.intro (fun h=>?_) (fun h=>?_)<;>(try simp only[go_sem] at h)<;>(try exact g_f))|(with_reducible refine And.intro ?_ ?_;· exact g_x)|(with_reducible intro h;(try simp only[go_sem] at h);(try exact g_f))))
theorem AWP_condF {rd : Option Nat} {P : Program} {N : Nat} {x y : Code} {Q : Post} {α : AF} {σ : Store} (h : AWPr rd P N y Q α σ) : AWPr rd P N (.cond (.const (.bool false)) x y) Q α σ := by
  intro K imm m w a hs hf
  exact wpIn_cond_split (t := false) rfl (fun h => by cases h) (fun _ => h K imm m w a hs hf)
theorem blen0_calls (n : Int) (h : n = 0 ∨ n = 1 ∨ n = 2 ∨ n = 3 ∨ n = 4 ∨ n = 5 ∨ n = 6) (σ : Store) : ACalls Tryz.prog 148 [.c (.int .u64 n)] σ fun r σ' => σ' = σ ∧ r = intA1 (if n = 0 then 0 else if n < 2 then 1 else if n < 4 then 2 else 3) := by
  have hB := blen_calls n h
  have w : IntKind.u64.wrap n = n := by rcases h with rfl | rfl | rfl | rfl | rfl | rfl | rfl <;> rfl
  refine ACalls_of_awp Tryz.func148 rfl Tryz.results148 ?_
  simp only [List.length_cons, List.length_nil, Tryz.ntmps148, Nat.reduceAdd, Nat.reduceSub, enterA]
  (repeat' (first|(refine g_s fun K hK=>?_)|(refine g_b ?_)|(refine g_r ?_)|(refine g_k ?_;simp only[thenQ,blockQ])|(refine g_e ?_;simp only[thenQ,blockQ,↓reduceIte,Nat.reduceEqDiff])|(refine g_c (fun h=>?_) (fun h=>?_)<;>(try simp only[go_sem] at h)<;>(try exact g_f))|((first|refine g_t ?_|refine g_g ?_|refine g_U ?_|refine g_A ?_|refine (hB _).use ?_|refine g_q (fun τ=>hB _) ?_|refine g_W ?_);(try simp -implicitDefEqProofs only[go_sem,w]))|(with_reducible refine hK _ _ ?_;clear hK K)|(clear hK K;first|(with_reducible refine hK _ _ ?_;clear hK K)|(clear hK K;with_reducible refine hK _ _ ?_;clear hK K)|(clear hK K;clear hK K;with_reducible refine hK _ _ ?_;clear hK K))|(with_reducible refine splitB_intro (fun h=>?_) (fun h=>?_)<;>(try simp only[go_sem] at h)<;>(try exact g_f)<;>(try simp -implicitDefEqProofs only[go_sem,w]))|(with_reducible refine And.intro (fun h=>?_) (fun h=>?_)<;>(try simp only[go_sem] at h)<;>(try exact g_f))|(with_reducible refine And.intro ?_ ?_;· exact g_x)|(with_reducible intro h;(try simp only[go_sem] at h);(try exact g_f))))
  refine AWP_condF ?_
  (repeat' (first|(refine g_s fun K hK=>?_)|(refine g_b ?_)|(refine g_r ?_)|(refine g_k ?_;simp only[thenQ,blockQ])|(refine g_e ?_;simp only[thenQ,blockQ,↓reduceIte,Nat.reduceEqDiff])|(refine g_c (fun h=>?_) (fun h=>?_)<;>(try simp only[go_sem] at h)<;>(try exact g_f))|((first|refine g_t ?_|refine g_g ?_|refine g_U ?_|refine g_A ?_|refine (hB _).use ?_|refine g_q (fun τ=>hB _) ?_|refine g_W ?_);(try simp -implicitDefEqProofs only[go_sem,w]))|(with_reducible refine hK _ _ ?_;clear hK K)|(clear hK K;first|(with_reducible refine hK _ _ ?_;clear hK K)|(clear hK K;with_reducible refine hK _ _ ?_;clear hK K)|(clear hK K;clear hK K;with_reducible refine hK _ _ ?_;clear hK K))|(with_reducible refine splitB_intro (fun h=>?_) (fun h=>?_)<;>(try simp only[go_sem] at h)<;>(try exact g_f)<;>(try simp -implicitDefEqProofs only[go_sem,w]))|(with_reducible refine And.intro (fun h=>?_) (fun h=>?_)<;>(try simp only[go_sem] at h)<;>(try exact g_f))|(with_reducible refine And.intro ?_ ?_;· exact g_x)|(with_reducible intro h;(try simp only[go_sem] at h);(try exact g_f))))
theorem ok_sort : callOk Tryz.prog 121 = true := by kernel_rfl
attribute [go_sem] ok_sort
theorem sort_calls (S : Store) (b c : Nat) (l : List Int) (hb : S[b]? = some (.cells 1 (l.map intC))) (hl : l.length ≤ 6) (hl1 : 1 ≤ l.length) :
    ACalls Tryz.prog 121 [.own b 1 0 l.length c] S fun r S' => S' = S.set b (.cells 1 ((sortI l).map intC)) ∧ r = .tup [] := by
  have hB := blen0_calls (l.length : Int) (by omega)
  have hP := fun v => pdq_calls S b c l v hb (by omega) hl1
  have w : IntKind.u64.wrap (l.length : Int) = l.length := by
    have : l.length = 1 ∨ l.length = 2 ∨ l.length = 3 ∨ l.length = 4 ∨ l.length = 5 ∨ l.length = 6 := by omega
    rcases this with h | h | h | h | h | h <;> rw [h] <;> rfl
  refine ACalls_of_awp Tryz.func121 rfl Tryz.results121 ?_
  simp only [List.length_cons, List.length_nil, Tryz.ntmps121, Nat.reduceAdd, Nat.reduceSub, enterA]
  (repeat' (first|(refine g_s fun K hK=>?_)|(refine g_b ?_)|(refine g_r ?_)|(refine g_k ?_;simp only[thenQ,blockQ])|(refine g_e ?_;simp only[thenQ,blockQ,↓reduceIte,Nat.reduceEqDiff])|(refine g_c (fun h=>?_) (fun h=>?_)<;>(try simp only[go_sem] at h)<;>(try exact g_f))|((first|refine g_t ?_|refine g_g ?_|refine g_U ?_|refine g_A ?_|refine (hB _).use ?_|refine g_q (fun τ=>hB _) ?_|refine ACalls.useA (hP _) ?_|refine g_W ?_);(try simp -implicitDefEqProofs only[go_sem,w]))|(with_reducible refine hK _ _ ?_;clear hK K)|(clear hK K;first|(with_reducible refine hK _ _ ?_;clear hK K)|(clear hK K;with_reducible refine hK _ _ ?_;clear hK K)|(clear hK K;clear hK K;with_reducible refine hK _ _ ?_;clear hK K))|(with_reducible refine splitB_intro (fun h=>?_) (fun h=>?_)<;>(try simp only[go_sem] at h)<;>(try exact g_f)<;>(try simp -implicitDefEqProofs only[go_sem,w]))|(with_reducible refine And.intro (fun h=>?_) (fun h=>?_)<;>(try simp only[go_sem] at h)<;>(try exact g_f))|(with_reducible refine And.intro ?_ ?_;· exact g_x)|(with_reducible intro h;(try simp only[go_sem] at h);(try exact g_f))))
theorem insertion0_calls (S : Store) : ACalls Tryz.prog 159 [.c (.slice none 0 0), intA1 0, intA1 0] S fun r S' => S' = S ∧ r = .tup [] := by
  refine ACalls_of_awp Tryz.func159 rfl Tryz.results159 ?_
  simp only [List.length_cons, List.length_nil, Tryz.ntmps159, Nat.reduceAdd, Nat.reduceSub, enterA]
  (repeat' (first|(refine g_s fun K hK=>?_)|(refine g_b ?_)|(refine g_r ?_)|(refine g_k ?_;simp only[thenQ,blockQ])|(refine g_e ?_;simp only[thenQ,blockQ,↓reduceIte,Nat.reduceEqDiff])|(refine g_c (fun h=>?_) (fun h=>?_)<;>(try simp only[go_sem] at h)<;>(try exact g_f))|((first|refine g_t ?_|refine g_g ?_|refine g_U ?_|refine g_A ?_|refine g_W ?_);(try simp -implicitDefEqProofs only[go_sem]))|(with_reducible refine hK _ _ ?_;clear hK K)|(clear hK K;first|(with_reducible refine hK _ _ ?_;clear hK K)|(clear hK K;with_reducible refine hK _ _ ?_;clear hK K)|(clear hK K;clear hK K;with_reducible refine hK _ _ ?_;clear hK K))|(with_reducible refine splitB_intro (fun h=>?_) (fun h=>?_)<;>(try simp only[go_sem] at h)<;>(try exact g_f)<;>(try simp -implicitDefEqProofs only[go_sem]))|(with_reducible refine And.intro (fun h=>?_) (fun h=>?_)<;>(try simp only[go_sem] at h)<;>(try exact g_f))|(with_reducible refine And.intro ?_ ?_;· exact g_x)|(with_reducible intro h;(try simp only[go_sem] at h);(try exact g_f))))
  refine AWP_rounds 1 ?_
  (repeat' (first|(refine g_s fun K hK=>?_)|(refine g_b ?_)|(refine g_r ?_)|(refine g_k ?_;simp only[thenQ,blockQ])|(refine g_e ?_;simp only[thenQ,blockQ,↓reduceIte,Nat.reduceEqDiff])|(refine g_c (fun h=>?_) (fun h=>?_)<;>(try simp only[go_sem] at h)<;>(try exact g_f))|((first|refine g_t ?_|refine g_g ?_|refine g_U ?_|refine g_A ?_|refine g_W ?_);(try simp -implicitDefEqProofs only[go_sem]))|(with_reducible refine hK _ _ ?_;clear hK K)|(clear hK K;first|(with_reducible refine hK _ _ ?_;clear hK K)|(clear hK K;with_reducible refine hK _ _ ?_;clear hK K)|(clear hK K;clear hK K;with_reducible refine hK _ _ ?_;clear hK K))|(with_reducible refine splitB_intro (fun h=>?_) (fun h=>?_)<;>(try simp only[go_sem] at h)<;>(try exact g_f)<;>(try simp -implicitDefEqProofs only[go_sem]))|(with_reducible refine And.intro (fun h=>?_) (fun h=>?_)<;>(try simp only[go_sem] at h)<;>(try exact g_f))|(with_reducible refine And.intro ?_ ?_;· exact g_x)|(with_reducible intro h;(try simp only[go_sem] at h);(try exact g_f))))
  exact ⟨rfl, rfl⟩
theorem pdq0_calls (S : Store) (v : Int) : ACalls Tryz.prog 147 [.c (.slice none 0 0), intA1 0, intA1 0, intA1 v] S fun r S' => S' = S ∧ r = .tup [] := by
  have hI := insertion0_calls
  refine ACalls_of_awp Tryz.func147 rfl Tryz.results147 ?_
  simp only [List.length_cons, List.length_nil, Tryz.ntmps147, Nat.reduceAdd, Nat.reduceSub, enterA]
  (repeat' (first|(refine g_s fun K hK=>?_)|(refine g_b ?_)|(refine g_r ?_)|(refine g_k ?_;simp only[thenQ,blockQ])|(refine g_e ?_;simp only[thenQ,blockQ,↓reduceIte,Nat.reduceEqDiff])|(refine g_c (fun h=>?_) (fun h=>?_)<;>(try simp only[go_sem] at h)<;>(try exact g_f))|((first|refine g_t ?_|refine g_g ?_|refine g_U ?_|refine g_A ?_|refine g_W ?_);(try simp -implicitDefEqProofs only[go_sem]))|(with_reducible refine hK _ _ ?_;clear hK K)|(clear hK K;first|(with_reducible refine hK _ _ ?_;clear hK K)|(clear hK K;with_reducible refine hK _ _ ?_;clear hK K)|(clear hK K;clear hK K;with_reducible refine hK _ _ ?_;clear hK K))|(with_reducible refine splitB_intro (fun h=>?_) (fun h=>?_)<;>(try simp only[go_sem] at h)<;>(try exact g_f)<;>(try simp -implicitDefEqProofs only[go_sem]))|(with_reducible refine And.intro (fun h=>?_) (fun h=>?_)<;>(try simp only[go_sem] at h)<;>(try exact g_f))|(with_reducible refine And.intro ?_ ?_;· exact g_x)|(with_reducible intro h;(try simp only[go_sem] at h);(try exact g_f))))
  refine AWP_rounds 1 ?_
  (repeat' (first|(refine g_s fun K hK=>?_)|(refine g_b ?_)|(refine g_r ?_)|(refine g_k ?_;simp only[thenQ,blockQ])|(refine g_e ?_;simp only[thenQ,blockQ,↓reduceIte,Nat.reduceEqDiff])|(refine g_c (fun h=>?_) (fun h=>?_)<;>(try simp only[go_sem] at h)<;>(try exact g_f))|((first|refine g_t ?_|refine g_g ?_|refine g_U ?_|refine g_A ?_|refine (hI _).use ?_|refine g_q (fun τ=>hI _) ?_|refine g_W ?_);(try simp -implicitDefEqProofs only[go_sem]))|(with_reducible refine hK _ _ ?_;clear hK K)|(clear hK K;first|(with_reducible refine hK _ _ ?_;clear hK K)|(clear hK K;with_reducible refine hK _ _ ?_;clear hK K)|(clear hK K;clear hK K;with_reducible refine hK _ _ ?_;clear hK K))|(with_reducible refine splitB_intro (fun h=>?_) (fun h=>?_)<;>(try simp only[go_sem] at h)<;>(try exact g_f)<;>(try simp -implicitDefEqProofs only[go_sem]))|(with_reducible refine And.intro (fun h=>?_) (fun h=>?_)<;>(try simp only[go_sem] at h)<;>(try exact g_f))|(with_reducible refine And.intro ?_ ?_;· exact g_x)|(with_reducible intro h;(try simp only[go_sem] at h);(try exact g_f))))
theorem sort0_calls (S : Store) : ACalls Tryz.prog 121 [.c (.slice none 0 0)] S fun r S' => S' = S ∧ r = .tup [] := by
  have hB := blen0_calls 0 (by omega)
  have hP := pdq0_calls
  have w : IntKind.u64.wrap 0 = 0 := rfl
  refine ACalls_of_awp Tryz.func121 rfl Tryz.results121 ?_
  simp only [List.length_cons, List.length_nil, Tryz.ntmps121, Nat.reduceAdd, Nat.reduceSub, enterA]
  (repeat' (first|(refine g_s fun K hK=>?_)|(refine g_b ?_)|(refine g_r ?_)|(refine g_k ?_;simp only[thenQ,blockQ])|(refine g_e ?_;simp only[thenQ,blockQ,↓reduceIte,Nat.reduceEqDiff])|(refine g_c (fun h=>?_) (fun h=>?_)<;>(try simp only[go_sem] at h)<;>(try exact g_f))|((first|refine g_t ?_|refine g_g ?_|refine g_U ?_|refine g_A ?_|refine (hB _).use ?_|refine g_q (fun τ=>hB _) ?_|refine (hP _ _).use ?_|refine g_q (fun τ=>hP _ _) ?_|refine g_W ?_);(try simp -implicitDefEqProofs only[go_sem,w]))|(with_reducible refine hK _ _ ?_;clear hK K)|(clear hK K;first|(with_reducible refine hK _ _ ?_;clear hK K)|(clear hK K;with_reducible refine hK _ _ ?_;clear hK K)|(clear hK K;clear hK K;with_reducible refine hK _ _ ?_;clear hK K))|(with_reducible refine splitB_intro (fun h=>?_) (fun h=>?_)<;>(try simp only[go_sem] at h)<;>(try exact g_f)<;>(try simp -implicitDefEqProofs only[go_sem,w]))|(with_reducible refine And.intro (fun h=>?_) (fun h=>?_)<;>(try simp only[go_sem] at h)<;>(try exact g_f))|(with_reducible refine And.intro ?_ ?_;· exact g_x)|(with_reducible intro h;(try simp only[go_sem] at h);(try exact g_f))))
end Go.Proofs.YtephecognbbaoaaGreat
namespace Go.Proofs.YtephecognbbaoaaGreat
theorem get_mapG {X : Type} [Inhabited X] (f : X → List AV) (l : List X) {k : Int} (h0 : 0 ≤ k) (h : k < l.length) : (l.map f)[k.toNat]? = some (f (at0 l k)) := by
  have : k.toNat < l.length := by omega
  simp [at0, List.getD_eq_getElem?_getD, this]
theorem elook1_calls (n : Net) (r : Rtr) (S : Store) (b rb t i : Nat) (rv gv rr : AV) (R : List (List AV)) (hn : NetIn n) (hr : RtrIn n r) (hb : S[b]? = some (.cells 7 [netC n ++ [rv, gv]])) (hrb : S[rb]? = some (.cells 2 R)) (hR : R[i]? = some [rr, .own t 1 0 r.told.length r.told.length]) (ht : S[t]? = some (.cells 1 (r.told.map rowC)))
    (to j : Int) (h0 : 0 ≤ to) (h1 : to < n.nodes) (h2 : 0 ≤ j) (h3 : j < n.nodes) (τ : Store) :
    ACalls Tryz.prog 122 [intA1 to, intA1 j, .cp [.ptr rb 2 i 0] 0, .cp [.ptr b 7 0 0] 0] (S ++ τ) fun r' S' => S' = S ++ τ ∧ r' = intA1 (toldAt n r to j) := by
  have s2 := hn.alg.s2
  have s24 := hn.alg.s24
  have n6 := hn.n6
  have htl := hr.tl
  have hg := get_mapG rowC r.told h0 (by omega)
  have hI := invalid_calls n.alg (by unfold I64; omega)
  have hm := at0_mem r.told h0 (by omega)
  have hbL : ∀ τ, (S ++ τ)[b]? = some (.cells 7 [netC n ++ [rv, gv]]) := fun τ => by rw [List.getElem?_append_left (List.getElem?_eq_some_iff.1 hb).1]; exact hb
  have hrbL : ∀ τ, (S ++ τ)[rb]? = some (.cells 2 R) := fun τ => by rw [List.getElem?_append_left (List.getElem?_eq_some_iff.1 hrb).1]; exact hrb
  have htL : ∀ τ, (S ++ τ)[t]? = some (.cells 1 (r.told.map rowC)) := fun τ => by rw [List.getElem?_append_left (List.getElem?_eq_some_iff.1 ht).1]; exact ht
  obtain ⟨w, hw⟩ : ∃ w, at0 r.told to = w := ⟨_, rfl⟩
  have hv := hr.tr _ hm
  unfold toldAt at2
  rw [hw] at hg hm hv ⊢
  by_cases he : w = []
  · subst he
    rw [if_pos rfl]
    refine ACalls_of_awp Tryz.func122 rfl Tryz.results122 ?_
    simp only [List.length_cons, List.length_nil, Tryz.ntmps122, Nat.reduceAdd, Nat.reduceSub, enterA]
    (repeat' (first|(refine g_s fun K hK=>?_)|(refine g_b ?_)|(refine g_r ?_)|(refine g_k ?_;simp only[thenQ,blockQ])|(refine g_e ?_;simp only[thenQ,blockQ,↓reduceIte,Nat.reduceEqDiff])|(refine g_c (fun h=>?_) (fun h=>?_)<;>(try simp only[go_sem] at h)<;>(try exact g_f))|((first|refine g_t ?_|refine g_g ?_|refine g_U ?_|refine g_A ?_|refine (hI _).use ?_|refine g_q (fun τ=>hI _) ?_|refine g_W ?_);(try simp -implicitDefEqProofs only[go_sem,hbL, hrbL, htL, hR, hg]))|(with_reducible refine hK _ _ ?_;clear hK K)|(clear hK K;first|(with_reducible refine hK _ _ ?_;clear hK K)|(clear hK K;with_reducible refine hK _ _ ?_;clear hK K)|(clear hK K;clear hK K;with_reducible refine hK _ _ ?_;clear hK K))|(with_reducible refine splitB_intro (fun h=>?_) (fun h=>?_)<;>(try simp only[go_sem] at h)<;>(try exact g_f)<;>(try simp -implicitDefEqProofs only[go_sem,hbL, hrbL, htL, hR, hg]))|(with_reducible refine And.intro (fun h=>?_) (fun h=>?_)<;>(try simp only[go_sem] at h)<;>(try exact g_f))|(with_reducible refine And.intro ?_ ?_;· exact g_x)|(with_reducible intro h;(try simp only[go_sem] at h);(try exact g_f))))
  · rw [if_neg he]
    obtain ⟨h5, h6⟩ := hv.resolve_left he
    refine ACalls_of_awp Tryz.func122 rfl Tryz.results122 ?_
    simp only [List.length_cons, List.length_nil, Tryz.ntmps122, Nat.reduceAdd, Nat.reduceSub, enterA]
    (repeat' (first|(refine g_s fun K hK=>?_)|(refine g_b ?_)|(refine g_r ?_)|(refine g_k ?_;simp only[thenQ,blockQ])|(refine g_e ?_;simp only[thenQ,blockQ,↓reduceIte,Nat.reduceEqDiff])|(refine g_c (fun h=>?_) (fun h=>?_)<;>(try simp only[go_sem] at h)<;>(try exact g_f))|((first|refine g_t ?_|refine g_g ?_|refine g_U ?_|refine g_A ?_|refine (hI _).use ?_|refine g_q (fun τ=>hI _) ?_|refine g_W ?_);(try simp -implicitDefEqProofs only[go_sem,hbL, hrbL, htL, hR, hg]))|(with_reducible refine hK _ _ ?_;clear hK K)|(clear hK K;first|(with_reducible refine hK _ _ ?_;clear hK K)|(clear hK K;with_reducible refine hK _ _ ?_;clear hK K)|(clear hK K;clear hK K;with_reducible refine hK _ _ ?_;clear hK K))|(with_reducible refine splitB_intro (fun h=>?_) (fun h=>?_)<;>(try simp only[go_sem] at h)<;>(try exact g_f)<;>(try simp -implicitDefEqProofs only[go_sem,hbL, hrbL, htL, hR, hg]))|(with_reducible refine And.intro (fun h=>?_) (fun h=>?_)<;>(try simp only[go_sem] at h)<;>(try exact g_f))|(with_reducible refine And.intro ?_ ?_;· exact g_x)|(with_reducible intro h;(try simp only[go_sem] at h);(try exact g_f))))
theorem linked1_calls (k : Lnk) (x y : Int) (σ : Store) : ACalls Tryz.prog 144 [.agg (lnkC k), .cp [intA1 x] 0, .cp [intA1 y] 0] σ fun r σ' => σ' = σ ∧ r = .c (.bool (decide (k.fr = x) && decide (k.dst = y))) := by
  refine ACalls.cutX ?_
  refine ACalls_of_awp Tryz.func144 rfl Tryz.results144 ?_
  simp only [List.length_cons, List.length_nil, Tryz.ntmps144, Nat.reduceAdd, Nat.reduceSub, enterA]
  refine AWP_seq_k fun K hK => ?_
  (refine AWP_region ?_; simp -implicitDefEqProofs only [go_sem])
  refine hK _ _ ?_; clear hK K
  refine AWP_freezeP 3 rfl (by simp only [st0]; rfl) ?_
  simp only [ss0, List.set_cons_zero]
  (repeat' (first|(refine g_s fun K hK=>?_)|(refine g_b ?_)|(refine g_r ?_)|(refine g_k ?_;simp only[thenQ,blockQ])|(refine g_e ?_;simp only[thenQ,blockQ,↓reduceIte,Nat.reduceEqDiff])|(refine g_c (fun h=>?_) (fun h=>?_)<;>(try simp only[go_sem] at h)<;>(try exact g_f))|((first|refine g_t ?_|refine g_g ?_|refine g_U ?_|refine g_A ?_|refine g_W ?_);(try simp -implicitDefEqProofs only[go_sem]))|(with_reducible refine hK _ _ ?_;clear hK K)|(clear hK K;first|(with_reducible refine hK _ _ ?_;clear hK K)|(clear hK K;with_reducible refine hK _ _ ?_;clear hK K)|(clear hK K;clear hK K;with_reducible refine hK _ _ ?_;clear hK K))|(with_reducible refine splitB_intro (fun h=>?_) (fun h=>?_)<;>(try simp only[go_sem] at h)<;>(try exact g_f)<;>(try simp -implicitDefEqProofs only[go_sem]))|(with_reducible refine And.intro (fun h=>?_) (fun h=>?_)<;>(try simp only[go_sem] at h)<;>(try exact g_f))|(with_reducible refine And.intro ?_ ?_;· exact g_x)|(with_reducible intro h;(try simp only[go_sem] at h);(try exact g_f))))
  all_goals (refine CutQ_c rfl ?_; simp [*]; try rfl)
theorem indexFunc_lnk (l : List Lnk) (p : Lnk → Bool) (f : FuncId) (first cap : List AV) (σ : Store) (hl : l.length ≤ 1000000000000000000) (hok : callOk Tryz.prog f = true)
    (hf : ∀ x ∈ l, ∀ S, ACalls Tryz.prog f (first ++ .agg (lnkC x) :: cap) S fun r σ' => σ' = S ∧ r = .c (.bool (p x))) :
    ACalls Tryz.prog 158 [.sl (l.map lnkC), .fn f first cap] σ fun r σ' => σ' = σ ∧ r = intA1 (firstI p 0 l) := by
  refine ACalls_of_awp Tryz.func158 rfl Tryz.results158 ?_
  simp only [List.length_cons, List.length_nil, Tryz.ntmps158, Nat.reduceAdd, Nat.reduceSub, enterA]
  (repeat' (first|(refine g_s fun K hK=>?_)|(refine g_b ?_)|(refine g_r ?_)|(refine g_k ?_;simp only[thenQ,blockQ])|(refine g_e ?_;simp only[thenQ,blockQ,↓reduceIte,Nat.reduceEqDiff])|(refine g_c (fun h=>?_) (fun h=>?_)<;>(try simp only[go_sem] at h)<;>(try exact g_f))|((first|refine g_t ?_|refine g_g ?_|refine g_U ?_|refine g_A ?_|refine g_W ?_);(try simp -implicitDefEqProofs only[go_sem]))|(with_reducible refine hK _ _ ?_;clear hK K)|(clear hK K;first|(with_reducible refine hK _ _ ?_;clear hK K)|(clear hK K;with_reducible refine hK _ _ ?_;clear hK K)|(clear hK K;clear hK K;with_reducible refine hK _ _ ?_;clear hK K))|(with_reducible refine splitB_intro (fun h=>?_) (fun h=>?_)<;>(try simp only[go_sem] at h)<;>(try exact g_f)<;>(try simp -implicitDefEqProofs only[go_sem]))|(with_reducible refine And.intro (fun h=>?_) (fun h=>?_)<;>(try simp only[go_sem] at h)<;>(try exact g_f))|(with_reducible refine And.intro ?_ ?_;· exact g_x)|(with_reducible intro h;(try simp only[go_sem] at h);(try exact g_f))))
  refine AWP_each l (fun k r _ => firstI p 0 l = firstI p k r) (fun k _ _ => [(8, intA1 k)]) (fun _ _ _ => σ) () [] rfl rfl (ALe_of ?_) ?_ ?_
  · simp -implicitDefEqProofs only [go_sem]
  · rintro k r s τ hk0 hk1 h1 L hL
    obtain ⟨u, hu⟩ : ∃ u, at0 l k = u := ⟨_, rfl⟩
    have hm := at0_mem l hk0 hk1
    rw [hu] at h1 hm
    have hc := hf _ hm
    simp -implicitDefEqProofs only [go_sem]
    (repeat' (first|(refine g_s fun K hK=>?_)|(refine g_b ?_)|(refine g_r ?_)|(refine g_k ?_;simp only[thenQ,blockQ])|(refine g_e ?_;simp only[thenQ,blockQ,↓reduceIte,Nat.reduceEqDiff])|(refine g_c (fun h=>?_) (fun h=>?_)<;>(try simp only[go_sem] at h)<;>(try exact g_f))|((first|refine g_t ?_|refine g_g ?_|refine g_U ?_|refine g_A ?_|refine (hc _).use ?_|refine g_q (fun τ=>hc _) ?_|refine g_W ?_);(try simp -implicitDefEqProofs only[go_sem,hu]))|(with_reducible refine hK _ _ ?_;clear hK K)|(clear hK K;first|(with_reducible refine hK _ _ ?_;clear hK K)|(clear hK K;with_reducible refine hK _ _ ?_;clear hK K)|(clear hK K;clear hK K;with_reducible refine hK _ _ ?_;clear hK K))|(with_reducible refine splitB_intro (fun h=>?_) (fun h=>?_)<;>(try simp only[go_sem] at h)<;>(try exact g_f)<;>(try simp -implicitDefEqProofs only[go_sem,hu]))|(with_reducible refine And.intro (fun h=>?_) (fun h=>?_)<;>(try simp only[go_sem] at h)<;>(try exact g_f))|(with_reducible refine And.intro ?_ ?_;· exact g_x)|(with_reducible intro h;(try simp only[go_sem] at h);(try exact g_f))))
    · rw [h1, firstI, if_pos (by assumption)]
    · refine hL () [] _ _ ?_ (ALe_of ?_) rfl
      · rw [h1, firstI, if_neg (by simp [*])]
      · simp -implicitDefEqProofs only [go_sem]
  · intro k s τ hk h1 L
    simp -implicitDefEqProofs only [go_sem]
    (repeat' (first|(refine g_s fun K hK=>?_)|(refine g_b ?_)|(refine g_r ?_)|(refine g_k ?_;simp only[thenQ,blockQ])|(refine g_e ?_;simp only[thenQ,blockQ,↓reduceIte,Nat.reduceEqDiff])|(refine g_c (fun h=>?_) (fun h=>?_)<;>(try simp only[go_sem] at h)<;>(try exact g_f))|((first|refine g_t ?_|refine g_g ?_|refine g_U ?_|refine g_A ?_|refine g_W ?_);(try simp -implicitDefEqProofs only[go_sem]))|(with_reducible refine hK _ _ ?_;clear hK K)|(clear hK K;first|(with_reducible refine hK _ _ ?_;clear hK K)|(clear hK K;with_reducible refine hK _ _ ?_;clear hK K)|(clear hK K;clear hK K;with_reducible refine hK _ _ ?_;clear hK K))|(with_reducible refine splitB_intro (fun h=>?_) (fun h=>?_)<;>(try simp only[go_sem] at h)<;>(try exact g_f)<;>(try simp -implicitDefEqProofs only[go_sem]))|(with_reducible refine And.intro (fun h=>?_) (fun h=>?_)<;>(try simp only[go_sem] at h)<;>(try exact g_f))|(with_reducible refine And.intro ?_ ?_;· exact g_x)|(with_reducible intro h;(try simp only[go_sem] at h);(try exact g_f))))
    rw [h1, firstI]
theorem containsFunc_lnk (l : List Lnk) (p : Lnk → Bool) (f : FuncId) (first cap : List AV) (σ : Store) (hl : l.length ≤ 1000000000000000000) (hok : callOk Tryz.prog f = true)
    (hf : ∀ x ∈ l, ∀ S, ACalls Tryz.prog f (first ++ .agg (lnkC x) :: cap) S fun r σ' => σ' = S ∧ r = .c (.bool (p x))) :
    ACalls Tryz.prog 143 [.sl (l.map lnkC), .fn f first cap] σ fun r σ' => σ' = σ ∧ r = .c (.bool (l.any p)) := by
  have hc := indexFunc_lnk l p f first cap σ hl hok hf
  refine ACalls_of_awp Tryz.func143 rfl Tryz.results143 ?_
  simp only [List.length_cons, List.length_nil, Tryz.ntmps143, Nat.reduceAdd, Nat.reduceSub, enterA]
  (repeat' (first|(refine g_s fun K hK=>?_)|(refine g_b ?_)|(refine g_r ?_)|(refine g_k ?_;simp only[thenQ,blockQ])|(refine g_e ?_;simp only[thenQ,blockQ,↓reduceIte,Nat.reduceEqDiff])|(refine g_c (fun h=>?_) (fun h=>?_)<;>(try simp only[go_sem] at h)<;>(try exact g_f))|((first|refine g_t ?_|refine g_g ?_|refine g_U ?_|refine g_A ?_|refine (hc).use ?_|refine g_q (fun τ=>hc) ?_|refine g_W ?_);(try simp -implicitDefEqProofs only[go_sem]))|(with_reducible refine hK _ _ ?_;clear hK K)|(clear hK K;first|(with_reducible refine hK _ _ ?_;clear hK K)|(clear hK K;with_reducible refine hK _ _ ?_;clear hK K)|(clear hK K;clear hK K;with_reducible refine hK _ _ ?_;clear hK K))|(with_reducible refine splitB_intro (fun h=>?_) (fun h=>?_)<;>(try simp only[go_sem] at h)<;>(try exact g_f)<;>(try simp -implicitDefEqProofs only[go_sem]))|(with_reducible refine And.intro (fun h=>?_) (fun h=>?_)<;>(try simp only[go_sem] at h)<;>(try exact g_f))|(with_reducible refine And.intro ?_ ?_;· exact g_x)|(with_reducible intro h;(try simp only[go_sem] at h);(try exact g_f))))
  rw [← firstI_ge p l 0 (Int.le_refl _)]
theorem linked_calls (n : Net) (hn : NetIn n) (x y : Int) (S : Store) (b : Nat) (rv gv : AV) (hl : n.links.length ≤ 1000000000000000000) (hb : S[b]? = some (.cells 7 [netC n ++ [rv, gv]])) :
    ACalls Tryz.prog 119 [.ptr b 7 0 0, intA1 x, intA1 y] S fun r σ' => σ' = S ∧ r = .c (.bool (decide (0 ≤ edgeOf n x y))) := by
  have hbL : ∀ τ, (S ++ τ)[b]? = some (.cells 7 [netC n ++ [rv, gv]]) := fun τ => by rw [List.getElem?_append_left (List.getElem?_eq_some_iff.1 hb).1]; exact hb
  have hC := fun S => containsFunc_lnk n.links (fun k => decide (k.fr = x) && decide (k.dst = y)) 144 [] [.cp [intA1 x] 0, .cp [intA1 y] 0] S hl (by kernel_rfl) (fun k _ S => linked1_calls k x y S)
  rw [linked_any hn x y] at hC
  refine ACalls.cutX ?_
  refine ACalls_of_awp Tryz.func119 rfl Tryz.results119 ?_
  simp only [List.length_cons, List.length_nil, Tryz.ntmps119, Nat.reduceAdd, Nat.reduceSub, enterA]
  refine AWP_seq_k fun K hK => ?_
  (refine AWP_region ?_; simp -implicitDefEqProofs only [go_sem])
  refine hK _ _ ?_; clear hK K
  refine AWP_freezeP 4 rfl (by simp only [st0]; rfl) ?_
  simp only [ss0, List.set_cons_zero]
  refine AWP_freezeP 5 rfl (by simp only [st1]; rfl) ?_
  simp only [ss1, List.set_cons_zero, List.set_cons_succ]
  (repeat' (first|(refine g_s fun K hK=>?_)|(refine g_b ?_)|(refine g_r ?_)|(refine g_k ?_;simp only[thenQ,blockQ])|(refine g_e ?_;simp only[thenQ,blockQ,↓reduceIte,Nat.reduceEqDiff])|(refine g_c (fun h=>?_) (fun h=>?_)<;>(try simp only[go_sem] at h)<;>(try exact g_f))|((first|refine g_t ?_|refine g_g ?_|refine g_U ?_|refine g_A ?_|refine (hC _).use ?_|refine g_q (fun τ=>hC _) ?_|refine g_W ?_);(try simp -implicitDefEqProofs only[go_sem,hbL]))|(with_reducible refine hK _ _ ?_;clear hK K)|(clear hK K;first|(with_reducible refine hK _ _ ?_;clear hK K)|(clear hK K;with_reducible refine hK _ _ ?_;clear hK K)|(clear hK K;clear hK K;with_reducible refine hK _ _ ?_;clear hK K))|(with_reducible refine splitB_intro (fun h=>?_) (fun h=>?_)<;>(try simp only[go_sem] at h)<;>(try exact g_f)<;>(try simp -implicitDefEqProofs only[go_sem,hbL]))|(with_reducible refine And.intro (fun h=>?_) (fun h=>?_)<;>(try simp only[go_sem] at h)<;>(try exact g_f))|(with_reducible refine And.intro ?_ ?_;· exact g_x)|(with_reducible intro h;(try simp only[go_sem] at h);(try exact g_f))))
  exact CutQ_c rfl rfl
theorem hears_calls (n : Net) (i : Int) (S : Store) (b : Nat) (rv gv : AV) (hc : checkN n = 0) (hl : n.links.length ≤ 5864062014634) (hb : S[b]? = some (.cells 7 [netC n ++ [rv, gv]])) :
    ACalls Tryz.prog 89 [.ptr b 7 0 0, intA1 i] S fun r σ' => σ' = S ∧ r = intsA (hearsA n i) := by
  have hbL : ∀ τ, (S ++ τ)[b]? = some (.cells 7 [netC n ++ [rv, gv]]) := fun τ => by rw [List.getElem?_append_left (List.getElem?_eq_some_iff.1 hb).1]; exact hb
  obtain ⟨Z, hZ⟩ : ∃ Z, froms n i = Z := ⟨_, rfl⟩
  have hZl : Z.length ≤ 6 := by rw [← hZ]; exact from_len hc i
  have hZs : sortI Z = hearsA n i := by rw [← hZ]; exact sort_hears hc i
  refine ACalls.cutX ?_
  refine ACalls_of_awp Tryz.func89 rfl Tryz.results89 ?_
  simp only [List.length_cons, List.length_nil, Tryz.ntmps89, Nat.reduceAdd, Nat.reduceSub, enterA]
  (repeat' (first|(refine g_s fun K hK=>?_)|(refine g_b ?_)|(refine g_r ?_)|(refine g_k ?_;simp only[thenQ,blockQ])|(refine g_e ?_;simp only[thenQ,blockQ,↓reduceIte,Nat.reduceEqDiff])|(refine g_c (fun h=>?_) (fun h=>?_)<;>(try simp only[go_sem] at h)<;>(try exact g_f))|((first|refine g_t ?_|refine g_g ?_|refine g_U ?_|refine g_A ?_|refine g_W ?_);(try simp -implicitDefEqProofs only[go_sem,hb]))|(with_reducible refine hK _ _ ?_;clear hK K)|(clear hK K;first|(with_reducible refine hK _ _ ?_;clear hK K)|(clear hK K;with_reducible refine hK _ _ ?_;clear hK K)|(clear hK K;clear hK K;with_reducible refine hK _ _ ?_;clear hK K))|(with_reducible refine splitB_intro (fun h=>?_) (fun h=>?_)<;>(try simp only[go_sem] at h)<;>(try exact g_f)<;>(try simp -implicitDefEqProofs only[go_sem,hb]))|(with_reducible refine And.intro (fun h=>?_) (fun h=>?_)<;>(try simp only[go_sem] at h)<;>(try exact g_f))|(with_reducible refine And.intro ?_ ?_;· exact g_x)|(with_reducible intro h;(try simp only[go_sem] at h);(try exact g_f))))
  refine AWP_pad ?_
  have hJ := hK
  clear hK
  refine AWP_each n.links (fun _ r (s : List Int × Store) => s.1 ++ (r.filter fun k => decide (k.dst = i)).map (·.fr) = Z) (fun k s τ => [(14, intA1 k), (5, accV 1 (S.length + τ.length) s.1)]) (fun _ s τ => S ++ (τ ++ (accO intC 1 s.1 :: s.2))) ([], []) [] hZ ?_ (ALe_of ?_) ?_ ?_
  · simp [accO]
  · simp -implicitDefEqProofs only [go_sem, accV, accO]
  · rintro k r ⟨acc, ζ⟩ τ hk0 hk1 h3 L hL
    obtain ⟨w, hw⟩ : ∃ w, at0 n.links k = w := ⟨_, rfl⟩
    rw [hw] at h3
    simp only at h3
    have hal : acc.length ≤ 6 := by have := congrArg List.length h3; rw [List.length_append] at this; omega
    by_cases he : w.dst = i
    · rw [List.filter_cons_of_pos (by simpa using he), List.map_cons] at h3
      have hal : acc.length + 1 ≤ 6 := by have := congrArg List.length h3; rw [List.length_append, List.length_cons] at this; omega
      rcases acc with _ | ⟨y, acc⟩ <;> simp only [List.length_cons, List.length_nil] at hal <;> simp -implicitDefEqProofs only [go_sem, accV, accO]
      all_goals (repeat' (first|(refine g_s fun K hK=>?_)|(refine g_b ?_)|(refine g_r ?_)|(refine g_k ?_;simp only[thenQ,blockQ])|(refine g_e ?_;simp only[thenQ,blockQ,↓reduceIte,Nat.reduceEqDiff])|(refine g_c (fun h=>?_) (fun h=>?_)<;>(try simp only[go_sem] at h)<;>(try exact g_f))|((first|refine g_t ?_|refine g_G ?_|refine g_U ?_|refine g_A ?_|refine g_W ?_);(try simp -implicitDefEqProofs only[go_sem,hw, he]))|(with_reducible refine hK _ _ ?_;clear hK K)|(clear hK K;first|(with_reducible refine hK _ _ ?_;clear hK K)|(clear hK K;with_reducible refine hK _ _ ?_;clear hK K)|(clear hK K;clear hK K;with_reducible refine hK _ _ ?_;clear hK K))|(with_reducible refine splitB_intro (fun h=>?_) (fun h=>?_)<;>(try simp only[go_sem] at h)<;>(try exact g_f)<;>(try simp -implicitDefEqProofs only[go_sem,hw, he]))|(with_reducible refine And.intro (fun h=>?_) (fun h=>?_)<;>(try simp only[go_sem] at h)<;>(try exact g_f))|(with_reducible refine And.intro ?_ ?_;· exact g_x)|(with_reducible intro h;(try simp only[go_sem] at h);(try exact g_f))))
      · refine hL ([w.fr], []) (τ ++ (.dead :: (ζ ++ [.cells 3 [lnkC w]]))) _ _ (by simpa using h3) (ALe_of ?_) ?_
        · simp -implicitDefEqProofs only [go_sem, accV]
        · simp [accO, intC, lnkC, intA1, he]
      · refine hL (y :: acc ++ [w.fr], []) (τ ++ (.dead :: (ζ ++ [.cells 3 [lnkC w]]))) _ _ (by simpa using h3) (ALe_of ?_) ?_
        · simp -implicitDefEqProofs only [go_sem, accV]
        · simp [accO, intC, lnkC, intA1, he]
    · rw [List.filter_cons_of_neg (by simpa using he)] at h3
      rcases acc with _ | ⟨y, acc⟩ <;> simp -implicitDefEqProofs only [go_sem, accV, accO]
      all_goals (repeat' (first|(refine g_s fun K hK=>?_)|(refine g_b ?_)|(refine g_r ?_)|(refine g_k ?_;simp only[thenQ,blockQ])|(refine g_e ?_;simp only[thenQ,blockQ,↓reduceIte,Nat.reduceEqDiff])|(refine g_c (fun h=>?_) (fun h=>?_)<;>(try simp only[go_sem] at h)<;>(try exact g_f))|((first|refine g_t ?_|refine g_g ?_|refine g_U ?_|refine g_A ?_|refine g_W ?_);(try simp -implicitDefEqProofs only[go_sem,hw, he]))|(with_reducible refine hK _ _ ?_;clear hK K)|(clear hK K;first|(with_reducible refine hK _ _ ?_;clear hK K)|(clear hK K;with_reducible refine hK _ _ ?_;clear hK K)|(clear hK K;clear hK K;with_reducible refine hK _ _ ?_;clear hK K))|(with_reducible refine splitB_intro (fun h=>?_) (fun h=>?_)<;>(try simp only[go_sem] at h)<;>(try exact g_f)<;>(try simp -implicitDefEqProofs only[go_sem,hw, he]))|(with_reducible refine And.intro (fun h=>?_) (fun h=>?_)<;>(try simp only[go_sem] at h)<;>(try exact g_f))|(with_reducible refine And.intro ?_ ?_;· exact g_x)|(with_reducible intro h;(try simp only[go_sem] at h);(try exact g_f))))
      · refine hL ([], ζ ++ [.cells 3 [lnkC w]]) τ _ _ (by simpa using h3) (ALe_of ?_) ?_
        · simp -implicitDefEqProofs only [go_sem, accV]
        · simp [accO, intC, lnkC, intA1, he]
      · refine hL (y :: acc, ζ ++ [.cells 3 [lnkC w]]) τ _ _ (by simpa using h3) (ALe_of ?_) ?_
        · simp -implicitDefEqProofs only [go_sem, accV]
        · simp [accO, intC, lnkC, intA1, he]
  · rintro k ⟨acc, ζ⟩ τ hk h3 L
    simp only [List.filter_nil, List.map_nil, List.append_nil] at h3
    subst h3
    rcases acc with _ | ⟨y, acc⟩ <;> simp -implicitDefEqProofs only [go_sem, accV, accO]
    · (repeat' (first|(refine g_s fun K hK=>?_)|(refine g_b ?_)|(refine g_r ?_)|(refine g_k ?_;simp only[thenQ,blockQ])|(refine g_e ?_;simp only[thenQ,blockQ,↓reduceIte,Nat.reduceEqDiff])|(refine g_c (fun h=>?_) (fun h=>?_)<;>(try simp only[go_sem] at h)<;>(try exact g_f))|((first|refine g_t ?_|refine g_g ?_|refine g_U ?_|refine g_A ?_|refine g_W ?_);(try simp -implicitDefEqProofs only[go_sem]))|(with_reducible refine hK _ _ ?_;clear hK K)|(clear hK K;first|(with_reducible refine hK _ _ ?_;clear hK K)|(clear hK K;with_reducible refine hK _ _ ?_;clear hK K)|(clear hK K;clear hK K;with_reducible refine hK _ _ ?_;clear hK K))|(with_reducible refine splitB_intro (fun h=>?_) (fun h=>?_)<;>(try simp only[go_sem] at h)<;>(try exact g_f)<;>(try simp -implicitDefEqProofs only[go_sem]))|(with_reducible refine And.intro (fun h=>?_) (fun h=>?_)<;>(try simp only[go_sem] at h)<;>(try exact g_f))|(with_reducible refine And.intro ?_ ?_;· exact g_x)|(with_reducible intro h;(try simp only[go_sem] at h);(try exact g_f))))
      refine hJ _ _ ?_
      clear hJ
      (repeat' (first|(refine g_s fun K hK=>?_)|(refine g_b ?_)|(refine g_r ?_)|(refine g_k ?_;simp only[thenQ,blockQ])|(refine g_e ?_;simp only[thenQ,blockQ,↓reduceIte,Nat.reduceEqDiff])|(refine g_c (fun h=>?_) (fun h=>?_)<;>(try simp only[go_sem] at h)<;>(try exact g_f))|((first|refine g_t ?_|refine g_g ?_|refine g_U ?_|refine g_A ?_|refine (sort0_calls _).use ?_|refine g_q (fun τ=>sort0_calls _) ?_|refine g_W ?_);(try simp -implicitDefEqProofs only[go_sem]))|(with_reducible refine hK _ _ ?_;clear hK K)|(clear hK K;first|(with_reducible refine hK _ _ ?_;clear hK K)|(clear hK K;with_reducible refine hK _ _ ?_;clear hK K)|(clear hK K;clear hK K;with_reducible refine hK _ _ ?_;clear hK K))|(with_reducible refine splitB_intro (fun h=>?_) (fun h=>?_)<;>(try simp only[go_sem] at h)<;>(try exact g_f)<;>(try simp -implicitDefEqProofs only[go_sem]))|(with_reducible refine And.intro (fun h=>?_) (fun h=>?_)<;>(try simp only[go_sem] at h)<;>(try exact g_f))|(with_reducible refine And.intro ?_ ?_;· exact g_x)|(with_reducible intro h;(try simp only[go_sem] at h);(try exact g_f))))
      refine CutQ_w (τ := τ ++ (.dead :: ζ)) rfl (.c _) ?_
      rw [← hZs]
      exact .nil
    · (repeat' (first|(refine g_s fun K hK=>?_)|(refine g_b ?_)|(refine g_r ?_)|(refine g_k ?_;simp only[thenQ,blockQ])|(refine g_e ?_;simp only[thenQ,blockQ,↓reduceIte,Nat.reduceEqDiff])|(refine g_c (fun h=>?_) (fun h=>?_)<;>(try simp only[go_sem] at h)<;>(try exact g_f))|((first|refine g_t ?_|refine g_g ?_|refine g_U ?_|refine g_A ?_|refine g_W ?_);(try simp -implicitDefEqProofs only[go_sem]))|(with_reducible refine hK _ _ ?_;clear hK K)|(clear hK K;first|(with_reducible refine hK _ _ ?_;clear hK K)|(clear hK K;with_reducible refine hK _ _ ?_;clear hK K)|(clear hK K;clear hK K;with_reducible refine hK _ _ ?_;clear hK K))|(with_reducible refine splitB_intro (fun h=>?_) (fun h=>?_)<;>(try simp only[go_sem] at h)<;>(try exact g_f)<;>(try simp -implicitDefEqProofs only[go_sem]))|(with_reducible refine And.intro (fun h=>?_) (fun h=>?_)<;>(try simp only[go_sem] at h)<;>(try exact g_f))|(with_reducible refine And.intro ?_ ?_;· exact g_x)|(with_reducible intro h;(try simp only[go_sem] at h);(try exact g_f))))
      refine hJ _ _ ?_
      clear hJ
      have hg : (S ++ (τ ++ (.cells 1 ((y :: acc).map intC) :: ζ)))[S.length + τ.length]? = some (.cells 1 ((y :: acc).map intC)) := by
        simp -implicitDefEqProofs only [go_sem]
      have hsl : (sortI (y :: acc)).length = acc.length + 1 := sortI_len _
      (repeat' (first|(refine g_s fun K hK=>?_)|(refine g_b ?_)|(refine g_r ?_)|(refine g_k ?_;simp only[thenQ,blockQ])|(refine g_e ?_;simp only[thenQ,blockQ,↓reduceIte,Nat.reduceEqDiff])|(refine g_c (fun h=>?_) (fun h=>?_)<;>(try simp only[go_sem] at h)<;>(try exact g_f))|((first|refine g_g ?_|refine g_U ?_|refine g_A ?_|refine ACalls.useA (sort_calls _ (S.length + τ.length) (acc.length + 1) (y :: acc) hg hZl (by simp)) ?_|refine g_W ?_);(try simp -implicitDefEqProofs only[go_sem]))|(with_reducible refine hK _ _ ?_;clear hK K)|(clear hK K;first|(with_reducible refine hK _ _ ?_;clear hK K)|(clear hK K;with_reducible refine hK _ _ ?_;clear hK K)|(clear hK K;clear hK K;with_reducible refine hK _ _ ?_;clear hK K))|(with_reducible refine splitB_intro (fun h=>?_) (fun h=>?_)<;>(try simp only[go_sem] at h)<;>(try exact g_f)<;>(try simp -implicitDefEqProofs only[go_sem]))|(with_reducible refine And.intro (fun h=>?_) (fun h=>?_)<;>(try simp only[go_sem] at h)<;>(try exact g_f))|(with_reducible refine And.intro ?_ ?_;· exact g_x)|(with_reducible intro h;(try simp only[go_sem] at h);(try exact g_f))))
      have hel : elemsA (S ++ (τ ++ (.cells 1 ((sortI (y :: acc)).map intC) :: ζ))) (.own (S.length + τ.length) 1 0 (acc.length + 1) (acc.length + 1)) = some ((sortI (y :: acc)).map intC) := by
        simp [elemsA, hsl, List.take_of_length_le]
      refine AWP_freezeT 4 (a := .own (S.length + τ.length) 1 0 (acc.length + 1) (acc.length + 1)) (es := (sortI (y :: acc)).map intC) (by first | rfl | (simp -implicitDefEqProofs only [go_sem]; done) | (simp -implicitDefEqProofs only [go_sem]; rfl)) hel ?_
      have hkil : killA (S ++ (τ ++ Ob.cells 1 ((sortI (y :: acc)).map intC) :: ζ)) (.own (S.length + τ.length) 1 0 (acc.length + 1) (acc.length + 1)) = S ++ (τ ++ .dead :: ζ) := by simp [killA]
      rw [hkil]
      (repeat' (first|(refine g_s fun K hK=>?_)|(refine g_b ?_)|(refine g_r ?_)|(refine g_k ?_;simp only[thenQ,blockQ])|(refine g_e ?_;simp only[thenQ,blockQ,↓reduceIte,Nat.reduceEqDiff])|(refine g_c (fun h=>?_) (fun h=>?_)<;>(try simp only[go_sem] at h)<;>(try exact g_f))|((first|refine g_t ?_|refine g_g ?_|refine g_U ?_|refine g_A ?_|refine g_W ?_);(try simp -implicitDefEqProofs only[go_sem]))|(with_reducible refine hK _ _ ?_;clear hK K)|(clear hK K;first|(with_reducible refine hK _ _ ?_;clear hK K)|(clear hK K;with_reducible refine hK _ _ ?_;clear hK K)|(clear hK K;clear hK K;with_reducible refine hK _ _ ?_;clear hK K))|(with_reducible refine splitB_intro (fun h=>?_) (fun h=>?_)<;>(try simp only[go_sem] at h)<;>(try exact g_f)<;>(try simp -implicitDefEqProofs only[go_sem]))|(with_reducible refine And.intro (fun h=>?_) (fun h=>?_)<;>(try simp only[go_sem] at h)<;>(try exact g_f))|(with_reducible refine And.intro ?_ ?_;· exact g_x)|(with_reducible intro h;(try simp only[go_sem] at h);(try exact g_f))))
      rw [hZs]
      exact CutQ_w rfl (Bd.ints _) (.eq rfl)
end Go.Proofs.YtephecognbbaoaaGreat
namespace Go.Proofs.YtephecognbbaoaaGreat
def Keeps (ρ S : Store) : Prop := ∃ T, S = ρ ++ T
theorem Keeps.app {ρ S τ : Store} (h : Keeps ρ S) : Keeps ρ (S ++ τ) := by
  obtain ⟨T, rfl⟩ := h
  exact ⟨T ++ τ, List.append_assoc ..⟩
theorem Keeps.set {ρ S : Store} {x : Nat} {o : Ob} (h : Keeps ρ S) (hx : ρ.length ≤ x) : Keeps ρ (S.set x o) := by
  obtain ⟨T, rfl⟩ := h
  exact ⟨T.set (x - ρ.length) o, List.set_append_right _ _ hx⟩
theorem Keeps.len {ρ S : Store} (h : Keeps ρ S) : ρ.length ≤ S.length := by
  obtain ⟨T, rfl⟩ := h
  simp
theorem st_app {S τ : Store} {x : Nat} {o : Ob} (h : S[x]? = some o) : (S ++ τ)[x]? = some o := by
  rw [List.getElem?_append_left (List.getElem?_eq_some_iff.1 h).1]
  exact h
theorem st_set {S : Store} {x y : Nat} {o o' : Ob} (h : S[x]? = some o) (hne : y ≠ x) : (S.set y o')[x]? = some o := by
  rw [List.getElem?_set_ne hne]
  exact h
theorem st_setApp {S τ : Store} {x : Nat} {o o' : Ob} (h : S[x]? = some o) : (S ++ τ).set x o' = S.set x o' ++ τ :=
  List.set_append_left _ _ (List.getElem?_eq_some_iff.1 h).1
theorem st_self {S : Store} {x : Nat} {o o' : Ob} (h : S[x]? = some o) : (S.set x o')[x]? = some o' :=
  List.getElem?_set_self (List.getElem?_eq_some_iff.1 h).1
theorem zipW_set {X Y Z : Type} (f : X → Y → Z) : ∀ (i : Nat) (x : X) (y : Y) (l : List X) (l' : List Y), List.zipWith f (l.set i x) (l'.set i y) = (List.zipWith f l l').set i (f x y)
  | _, _, _, [], _ => by simp
  | _, _, _, _ :: _, [] => by simp
  | 0, _, _, _ :: _, _ :: _ => rfl
  | i + 1, x, y, _ :: l, _ :: l' => by simp [zipW_set f i x y l l']
theorem nodup_inj {X : Type} : ∀ {l : List X}, l.Nodup → ∀ (i j : Nat) (hi : i < l.length) (hj : j < l.length), l[i] = l[j] → i = j
  | [], _, i, _, hi, _, _ => absurd hi (Nat.not_lt_zero i)
  | x :: l, h, 0, 0, _, _, _ => rfl
  | x :: l, h, 0, j + 1, hi, hj, e => absurd ((show x = l[j]'(Nat.lt_of_succ_lt_succ hj) from e).symm ▸ List.getElem_mem (Nat.lt_of_succ_lt_succ hj) : x ∈ l) (List.nodup_cons.1 h).1
  | x :: l, h, i + 1, 0, hi, hj, e => absurd ((show l[i]'(Nat.lt_of_succ_lt_succ hi) = x from e) ▸ List.getElem_mem (Nat.lt_of_succ_lt_succ hi) : x ∈ l) (List.nodup_cons.1 h).1
  | x :: l, h, i + 1, j + 1, hi, hj, e => by
    rw [nodup_inj (List.nodup_cons.1 h).2 i j (Nat.lt_of_succ_lt_succ hi) (Nat.lt_of_succ_lt_succ hj) e]
theorem tabR_known : knownT Tryz.prog 153 = true := by kernel_rfl
theorem tabR_agg : aggSize Tryz.prog 153 = none := by kernel_rfl
theorem tabR_info : (Tryz.prog.info? 153).isSome = true := by kernel_rfl
theorem tabR_cells : Tryz.prog.cellsOf 153 = 1 := by kernel_rfl
theorem tabR_bytes : Tryz.prog.bytesOf 153 = 8 := by kernel_rfl
theorem tabR_zero : zeroA Tryz.prog 153 = some [.c (.pointer none)] := by kernel_rfl
attribute [go_sem] Tryz.underlying153 tabR_known tabR_agg tabR_info tabR_cells tabR_bytes tabR_zero
section
variable {S : Store} {lo b : Nat} {n : Net} {e : Eng} {rb : Nat} {tb : List Nat} {gv : AV} {gi : List Nat}
theorem BagAt.app {bag : List Mail} {τ : Store} (h : BagAt S gv bag gi) : BagAt (S ++ τ) gv bag gi := by
  rcases h with ⟨h1, h2, h3⟩ | ⟨gb, rest, h1, h2, h3, h4, h5⟩
  · exact .inl ⟨h1, h2, h3⟩
  · exact .inr ⟨gb, rest, h1, h2, st_app h3, h4, h5⟩
theorem BagAt.set {bag : List Mail} {x : Nat} {o : Ob} (h : BagAt S gv bag gi) (hx : x ∉ gi) : BagAt (S.set x o) gv bag gi := by
  rcases h with ⟨h1, h2, h3⟩ | ⟨gb, rest, h1, h2, h3, h4, h5⟩
  · exact .inl ⟨h1, h2, h3⟩
  · exact .inr ⟨gb, rest, h1, h2, st_set h3 (fun e => hx (by rw [h1, e]; simp)), h4, h5⟩
theorem MachW.app {τ : Store} (h : MachW S lo b n e rb tb gv gi) : MachW (S ++ τ) lo b n e rb tb gv gi :=
  ⟨st_app h.hb, st_app h.hrb, h.tl, fun i h1 h2 => st_app (h.ht i h1 h2), h.bag.app, h.nd, h.lo⟩
theorem MachW.ne (h : MachW S lo b n e rb tb gv gi) : b ≠ rb ∧ b ∉ tb ∧ b ∉ gi ∧ rb ∉ tb ∧ rb ∉ gi ∧ tb.Nodup ∧ gi.Nodup ∧ ∀ x ∈ tb, x ∉ gi := by
  have := h.nd
  rw [List.nodup_cons, List.nodup_cons, List.nodup_append] at this
  simp only [List.mem_cons, List.mem_append, not_or] at this
  obtain ⟨⟨h1, h2, h3⟩, ⟨h4, h5⟩, h6, h7, h8⟩ := this
  exact ⟨h1, h2, h3, h4, h5, h6, h7, fun x hx hg => h8 x hx x hg rfl⟩
theorem MachW.row (h : MachW S lo b n e rb tb gv gi) {i : Int} (h0 : 0 ≤ i) (h1 : i < e.routers.length) : ∃ t, tb[i.toNat]? = some t ∧ t ∈ tb ∧ (List.zipWith rtrV e.routers tb)[i.toNat]? = some (rtrV (at0 e.routers i) t) ∧ S[t]? = some (.cells 1 ((at0 e.routers i).told.map rowC)) := by
  have hi : i.toNat < e.routers.length := by omega
  have hi2 : i.toNat < tb.length := by rw [h.tl]; exact hi
  have e1 : at0 e.routers i = e.routers[i.toNat] := by simp [at0, List.getD_eq_getElem?_getD, hi]
  refine ⟨tb[i.toNat], List.getElem?_eq_getElem hi2, List.getElem_mem hi2, ?_, ?_⟩
  · rw [List.getElem?_zipWith, List.getElem?_eq_getElem hi, List.getElem?_eq_getElem hi2, e1]
  · rw [e1]
    exact h.ht _ hi2 hi
/-- A router's routes are changed. -/
theorem MachW.routes (h : MachW S lo b n e rb tb gv gi) {i : Int} {t : Nat} (h0 : 0 ≤ i) (h1 : i < e.routers.length) (ht : tb[i.toNat]? = some t) (r' : Rtr) (hr : r'.told = (at0 e.routers i).told) :
    MachW (S.set rb (.cells 2 ((List.zipWith rtrV e.routers tb).set i.toNat (rtrV r' t)))) lo b n (setR e i r') rb tb gv gi := by
  obtain ⟨n1, n2, n3, n4, n5, n6, n7, n8⟩ := h.ne
  have hi : i.toNat < e.routers.length := by omega
  have hi2 : i.toNat < tb.length := by rw [h.tl]; exact hi
  have e1 : at0 e.routers i = e.routers[i.toNat] := by simp [at0, List.getD_eq_getElem?_getD, hi]
  refine ⟨?_, ?_, ?_, fun k h2 h3 => ?_, h.bag.set n5, h.nd, h.lo⟩
  · rw [setR, List.length_set]
    exact st_set h.hb n1.symm
  · rw [st_self h.hrb, setR]
    congr 2
    have : tb = tb.set i.toNat t := by
      have := (List.getElem?_eq_some_iff.1 ht).2
      rw [← this, List.set_getElem_self]
    conv => rhs; rw [this]
    exact (zipW_set rtrV i.toNat r' t e.routers tb).symm
  · rw [setR, List.length_set]
    exact h.tl
  · have h3' : k < e.routers.length := by simpa [setR] using h3
    have := h.ht k h2 h3'
    have e2 : (setR e i r').routers[k].told = e.routers[k].told := by
      simp only [setR, List.getElem_set]
      split
      · rename_i e; subst e; rw [hr, e1]
      · rfl
    rw [e2]
    exact st_set this (fun e => n4 (by rw [e]; exact List.getElem_mem h2))
/-- A router's told rows are changed. -/
theorem MachW.told (h : MachW S lo b n e rb tb gv gi) {i : Int} {t : Nat} (h0 : 0 ≤ i) (h1 : i < e.routers.length) (ht : tb[i.toNat]? = some t) (told : List (List Int)) (hl : told.length = (at0 e.routers i).told.length) :
    MachW (S.set t (.cells 1 (told.map rowC))) lo b n (setR e i ⟨(at0 e.routers i).routes, told⟩) rb tb gv gi := by
  obtain ⟨n1, n2, n3, n4, n5, n6, n7, n8⟩ := h.ne
  have hi : i.toNat < e.routers.length := by omega
  have hi2 : i.toNat < tb.length := by rw [h.tl]; exact hi
  have htm : t ∈ tb := List.mem_of_getElem? ht
  have e1 : at0 e.routers i = e.routers[i.toNat] := by simp [at0, List.getD_eq_getElem?_getD, hi]
  refine ⟨?_, ?_, ?_, fun k h2 h3 => ?_, h.bag.set (n8 t htm), h.nd, h.lo⟩
  · rw [setR, List.length_set]
    exact st_set h.hb (fun e => n2 (e ▸ htm))
  · rw [st_set h.hrb (fun e => n4 (e ▸ htm)), setR]
    congr 2
    have : tb = tb.set i.toNat t := by
      have := (List.getElem?_eq_some_iff.1 ht).2
      rw [← this, List.set_getElem_self]
    conv => rhs; rw [this]
    rw [zipW_set]
    refine (List.ext_getElem? fun k => ?_).symm
    rw [List.getElem?_set]
    split
    · rename_i hk
      subst hk
      obtain ⟨t', h5, _, h6, _⟩ := h.row h0 h1
      rw [ht] at h5
      cases h5
      rw [h6]
      split
      · rw [rtrV, rtrV, hl]
      · rename_i h7
        rw [List.length_zipWith] at h7
        omega
    · rfl
  · rw [setR, List.length_set]
    exact h.tl
  · have h3' : k < e.routers.length := by simpa [setR] using h3
    have := h.ht k h2 h3'
    by_cases hk : i.toNat = k
    · subst hk
      have e2 : (setR e i ⟨(at0 e.routers i).routes, told⟩).routers[i.toNat].told = told := by simp [setR]
      have e3 : tb[i.toNat] = t := (List.getElem?_eq_some_iff.1 ht).2
      rw [e2, e3]
      rw [e3] at this
      exact st_self this
    · have e2 : (setR e i ⟨(at0 e.routers i).routes, told⟩).routers[k].told = e.routers[k].told := by
        simp only [setR, List.getElem_set]
        rw [if_neg hk]
      rw [e2]
      refine st_set this fun e => hk ?_
      have h4 := (List.getElem?_eq_some_iff.1 ht).2
      rw [← h4] at e
      exact nodup_inj n6 _ _ _ _ e
/-- Another bag. -/
theorem MachW.bagged (h : MachW S lo b n e rb tb gv gi) {gv' : AV} {gi' : List Nat} {bag : List Mail} {S' : Store} (hb : S'[b]? = some (.cells 7 [netC n ++ [.own rb 2 0 e.routers.length e.routers.length, gv']]))
    (hs : ∀ x ∈ rb :: tb, S'[x]? = S[x]?) (hbag : BagAt S' gv' bag gi') (hn : gi'.Nodup) (hg : ∀ x ∈ gi', x ∉ b :: rb :: tb ∧ lo ≤ x) : MachW S' lo b n ⟨e.routers, bag⟩ rb tb gv' gi' := by
  obtain ⟨n1, n2, n3, n4, n5, n6, n7, n8⟩ := h.ne
  refine ⟨hb, ?_, h.tl, fun k h2 h3 => ?_, hbag, ?_, ?_⟩
  · rw [hs rb (by simp)]
    exact h.hrb
  · rw [hs _ (List.mem_cons_of_mem _ (List.getElem_mem h2))]
    exact h.ht k h2 h3
  · rw [List.nodup_cons, List.nodup_cons, List.nodup_append]
    simp only [List.mem_cons, List.mem_append, not_or]
    have hg' : ∀ x ∈ gi', x ≠ b ∧ x ≠ rb ∧ x ∉ tb := fun x hx => by
      have := (hg x hx).1
      simpa [not_or] using this
    exact ⟨⟨n1, n2, fun hc => (hg' b hc).1 rfl⟩, ⟨n4, fun hc => (hg' rb hc).2.1 rfl⟩, n6, hn, fun x hx y hy e => (hg' y hy).2.2 (e ▸ hx)⟩
  · intro x hx
    simp only [List.mem_cons, List.mem_append] at hx
    rcases hx with rfl | rfl | hx | hx
    · exact h.lo _ (by simp)
    · exact h.lo _ (by simp)
    · exact h.lo _ (by simp [hx])
    · exact (hg x hx).2
end
def MachK (ρ S : Store) (b : Nat) (n : Net) (e : Eng) : Prop := Keeps ρ S ∧ Mach S ρ.length b n e
theorem elook_calls (n : Net) (e : Eng) (hc : checkN n = 0) (hl : n.links.length ≤ 5864062014634) (he : EngIn n e) (ρ S : Store) (b : Nat) (hS : MachK ρ S b n e) (i : Int) (h0 : 0 ≤ i) (h1 : i < n.nodes) :
    ACalls Tryz.prog 90 [.ptr b 7 0 0, intA1 i] S fun r S' => MachK ρ S' b n (lookedE n e i) ∧ r = .tup [] := by
  obtain ⟨hK0, rb, tb, gv, gi, M⟩ := hS
  have hn := netIn_of hc
  have n6 := hn.n6
  have hel := he.len
  have hir : i < e.routers.length := by omega
  obtain ⟨t, ht1, ht2, hR, ht3⟩ := M.row h0 hir
  have hr := rtr_at he ⟨h0, h1⟩
  have hHH : ∀ k j, 0 ≤ k → k < n.nodes → 0 ≤ j → j < n.nodes → 0 ≤ toldAt n (at0 e.routers i) k j ∧ toldAt n (at0 e.routers i) k j < n.alg.size := fun k j a b c d => toldAt_in hn hr ⟨a, b⟩ ⟨c, d⟩
  have hlk := fun τ => look_calls n i (fun k j => toldAt n (at0 e.routers i) k j) 122 [.cp [.ptr rb 2 i.toNat 0] 0, .cp [.ptr b 7 0 0] 0] ((S ++ [.dead, .dead]) ++ τ) hn hl h0 h1 (by kernel_rfl) hHH (fun k j a b c d S' hS' => by
    obtain ⟨τ', rfl⟩ := hS'
    rw [List.append_assoc, List.append_assoc]
    exact elook1_calls n (at0 e.routers i) S _ rb t i.toNat _ gv _ _ hn hr M.hb M.hrb hR ht3 k j a b c d ([.dead, .dead] ++ (τ ++ τ')))
  have hbL : ∀ τ, (S ++ τ)[b]? = some (.cells 7 [netC n ++ [.own rb 2 0 e.routers.length e.routers.length, gv]]) := fun τ => st_app M.hb
  have hrL : ∀ τ, (S ++ τ)[rb]? = some (.cells 2 (List.zipWith rtrV e.routers tb)) := fun τ => st_app M.hrb
  have hrS : ∀ τ o, (S ++ τ).set rb o = S.set rb o ++ τ := fun τ o => st_setApp M.hrb
  have hzl : (List.zipWith rtrV e.routers tb).length = e.routers.length := by rw [List.length_zipWith, M.tl, Nat.min_self]
  refine ACalls_of_awp Tryz.func90 rfl Tryz.results90 ?_
  simp only [List.length_cons, List.length_nil, Tryz.ntmps90, Nat.reduceAdd, Nat.reduceSub, enterA]
  refine AWP_seq_k fun K hK => ?_
  (refine AWP_region ?_; simp -implicitDefEqProofs only [go_sem])
  refine hK _ _ ?_; clear hK K
  refine AWP_freezeP 2 rfl (by simp only [st0]; rfl) ?_
  simp only [ss0, List.set_cons_zero]
  refine AWP_seq_k fun K hK => ?_
  (refine AWP_region ?_; simp -implicitDefEqProofs only [go_sem, hbL, hrL])
  refine ⟨h0, hir, ?_⟩
  refine hK _ _ ?_; clear hK K
  refine AWP_freezeP 4 rfl (by simp only [st1]; rfl) ?_
  simp only [ss1, List.set_cons_zero, List.set_cons_succ]
  (repeat' (first|(refine g_s fun K hK=>?_)|(refine g_b ?_)|(refine g_r ?_)|(refine g_k ?_;simp only[thenQ,blockQ])|(refine g_e ?_;simp only[thenQ,blockQ,↓reduceIte,Nat.reduceEqDiff])|(refine g_c (fun h=>?_) (fun h=>?_)<;>(try simp only[go_sem] at h)<;>(try exact g_f))|((first|refine g_t ?_|refine g_g ?_|refine g_U ?_|refine g_A ?_|refine g_q hlk ?_|refine g_W ?_);(try simp -implicitDefEqProofs only[go_sem,hbL, hrL, hrS, hR, hzl]))|(with_reducible refine hK _ _ ?_;clear hK K)|(clear hK K;first|(with_reducible refine hK _ _ ?_;clear hK K)|(clear hK K;with_reducible refine hK _ _ ?_;clear hK K)|(clear hK K;clear hK K;with_reducible refine hK _ _ ?_;clear hK K))|(with_reducible refine splitB_intro (fun h=>?_) (fun h=>?_)<;>(try simp only[go_sem] at h)<;>(try exact g_f)<;>(try simp -implicitDefEqProofs only[go_sem,hbL, hrL, hrS, hR, hzl]))|(with_reducible refine And.intro (fun h=>?_) (fun h=>?_)<;>(try simp only[go_sem] at h)<;>(try exact g_f))|(with_reducible refine And.intro ?_ ?_;· exact g_x)|(with_reducible intro h;(try simp only[go_sem] at h);(try exact g_f))))
  exact ⟨(hK0.set (M.lo rb (by simp))).app, rb, tb, gv, gi, (M.routes h0 hir ht1 (lookedR n (at0 e.routers i) i) rfl).app⟩
end Go.Proofs.YtephecognbbaoaaGreat
