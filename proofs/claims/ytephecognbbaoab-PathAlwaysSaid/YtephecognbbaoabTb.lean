/- Tables: as the program and as the document make them. -/
import Derived.Test.YtephecognbbaoabTa
import Derived.Test.YtephecognbbaoabNm
namespace Go.Proofs.Ytephecognbbaoab
open Go
set_option linter.all false
set_option maxRecDepth 100000
set_option maxHeartbeats 4000000

def tableRow (n : Net) (x : List (List Int)) (i : Int) : List Int := (ints n.nodes).map fun j => toR n i j fun k => at2 x k j
theorem toR_calls (n : Net) (x : List (List Int)) (i j : Int) (hc : checkN n = 0) (hx : RowsIn n x) (hl : n.links.length ≤ 5864062014634) (hi0 : 0 ≤ i) (hi1 : i < n.nodes) (hj0 : 0 ≤ j) (hj1 : j < n.nodes) (σ : Store) :
    ACalls Try.prog 111 [.agg (netC n), rowsC x, intA1 i, intA1 j] σ fun r σ' => σ' = σ ∧ r = intA1 (toR n i j fun k => at2 x k j) := by
  rw [← to_eq hc (has := fun k => at2 x k j) fun k h0 h1 => at2_in hx ⟨h0, h1⟩ ⟨hj0, hj1⟩]
  exact to_calls n x i j hc hx hl hi0 hi1 hj0 hj1 σ

def tableC (n : Net) (x : List (List Int)) : AV := .tup [rowsC (if fitA n x = 0 then tableA n x else []), intA1 (fitA n x)]

theorem table_calls (n : Net) (x : List (List Int)) (okn : NetOk n) (ok : StOk x) (σ : Store) : ACalls Try.prog 56 [.agg (netC n), rowsC x] σ fun r σ' => σ' = σ ∧ r = tableC n x := by
  have hF := fit_calls n x okn ok
  refine ACalls.cutX ?_
  by_cases h0 : fitA n x = 0
  · obtain ⟨hc, hx⟩ := fit_zero h0
    have hn := netIn_of hc
    have n1 := hn.n1
    have n6 := hn.n6
    have hl := okn.len
    rw [tableC, if_pos h0]
    rw [h0] at hF ⊢
    refine ACalls_of_awp Try.func56 rfl Try.results56 ?_
    simp only [List.length_cons, List.length_nil, Try.ntmps56, Nat.reduceAdd, Nat.reduceSub, enterA]
    refine AWP_seq_k fun K hK => ?_
    (refine AWP_region ?_; simp -implicitDefEqProofs only [go_sem])
    refine hK _ _ ?_; clear hK K
    refine AWP_freezeP 2 rfl (by simp only [st0]; rfl) ?_
    simp only [ss0, List.set_cons_zero]
    (repeat' (first|(refine g_s fun K hK=>?_)|(refine g_b ?_)|(refine g_r ?_)|(refine g_k ?_;simp only[thenQ,blockQ])|(refine g_e ?_;simp only[thenQ,blockQ,↓reduceIte,Nat.reduceEqDiff])|(refine g_c (fun h=>?_) (fun h=>?_)<;>(try simp only[go_sem] at h)<;>(try exact g_f))|((first|refine g_t ?_|refine g_G ?_|refine g_U ?_|refine g_A ?_|refine (hF _).use ?_|refine g_q (fun τ=>hF _) ?_|refine g_W ?_);(try simp -implicitDefEqProofs only[go_sem]))|(with_reducible refine hK _ _ ?_;clear hK K)|(clear hK K;first|(with_reducible refine hK _ _ ?_;clear hK K)|(clear hK K;with_reducible refine hK _ _ ?_;clear hK K)|(clear hK K;clear hK K;with_reducible refine hK _ _ ?_;clear hK K))|(with_reducible refine splitB_intro (fun h=>?_) (fun h=>?_)<;>(try simp only[go_sem] at h)<;>(try exact g_f)<;>(try simp -implicitDefEqProofs only[go_sem]))|(with_reducible refine And.intro (fun h=>?_) (fun h=>?_)<;>(try simp only[go_sem] at h)<;>(try exact g_f))|(with_reducible refine And.intro ?_ ?_;· exact g_x)|(with_reducible intro h;(try simp only[go_sem] at h);(try exact g_f))))
    refine AWP_pad ?_
    have hJ := hK
    clear hK
    refine AWP_each (ints n.nodes) (fun i r acc => acc ++ r.map (tableRow n x) = tableA n x) (fun i acc τ => [(19, intA1 i), (7, accV 1 (σ.length + (τ.length + 1)) acc)]) (fun _ acc τ => σ ++ (.dead :: (τ ++ [accO rowC 1 acc]))) [] [] rfl ?_ (ALe_of ?_) ?_ ?_
    · simp [accO]
    · simp -implicitDefEqProofs only [go_sem, accV, accO]
    · rintro i r acc τ hi0 hi1 h3 L hL
      rw [ints_length] at hi1
      rw [at0_ints hi0 (by omega)] at h3
      have hal : acc.length + 1 ≤ 6 := by have := congrArg List.length h3; simp [tableA, ints_length] at this; omega
      simp -implicitDefEqProofs only [go_sem]
      (repeat' (first|(refine g_s fun K hK=>?_)|(refine g_b ?_)|(refine g_r ?_)|(refine g_k ?_;simp only[thenQ,blockQ])|(refine g_e ?_;simp only[thenQ,blockQ,↓reduceIte,Nat.reduceEqDiff])|(refine g_c (fun h=>?_) (fun h=>?_)<;>(try simp only[go_sem] at h)<;>(try exact g_f))|((first|refine g_t ?_|refine g_G ?_|refine g_U ?_|refine g_A ?_|refine g_W ?_);(try simp -implicitDefEqProofs only[go_sem]))|(with_reducible refine hK _ _ ?_;clear hK K)|(clear hK K;first|(with_reducible refine hK _ _ ?_;clear hK K)|(clear hK K;with_reducible refine hK _ _ ?_;clear hK K)|(clear hK K;clear hK K;with_reducible refine hK _ _ ?_;clear hK K))|(with_reducible refine splitB_intro (fun h=>?_) (fun h=>?_)<;>(try simp only[go_sem] at h)<;>(try exact g_f)<;>(try simp -implicitDefEqProofs only[go_sem]))|(with_reducible refine And.intro (fun h=>?_) (fun h=>?_)<;>(try simp only[go_sem] at h)<;>(try exact g_f))|(with_reducible refine And.intro ?_ ?_;· exact g_x)|(with_reducible intro h;(try simp only[go_sem] at h);(try exact g_f))))
      refine AWP_pad ?_
      have hJ2 := hK
      clear hK
      refine AWP_each (ints n.nodes) (fun j r row => row ++ r.map (fun j => toR n i j fun k => at2 x k j) = tableRow n x i) (fun j row τ2 => [(24, intA1 j), (9, accV 1 (σ.length + (τ.length + (τ2.length + 2))) row)]) (fun _ row τ2 => σ ++ (.dead :: (τ ++ accO rowC 1 acc :: (τ2 ++ [accO intC 1 row])))) [] [] rfl ?_ (ALe_of ?_) ?_ ?_
      · simp [accO]
      · simp -implicitDefEqProofs only [go_sem, accV, accO]
      · rintro j rj row τ2 hj0 hj1 h4 L2 hL2
        rw [ints_length] at hj1
        rw [at0_ints hj0 (by omega)] at h4
        have hrl : row.length + 1 ≤ 6 := by have := congrArg List.length h4; simp [tableRow, ints_length] at this; omega
        have hT := fun S => toR_calls n x i j hc hx hl hi0 (by omega) hj0 (by omega) S
        obtain ⟨v, hv⟩ : ∃ v, (toR n i j fun k => at2 x k j) = v := ⟨_, rfl⟩
        rw [hv] at hT
        rw [List.map_cons, hv] at h4
        rcases row with _ | ⟨y, row⟩ <;> simp only [List.length_cons, List.length_nil] at hrl <;> simp -implicitDefEqProofs only [go_sem, accV, accO]
        all_goals (repeat' (first|(refine g_s fun K hK=>?_)|(refine g_b ?_)|(refine g_r ?_)|(refine g_k ?_;simp only[thenQ,blockQ])|(refine g_e ?_;simp only[thenQ,blockQ,↓reduceIte,Nat.reduceEqDiff])|(refine g_c (fun h=>?_) (fun h=>?_)<;>(try simp only[go_sem] at h)<;>(try exact g_f))|((first|refine g_t ?_|refine g_G ?_|refine g_U ?_|refine g_A ?_|refine (hT _).use ?_|refine g_q (fun τ=>hT _) ?_|refine g_W ?_);(try simp -implicitDefEqProofs only[go_sem]))|(with_reducible refine hK _ _ ?_;clear hK K)|(clear hK K;first|(with_reducible refine hK _ _ ?_;clear hK K)|(clear hK K;with_reducible refine hK _ _ ?_;clear hK K)|(clear hK K;clear hK K;with_reducible refine hK _ _ ?_;clear hK K))|(with_reducible refine splitB_intro (fun h=>?_) (fun h=>?_)<;>(try simp only[go_sem] at h)<;>(try exact g_f)<;>(try simp -implicitDefEqProofs only[go_sem]))|(with_reducible refine And.intro (fun h=>?_) (fun h=>?_)<;>(try simp only[go_sem] at h)<;>(try exact g_f))|(with_reducible refine And.intro ?_ ?_;· exact g_x)|(with_reducible intro h;(try simp only[go_sem] at h);(try exact g_f))))
        · refine hL2 [v] (τ2 ++ [.dead]) _ _ (by simpa using h4) (ALe_of ?_) ?_
          · simp -implicitDefEqProofs only [go_sem, accV]
          · simp [accO, intC, intA1]
        · refine hL2 (y :: row ++ [v]) (τ2 ++ [.dead]) _ _ (by simpa using h4) (ALe_of ?_) ?_
          · simp -implicitDefEqProofs only [go_sem, accV]
          · simp [accO, intC, intA1]
      · rintro j row τ2 hj h4 L2
        rw [ints_length] at hj
        rw [List.map_nil, List.append_nil] at h4
        simp -implicitDefEqProofs only [go_sem]
        (repeat' (first|(refine g_s fun K hK=>?_)|(refine g_b ?_)|(refine g_r ?_)|(refine g_k ?_;simp only[thenQ,blockQ])|(refine g_e ?_;simp only[thenQ,blockQ,↓reduceIte,Nat.reduceEqDiff])|(refine g_c (fun h=>?_) (fun h=>?_)<;>(try simp only[go_sem] at h)<;>(try exact g_f))|((first|refine g_g ?_|refine g_U ?_|refine g_A ?_|refine g_W ?_);(try simp -implicitDefEqProofs only[go_sem]))|(with_reducible refine hK _ _ ?_;clear hK K)|(clear hK K;first|(with_reducible refine hK _ _ ?_;clear hK K)|(clear hK K;with_reducible refine hK _ _ ?_;clear hK K)|(clear hK K;clear hK K;with_reducible refine hK _ _ ?_;clear hK K))|(with_reducible refine splitB_intro (fun h=>?_) (fun h=>?_)<;>(try simp only[go_sem] at h)<;>(try exact g_f)<;>(try simp -implicitDefEqProofs only[go_sem]))|(with_reducible refine And.intro (fun h=>?_) (fun h=>?_)<;>(try simp only[go_sem] at h)<;>(try exact g_f))|(with_reducible refine And.intro ?_ ?_;· exact g_x)|(with_reducible intro h;(try simp only[go_sem] at h);(try exact g_f))))
        refine hJ2 _ _ ?_
        clear hJ2
        have est : σ ++ (.dead :: (τ ++ accO rowC 1 acc :: (τ2 ++ [accO intC 1 row]))) = σ ++ ((.dead :: (τ ++ accO rowC 1 acc :: τ2)) ++ accO intC 1 row :: []) := by simp
        rw [est]
        refine AWP_freezeAcc 9 intC 1 row σ (.dead :: (τ ++ accO rowC 1 acc :: τ2)) [] (by simp [look, Nat.add_assoc]) ?_
        rw [h4]
        rcases acc with _ | ⟨y, acc⟩ <;> simp only [List.length_cons, List.length_nil] at hal <;> simp -implicitDefEqProofs only [go_sem, accV, accO]
        all_goals (repeat' (first|(refine g_s fun K hK=>?_)|(refine g_b ?_)|(refine g_r ?_)|(refine g_k ?_;simp only[thenQ,blockQ])|(refine g_e ?_;simp only[thenQ,blockQ,↓reduceIte,Nat.reduceEqDiff])|(refine g_c (fun h=>?_) (fun h=>?_)<;>(try simp only[go_sem] at h)<;>(try exact g_f))|((first|refine g_t ?_|refine g_G ?_|refine g_U ?_|refine g_A ?_|refine g_W ?_);(try simp -implicitDefEqProofs only[go_sem]))|(with_reducible refine hK _ _ ?_;clear hK K)|(clear hK K;first|(with_reducible refine hK _ _ ?_;clear hK K)|(clear hK K;with_reducible refine hK _ _ ?_;clear hK K)|(clear hK K;clear hK K;with_reducible refine hK _ _ ?_;clear hK K))|(with_reducible refine splitB_intro (fun h=>?_) (fun h=>?_)<;>(try simp only[go_sem] at h)<;>(try exact g_f)<;>(try simp -implicitDefEqProofs only[go_sem]))|(with_reducible refine And.intro (fun h=>?_) (fun h=>?_)<;>(try simp only[go_sem] at h)<;>(try exact g_f))|(with_reducible refine And.intro ?_ ?_;· exact g_x)|(with_reducible intro h;(try simp only[go_sem] at h);(try exact g_f))))
        · refine hL [tableRow n x i] (τ ++ .dead :: (τ2 ++ [.dead])) _ _ (by simpa using h3) (ALe_of ?_) ?_
          · simp -implicitDefEqProofs only [go_sem, accV]
          · simp [accO, rowC, intsA]
        · refine hL (y :: acc ++ [tableRow n x i]) (τ ++ .dead :: (τ2 ++ [.dead])) _ _ (by simpa using h3) (ALe_of ?_) ?_
          · simp -implicitDefEqProofs only [go_sem, accV]
          · simp [accO, rowC, intsA]
    · rintro i acc τ hi h3 L
      rw [ints_length] at hi
      rw [List.map_nil, List.append_nil] at h3
      simp -implicitDefEqProofs only [go_sem]
      (repeat' (first|(refine g_s fun K hK=>?_)|(refine g_b ?_)|(refine g_r ?_)|(refine g_k ?_;simp only[thenQ,blockQ])|(refine g_e ?_;simp only[thenQ,blockQ,↓reduceIte,Nat.reduceEqDiff])|(refine g_c (fun h=>?_) (fun h=>?_)<;>(try simp only[go_sem] at h)<;>(try exact g_f))|((first|refine g_g ?_|refine g_U ?_|refine g_A ?_|refine g_W ?_);(try simp -implicitDefEqProofs only[go_sem]))|(with_reducible refine hK _ _ ?_;clear hK K)|(clear hK K;first|(with_reducible refine hK _ _ ?_;clear hK K)|(clear hK K;with_reducible refine hK _ _ ?_;clear hK K)|(clear hK K;clear hK K;with_reducible refine hK _ _ ?_;clear hK K))|(with_reducible refine splitB_intro (fun h=>?_) (fun h=>?_)<;>(try simp only[go_sem] at h)<;>(try exact g_f)<;>(try simp -implicitDefEqProofs only[go_sem]))|(with_reducible refine And.intro (fun h=>?_) (fun h=>?_)<;>(try simp only[go_sem] at h)<;>(try exact g_f))|(with_reducible refine And.intro ?_ ?_;· exact g_x)|(with_reducible intro h;(try simp only[go_sem] at h);(try exact g_f))))
      refine hJ _ _ ?_
      clear hJ
      have est : σ ++ (.dead :: (τ ++ [accO rowC 1 acc])) = σ ++ ((.dead :: τ) ++ accO rowC 1 acc :: []) := by simp
      rw [est]
      refine AWP_freezeAcc 7 rowC 1 acc σ (.dead :: τ) [] (by simp [look, Nat.add_assoc]) ?_
      (repeat' (first|(refine g_s fun K hK=>?_)|(refine g_b ?_)|(refine g_r ?_)|(refine g_k ?_;simp only[thenQ,blockQ])|(refine g_e ?_;simp only[thenQ,blockQ,↓reduceIte,Nat.reduceEqDiff])|(refine g_c (fun h=>?_) (fun h=>?_)<;>(try simp only[go_sem] at h)<;>(try exact g_f))|((first|refine g_t ?_|refine g_G ?_|refine g_U ?_|refine g_A ?_|refine g_W ?_);(try simp -implicitDefEqProofs only[go_sem]))|(with_reducible refine hK _ _ ?_;clear hK K)|(clear hK K;first|(with_reducible refine hK _ _ ?_;clear hK K)|(clear hK K;with_reducible refine hK _ _ ?_;clear hK K)|(clear hK K;clear hK K;with_reducible refine hK _ _ ?_;clear hK K))|(with_reducible refine splitB_intro (fun h=>?_) (fun h=>?_)<;>(try simp only[go_sem] at h)<;>(try exact g_f)<;>(try simp -implicitDefEqProofs only[go_sem]))|(with_reducible refine And.intro (fun h=>?_) (fun h=>?_)<;>(try simp only[go_sem] at h)<;>(try exact g_f))|(with_reducible refine And.intro ?_ ?_;· exact g_x)|(with_reducible intro h;(try simp only[go_sem] at h);(try exact g_f))))
      rw [h3]
      refine CutQ_w rfl ?_ (.eq rfl)
      exact .tupL (.cons (.rows _) (.cons (.c _) .nil))
  · rw [tableC, if_neg h0]
    refine ACalls_of_awp Try.func56 rfl Try.results56 ?_
    simp only [List.length_cons, List.length_nil, Try.ntmps56, Nat.reduceAdd, Nat.reduceSub, enterA]
    (repeat' (first|(refine g_s fun K hK=>?_)|(refine g_b ?_)|(refine g_r ?_)|(refine g_k ?_;simp only[thenQ,blockQ])|(refine g_e ?_;simp only[thenQ,blockQ,↓reduceIte,Nat.reduceEqDiff])|(refine g_c (fun h=>?_) (fun h=>?_)<;>(try simp only[go_sem] at h)<;>(try exact g_f))|((first|refine g_t ?_|refine g_g ?_|refine g_U ?_|refine g_A ?_|refine (hF _).use ?_|refine g_q (fun τ=>hF _) ?_|refine g_W ?_);(try simp -implicitDefEqProofs only[go_sem]))|(with_reducible refine hK _ _ ?_;clear hK K)|(clear hK K;first|(with_reducible refine hK _ _ ?_;clear hK K)|(clear hK K;with_reducible refine hK _ _ ?_;clear hK K)|(clear hK K;clear hK K;with_reducible refine hK _ _ ?_;clear hK K))|(with_reducible refine splitB_intro (fun h=>?_) (fun h=>?_)<;>(try simp only[go_sem] at h)<;>(try exact g_f)<;>(try simp -implicitDefEqProofs only[go_sem]))|(with_reducible refine And.intro (fun h=>?_) (fun h=>?_)<;>(try simp only[go_sem] at h)<;>(try exact g_f))|(with_reducible refine And.intro ?_ ?_;· exact g_x)|(with_reducible intro h;(try simp only[go_sem] at h);(try exact g_f))))
    refine CutQ_w rfl ?_ ?_
    · (repeat' (first | exact Bd.c _ | exact Bd.emp | exact BdL.nil | exact Bd.ints _ | refine Bd.aggL ?_ | refine Bd.tupL ?_ | refine BdL.cons ?_ ?_))
    · exact .tup (.cons .nil (.cons (.refl _) .nil))
end Go.Proofs.Ytephecognbbaoab
