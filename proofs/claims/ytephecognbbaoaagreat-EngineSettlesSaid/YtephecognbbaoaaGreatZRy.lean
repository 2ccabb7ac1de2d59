/- Rounds and settling, as the program does it; settling, as the document does. -/
import Derived.Test.YtephecognbbaoaaGreatZSl
import Derived.Test.YtephecognbbaoaaGreatZWb
import Derived.Test.YtephecognbbaoaaGreatZLk
import Derived.Test.YtephecognbbaoaaGreatZAi
import Derived.Test.YtephecognbbaoaaGreatZSy
import Derived.Test.YtephecognbbaoaaGreatZEc
import Derived.Test.YtephecognbbaoaaGreatZDp
open Go
set_option linter.all false
set_option maxRecDepth 100000
set_option maxHeartbeats 4000000
namespace Go.Proofs.YtephecognbbaoaaGreat
open Go
set_option linter.all false
set_option maxRecDepth 100000
set_option maxHeartbeats 4000000
theorem RowsIn.stOk {n : Net} {x : List (List Int)} (hn : NetIn n) (h : RowsIn n x) : StOk x :=
  ⟨by have := h.len; have := hn.n6; omega, fun r hr => by have := h.row r hr; have := hn.n6; omega⟩
theorem next1_calls (x : List (List Int)) (k j : Int) (h0 : 0 ≤ k) (h1 : k < x.length) (h2 : 0 ≤ j) (h3 : j < (at0 x k).length) (S : Store) : ACalls Tryz.prog 96 (intA1 k :: intA1 j :: [.cp [rowsC x] 0]) S fun r σ' => σ' = S ∧ r = intA1 (at2 x k j) := by
  refine ACalls_of_awp Tryz.func96 rfl Tryz.results96 ?_
  simp only [List.length_cons, List.length_nil, Tryz.ntmps96, Nat.reduceAdd, Nat.reduceSub, enterA]
  (repeat' (first|(refine g_s fun K hK=>?_)|(refine g_b ?_)|(refine g_r ?_)|(refine g_k ?_;simp only[thenQ,blockQ])|(refine g_e ?_;simp only[thenQ,blockQ,↓reduceIte,Nat.reduceEqDiff])|(refine g_c (fun h=>?_) (fun h=>?_)<;>(try simp only[go_sem] at h)<;>(try exact g_f))|((first|refine g_t ?_|refine g_g ?_|refine g_U ?_|refine g_A ?_|refine g_W ?_);(try simp -implicitDefEqProofs only[go_sem]))|(with_reducible refine hK _ _ ?_;clear hK K)|(clear hK K;first|(with_reducible refine hK _ _ ?_;clear hK K)|(clear hK K;with_reducible refine hK _ _ ?_;clear hK K)|(clear hK K;clear hK K;with_reducible refine hK _ _ ?_;clear hK K))|(with_reducible refine splitB_intro (fun h=>?_) (fun h=>?_)<;>(try simp only[go_sem] at h)<;>(try exact g_f)<;>(try simp -implicitDefEqProofs only[go_sem]))|(with_reducible refine And.intro (fun h=>?_) (fun h=>?_)<;>(try simp only[go_sem] at h)<;>(try exact g_f))|(with_reducible refine And.intro ?_ ?_;· exact g_x)|(with_reducible intro h;(try simp only[go_sem] at h);(try exact g_f))))
theorem next_calls (n : Net) (x : List (List Int)) (hc : checkN n = 0) (hx : RowsIn n x) (hl : n.links.length ≤ 5864062014634) (σ : Store) : ACalls Tryz.prog 48 [.agg (netC n), rowsC x] σ fun r σ' => σ' = σ ∧ r = rowsC (roundA n x) := by
  have hn := netIn_of hc
  have n1 := hn.n1
  have n6 := hn.n6
  have hxl := hx.len
  refine ACalls.cutX ?_
  refine ACalls_of_awp Tryz.func48 rfl Tryz.results48 ?_
  simp only [List.length_cons, List.length_nil, Tryz.ntmps48, Nat.reduceAdd, Nat.reduceSub, enterA]
  refine AWP_seq_k fun K hK => ?_
  (refine AWP_region ?_; simp -implicitDefEqProofs only [go_sem])
  refine hK _ _ ?_; clear hK K
  refine AWP_freezeP 2 rfl (by simp only [st0]; rfl) ?_
  simp only [ss0, List.set_cons_zero]
  refine AWP_freezeP 3 rfl (by simp only [st1]; rfl) ?_
  simp only [ss1, List.set_cons_zero, List.set_cons_succ]
  (repeat' (first|(refine g_s fun K hK=>?_)|(refine g_b ?_)|(refine g_r ?_)|(refine g_k ?_;simp only[thenQ,blockQ])|(refine g_e ?_;simp only[thenQ,blockQ,↓reduceIte,Nat.reduceEqDiff])|(refine g_c (fun h=>?_) (fun h=>?_)<;>(try simp only[go_sem] at h)<;>(try exact g_f))|((first|refine g_t ?_|refine g_G ?_|refine g_U ?_|refine g_A ?_|refine g_W ?_);(try simp -implicitDefEqProofs only[go_sem]))|(with_reducible refine hK _ _ ?_;clear hK K)|(clear hK K;first|(with_reducible refine hK _ _ ?_;clear hK K)|(clear hK K;with_reducible refine hK _ _ ?_;clear hK K)|(clear hK K;clear hK K;with_reducible refine hK _ _ ?_;clear hK K))|(with_reducible refine splitB_intro (fun h=>?_) (fun h=>?_)<;>(try simp only[go_sem] at h)<;>(try exact g_f)<;>(try simp -implicitDefEqProofs only[go_sem]))|(with_reducible refine And.intro (fun h=>?_) (fun h=>?_)<;>(try simp only[go_sem] at h)<;>(try exact g_f))|(with_reducible refine And.intro ?_ ?_;· exact g_x)|(with_reducible intro h;(try simp only[go_sem] at h);(try exact g_f))))
  refine AWP_pad ?_
  have hJ := hK
  clear hK
  refine AWP_each (ints n.nodes) (fun i r acc => acc ++ r.map (rowA n x) = roundA n x) (fun i acc τ => [(9, intA1 i), (5, accV 1 (σ.length + (τ.length + 2)) acc)]) (fun _ acc τ => σ ++ (.dead :: .dead :: (τ ++ [accO rowC 1 acc]))) [] [] rfl ?_ (ALe_of ?_) ?_ ?_
  · simp [accO]
  · simp -implicitDefEqProofs only [go_sem, accV, accO]
  · rintro i r acc τ hi0 hi1 h3 L hL
    rw [ints_length] at hi1
    rw [at0_ints hi0 (by omega)] at h3
    have hal : acc.length + 1 ≤ 6 := by have := congrArg List.length h3; simp [roundA, ints_length] at this; omega
    have hlk := fun S => look_calls n i (fun k j => at2 x k j) 96 [.cp [rowsC x] 0] S hn hl hi0 (by omega) (by kernel_rfl) (fun k j a b c d => at2_in hx ⟨a, b⟩ ⟨c, d⟩)
      (fun k j a b c d S _ => next1_calls x k j a (by omega) c (by rw [hx.row _ (at0_mem x a (by omega))]; omega) S)
    have hre : ((ints n.nodes).map fun j => routeL n i j (fun k => at2 x k j) n.links) = rowA n x i := by
      refine List.map_congr_left fun j hj => ?_
      have hj := mem_ints.1 hj
      exact route_eq hc i j _ fun k h0 h1 => at2_in hx ⟨h0, h1⟩ hj
    rw [hre] at hlk
    rcases acc with _ | ⟨y, acc⟩ <;> simp only [List.length_cons, List.length_nil] at hal <;> simp -implicitDefEqProofs only [go_sem, accV, accO]
    all_goals (repeat' (first|(refine g_s fun K hK=>?_)|(refine g_b ?_)|(refine g_r ?_)|(refine g_k ?_;simp only[thenQ,blockQ])|(refine g_e ?_;simp only[thenQ,blockQ,↓reduceIte,Nat.reduceEqDiff])|(refine g_c (fun h=>?_) (fun h=>?_)<;>(try simp only[go_sem] at h)<;>(try exact g_f))|((first|refine g_t ?_|refine g_G ?_|refine g_U ?_|refine g_A ?_|refine (hlk _).use ?_|refine g_q (fun τ=>hlk _) ?_|refine g_W ?_);(try simp -implicitDefEqProofs only[go_sem]))|(with_reducible refine hK _ _ ?_;clear hK K)|(clear hK K;first|(with_reducible refine hK _ _ ?_;clear hK K)|(clear hK K;with_reducible refine hK _ _ ?_;clear hK K)|(clear hK K;clear hK K;with_reducible refine hK _ _ ?_;clear hK K))|(with_reducible refine splitB_intro (fun h=>?_) (fun h=>?_)<;>(try simp only[go_sem] at h)<;>(try exact g_f)<;>(try simp -implicitDefEqProofs only[go_sem]))|(with_reducible refine And.intro (fun h=>?_) (fun h=>?_)<;>(try simp only[go_sem] at h)<;>(try exact g_f))|(with_reducible refine And.intro ?_ ?_;· exact g_x)|(with_reducible intro h;(try simp only[go_sem] at h);(try exact g_f))))
    · refine hL [rowA n x i] (τ ++ [.dead]) _ _ (by simpa using h3) (ALe_of ?_) ?_
      · simp -implicitDefEqProofs only [go_sem, accV]
      · simp [accO, rowC, intsA]
    · refine hL (y :: acc ++ [rowA n x i]) (τ ++ [.dead]) _ _ (by simpa using h3) (ALe_of ?_) ?_
      · simp -implicitDefEqProofs only [go_sem, accV]
      · simp [accO, rowC, intsA]
  · rintro i acc τ hi h3 L
    rw [ints_length] at hi
    rw [List.map_nil, List.append_nil] at h3
    simp -implicitDefEqProofs only [go_sem]
    (repeat' (first|(refine g_s fun K hK=>?_)|(refine g_b ?_)|(refine g_r ?_)|(refine g_k ?_;simp only[thenQ,blockQ])|(refine g_e ?_;simp only[thenQ,blockQ,↓reduceIte,Nat.reduceEqDiff])|(refine g_c (fun h=>?_) (fun h=>?_)<;>(try simp only[go_sem] at h)<;>(try exact g_f))|((first|refine g_g ?_|refine g_U ?_|refine g_A ?_|refine g_W ?_);(try simp -implicitDefEqProofs only[go_sem]))|(with_reducible refine hK _ _ ?_;clear hK K)|(clear hK K;first|(with_reducible refine hK _ _ ?_;clear hK K)|(clear hK K;with_reducible refine hK _ _ ?_;clear hK K)|(clear hK K;clear hK K;with_reducible refine hK _ _ ?_;clear hK K))|(with_reducible refine splitB_intro (fun h=>?_) (fun h=>?_)<;>(try simp only[go_sem] at h)<;>(try exact g_f)<;>(try simp -implicitDefEqProofs only[go_sem]))|(with_reducible refine And.intro (fun h=>?_) (fun h=>?_)<;>(try simp only[go_sem] at h)<;>(try exact g_f))|(with_reducible refine And.intro ?_ ?_;· exact g_x)|(with_reducible intro h;(try simp only[go_sem] at h);(try exact g_f))))
    refine hJ _ _ ?_
    clear hJ
    have est : σ ++ (.dead :: .dead :: (τ ++ [accO rowC 1 acc])) = σ ++ ((.dead :: .dead :: τ) ++ accO rowC 1 acc :: []) := by simp
    rw [est]
    refine AWP_freezeAcc 5 rowC 1 acc σ (.dead :: .dead :: τ) [] (by simp [look, Nat.add_assoc]) ?_
    (repeat' (first|(refine g_s fun K hK=>?_)|(refine g_b ?_)|(refine g_r ?_)|(refine g_k ?_;simp only[thenQ,blockQ])|(refine g_e ?_;simp only[thenQ,blockQ,↓reduceIte,Nat.reduceEqDiff])|(refine g_c (fun h=>?_) (fun h=>?_)<;>(try simp only[go_sem] at h)<;>(try exact g_f))|((first|refine g_t ?_|refine g_G ?_|refine g_U ?_|refine g_A ?_|refine g_W ?_);(try simp -implicitDefEqProofs only[go_sem]))|(with_reducible refine hK _ _ ?_;clear hK K)|(clear hK K;first|(with_reducible refine hK _ _ ?_;clear hK K)|(clear hK K;with_reducible refine hK _ _ ?_;clear hK K)|(clear hK K;clear hK K;with_reducible refine hK _ _ ?_;clear hK K))|(with_reducible refine splitB_intro (fun h=>?_) (fun h=>?_)<;>(try simp only[go_sem] at h)<;>(try exact g_f)<;>(try simp -implicitDefEqProofs only[go_sem]))|(with_reducible refine And.intro (fun h=>?_) (fun h=>?_)<;>(try simp only[go_sem] at h)<;>(try exact g_f))|(with_reducible refine And.intro ?_ ?_;· exact g_x)|(with_reducible intro h;(try simp only[go_sem] at h);(try exact g_f))))
    rw [h3]
    exact CutQ_w rfl (Bd.rows _) (.eq rfl)
theorem equalFunc_calls (a b : List (List Int)) (ha : StOk a) (σ : Store) : ACalls Tryz.prog 97 [rowsC a, rowsC b, .fn 98 [] []] σ fun r σ' => σ' = σ ∧ r = .c (.bool (decide (a = b))) := by
  have hlen := ha.len
  refine ACalls_of_awp Tryz.func97 rfl Tryz.results97 ?_
  simp only [List.length_cons, List.length_nil, Tryz.ntmps97, Nat.reduceAdd, Nat.reduceSub, enterA]
  (repeat' (first|(refine g_s fun K hK=>?_)|(refine g_b ?_)|(refine g_r ?_)|(refine g_k ?_;simp only[thenQ,blockQ])|(refine g_e ?_;simp only[thenQ,blockQ,↓reduceIte,Nat.reduceEqDiff])|(refine g_c (fun h=>?_) (fun h=>?_)<;>(try simp only[go_sem] at h)<;>(try exact g_f))|((first|refine g_t ?_|refine g_g ?_|refine g_U ?_|refine g_A ?_|refine g_W ?_);(try simp -implicitDefEqProofs only[go_sem]))|(with_reducible refine hK _ _ ?_;clear hK K)|(clear hK K;first|(with_reducible refine hK _ _ ?_;clear hK K)|(clear hK K;with_reducible refine hK _ _ ?_;clear hK K)|(clear hK K;clear hK K;with_reducible refine hK _ _ ?_;clear hK K))|(with_reducible refine splitB_intro (fun h=>?_) (fun h=>?_)<;>(try simp only[go_sem] at h)<;>(try exact g_f)<;>(try simp -implicitDefEqProofs only[go_sem]))|(with_reducible refine And.intro (fun h=>?_) (fun h=>?_)<;>(try simp only[go_sem] at h)<;>(try exact g_f))|(with_reducible refine And.intro ?_ ?_;· exact g_x)|(with_reducible intro h;(try simp only[go_sem] at h);(try exact g_f))))
  · rw [decide_eq_false (fun e : a = b => h (by rw [e]))]
  have hle : a.length = b.length := by omega
  refine AWP_for (a.length : Int) (fun k _ => ∀ i : Int, 0 ≤ i → i < k → at0 a i = at0 b i) (fun k _ _ => [(17, intA1 k)]) (fun _ _ _ => σ) () [] (by omega) (fun i h1 h2 => by omega) rfl (ALe_of ?_) ?_
  · simp -implicitDefEqProofs only [go_sem]
  · rintro k _ τ hk0 hk1 hH L hL
    by_cases hk2 : k < a.length
    · have hml : (at0 a k).length ≤ 1000000000000000000 := by have := ha.row _ (at0_mem a hk0 hk2); omega
      simp -implicitDefEqProofs only [go_sem]
      (repeat' (first|(refine g_s fun K hK=>?_)|(refine g_b ?_)|(refine g_r ?_)|(refine g_k ?_;simp only[thenQ,blockQ])|(refine g_e ?_;simp only[thenQ,blockQ,↓reduceIte,Nat.reduceEqDiff])|(refine g_c (fun h=>?_) (fun h=>?_)<;>(try simp only[go_sem] at h)<;>(try exact g_f))|((first|refine g_t ?_|refine g_g ?_|refine g_U ?_|refine g_A ?_|refine (equal_calls _ _ hml _).use ?_|refine g_q (fun τ=>equal_calls _ _ hml _) ?_|refine g_W ?_);(try simp -implicitDefEqProofs only[go_sem]))|(with_reducible refine hK _ _ ?_;clear hK K)|(clear hK K;first|(with_reducible refine hK _ _ ?_;clear hK K)|(clear hK K;with_reducible refine hK _ _ ?_;clear hK K)|(clear hK K;clear hK K;with_reducible refine hK _ _ ?_;clear hK K))|(with_reducible refine splitB_intro (fun h=>?_) (fun h=>?_)<;>(try simp only[go_sem] at h)<;>(try exact g_f)<;>(try simp -implicitDefEqProofs only[go_sem]))|(with_reducible refine And.intro (fun h=>?_) (fun h=>?_)<;>(try simp only[go_sem] at h)<;>(try exact g_f))|(with_reducible refine And.intro ?_ ?_;· exact g_x)|(with_reducible intro h;(try simp only[go_sem] at h);(try exact g_f))))
      · have hne : at0 a k ≠ at0 b k := by simpa using h
        rw [decide_eq_false (fun e : a = b => hne (by rw [e]))]
      · have heq : at0 a k = at0 b k := by simpa using h
        refine hL hk2 () [] _ _ ?_ (ALe_of ?_) rfl
        · intro i h1 h2
          rcases Int.lt_or_eq_of_le (Int.le_of_lt_add_one h2) with h3 | h3
          · exact hH i h1 h3
          · rw [h3]; exact heq
        · simp -implicitDefEqProofs only [go_sem]
    · simp -implicitDefEqProofs only [go_sem]
      (repeat' (first|(refine g_s fun K hK=>?_)|(refine g_b ?_)|(refine g_r ?_)|(refine g_k ?_;simp only[thenQ,blockQ])|(refine g_e ?_;simp only[thenQ,blockQ,↓reduceIte,Nat.reduceEqDiff])|(refine g_c (fun h=>?_) (fun h=>?_)<;>(try simp only[go_sem] at h)<;>(try exact g_f))|((first|refine g_t ?_|refine g_g ?_|refine g_U ?_|refine g_A ?_|refine g_W ?_);(try simp -implicitDefEqProofs only[go_sem]))|(with_reducible refine hK _ _ ?_;clear hK K)|(clear hK K;first|(with_reducible refine hK _ _ ?_;clear hK K)|(clear hK K;with_reducible refine hK _ _ ?_;clear hK K)|(clear hK K;clear hK K;with_reducible refine hK _ _ ?_;clear hK K))|(with_reducible refine splitB_intro (fun h=>?_) (fun h=>?_)<;>(try simp only[go_sem] at h)<;>(try exact g_f)<;>(try simp -implicitDefEqProofs only[go_sem]))|(with_reducible refine And.intro (fun h=>?_) (fun h=>?_)<;>(try simp only[go_sem] at h)<;>(try exact g_f))|(with_reducible refine And.intro ?_ ?_;· exact g_x)|(with_reducible intro h;(try simp only[go_sem] at h);(try exact g_f))))
      rw [decide_eq_true (at0_eq hle fun i h1 h2 => hH i h1 (by omega) : a = b)]
theorem same_calls (a b : List (List Int)) (ha : StOk a) (σ : Store) : ACalls Tryz.prog 49 [rowsC a, rowsC b] σ fun r σ' => σ' = σ ∧ r = .c (.bool (decide (a = b))) := by
  refine ACalls_of_awp Tryz.func49 rfl Tryz.results49 ?_
  simp only [List.length_cons, List.length_nil, Tryz.ntmps49, Nat.reduceAdd, Nat.reduceSub, enterA]
  (repeat' (first|(refine g_s fun K hK=>?_)|(refine g_b ?_)|(refine g_r ?_)|(refine g_k ?_;simp only[thenQ,blockQ])|(refine g_e ?_;simp only[thenQ,blockQ,↓reduceIte,Nat.reduceEqDiff])|(refine g_c (fun h=>?_) (fun h=>?_)<;>(try simp only[go_sem] at h)<;>(try exact g_f))|((first|refine g_t ?_|refine g_g ?_|refine g_U ?_|refine g_A ?_|refine (equalFunc_calls a b ha _).use ?_|refine g_q (fun τ=>equalFunc_calls a b ha _) ?_|refine g_W ?_);(try simp -implicitDefEqProofs only[go_sem]))|(with_reducible refine hK _ _ ?_;clear hK K)|(clear hK K;first|(with_reducible refine hK _ _ ?_;clear hK K)|(clear hK K;with_reducible refine hK _ _ ?_;clear hK K)|(clear hK K;clear hK K;with_reducible refine hK _ _ ?_;clear hK K))|(with_reducible refine splitB_intro (fun h=>?_) (fun h=>?_)<;>(try simp only[go_sem] at h)<;>(try exact g_f)<;>(try simp -implicitDefEqProofs only[go_sem]))|(with_reducible refine And.intro (fun h=>?_) (fun h=>?_)<;>(try simp only[go_sem] at h)<;>(try exact g_f))|(with_reducible refine And.intro ?_ ?_;· exact g_x)|(with_reducible intro h;(try simp only[go_sem] at h);(try exact g_f))))
theorem settleF_same {n : Net} {f : Nat} {k : Int} {x : List (List Int)} (h : x = roundA n x) : settleF n (f + 1) k x = (x, k) := by rw [settleF, if_pos h]
theorem settleF_next {n : Net} {f : Nat} {k : Int} {x : List (List Int)} (h : ¬ x = roundA n x) : settleF n (f + 1) k x = settleF n f (k + 1) (roundA n x) := by rw [settleF, if_neg h]
def settleC (r : (List (List Int) × Int) × Int) : AV := .tup [rowsC r.1.1, intA1 r.1.2, intA1 r.2]
theorem settle_calls (n : Net) (x : List (List Int)) (most : Int) (okn : NetOk n) (ok : StOk x) (hm : I64 most) (σ : Store) : ACalls Tryz.prog 13 [.agg (netC n), rowsC x, intA1 most] σ fun r σ' => σ' = σ ∧ r = settleC (settleA n x most) := by
  have hl := okn.len
  have hF := fit_calls n x okn ok
  refine ACalls.cutX ?_
  by_cases h0 : fitA n x = 0
  · have hc : checkN n = 0 := by
      apply Classical.byContradiction
      intro hc
      rw [fitA, if_pos hc] at h0
      exact hc h0
    have hn := netIn_of hc
    have hx : RowsIn n x := rowsIn_of (by rw [fitA, if_neg (by omega)] at h0; exact h0)
    rw [h0] at hF
    by_cases h1 : inR most 0 1000 = true
    · have h2 := inR_iff.1 h1
      have e : settleA n x most = (settleF n most.toNat 0 x, 0) := by simp [settleA, h0, h1]
      rw [e]
      refine ACalls_of_awp Tryz.func13 rfl Tryz.results13 ?_
      simp only [List.length_cons, List.length_nil, Tryz.ntmps13, Nat.reduceAdd, Nat.reduceSub, enterA]
      refine AWP_seq_k fun K hK => ?_
      (refine AWP_region ?_; simp -implicitDefEqProofs only [go_sem])
      refine hK _ _ ?_; clear hK K
      refine AWP_freezeP 3 rfl (by simp only [st0]; rfl) ?_
      simp only [ss0, List.set_cons_zero]
      (repeat' (first|(refine g_s fun K hK=>?_)|(refine g_b ?_)|(refine g_r ?_)|(refine g_k ?_;simp only[thenQ,blockQ])|(refine g_e ?_;simp only[thenQ,blockQ,↓reduceIte,Nat.reduceEqDiff])|(refine g_c (fun h=>?_) (fun h=>?_)<;>(try simp only[go_sem] at h)<;>(try exact g_f))|((first|refine g_t ?_|refine g_g ?_|refine g_U ?_|refine g_A ?_|refine (hF _).use ?_|refine g_q (fun τ=>hF _) ?_|refine (nwithin_calls _ _ _ _).use ?_|refine g_q (fun τ=>nwithin_calls _ _ _ _) ?_|refine (own_calls x ok _).use ?_|refine g_q (fun τ=>own_calls x ok _) ?_|refine g_W ?_);(try simp -implicitDefEqProofs only[go_sem,h1]))|(with_reducible refine hK _ _ ?_;clear hK K)|(clear hK K;first|(with_reducible refine hK _ _ ?_;clear hK K)|(clear hK K;with_reducible refine hK _ _ ?_;clear hK K)|(clear hK K;clear hK K;with_reducible refine hK _ _ ?_;clear hK K))|(with_reducible refine splitB_intro (fun h=>?_) (fun h=>?_)<;>(try simp only[go_sem] at h)<;>(try exact g_f)<;>(try simp -implicitDefEqProofs only[go_sem,h1]))|(with_reducible refine And.intro (fun h=>?_) (fun h=>?_)<;>(try simp only[go_sem] at h)<;>(try exact g_f))|(with_reducible refine And.intro ?_ ?_;· exact g_x)|(with_reducible intro h;(try simp only[go_sem] at h);(try exact g_f))))
      have hJ := hK
      clear hK
      refine AWP_for most (fun k xs => RowsIn n xs ∧ settleF n most.toNat 0 x = settleF n (most - k).toNat k xs) (fun k xs _ => [(24, intA1 k), (1, rowsC xs)]) (fun _ _ _ => σ ++ [.dead]) x [] h2.1 ⟨hx, by rw [Int.sub_zero]⟩ rfl (ALe_of ?_) ?_
      · simp -implicitDefEqProofs only [go_sem]
      · rintro k xs τ hk0 hk1 ⟨hxs, hH⟩ L hL
        by_cases hk2 : k < most
        · have hf : (most - k).toNat = (most - (k + 1)).toNat + 1 := by omega
          rw [hf] at hH
          simp -implicitDefEqProofs only [go_sem]
          (repeat' (first|(refine g_s fun K hK=>?_)|(refine g_b ?_)|(refine g_r ?_)|(refine g_k ?_;simp only[thenQ,blockQ])|(refine g_e ?_;simp only[thenQ,blockQ,↓reduceIte,Nat.reduceEqDiff])|(refine g_c (fun h=>?_) (fun h=>?_)<;>(try simp only[go_sem] at h)<;>(try exact g_f))|((first|refine g_t ?_|refine g_g ?_|refine g_U ?_|refine g_A ?_|refine (next_calls n xs hc hxs hl _).use ?_|refine g_q (fun τ=>next_calls n xs hc hxs hl _) ?_|refine (same_calls xs (roundA n xs) (hxs.stOk hn) _).use ?_|refine g_q (fun τ=>same_calls xs (roundA n xs) (hxs.stOk hn) _) ?_|refine g_W ?_);(try simp -implicitDefEqProofs only[go_sem]))|(with_reducible refine hK _ _ ?_;clear hK K)|(clear hK K;first|(with_reducible refine hK _ _ ?_;clear hK K)|(clear hK K;with_reducible refine hK _ _ ?_;clear hK K)|(clear hK K;clear hK K;with_reducible refine hK _ _ ?_;clear hK K))|(with_reducible refine splitB_intro (fun h=>?_) (fun h=>?_)<;>(try simp only[go_sem] at h)<;>(try exact g_f)<;>(try simp -implicitDefEqProofs only[go_sem]))|(with_reducible refine And.intro (fun h=>?_) (fun h=>?_)<;>(try simp only[go_sem] at h)<;>(try exact g_f))|(with_reducible refine And.intro ?_ ?_;· exact g_x)|(with_reducible intro h;(try simp only[go_sem] at h);(try exact g_f))))
          · have hs : xs = roundA n xs := by simpa using h
            rw [hH, settleF_same hs]
            refine CutQ_w rfl ?_ ?_
            · exact .tupL (.cons (.rows _) (.cons (.c _) (.cons (.c _) .nil)))
            · exact .eq rfl
          · have hs : ¬ xs = roundA n xs := by simpa using h
            rw [settleF_next hs] at hH
            refine hL hk2 (roundA n xs) [] _ _ ⟨round_in hn hxs, hH⟩ (ALe_of ?_) rfl
            simp -implicitDefEqProofs only [go_sem]
        · have hkm : k = most := by omega
          subst hkm
          rw [Int.sub_self] at hH
          simp -implicitDefEqProofs only [go_sem]
          (repeat' (first|(refine g_s fun K hK=>?_)|(refine g_b ?_)|(refine g_r ?_)|(refine g_k ?_;simp only[thenQ,blockQ])|(refine g_e ?_;simp only[thenQ,blockQ,↓reduceIte,Nat.reduceEqDiff])|(refine g_c (fun h=>?_) (fun h=>?_)<;>(try simp only[go_sem] at h)<;>(try exact g_f))|((first|refine g_t ?_|refine g_g ?_|refine g_U ?_|refine g_A ?_|refine g_W ?_);(try simp -implicitDefEqProofs only[go_sem]))|(with_reducible refine hK _ _ ?_;clear hK K)|(clear hK K;first|(with_reducible refine hK _ _ ?_;clear hK K)|(clear hK K;with_reducible refine hK _ _ ?_;clear hK K)|(clear hK K;clear hK K;with_reducible refine hK _ _ ?_;clear hK K))|(with_reducible refine splitB_intro (fun h=>?_) (fun h=>?_)<;>(try simp only[go_sem] at h)<;>(try exact g_f)<;>(try simp -implicitDefEqProofs only[go_sem]))|(with_reducible refine And.intro (fun h=>?_) (fun h=>?_)<;>(try simp only[go_sem] at h)<;>(try exact g_f))|(with_reducible refine And.intro ?_ ?_;· exact g_x)|(with_reducible intro h;(try simp only[go_sem] at h);(try exact g_f))))
          refine hJ _ _ ?_
          clear hJ
          (repeat' (first|(refine g_s fun K hK=>?_)|(refine g_b ?_)|(refine g_r ?_)|(refine g_k ?_;simp only[thenQ,blockQ])|(refine g_e ?_;simp only[thenQ,blockQ,↓reduceIte,Nat.reduceEqDiff])|(refine g_c (fun h=>?_) (fun h=>?_)<;>(try simp only[go_sem] at h)<;>(try exact g_f))|((first|refine g_t ?_|refine g_g ?_|refine g_U ?_|refine g_A ?_|refine g_W ?_);(try simp -implicitDefEqProofs only[go_sem]))|(with_reducible refine hK _ _ ?_;clear hK K)|(clear hK K;first|(with_reducible refine hK _ _ ?_;clear hK K)|(clear hK K;with_reducible refine hK _ _ ?_;clear hK K)|(clear hK K;clear hK K;with_reducible refine hK _ _ ?_;clear hK K))|(with_reducible refine splitB_intro (fun h=>?_) (fun h=>?_)<;>(try simp only[go_sem] at h)<;>(try exact g_f)<;>(try simp -implicitDefEqProofs only[go_sem]))|(with_reducible refine And.intro (fun h=>?_) (fun h=>?_)<;>(try simp only[go_sem] at h)<;>(try exact g_f))|(with_reducible refine And.intro ?_ ?_;· exact g_x)|(with_reducible intro h;(try simp only[go_sem] at h);(try exact g_f))))
          rw [hH]
          refine CutQ_w rfl ?_ ?_
          · exact .tupL (.cons (.rows _) (.cons (.c _) (.cons (.c _) .nil)))
          · exact .eq rfl
    · have e : settleA n x most = (([], 0), 3) := by simp [settleA, h0, h1]
      have h1' : inR most 0 1000 = false := by simpa using h1
      rw [e]
      refine ACalls_of_awp Tryz.func13 rfl Tryz.results13 ?_
      simp only [List.length_cons, List.length_nil, Tryz.ntmps13, Nat.reduceAdd, Nat.reduceSub, enterA]
      (repeat' (first|(refine g_s fun K hK=>?_)|(refine g_b ?_)|(refine g_r ?_)|(refine g_k ?_;simp only[thenQ,blockQ])|(refine g_e ?_;simp only[thenQ,blockQ,↓reduceIte,Nat.reduceEqDiff])|(refine g_c (fun h=>?_) (fun h=>?_)<;>(try simp only[go_sem] at h)<;>(try exact g_f))|((first|refine g_t ?_|refine g_g ?_|refine g_U ?_|refine g_A ?_|refine (hF _).use ?_|refine g_q (fun τ=>hF _) ?_|refine (nwithin_calls _ _ _ _).use ?_|refine g_q (fun τ=>nwithin_calls _ _ _ _) ?_|refine g_W ?_);(try simp -implicitDefEqProofs only[go_sem,h1']))|(with_reducible refine hK _ _ ?_;clear hK K)|(clear hK K;first|(with_reducible refine hK _ _ ?_;clear hK K)|(clear hK K;with_reducible refine hK _ _ ?_;clear hK K)|(clear hK K;clear hK K;with_reducible refine hK _ _ ?_;clear hK K))|(with_reducible refine splitB_intro (fun h=>?_) (fun h=>?_)<;>(try simp only[go_sem] at h)<;>(try exact g_f)<;>(try simp -implicitDefEqProofs only[go_sem,h1']))|(with_reducible refine And.intro (fun h=>?_) (fun h=>?_)<;>(try simp only[go_sem] at h)<;>(try exact g_f))|(with_reducible refine And.intro ?_ ?_;· exact g_x)|(with_reducible intro h;(try simp only[go_sem] at h);(try exact g_f))))
      refine CutQ_w rfl ?_ ?_
      · (repeat' (first | exact Bd.c _ | exact Bd.emp | exact BdL.nil | exact Bd.ints _ | refine Bd.aggL ?_ | refine Bd.tupL ?_ | refine BdL.cons ?_ ?_))
      · exact .tup (.cons .nil (.cons (.refl _) (.cons (.refl _) .nil)))
  · have e : settleA n x most = (([], 0), fitA n x) := by simp [settleA, h0]
    rw [e]
    refine ACalls_of_awp Tryz.func13 rfl Tryz.results13 ?_
    simp only [List.length_cons, List.length_nil, Tryz.ntmps13, Nat.reduceAdd, Nat.reduceSub, enterA]
    (repeat' (first|(refine g_s fun K hK=>?_)|(refine g_b ?_)|(refine g_r ?_)|(refine g_k ?_;simp only[thenQ,blockQ])|(refine g_e ?_;simp only[thenQ,blockQ,↓reduceIte,Nat.reduceEqDiff])|(refine g_c (fun h=>?_) (fun h=>?_)<;>(try simp only[go_sem] at h)<;>(try exact g_f))|((first|refine g_t ?_|refine g_g ?_|refine g_U ?_|refine g_A ?_|refine (hF _).use ?_|refine g_q (fun τ=>hF _) ?_|refine g_W ?_);(try simp -implicitDefEqProofs only[go_sem]))|(with_reducible refine hK _ _ ?_;clear hK K)|(clear hK K;first|(with_reducible refine hK _ _ ?_;clear hK K)|(clear hK K;with_reducible refine hK _ _ ?_;clear hK K)|(clear hK K;clear hK K;with_reducible refine hK _ _ ?_;clear hK K))|(with_reducible refine splitB_intro (fun h=>?_) (fun h=>?_)<;>(try simp only[go_sem] at h)<;>(try exact g_f)<;>(try simp -implicitDefEqProofs only[go_sem]))|(with_reducible refine And.intro (fun h=>?_) (fun h=>?_)<;>(try simp only[go_sem] at h)<;>(try exact g_f))|(with_reducible refine And.intro ?_ ?_;· exact g_x)|(with_reducible intro h;(try simp only[go_sem] at h);(try exact g_f))))
    refine CutQ_w rfl ?_ ?_
    · (repeat' (first | exact Bd.c _ | exact Bd.emp | exact BdL.nil | exact Bd.ints _ | refine Bd.aggL ?_ | refine Bd.tupL ?_ | refine BdL.cons ?_ ?_))
    · exact .tup (.cons .nil (.cons (.refl _) (.cons (.refl _) .nil)))
end Go.Proofs.YtephecognbbaoaaGreat
namespace Go.Proofs.YtephecognbbaoaaGreat
def beginC (n : Net) : AV := .tup [rowsC (if checkN n = 0 then beginA n else []), intA1 (checkN n)]
theorem begin_calls (n : Net) (ok : NetOk n) (σ : Store) : ACalls Tryz.prog 12 [.agg (netC n)] σ fun r σ' => σ' = σ ∧ r = beginC n := by
  have hC := netCheck_calls n ok
  refine ACalls.cutX ?_
  by_cases h0 : checkN n = 0
  · rw [beginC, if_pos h0]
    rw [h0] at hC ⊢
    refine ACalls_of_awp Tryz.func12 rfl Tryz.results12 ?_
    simp only [List.length_cons, List.length_nil, Tryz.ntmps12, Nat.reduceAdd, Nat.reduceSub, enterA]
    (repeat' (first|(refine g_s fun K hK=>?_)|(refine g_b ?_)|(refine g_r ?_)|(refine g_k ?_;simp only[thenQ,blockQ])|(refine g_e ?_;simp only[thenQ,blockQ,↓reduceIte,Nat.reduceEqDiff])|(refine g_c (fun h=>?_) (fun h=>?_)<;>(try simp only[go_sem] at h)<;>(try exact g_f))|((first|refine g_t ?_|refine g_g ?_|refine g_U ?_|refine g_A ?_|refine (hC _).use ?_|refine g_q (fun τ=>hC _) ?_|refine (trivial_calls n (netIn_of h0) _).use ?_|refine g_q (fun τ=>trivial_calls n (netIn_of h0) _) ?_|refine g_W ?_);(try simp -implicitDefEqProofs only[go_sem]))|(with_reducible refine hK _ _ ?_;clear hK K)|(clear hK K;first|(with_reducible refine hK _ _ ?_;clear hK K)|(clear hK K;with_reducible refine hK _ _ ?_;clear hK K)|(clear hK K;clear hK K;with_reducible refine hK _ _ ?_;clear hK K))|(with_reducible refine splitB_intro (fun h=>?_) (fun h=>?_)<;>(try simp only[go_sem] at h)<;>(try exact g_f)<;>(try simp -implicitDefEqProofs only[go_sem]))|(with_reducible refine And.intro (fun h=>?_) (fun h=>?_)<;>(try simp only[go_sem] at h)<;>(try exact g_f))|(with_reducible refine And.intro ?_ ?_;· exact g_x)|(with_reducible intro h;(try simp only[go_sem] at h);(try exact g_f))))
    refine CutQ_w rfl ?_ ?_
    · exact .tupL (.cons (.rows _) (.cons (.c _) .nil))
    · exact .eq rfl
  · rw [beginC, if_neg h0]
    refine ACalls_of_awp Tryz.func12 rfl Tryz.results12 ?_
    simp only [List.length_cons, List.length_nil, Tryz.ntmps12, Nat.reduceAdd, Nat.reduceSub, enterA]
    (repeat' (first|(refine g_s fun K hK=>?_)|(refine g_b ?_)|(refine g_r ?_)|(refine g_k ?_;simp only[thenQ,blockQ])|(refine g_e ?_;simp only[thenQ,blockQ,↓reduceIte,Nat.reduceEqDiff])|(refine g_c (fun h=>?_) (fun h=>?_)<;>(try simp only[go_sem] at h)<;>(try exact g_f))|((first|refine g_t ?_|refine g_g ?_|refine g_U ?_|refine g_A ?_|refine (hC _).use ?_|refine g_q (fun τ=>hC _) ?_|refine g_W ?_);(try simp -implicitDefEqProofs only[go_sem]))|(with_reducible refine hK _ _ ?_;clear hK K)|(clear hK K;first|(with_reducible refine hK _ _ ?_;clear hK K)|(clear hK K;with_reducible refine hK _ _ ?_;clear hK K)|(clear hK K;clear hK K;with_reducible refine hK _ _ ?_;clear hK K))|(with_reducible refine splitB_intro (fun h=>?_) (fun h=>?_)<;>(try simp only[go_sem] at h)<;>(try exact g_f)<;>(try simp -implicitDefEqProofs only[go_sem]))|(with_reducible refine And.intro (fun h=>?_) (fun h=>?_)<;>(try simp only[go_sem] at h)<;>(try exact g_f))|(with_reducible refine And.intro ?_ ?_;· exact g_x)|(with_reducible intro h;(try simp only[go_sem] at h);(try exact g_f))))
    refine CutQ_w rfl ?_ ?_
    · (repeat' (first | exact Bd.c _ | exact Bd.emp | exact BdL.nil | exact Bd.ints _ | refine Bd.aggL ?_ | refine Bd.tupL ?_ | refine BdL.cons ?_ ?_))
    · exact .tup (.cons .nil (.cons (.refl _) .nil))
theorem twoN_begin : beginC twoN = .tup [rowsC [[0, 2], [2, 0]], intA1 0] := by
  have h : beginA twoN = [[0, 2], [2, 0]] := by decide +kernel
  rw [beginC, if_pos twoN_check, h, twoN_check]
theorem twoN_settle : settleA twoN [[0, 2], [2, 0]] 10 = (([[0, 1], [1, 0]], 1), 0) := by decide +kernel
theorem netBegun_calls (σ : Store) : ACalls Tryz.prog 6 [] σ fun r σ' => σ' = σ ∧ r = .c (.bool true) := by
  have hB := begin_calls twoN twoN_ok
  rw [twoN_begin] at hB
  have hS := settle_calls twoN [[0, 2], [2, 0]] 10 twoN_ok ⟨by decide, by decide⟩ (by unfold I64; decide)
  rw [twoN_settle] at hS
  have hC := netCheck_calls twoN twoN_ok
  rw [twoN_check] at hC
  have hE : ∀ S, ACalls Tryz.prog 14 [rowsC [[0, 1], [1, 0]], rowsC [[0, 1], [1, 0]]] S fun r σ' => σ' = S ∧ r = .c (.bool true) := fun S => sameState_calls [[0, 1], [1, 0]] [[0, 1], [1, 0]] ⟨by decide, by decide⟩ S
  refine ACalls.cutX ?_
  refine ACalls_of_awp Tryz.func6 rfl Tryz.results6 ?_
  simp only [List.length_cons, List.length_nil, Tryz.ntmps6, Nat.reduceAdd, Nat.reduceSub, enterA]
  (repeat' (first|(refine g_s fun K hK=>?_)|(refine g_b ?_)|(refine g_r ?_)|(refine g_k ?_;simp only[thenQ,blockQ])|(refine g_e ?_;simp only[thenQ,blockQ,↓reduceIte,Nat.reduceEqDiff])|(refine g_c (fun h=>?_) (fun h=>?_)<;>(try simp only[go_sem] at h)<;>(try exact g_f))|((first|refine g_t ?_|refine g_G ?_|refine g_U ?_|refine g_A ?_|refine (two_calls _).use ?_|refine g_q (fun τ=>two_calls _) ?_|refine (hB _).use ?_|refine g_q (fun τ=>hB _) ?_|refine (hS _).use ?_|refine g_q (fun τ=>hS _) ?_|refine (hC _).use ?_|refine g_q (fun τ=>hC _) ?_|refine (hE _).use ?_|refine g_q (fun τ=>hE _) ?_|refine g_W ?_);(try simp -implicitDefEqProofs only[go_sem,settleC]))|(with_reducible refine hK _ _ ?_;clear hK K)|(clear hK K;first|(with_reducible refine hK _ _ ?_;clear hK K)|(clear hK K;with_reducible refine hK _ _ ?_;clear hK K)|(clear hK K;clear hK K;with_reducible refine hK _ _ ?_;clear hK K))|(with_reducible refine splitB_intro (fun h=>?_) (fun h=>?_)<;>(try simp only[go_sem] at h)<;>(try exact g_f)<;>(try simp -implicitDefEqProofs only[go_sem,settleC]))|(with_reducible refine And.intro (fun h=>?_) (fun h=>?_)<;>(try simp only[go_sem] at h)<;>(try exact g_f))|(with_reducible refine And.intro ?_ ?_;· exact g_x)|(with_reducible intro h;(try simp only[go_sem] at h);(try exact g_f))))
  exact CutQ_c (τ := []) (by simp) rfl
end Go.Proofs.YtephecognbbaoaaGreat
namespace Go.Proofs.YtephecognbbaoaaGreat
/-- What is known of a broken law that came in. -/
def BrkOk (b : Brk) : Prop := I64 b.law ∧ I64 b.a ∧ I64 b.b ∧ I64 b.c ∧ I64 b.edge
theorem readsRows {W : World} : Reads Tryz.prog W 22 (fun l : List (List Int) => [rowsC l]) (fun l => l.length ≤ 5864062014634 ∧ ∀ r ∈ l, r.length ≤ 17592186044000) :=
  Reads.map (X := List (List Int)) (fun x => x) (fun _ => rfl) (fun x h => by
      have h1 : x.length * Tryz.prog.bytesOf 51 ≤ reachBytes := h.2
      have h2 : Tryz.prog.bytesOf 51 = 24 := by kernel_rfl
      have h3 : reachBytes = 140737488351232 := rfl
      rw [h2, h3] at h1
      refine ⟨by omega, fun r hr => ?_⟩
      have h4 : r.length * Tryz.prog.bytesOf 3 ≤ reachBytes := (h.1 r hr).2
      have h5 : Tryz.prog.bytesOf 3 = 8 := by kernel_rfl
      rw [h5, h3] at h4
      omega)
    (Reads.slice Tryz.underlying22 (k := 1) (by kernel_rfl) (by omega) (fun _ => rfl) (Reads.slice Tryz.underlying51 (k := 1) (by kernel_rfl) (by omega) (fun _ => rfl) (Reads.int Tryz.underlying3)))
theorem readsAlg {W : World} : Reads Tryz.prog W 24 algC AlgOk := by
  have h0 := Reads.struct (P := Tryz.prog) (W := W) (t := 24) (n := 1 + (1 + (1 + 0))) Tryz.underlying24 (by kernel_rfl) (ReadsF.cons (k := 1) rfl (by kernel_rfl) (Reads.int Tryz.underlying3) (ReadsF.cons (k := 1) rfl (by kernel_rfl) readsRows (ReadsF.cons (k := 1) rfl (by kernel_rfl) readsRows ReadsF.nil)))
  refine Reads.map (X := Int × List (List Int) × List (List Int) × Unit) (fun x => (⟨x.1, x.2.1, x.2.2.1⟩ : Alg)) (fun _ => rfl) (fun x h => ?_) h0
  obtain ⟨h1, h2, h3, _⟩ := h
  refine ⟨h2.1, h3.1, h1, fun r hr => ?_⟩
  rcases List.mem_append.1 hr with g | g
  · exact h2.2 r g
  · exact h3.2 r g
end Go.Proofs.YtephecognbbaoaaGreat
namespace Go.Proofs.YtephecognbbaoaaGreat
theorem asked_calls (x : Alg) (laws : List Int) (ok : AlgOk x) (hl : laws.length ≤ 100) (hlaw : ∀ law ∈ laws, 1 ≤ law ∧ law ≤ 9) (σ : Store) :
    ACalls Tryz.prog 41 [.agg (algC x), intsA laws] σ fun r σ' => σ' = σ ∧ r = .tup [.agg (brkC (lawsA x laws).1), intA1 (lawsA x laws).2] := by
  refine ACalls.cutX ?_
  by_cases hc : checkA x = 0
  · have hr := right_iff.1 hc
    have e : lawsA x laws = (brokenA x laws, 0) := by simp [lawsA, hc]
    rw [e]
    refine ACalls_of_awp Tryz.func41 rfl Tryz.results41 ?_
    simp only [List.length_cons, List.length_nil, Tryz.ntmps41, Nat.reduceAdd, Nat.reduceSub, enterA]
    refine AWP_seq_k fun K hK => ?_
    (refine AWP_region ?_; simp -implicitDefEqProofs only [go_sem])
    refine hK _ _ ?_; clear hK K
    refine AWP_freezeP 2 rfl (by simp only [st0]; rfl) ?_
    simp only [ss0, List.set_cons_zero]
    (repeat' (first|(refine g_s fun K hK=>?_)|(refine g_b ?_)|(refine g_r ?_)|(refine g_k ?_;simp only[thenQ,blockQ])|(refine g_e ?_;simp only[thenQ,blockQ,↓reduceIte,Nat.reduceEqDiff])|(refine g_c (fun h=>?_) (fun h=>?_)<;>(try simp only[go_sem] at h)<;>(try exact g_f))|((first|refine g_t ?_|refine g_g ?_|refine g_U ?_|refine g_A ?_|refine (check_calls x ok.hb ok.he ok.hs ok.hrow _).use ?_|refine g_q (fun τ=>check_calls x ok.hb ok.he ok.hs ok.hrow _) ?_|refine (broken_calls x laws hr hl hlaw _).use ?_|refine g_q (fun τ=>broken_calls x laws hr hl hlaw _) ?_|refine g_W ?_);(try simp -implicitDefEqProofs only[go_sem,hc]))|(with_reducible refine hK _ _ ?_;clear hK K)|(clear hK K;first|(with_reducible refine hK _ _ ?_;clear hK K)|(clear hK K;with_reducible refine hK _ _ ?_;clear hK K)|(clear hK K;clear hK K;with_reducible refine hK _ _ ?_;clear hK K))|(with_reducible refine splitB_intro (fun h=>?_) (fun h=>?_)<;>(try simp only[go_sem] at h)<;>(try exact g_f)<;>(try simp -implicitDefEqProofs only[go_sem,hc]))|(with_reducible refine And.intro (fun h=>?_) (fun h=>?_)<;>(try simp only[go_sem] at h)<;>(try exact g_f))|(with_reducible refine And.intro ?_ ?_;· exact g_x)|(with_reducible intro h;(try simp only[go_sem] at h);(try exact g_f))))
    refine CutQ_w rfl ?_ ?_
    · (repeat' (first | exact Bd.c _ | exact Bd.emp | exact BdL.nil | exact Bd.ints _ | refine Bd.aggL ?_ | refine Bd.tupL ?_ | refine BdL.cons ?_ ?_))
    · (repeat' (first | exact Wk.nil | exact Wk.emp | exact WkL.nil | (with_reducible exact Wk.refl _) | refine Wk.agg ?_ | refine Wk.tup ?_ | refine WkL.cons ?_ ?_ | (refine Wk.eq ?_; rfl)))
  · have e : lawsA x laws = (zeroB, checkA x) := by simp [lawsA, hc]
    rw [e]
    refine ACalls_of_awp Tryz.func41 rfl Tryz.results41 ?_
    simp only [List.length_cons, List.length_nil, Tryz.ntmps41, Nat.reduceAdd, Nat.reduceSub, enterA]
    refine AWP_seq_k fun K hK => ?_
    (refine AWP_region ?_; simp -implicitDefEqProofs only [go_sem])
    refine hK _ _ ?_; clear hK K
    refine AWP_freezeP 2 rfl (by simp only [st0]; rfl) ?_
    simp only [ss0, List.set_cons_zero]
    (repeat' (first|(refine g_s fun K hK=>?_)|(refine g_b ?_)|(refine g_r ?_)|(refine g_k ?_;simp only[thenQ,blockQ])|(refine g_e ?_;simp only[thenQ,blockQ,↓reduceIte,Nat.reduceEqDiff])|(refine g_c (fun h=>?_) (fun h=>?_)<;>(try simp only[go_sem] at h)<;>(try exact g_f))|((first|refine g_t ?_|refine g_g ?_|refine g_U ?_|refine g_A ?_|refine (check_calls x ok.hb ok.he ok.hs ok.hrow _).use ?_|refine g_q (fun τ=>check_calls x ok.hb ok.he ok.hs ok.hrow _) ?_|refine g_W ?_);(try simp -implicitDefEqProofs only[go_sem]))|(with_reducible refine hK _ _ ?_;clear hK K)|(clear hK K;first|(with_reducible refine hK _ _ ?_;clear hK K)|(clear hK K;with_reducible refine hK _ _ ?_;clear hK K)|(clear hK K;clear hK K;with_reducible refine hK _ _ ?_;clear hK K))|(with_reducible refine splitB_intro (fun h=>?_) (fun h=>?_)<;>(try simp only[go_sem] at h)<;>(try exact g_f)<;>(try simp -implicitDefEqProofs only[go_sem]))|(with_reducible refine And.intro (fun h=>?_) (fun h=>?_)<;>(try simp only[go_sem] at h)<;>(try exact g_f))|(with_reducible refine And.intro ?_ ?_;· exact g_x)|(with_reducible intro h;(try simp only[go_sem] at h);(try exact g_f))))
    refine CutQ_w rfl ?_ ?_
    · (repeat' (first | exact Bd.c _ | exact Bd.emp | exact BdL.nil | exact Bd.ints _ | refine Bd.aggL ?_ | refine Bd.tupL ?_ | refine BdL.cons ?_ ?_))
    · (repeat' (first | exact Wk.nil | exact Wk.emp | exact WkL.nil | (with_reducible exact Wk.refl _) | refine Wk.agg ?_ | refine Wk.tup ?_ | refine WkL.cons ?_ ?_ | (refine Wk.eq ?_; rfl)))
theorem laws_calls (x : Alg) (ok : AlgOk x) (σ : Store) : ACalls Tryz.prog 35 [.agg (algC x)] σ fun r σ' => σ' = σ ∧ r = .tup [.agg (brkC (lawsA x seven).1), intA1 (lawsA x seven).2] := by
  refine ACalls.cutX ?_
  refine ACalls_of_awp Tryz.func35 rfl Tryz.results35 ?_
  simp only [List.length_cons, List.length_nil, Tryz.ntmps35, Nat.reduceAdd, Nat.reduceSub, enterA]
  (repeat' (first|(refine g_s fun K hK=>?_)|(refine g_b ?_)|(refine g_r ?_)|(refine g_k ?_;simp only[thenQ,blockQ])|(refine g_e ?_;simp only[thenQ,blockQ,↓reduceIte,Nat.reduceEqDiff])|(refine g_c (fun h=>?_) (fun h=>?_)<;>(try simp only[go_sem] at h)<;>(try exact g_f))|((first|refine g_t ?_|refine g_G ?_|refine g_U ?_|refine g_A ?_|refine (asked_calls x seven ok (by decide) (by decide) _).use ?_|refine g_q (fun τ=>asked_calls x seven ok (by decide) (by decide) _) ?_|refine g_W ?_);(try simp -implicitDefEqProofs only[go_sem]))|(with_reducible refine hK _ _ ?_;clear hK K)|(clear hK K;first|(with_reducible refine hK _ _ ?_;clear hK K)|(clear hK K;with_reducible refine hK _ _ ?_;clear hK K)|(clear hK K;clear hK K;with_reducible refine hK _ _ ?_;clear hK K))|(with_reducible refine splitB_intro (fun h=>?_) (fun h=>?_)<;>(try simp only[go_sem] at h)<;>(try exact g_f)<;>(try simp -implicitDefEqProofs only[go_sem]))|(with_reducible refine And.intro (fun h=>?_) (fun h=>?_)<;>(try simp only[go_sem] at h)<;>(try exact g_f))|(with_reducible refine And.intro ?_ ?_;· exact g_x)|(with_reducible intro h;(try simp only[go_sem] at h);(try exact g_f))))
  refine CutQ_w rfl ?_ ?_
  · (repeat' (first | exact Bd.c _ | exact Bd.emp | exact BdL.nil | exact Bd.ints _ | refine Bd.aggL ?_ | refine Bd.tupL ?_ | refine BdL.cons ?_ ?_))
  · (repeat' (first | exact Wk.nil | exact Wk.emp | exact WkL.nil | (with_reducible exact Wk.refl _) | refine Wk.agg ?_ | refine Wk.tup ?_ | refine WkL.cons ?_ ?_ | (refine Wk.eq ?_; rfl)))
theorem strict_calls (x : Alg) (ok : AlgOk x) (σ : Store) : ACalls Tryz.prog 9 [.agg (algC x)] σ fun r σ' => σ' = σ ∧ r = .tup [.agg (brkC (lawsA x [8]).1), intA1 (lawsA x [8]).2] := by
  refine ACalls.cutX ?_
  refine ACalls_of_awp Tryz.func9 rfl Tryz.results9 ?_
  simp only [List.length_cons, List.length_nil, Tryz.ntmps9, Nat.reduceAdd, Nat.reduceSub, enterA]
  (repeat' (first|(refine g_s fun K hK=>?_)|(refine g_b ?_)|(refine g_r ?_)|(refine g_k ?_;simp only[thenQ,blockQ])|(refine g_e ?_;simp only[thenQ,blockQ,↓reduceIte,Nat.reduceEqDiff])|(refine g_c (fun h=>?_) (fun h=>?_)<;>(try simp only[go_sem] at h)<;>(try exact g_f))|((first|refine g_t ?_|refine g_G ?_|refine g_U ?_|refine g_A ?_|refine (asked_calls x [8] ok (by decide) (by decide) _).use ?_|refine g_q (fun τ=>asked_calls x [8] ok (by decide) (by decide) _) ?_|refine g_W ?_);(try simp -implicitDefEqProofs only[go_sem]))|(with_reducible refine hK _ _ ?_;clear hK K)|(clear hK K;first|(with_reducible refine hK _ _ ?_;clear hK K)|(clear hK K;with_reducible refine hK _ _ ?_;clear hK K)|(clear hK K;clear hK K;with_reducible refine hK _ _ ?_;clear hK K))|(with_reducible refine splitB_intro (fun h=>?_) (fun h=>?_)<;>(try simp only[go_sem] at h)<;>(try exact g_f)<;>(try simp -implicitDefEqProofs only[go_sem]))|(with_reducible refine And.intro (fun h=>?_) (fun h=>?_)<;>(try simp only[go_sem] at h)<;>(try exact g_f))|(with_reducible refine And.intro ?_ ?_;· exact g_x)|(with_reducible intro h;(try simp only[go_sem] at h);(try exact g_f))))
  refine CutQ_w rfl ?_ ?_
  · (repeat' (first | exact Bd.c _ | exact Bd.emp | exact BdL.nil | exact Bd.ints _ | refine Bd.aggL ?_ | refine Bd.tupL ?_ | refine BdL.cons ?_ ?_))
  · (repeat' (first | exact Wk.nil | exact Wk.emp | exact WkL.nil | (with_reducible exact Wk.refl _) | refine Wk.agg ?_ | refine Wk.tup ?_ | refine WkL.cons ?_ ?_ | (refine Wk.eq ?_; rfl)))
end Go.Proofs.YtephecognbbaoaaGreat
namespace Go.Proofs.YtephecognbbaoaaGreat
theorem inR_f {n lo hi : Int} : inR n lo hi = false ↔ n < lo ∨ hi < n := by rw [← Bool.not_eq_true']; exact not_inR
theorem holdsAsk_calls (x : Alg) (b : Brk) (ok : AlgOk x) (okb : BrkOk b) (σ : Store) :
    ACalls Tryz.prog 37 [.agg (algC x), .agg (brkC b)] σ fun r σ' => σ' = σ ∧ r = .tup [.c (.bool (asksA x b).1), intA1 (asksA x b).2] := by
  have hm := many_bd b.law
  have hi := okb.1
  refine ACalls.cutX ?_
  by_cases hc : checkA x = 0
  · have hr := right_iff.1 hc
    have s2 := hr.s2
    have s24 := hr.s24
    have e8 := hr.e8
    by_cases hlaw : 1 ≤ b.law ∧ b.law ≤ 9
    · have hf := shapes_find b.law hlaw
      refine ACalls_of_awp Tryz.func37 rfl Tryz.results37 ?_
      simp only [List.length_cons, List.length_nil, Tryz.ntmps37, Nat.reduceAdd, Nat.reduceSub, enterA]
      refine AWP_seq_k fun K hK => ?_
      (refine AWP_region ?_; simp -implicitDefEqProofs only [go_sem])
      refine hK _ _ ?_; clear hK K
      refine AWP_freezeP 2 rfl (by simp only [st0]; rfl) ?_
      simp only [ss0, List.set_cons_zero]
      refine AWP_freezeP 3 rfl (by simp only [st1]; rfl) ?_
      simp only [ss1, List.set_cons_zero, List.set_cons_succ]
      (repeat' (first|(refine g_s fun K hK=>?_)|(refine g_b ?_)|(refine g_r ?_)|(refine g_k ?_;simp only[thenQ,blockQ])|(refine g_e ?_;simp only[thenQ,blockQ,↓reduceIte,Nat.reduceEqDiff])|(refine g_c (fun h=>?_) (fun h=>?_)<;>(try simp only[go_sem] at h)<;>(try exact g_f))|((first|refine g_t ?_|refine g_g ?_|refine g_U ?_|refine g_A ?_|refine (check_calls x ok.hb ok.he ok.hs ok.hrow _).use ?_|refine g_q (fun τ=>check_calls x ok.hb ok.he ok.hs ok.hrow _) ?_|refine (shapes_calls _).use ?_|refine g_q (fun τ=>shapes_calls _) ?_|refine AWP_drawL false false tab_mixed (by decide +kernel) ?_|refine g_W ?_);(try simp -implicitDefEqProofs only[go_sem,hc, hf, shapeC, hi]))|(with_reducible refine hK _ _ ?_;clear hK K)|(clear hK K;first|(with_reducible refine hK _ _ ?_;clear hK K)|(clear hK K;with_reducible refine hK _ _ ?_;clear hK K)|(clear hK K;clear hK K;with_reducible refine hK _ _ ?_;clear hK K))|(with_reducible refine splitB_intro (fun h=>?_) (fun h=>?_)<;>(try simp only[go_sem] at h)<;>(try exact g_f)<;>(try simp -implicitDefEqProofs only[go_sem,hc, hf, shapeC, hi]))|(with_reducible refine And.intro (fun h=>?_) (fun h=>?_)<;>(try simp only[go_sem] at h)<;>(try exact g_f))|(with_reducible refine And.intro ?_ ?_;· exact g_x)|(with_reducible intro h;(try simp only[go_sem] at h);(try exact g_f))))
      have hJ := hK
      clear hK
      refine AWP_each [b.a, b.b, b.c] (fun k r _ => ∀ i : Int, 0 ≤ i → i < k → okAt (decide (i < manyA b.law)) (at0 [b.a, b.b, b.c] i) x.size = true) (fun k _ _ => [(33, intA1 k)]) (fun _ _ _ => σ ++ [.dead, .dead, .cells 2 [[intA1 (manyA b.law), .c (.bool (edgeA b.law))]], .cells 1 ([b.a, b.b, b.c].map intC)]) () [] (fun i h1 h2 => by omega) rfl (ALe_of ?_) ?_ ?_
      · simp -implicitDefEqProofs only [go_sem]
      · rintro k r _ τ hk0 hk1 hH L hL
        have hk3 : k < 3 := hk1
        generalize hv : [b.a, b.b, b.c] = vals at hL hk1
        have hvl : vals.length = 3 := by rw [← hv]; rfl
        simp -implicitDefEqProofs only [go_sem]
        (repeat' (first|(refine g_s fun K hK=>?_)|(refine g_b ?_)|(refine g_r ?_)|(refine g_k ?_;simp only[thenQ,blockQ])|(refine g_e ?_;simp only[thenQ,blockQ,↓reduceIte,Nat.reduceEqDiff])|(refine g_c (fun h=>?_) (fun h=>?_)<;>(try simp only[go_sem] at h)<;>(try exact g_f))|((first|refine g_t ?_|refine g_g ?_|refine g_U ?_|refine g_A ?_|refine (is_calls x _ (by unfold I64; omega) _).use ?_|refine g_q (fun τ=>is_calls x _ (by unfold I64; omega) _) ?_|refine g_W ?_);(try simp -implicitDefEqProofs only[go_sem]))|(with_reducible refine hK _ _ ?_;clear hK K)|(clear hK K;first|(with_reducible refine hK _ _ ?_;clear hK K)|(clear hK K;with_reducible refine hK _ _ ?_;clear hK K)|(clear hK K;clear hK K;with_reducible refine hK _ _ ?_;clear hK K))|(with_reducible refine splitB_intro (fun h=>?_) (fun h=>?_)<;>(try simp only[go_sem] at h)<;>(try exact g_f)<;>(try simp -implicitDefEqProofs only[go_sem]))|(with_reducible refine And.intro (fun h=>?_) (fun h=>?_)<;>(try simp only[go_sem] at h)<;>(try exact g_f))|(with_reducible refine And.intro ?_ ?_;· exact g_x)|(with_reducible intro h;(try simp only[go_sem] at h);(try exact g_f))))
        all_goals cases hok : okAt (decide (k < manyA b.law)) (at0 [b.a, b.b, b.c] k) x.size
        all_goals first
          | (have e3 : asksA x b = (false, 3) := by simp [asksA, hc, checkB_bad hlaw hk0 hk3 hok]
             rw [e3]
             refine CutQ_w rfl ?_ ?_
             (repeat' (first | exact Bd.c _ | exact Bd.emp | exact BdL.nil | exact Bd.ints _ | refine Bd.aggL ?_ | refine Bd.tupL ?_ | refine BdL.cons ?_ ?_))
             (repeat' (first | exact Wk.nil | exact Wk.emp | exact WkL.nil | (with_reducible exact Wk.refl _) | refine Wk.agg ?_ | refine Wk.tup ?_ | refine WkL.cons ?_ ?_ | (refine Wk.eq ?_; rfl)))
             done)
          | (exfalso; rw [hv] at hok; (first | rw [okAt_iff] at hok | rw [← Bool.not_eq_true, okAt_iff] at hok); by_cases hkm : k < manyA b.law <;> simp only [hkm, upN, inR_iff, inR_f, decide_true, decide_false, if_true, if_false, Bool.false_eq_true] at * <;> omega)
          | (exfalso; rw [hv] at hok; rw [okAt_iff] at hok; by_cases hkm : k < manyA b.law
             · omega
             · have e9 : decide (k < manyA b.law) = false := decide_eq_false hkm
               rw [e9] at hok
               simp only [upN, if_false, Bool.false_eq_true] at hok
               omega)
          | skip
        all_goals
          subst hv
          refine hL () [] _ _ (fun i h1 h2 => ?_) (ALe_of ?_) rfl
          · rcases Int.lt_or_eq_of_le (Int.le_of_lt_add_one h2) with h3 | h3
            · exact hH i h1 h3
            · rw [h3]; exact hok
          · simp -implicitDefEqProofs only [go_sem]
      · rintro k _ τ hk hH L
        have hk3 : k = 3 := hk
        subst hk3
        have hce := checkB_edge hlaw hH
        simp -implicitDefEqProofs only [go_sem]
        (repeat' (first|(refine g_s fun K hK=>?_)|(refine g_b ?_)|(refine g_r ?_)|(refine g_k ?_;simp only[thenQ,blockQ])|(refine g_e ?_;simp only[thenQ,blockQ,↓reduceIte,Nat.reduceEqDiff])|(refine g_c (fun h=>?_) (fun h=>?_)<;>(try simp only[go_sem] at h)<;>(try exact g_f))|((first|refine g_t ?_|refine g_g ?_|refine g_U ?_|refine g_A ?_|refine g_W ?_);(try simp -implicitDefEqProofs only[go_sem]))|(with_reducible refine hK _ _ ?_;clear hK K)|(clear hK K;first|(with_reducible refine hK _ _ ?_;clear hK K)|(clear hK K;with_reducible refine hK _ _ ?_;clear hK K)|(clear hK K;clear hK K;with_reducible refine hK _ _ ?_;clear hK K))|(with_reducible refine splitB_intro (fun h=>?_) (fun h=>?_)<;>(try simp only[go_sem] at h)<;>(try exact g_f)<;>(try simp -implicitDefEqProofs only[go_sem]))|(with_reducible refine And.intro (fun h=>?_) (fun h=>?_)<;>(try simp only[go_sem] at h)<;>(try exact g_f))|(with_reducible refine And.intro ?_ ?_;· exact g_x)|(with_reducible intro h;(try simp only[go_sem] at h);(try exact g_f))))
        refine hJ _ _ ?_
        clear hJ
        by_cases hok : okAt (edgeA b.law) b.edge x.edges.length = true
        · rw [if_pos hok] at hce
          have hin := inR_of hr hce
          (repeat' (first|(refine g_s fun K hK=>?_)|(refine g_b ?_)|(refine g_r ?_)|(refine g_k ?_;simp only[thenQ,blockQ])|(refine g_e ?_;simp only[thenQ,blockQ,↓reduceIte,Nat.reduceEqDiff])|(refine g_c (fun h=>?_) (fun h=>?_)<;>(try simp only[go_sem] at h)<;>(try exact g_f))|((first|refine g_t ?_|refine g_g ?_|refine g_U ?_|refine g_A ?_|refine (within_calls _ _ _ _).use ?_|refine g_q (fun τ=>within_calls _ _ _ _) ?_|refine (holds_calls x b hr hin _).use ?_|refine g_q (fun τ=>holds_calls x b hr hin _) ?_|refine g_W ?_);(try simp -implicitDefEqProofs only[go_sem]))|(with_reducible refine hK _ _ ?_;clear hK K)|(clear hK K;first|(with_reducible refine hK _ _ ?_;clear hK K)|(clear hK K;with_reducible refine hK _ _ ?_;clear hK K)|(clear hK K;clear hK K;with_reducible refine hK _ _ ?_;clear hK K))|(with_reducible refine splitB_intro (fun h=>?_) (fun h=>?_)<;>(try simp only[go_sem] at h)<;>(try exact g_f)<;>(try simp -implicitDefEqProofs only[go_sem]))|(with_reducible refine And.intro (fun h=>?_) (fun h=>?_)<;>(try simp only[go_sem] at h)<;>(try exact g_f))|(with_reducible refine And.intro ?_ ?_;· exact g_x)|(with_reducible intro h;(try simp only[go_sem] at h);(try exact g_f))))
          all_goals clear hH
          all_goals first
            | (have e3 : asksA x b = (holdsA x b, 0) := by simp [asksA, hc, hce]
               rw [e3]
               refine CutQ_w rfl ?_ ?_
               (repeat' (first | exact Bd.c _ | exact Bd.emp | exact BdL.nil | exact Bd.ints _ | refine Bd.aggL ?_ | refine Bd.tupL ?_ | refine BdL.cons ?_ ?_))
               (repeat' (first | exact Wk.nil | exact Wk.emp | exact WkL.nil | (with_reducible exact Wk.refl _) | refine Wk.agg ?_ | refine Wk.tup ?_ | refine WkL.cons ?_ ?_ | (refine Wk.eq ?_; rfl)))
               done)
            | (exfalso; rw [okAt_iff] at hok; cases he : edgeA b.law <;> simp only [he, upN, if_true, if_false, Bool.false_eq_true, inR_iff, inR_f, reduceCtorEq] at * <;> omega)
        · rw [if_neg hok] at hce
          have e3 : asksA x b = (false, 3) := by simp [asksA, hc, hce]
          rw [e3]
          (repeat' (first|(refine g_s fun K hK=>?_)|(refine g_b ?_)|(refine g_r ?_)|(refine g_k ?_;simp only[thenQ,blockQ])|(refine g_e ?_;simp only[thenQ,blockQ,↓reduceIte,Nat.reduceEqDiff])|(refine g_c (fun h=>?_) (fun h=>?_)<;>(try simp only[go_sem] at h)<;>(try exact g_f))|((first|refine g_t ?_|refine g_g ?_|refine g_U ?_|refine g_A ?_|refine (within_calls _ _ _ _).use ?_|refine g_q (fun τ=>within_calls _ _ _ _) ?_|refine g_W ?_);(try simp -implicitDefEqProofs only[go_sem]))|(with_reducible refine hK _ _ ?_;clear hK K)|(clear hK K;first|(with_reducible refine hK _ _ ?_;clear hK K)|(clear hK K;with_reducible refine hK _ _ ?_;clear hK K)|(clear hK K;clear hK K;with_reducible refine hK _ _ ?_;clear hK K))|(with_reducible refine splitB_intro (fun h=>?_) (fun h=>?_)<;>(try simp only[go_sem] at h)<;>(try exact g_f)<;>(try simp -implicitDefEqProofs only[go_sem]))|(with_reducible refine And.intro (fun h=>?_) (fun h=>?_)<;>(try simp only[go_sem] at h)<;>(try exact g_f))|(with_reducible refine And.intro ?_ ?_;· exact g_x)|(with_reducible intro h;(try simp only[go_sem] at h);(try exact g_f))))
          all_goals clear hH
          all_goals first
            | (refine CutQ_w rfl ?_ ?_
               (repeat' (first | exact Bd.c _ | exact Bd.emp | exact BdL.nil | exact Bd.ints _ | refine Bd.aggL ?_ | refine Bd.tupL ?_ | refine BdL.cons ?_ ?_))
               (repeat' (first | exact Wk.nil | exact Wk.emp | exact WkL.nil | (with_reducible exact Wk.refl _) | refine Wk.agg ?_ | refine Wk.tup ?_ | refine WkL.cons ?_ ?_ | (refine Wk.eq ?_; rfl)))
               done)
            | (exfalso; rw [okAt_iff] at hok; cases he : edgeA b.law <;> simp only [he, upN, if_true, if_false, Bool.false_eq_true, inR_iff, inR_f, reduceCtorEq] at * <;> omega)
    · have e : asksA x b = (false, 7) := by
        have e7 := checkB_law (x := x) (b := b) (by omega)
        simp [asksA, hc, e7]
      rw [e]
      have hf := shapes_none b.law (by omega)
      refine ACalls_of_awp Tryz.func37 rfl Tryz.results37 ?_
      simp only [List.length_cons, List.length_nil, Tryz.ntmps37, Nat.reduceAdd, Nat.reduceSub, enterA]
      refine AWP_seq_k fun K hK => ?_
      (refine AWP_region ?_; simp -implicitDefEqProofs only [go_sem])
      refine hK _ _ ?_; clear hK K
      refine AWP_freezeP 2 rfl (by simp only [st0]; rfl) ?_
      simp only [ss0, List.set_cons_zero]
      refine AWP_freezeP 3 rfl (by simp only [st1]; rfl) ?_
      simp only [ss1, List.set_cons_zero, List.set_cons_succ]
      (repeat' (first|(refine g_s fun K hK=>?_)|(refine g_b ?_)|(refine g_r ?_)|(refine g_k ?_;simp only[thenQ,blockQ])|(refine g_e ?_;simp only[thenQ,blockQ,↓reduceIte,Nat.reduceEqDiff])|(refine g_c (fun h=>?_) (fun h=>?_)<;>(try simp only[go_sem] at h)<;>(try exact g_f))|((first|refine g_t ?_|refine g_g ?_|refine g_U ?_|refine g_A ?_|refine (check_calls x ok.hb ok.he ok.hs ok.hrow _).use ?_|refine g_q (fun τ=>check_calls x ok.hb ok.he ok.hs ok.hrow _) ?_|refine (shapes_calls _).use ?_|refine g_q (fun τ=>shapes_calls _) ?_|refine AWP_drawL false false tab_mixed (by decide +kernel) ?_|refine g_W ?_);(try simp -implicitDefEqProofs only[go_sem,hc, hf, shapeC, hi, List.map_cons, List.map_nil]))|(with_reducible refine hK _ _ ?_;clear hK K)|(clear hK K;first|(with_reducible refine hK _ _ ?_;clear hK K)|(clear hK K;with_reducible refine hK _ _ ?_;clear hK K)|(clear hK K;clear hK K;with_reducible refine hK _ _ ?_;clear hK K))|(with_reducible refine splitB_intro (fun h=>?_) (fun h=>?_)<;>(try simp only[go_sem] at h)<;>(try exact g_f)<;>(try simp -implicitDefEqProofs only[go_sem,hc, hf, shapeC, hi, List.map_cons, List.map_nil]))|(with_reducible refine And.intro (fun h=>?_) (fun h=>?_)<;>(try simp only[go_sem] at h)<;>(try exact g_f))|(with_reducible refine And.intro ?_ ?_;· exact g_x)|(with_reducible intro h;(try simp only[go_sem] at h);(try exact g_f))))
      refine CutQ_w rfl ?_ ?_
      · (repeat' (first | exact Bd.c _ | exact Bd.emp | exact BdL.nil | exact Bd.ints _ | refine Bd.aggL ?_ | refine Bd.tupL ?_ | refine BdL.cons ?_ ?_))
      · (repeat' (first | exact Wk.nil | exact Wk.emp | exact WkL.nil | (with_reducible exact Wk.refl _) | refine Wk.agg ?_ | refine Wk.tup ?_ | refine WkL.cons ?_ ?_ | (refine Wk.eq ?_; rfl)))
  · have e : asksA x b = (false, checkA x) := by simp [asksA, hc]
    rw [e]
    refine ACalls_of_awp Tryz.func37 rfl Tryz.results37 ?_
    simp only [List.length_cons, List.length_nil, Tryz.ntmps37, Nat.reduceAdd, Nat.reduceSub, enterA]
    refine AWP_seq_k fun K hK => ?_
    (refine AWP_region ?_; simp -implicitDefEqProofs only [go_sem])
    refine hK _ _ ?_; clear hK K
    refine AWP_freezeP 2 rfl (by simp only [st0]; rfl) ?_
    simp only [ss0, List.set_cons_zero]
    refine AWP_freezeP 3 rfl (by simp only [st1]; rfl) ?_
    simp only [ss1, List.set_cons_zero, List.set_cons_succ]
    (repeat' (first|(refine g_s fun K hK=>?_)|(refine g_b ?_)|(refine g_r ?_)|(refine g_k ?_;simp only[thenQ,blockQ])|(refine g_e ?_;simp only[thenQ,blockQ,↓reduceIte,Nat.reduceEqDiff])|(refine g_c (fun h=>?_) (fun h=>?_)<;>(try simp only[go_sem] at h)<;>(try exact g_f))|((first|refine g_t ?_|refine g_g ?_|refine g_U ?_|refine g_A ?_|refine (check_calls x ok.hb ok.he ok.hs ok.hrow _).use ?_|refine g_q (fun τ=>check_calls x ok.hb ok.he ok.hs ok.hrow _) ?_|refine g_W ?_);(try simp -implicitDefEqProofs only[go_sem]))|(with_reducible refine hK _ _ ?_;clear hK K)|(clear hK K;first|(with_reducible refine hK _ _ ?_;clear hK K)|(clear hK K;with_reducible refine hK _ _ ?_;clear hK K)|(clear hK K;clear hK K;with_reducible refine hK _ _ ?_;clear hK K))|(with_reducible refine splitB_intro (fun h=>?_) (fun h=>?_)<;>(try simp only[go_sem] at h)<;>(try exact g_f)<;>(try simp -implicitDefEqProofs only[go_sem]))|(with_reducible refine And.intro (fun h=>?_) (fun h=>?_)<;>(try simp only[go_sem] at h)<;>(try exact g_f))|(with_reducible refine And.intro ?_ ?_;· exact g_x)|(with_reducible intro h;(try simp only[go_sem] at h);(try exact g_f))))
    refine CutQ_w rfl ?_ ?_
    · (repeat' (first | exact Bd.c _ | exact Bd.emp | exact BdL.nil | exact Bd.ints _ | refine Bd.aggL ?_ | refine Bd.tupL ?_ | refine BdL.cons ?_ ?_))
    · (repeat' (first | exact Wk.nil | exact Wk.emp | exact WkL.nil | (with_reducible exact Wk.refl _) | refine Wk.agg ?_ | refine Wk.tup ?_ | refine WkL.cons ?_ ?_ | (refine Wk.eq ?_; rfl)))
end Go.Proofs.YtephecognbbaoaaGreat
namespace Go.Proofs.YtephecognbbaoaaGreat
theorem hopsX_ok : AlgOk hopsX := ⟨by decide, by decide, by unfold I64; decide, by decide⟩
theorem hopsY_ok : AlgOk hopsY := ⟨by decide, by decide, by unfold I64; decide, by decide⟩
theorem hopsX_laws : lawsA hopsX seven = (zeroB, 0) := by decide +kernel
theorem hopsX_check : checkA hopsX = 0 := by decide +kernel
def hopsB : Brk := ⟨8, 0, 0, 0, 0⟩
theorem hopsY_strict : lawsA hopsY [8] = (hopsB, 0) := by decide +kernel
theorem hopsY_asks : asksA hopsY hopsB = (false, 0) := by decide +kernel
theorem lawsX_calls (σ : Store) : ACalls Tryz.prog 35 [.agg (algC hopsX)] σ fun r σ' => σ' = σ ∧ r = .tup [.agg (brkC zeroB), intA1 0] := by
  have h := laws_calls hopsX hopsX_ok σ
  rw [hopsX_laws] at h
  exact h
theorem strictY_calls (σ : Store) : ACalls Tryz.prog 9 [.agg (algC hopsY)] σ fun r σ' => σ' = σ ∧ r = .tup [.agg (brkC hopsB), intA1 0] := by
  have h := strict_calls hopsY hopsY_ok σ
  rw [hopsY_strict] at h
  exact h
theorem holdsY_calls (σ : Store) : ACalls Tryz.prog 37 [.agg (algC hopsY), .agg (brkC hopsB)] σ fun r σ' => σ' = σ ∧ r = .tup [.c (.bool false), intA1 0] := by
  have h := holdsAsk_calls hopsY hopsB hopsY_ok (by unfold BrkOk I64; decide) σ
  rw [hopsY_asks] at h
  exact h
theorem checkX_calls (σ : Store) : ACalls Tryz.prog 38 [.agg (algC hopsX)] σ fun r σ' => σ' = σ ∧ r = intA1 0 := by
  have h := check_calls hopsX hopsX_ok.hb hopsX_ok.he hopsX_ok.hs hopsX_ok.hrow σ
  rw [hopsX_check] at h
  exact h
theorem algebraBegun_calls (σ : Store) : ACalls Tryz.prog 7 [] σ fun r σ' => σ' = σ ∧ r = .c (.bool true) := by
  refine ACalls.cutX ?_
  refine ACalls_of_awp Tryz.func7 rfl Tryz.results7 ?_
  simp only [List.length_cons, List.length_nil, Tryz.ntmps7, Nat.reduceAdd, Nat.reduceSub, enterA]
  (repeat' (first|(refine g_s fun K hK=>?_)|(refine g_b ?_)|(refine g_r ?_)|(refine g_k ?_;simp only[thenQ,blockQ])|(refine g_e ?_;simp only[thenQ,blockQ,↓reduceIte,Nat.reduceEqDiff])|(refine g_c (fun h=>?_) (fun h=>?_)<;>(try simp only[go_sem] at h)<;>(try exact g_f))|((first|refine g_t ?_|refine g_G ?_|refine g_U ?_|refine g_A ?_|refine (hops_calls _).use ?_|refine g_q (fun τ=>hops_calls _) ?_|refine (lawsX_calls _).use ?_|refine g_q (fun τ=>lawsX_calls _) ?_|refine (strictY_calls _).use ?_|refine g_q (fun τ=>strictY_calls _) ?_|refine (holdsY_calls _).use ?_|refine g_q (fun τ=>holdsY_calls _) ?_|refine (checkX_calls _).use ?_|refine g_q (fun τ=>checkX_calls _) ?_|refine g_W ?_);(try simp -implicitDefEqProofs only[go_sem,hopsX, zeroB, hopsB, List.map_cons, List.map_nil]))|(with_reducible refine hK _ _ ?_;clear hK K)|(clear hK K;first|(with_reducible refine hK _ _ ?_;clear hK K)|(clear hK K;with_reducible refine hK _ _ ?_;clear hK K)|(clear hK K;clear hK K;with_reducible refine hK _ _ ?_;clear hK K))|(with_reducible refine splitB_intro (fun h=>?_) (fun h=>?_)<;>(try simp only[go_sem] at h)<;>(try exact g_f)<;>(try simp -implicitDefEqProofs only[go_sem,hopsX, zeroB, hopsB, List.map_cons, List.map_nil]))|(with_reducible refine And.intro (fun h=>?_) (fun h=>?_)<;>(try simp only[go_sem] at h)<;>(try exact g_f))|(with_reducible refine And.intro ?_ ?_;· exact g_x)|(with_reducible intro h;(try simp only[go_sem] at h);(try exact g_f))))
  exact CutQ_c rfl rfl
end Go.Proofs.YtephecognbbaoaaGreat
namespace Go.Proofs.YtephecognbbaoaaGreat
theorem routesOf_calls (e : Eng) (hl : e.routers.length ≤ 2932031007317) (σ : Store) : ACalls Tryz.prog 15 [.agg (engC e)] σ fun r σ' => σ' = σ ∧ r = rowsC (routesOf e) := by
  refine ACalls.cutX ?_
  refine ACalls_of_awp Tryz.func15 rfl Tryz.results15 ?_
  simp only [List.length_cons, List.length_nil, Tryz.ntmps15, Nat.reduceAdd, Nat.reduceSub, enterA]
  refine AWP_seq_k fun K hK => ?_
  (refine AWP_region ?_; simp -implicitDefEqProofs only [go_sem])
  refine hK _ _ ?_; clear hK K
  refine AWP_freezeP 1 rfl (by simp only [st0]; rfl) ?_
  simp only [ss0, List.set_cons_zero]
  (repeat' (first|(refine g_s fun K hK=>?_)|(refine g_b ?_)|(refine g_r ?_)|(refine g_k ?_;simp only[thenQ,blockQ])|(refine g_e ?_;simp only[thenQ,blockQ,↓reduceIte,Nat.reduceEqDiff])|(refine g_c (fun h=>?_) (fun h=>?_)<;>(try simp only[go_sem] at h)<;>(try exact g_f))|((first|refine g_t ?_|refine g_g ?_|refine g_U ?_|refine g_A ?_|refine g_W ?_);(try simp -implicitDefEqProofs only[go_sem]))|(with_reducible refine hK _ _ ?_;clear hK K)|(clear hK K;first|(with_reducible refine hK _ _ ?_;clear hK K)|(clear hK K;with_reducible refine hK _ _ ?_;clear hK K)|(clear hK K;clear hK K;with_reducible refine hK _ _ ?_;clear hK K))|(with_reducible refine splitB_intro (fun h=>?_) (fun h=>?_)<;>(try simp only[go_sem] at h)<;>(try exact g_f)<;>(try simp -implicitDefEqProofs only[go_sem]))|(with_reducible refine And.intro (fun h=>?_) (fun h=>?_)<;>(try simp only[go_sem] at h)<;>(try exact g_f))|(with_reducible refine And.intro ?_ ?_;· exact g_x)|(with_reducible intro h;(try simp only[go_sem] at h);(try exact g_f))))
  refine AWP_pad ?_
  have hJ := hK
  clear hK
  refine AWP_each e.routers (fun _ r acc => acc ++ r.map (·.routes) = routesOf e) (fun k acc τ => [(4, intA1 k), (3, accV 1 (σ.length + (τ.length + 1)) acc)]) (fun _ acc τ => σ ++ (.dead :: (τ ++ [accO rowC 1 acc]))) [] [] rfl ?_ (ALe_of ?_) ?_ ?_
  · simp [accO]
  · simp -implicitDefEqProofs only [go_sem, accV, accO]
  · rintro k r acc τ hk0 hk1 h3 L hL
    obtain ⟨w, hw⟩ : ∃ w, at0 e.routers k = w := ⟨_, rfl⟩
    rw [hw, List.map_cons] at h3
    have hal : acc.length + 1 ≤ e.routers.length := by
      have := congrArg List.length h3
      simp [routesOf] at this
      omega
    rcases acc with _ | ⟨y, acc⟩ <;> simp only [List.length_cons, List.length_nil] at hal <;> simp -implicitDefEqProofs only [go_sem, accV, accO]
    all_goals (repeat' (first|(refine g_s fun K hK=>?_)|(refine g_b ?_)|(refine g_r ?_)|(refine g_k ?_;simp only[thenQ,blockQ])|(refine g_e ?_;simp only[thenQ,blockQ,↓reduceIte,Nat.reduceEqDiff])|(refine g_c (fun h=>?_) (fun h=>?_)<;>(try simp only[go_sem] at h)<;>(try exact g_f))|((first|refine g_t ?_|refine g_G ?_|refine g_U ?_|refine g_A ?_|refine g_W ?_);(try simp -implicitDefEqProofs only[go_sem,hw]))|(with_reducible refine hK _ _ ?_;clear hK K)|(clear hK K;first|(with_reducible refine hK _ _ ?_;clear hK K)|(clear hK K;with_reducible refine hK _ _ ?_;clear hK K)|(clear hK K;clear hK K;with_reducible refine hK _ _ ?_;clear hK K))|(with_reducible refine splitB_intro (fun h=>?_) (fun h=>?_)<;>(try simp only[go_sem] at h)<;>(try exact g_f)<;>(try simp -implicitDefEqProofs only[go_sem,hw]))|(with_reducible refine And.intro (fun h=>?_) (fun h=>?_)<;>(try simp only[go_sem] at h)<;>(try exact g_f))|(with_reducible refine And.intro ?_ ?_;· exact g_x)|(with_reducible intro h;(try simp only[go_sem] at h);(try exact g_f))))
    · refine hL [w.routes] (τ ++ [.dead]) _ _ (by simpa using h3) (ALe_of ?_) ?_
      · simp -implicitDefEqProofs only [go_sem, accV]
      · simp [accO, rowC, intsA]
    · refine hL (y :: acc ++ [w.routes]) (τ ++ [.dead]) _ _ (by simpa using h3) (ALe_of ?_) ?_
      · simp -implicitDefEqProofs only [go_sem, accV]
      · simp [accO, rowC, intsA]
  · rintro k acc τ hk h3 L
    rw [List.map_nil, List.append_nil] at h3
    simp -implicitDefEqProofs only [go_sem]
    (repeat' (first|(refine g_s fun K hK=>?_)|(refine g_b ?_)|(refine g_r ?_)|(refine g_k ?_;simp only[thenQ,blockQ])|(refine g_e ?_;simp only[thenQ,blockQ,↓reduceIte,Nat.reduceEqDiff])|(refine g_c (fun h=>?_) (fun h=>?_)<;>(try simp only[go_sem] at h)<;>(try exact g_f))|((first|refine g_g ?_|refine g_U ?_|refine g_A ?_|refine g_W ?_);(try simp -implicitDefEqProofs only[go_sem]))|(with_reducible refine hK _ _ ?_;clear hK K)|(clear hK K;first|(with_reducible refine hK _ _ ?_;clear hK K)|(clear hK K;with_reducible refine hK _ _ ?_;clear hK K)|(clear hK K;clear hK K;with_reducible refine hK _ _ ?_;clear hK K))|(with_reducible refine splitB_intro (fun h=>?_) (fun h=>?_)<;>(try simp only[go_sem] at h)<;>(try exact g_f)<;>(try simp -implicitDefEqProofs only[go_sem]))|(with_reducible refine And.intro (fun h=>?_) (fun h=>?_)<;>(try simp only[go_sem] at h)<;>(try exact g_f))|(with_reducible refine And.intro ?_ ?_;· exact g_x)|(with_reducible intro h;(try simp only[go_sem] at h);(try exact g_f))))
    refine hJ _ _ ?_
    clear hJ
    have est : σ ++ (.dead :: (τ ++ [accO rowC 1 acc])) = σ ++ ((.dead :: τ) ++ accO rowC 1 acc :: []) := by simp
    rw [est]
    refine AWP_freezeAcc 3 rowC 1 acc σ (.dead :: τ) [] (by simp [look, Nat.add_assoc]) ?_
    (repeat' (first|(refine g_s fun K hK=>?_)|(refine g_b ?_)|(refine g_r ?_)|(refine g_k ?_;simp only[thenQ,blockQ])|(refine g_e ?_;simp only[thenQ,blockQ,↓reduceIte,Nat.reduceEqDiff])|(refine g_c (fun h=>?_) (fun h=>?_)<;>(try simp only[go_sem] at h)<;>(try exact g_f))|((first|refine g_t ?_|refine g_G ?_|refine g_U ?_|refine g_A ?_|refine g_W ?_);(try simp -implicitDefEqProofs only[go_sem]))|(with_reducible refine hK _ _ ?_;clear hK K)|(clear hK K;first|(with_reducible refine hK _ _ ?_;clear hK K)|(clear hK K;with_reducible refine hK _ _ ?_;clear hK K)|(clear hK K;clear hK K;with_reducible refine hK _ _ ?_;clear hK K))|(with_reducible refine splitB_intro (fun h=>?_) (fun h=>?_)<;>(try simp only[go_sem] at h)<;>(try exact g_f)<;>(try simp -implicitDefEqProofs only[go_sem]))|(with_reducible refine And.intro (fun h=>?_) (fun h=>?_)<;>(try simp only[go_sem] at h)<;>(try exact g_f))|(with_reducible refine And.intro ?_ ?_;· exact g_x)|(with_reducible intro h;(try simp only[go_sem] at h);(try exact g_f))))
    rw [h3]
    exact CutQ_w rfl (Bd.rows _) (.eq rfl)
theorem playB {n : Net} (hc : checkN n = 0) : ∀ (l : List Evt) (k : Int) {e : Eng}, EngIn n e → EngB e → EngB (playF n l k e).1
  | [], _, _, _, h => h
  | v :: r, k, e, hi, h => by
    rw [playF]
    split
    · exact h
    · exact playB hc r (k + 1) (step_in hc hi v) (stepB hc hi h v)
def chooseA' (c n : Int) : Int := (if c < 0 then -(c + 1) else c) % n
theorem engineSettles_calls (n : Net) (x : Eng) (l : List Evt) (more : Int) (okn : NetOk n) (ok : EngOk x) (hll : l.length ≤ 3000000000000) (hlv : ∀ v ∈ l, v.routes.length ≤ 17592186044000) (hmo : I64 more) (σ : Store) : ACalls Tryz.prog 3 [.agg (netC n), .agg (engC x), .sl (l.map evtC), intA1 more] σ fun r σ' => σ' = σ ∧ r = .c (.bool true) := by
  have hEB := engineBegun_calls
  have hNB := netBegun_calls
  have hAB := algebraBegun_calls
  have hPl := eplay_calls n x okn ok l hll hlv
  have hSt := strict_calls n.alg okn.alg
  refine ACalls.cutX ?_
  by_cases hp : (playR n x l).2.2 = 0
  · by_cases h2 : (lawsA n.alg [8]).2 = 0
    · by_cases h1 : (lawsA n.alg [8]).1.law = 0
      · have hc0 : checkE n x = 0 := by
          unfold playR at hp
          split at hp
          · rename_i h; exact absurd hp h
          · rename_i h; exact Decidable.not_not.1 h
        have hpl : playR n x l = ((playF n l 0 x).1, (playF n l 0 x).2, 0) := by
          unfold playR at hp ⊢
          rw [if_neg (not_not_intro hc0)] at hp ⊢
          split
          · rename_i h
            rw [if_pos h] at hp
            cases hp
          · rfl
        obtain ⟨hc, he⟩ := engIn_of hc0
        have hn := netIn_of hc
        have s2 := hn.alg.s2
        have s24 := hn.alg.s24
        have ha : checkA n.alg = 0 := by
          apply Classical.byContradiction
          intro h
          rw [lawsA, if_pos h] at h2
          exact h h2
        have hs : StrictA n := by
          rw [lawsA, if_neg (by simpa using ha)] at h1
          exact h1
        have hyi := play_in hc l 0 he
        have hyb := playB hc l 0 he (fun m hm => (ok.mail m hm).rng)
        rw [hpl] at hPl
        obtain ⟨y, hy⟩ : ∃ y, (playF n l 0 x).1 = y := ⟨_, rfl⟩
        obtain ⟨kk, hkk⟩ : ∃ kk, (playF n l 0 x).2 = kk := ⟨_, rfl⟩
        rw [hy] at hyi hyb
        simp only [hy, hkk] at hPl
        have hA := choose_calls more 4 hmo (by omega)
        have hcr : 0 ≤ chooseA' more 4 ∧ chooseA' more 4 < 4 := ⟨Int.emod_nonneg _ (by omega), Int.emod_lt_of_pos _ (by omega)⟩
        change ∀ S, ACalls Tryz.prog _ _ S fun r σ' => σ' = S ∧ r = intA1 (chooseA' more 4) at hA
        obtain ⟨q, hq⟩ : ∃ q, chooseA' more 4 = q := ⟨_, rfl⟩
        rw [hq] at hA hcr
        have hCa := ecalm_calls n y okn (engOk_of hn hyi hyb) (n.alg.size + 1 + q) (by unfold I64; omega)
        obtain ⟨z1, z2, z3⟩ := calm_settles hc hs hyi (rounds := n.alg.size + 1 + q) (by omega)
        rw [calmR, if_neg (not_not_intro (check_of hc hyi)), if_neg (by omega)] at hCa
        obtain ⟨z, hz⟩ : ∃ z, calmE n y (n.alg.size + 1 + q) = z := ⟨_, rfl⟩
        rw [hz] at z1 z2 z3
        simp only [hz] at hCa
        have hb := begin_in hn
        have hBe := begin_calls n okn
        rw [beginC, if_pos hc, hc] at hBe
        have hSe := settle_calls n (beginA n) 100 okn (hb.stOk hn) (by unfold I64; decide)
        have e1 : settleA n (beginA n) 100 = (settleF n 100 0 (beginA n), 0) := by simp [settleA, fit_ok hc hb, inR]
        rw [e1, settleC] at hSe
        have hro := settle_in hn (f := 100) (k := 0) hb
        obtain ⟨S, hS⟩ : ∃ S, (settleF n 100 0 (beginA n)).1 = S := ⟨_, rfl⟩
        obtain ⟨K2, hK2⟩ : ∃ K2, (settleF n 100 0 (beginA n)).2 = K2 := ⟨_, rfl⟩
        rw [hS] at hro z3
        simp only [hS, hK2] at hSe
        have hRo := routesOf_calls z (by have := z2.len; have := hn.n6; omega)
        rw [z3] at hRo
        have hSS := sameState_calls S S (hro.stOk hn)
        rw [decide_eq_true rfl] at hSS
        have hzl : z.bag.length = 0 := by rw [z1]; rfl
        refine ACalls_of_awp Tryz.func3 rfl Tryz.results3 ?_
        simp only [List.length_cons, List.length_nil, Tryz.ntmps3, Nat.reduceAdd, Nat.reduceSub, enterA]
        (repeat' (first|(refine g_s fun K hK=>?_)|(refine g_b ?_)|(refine g_r ?_)|(refine g_k ?_;simp only[thenQ,blockQ])|(refine g_e ?_;simp only[thenQ,blockQ,↓reduceIte,Nat.reduceEqDiff])|(refine g_c (fun h=>?_) (fun h=>?_)<;>(try simp only[go_sem] at h)<;>(try exact g_f))|((first|refine g_t ?_|refine g_G ?_|refine g_U ?_|refine g_A ?_|refine (hEB _).use ?_|refine g_q (fun τ=>hEB _) ?_|refine (hNB _).use ?_|refine g_q (fun τ=>hNB _) ?_|refine (hAB _).use ?_|refine g_q (fun τ=>hAB _) ?_|refine (hPl _).use ?_|refine g_q (fun τ=>hPl _) ?_|refine (hSt _).use ?_|refine g_q (fun τ=>hSt _) ?_|refine (hA _).use ?_|refine g_q (fun τ=>hA _) ?_|refine (hCa _).use ?_|refine g_q (fun τ=>hCa _) ?_|refine (hBe _).use ?_|refine g_q (fun τ=>hBe _) ?_|refine (hSe _).use ?_|refine g_q (fun τ=>hSe _) ?_|refine (hRo _).use ?_|refine g_q (fun τ=>hRo _) ?_|refine (hSS _).use ?_|refine g_q (fun τ=>hSS _) ?_|refine AWP_drawX tab_mixed (by decide +kernel) ?_|refine AWP_drawZ tab_mixed (by decide +kernel) ?_|refine g_W ?_);(try simp -implicitDefEqProofs only[go_sem,h1, h2, hzl]))|(with_reducible refine hK _ _ ?_;clear hK K)|(clear hK K;first|(with_reducible refine hK _ _ ?_;clear hK K)|(clear hK K;with_reducible refine hK _ _ ?_;clear hK K)|(clear hK K;clear hK K;with_reducible refine hK _ _ ?_;clear hK K))|(with_reducible refine splitB_intro (fun h=>?_) (fun h=>?_)<;>(try simp only[go_sem] at h)<;>(try exact g_f)<;>(try simp -implicitDefEqProofs only[go_sem,h1, h2, hzl]))|(with_reducible refine And.intro (fun h=>?_) (fun h=>?_)<;>(try simp only[go_sem] at h)<;>(try exact g_f))|(with_reducible refine And.intro ?_ ?_;· exact g_x)|(with_reducible intro h;(try simp only[go_sem] at h);(try exact g_f))))
        all_goals exact CutQ_c rfl rfl
      · obtain ⟨y, hy⟩ : ∃ y, playR n x l = y := ⟨_, rfl⟩
        rw [hy] at hPl hp
        refine ACalls_of_awp Tryz.func3 rfl Tryz.results3 ?_
        simp only [List.length_cons, List.length_nil, Tryz.ntmps3, Nat.reduceAdd, Nat.reduceSub, enterA]
        (repeat' (first|(refine g_s fun K hK=>?_)|(refine g_b ?_)|(refine g_r ?_)|(refine g_k ?_;simp only[thenQ,blockQ])|(refine g_e ?_;simp only[thenQ,blockQ,↓reduceIte,Nat.reduceEqDiff])|(refine g_c (fun h=>?_) (fun h=>?_)<;>(try simp only[go_sem] at h)<;>(try exact g_f))|((first|refine g_t ?_|refine g_G ?_|refine g_U ?_|refine g_A ?_|refine (hEB _).use ?_|refine g_q (fun τ=>hEB _) ?_|refine (hNB _).use ?_|refine g_q (fun τ=>hNB _) ?_|refine (hAB _).use ?_|refine g_q (fun τ=>hAB _) ?_|refine (hPl _).use ?_|refine g_q (fun τ=>hPl _) ?_|refine (hSt _).use ?_|refine g_q (fun τ=>hSt _) ?_|refine AWP_drawX tab_mixed (by decide +kernel) ?_|refine AWP_drawZ tab_mixed (by decide +kernel) ?_|refine g_W ?_);(try simp -implicitDefEqProofs only[go_sem,hp, h1, h2]))|(with_reducible refine hK _ _ ?_;clear hK K)|(clear hK K;first|(with_reducible refine hK _ _ ?_;clear hK K)|(clear hK K;with_reducible refine hK _ _ ?_;clear hK K)|(clear hK K;clear hK K;with_reducible refine hK _ _ ?_;clear hK K))|(with_reducible refine splitB_intro (fun h=>?_) (fun h=>?_)<;>(try simp only[go_sem] at h)<;>(try exact g_f)<;>(try simp -implicitDefEqProofs only[go_sem,hp, h1, h2]))|(with_reducible refine And.intro (fun h=>?_) (fun h=>?_)<;>(try simp only[go_sem] at h)<;>(try exact g_f))|(with_reducible refine And.intro ?_ ?_;· exact g_x)|(with_reducible intro h;(try simp only[go_sem] at h);(try exact g_f))))
        all_goals exact CutQ_c rfl rfl
    · obtain ⟨y, hy⟩ : ∃ y, playR n x l = y := ⟨_, rfl⟩
      rw [hy] at hPl hp
      refine ACalls_of_awp Tryz.func3 rfl Tryz.results3 ?_
      simp only [List.length_cons, List.length_nil, Tryz.ntmps3, Nat.reduceAdd, Nat.reduceSub, enterA]
      (repeat' (first|(refine g_s fun K hK=>?_)|(refine g_b ?_)|(refine g_r ?_)|(refine g_k ?_;simp only[thenQ,blockQ])|(refine g_e ?_;simp only[thenQ,blockQ,↓reduceIte,Nat.reduceEqDiff])|(refine g_c (fun h=>?_) (fun h=>?_)<;>(try simp only[go_sem] at h)<;>(try exact g_f))|((first|refine g_t ?_|refine g_G ?_|refine g_U ?_|refine g_A ?_|refine (hEB _).use ?_|refine g_q (fun τ=>hEB _) ?_|refine (hNB _).use ?_|refine g_q (fun τ=>hNB _) ?_|refine (hAB _).use ?_|refine g_q (fun τ=>hAB _) ?_|refine (hPl _).use ?_|refine g_q (fun τ=>hPl _) ?_|refine (hSt _).use ?_|refine g_q (fun τ=>hSt _) ?_|refine AWP_drawX tab_mixed (by decide +kernel) ?_|refine AWP_drawZ tab_mixed (by decide +kernel) ?_|refine g_W ?_);(try simp -implicitDefEqProofs only[go_sem,hp, h2]))|(with_reducible refine hK _ _ ?_;clear hK K)|(clear hK K;first|(with_reducible refine hK _ _ ?_;clear hK K)|(clear hK K;with_reducible refine hK _ _ ?_;clear hK K)|(clear hK K;clear hK K;with_reducible refine hK _ _ ?_;clear hK K))|(with_reducible refine splitB_intro (fun h=>?_) (fun h=>?_)<;>(try simp only[go_sem] at h)<;>(try exact g_f)<;>(try simp -implicitDefEqProofs only[go_sem,hp, h2]))|(with_reducible refine And.intro (fun h=>?_) (fun h=>?_)<;>(try simp only[go_sem] at h)<;>(try exact g_f))|(with_reducible refine And.intro ?_ ?_;· exact g_x)|(with_reducible intro h;(try simp only[go_sem] at h);(try exact g_f))))
      all_goals exact CutQ_c rfl rfl
  · obtain ⟨y, hy⟩ : ∃ y, playR n x l = y := ⟨_, rfl⟩
    rw [hy] at hPl hp
    refine ACalls_of_awp Tryz.func3 rfl Tryz.results3 ?_
    simp only [List.length_cons, List.length_nil, Tryz.ntmps3, Nat.reduceAdd, Nat.reduceSub, enterA]
    (repeat' (first|(refine g_s fun K hK=>?_)|(refine g_b ?_)|(refine g_r ?_)|(refine g_k ?_;simp only[thenQ,blockQ])|(refine g_e ?_;simp only[thenQ,blockQ,↓reduceIte,Nat.reduceEqDiff])|(refine g_c (fun h=>?_) (fun h=>?_)<;>(try simp only[go_sem] at h)<;>(try exact g_f))|((first|refine g_t ?_|refine g_G ?_|refine g_U ?_|refine g_A ?_|refine (hEB _).use ?_|refine g_q (fun τ=>hEB _) ?_|refine (hNB _).use ?_|refine g_q (fun τ=>hNB _) ?_|refine (hAB _).use ?_|refine g_q (fun τ=>hAB _) ?_|refine (hPl _).use ?_|refine g_q (fun τ=>hPl _) ?_|refine (hSt _).use ?_|refine g_q (fun τ=>hSt _) ?_|refine AWP_drawX tab_mixed (by decide +kernel) ?_|refine AWP_drawZ tab_mixed (by decide +kernel) ?_|refine g_W ?_);(try simp -implicitDefEqProofs only[go_sem,hp]))|(with_reducible refine hK _ _ ?_;clear hK K)|(clear hK K;first|(with_reducible refine hK _ _ ?_;clear hK K)|(clear hK K;with_reducible refine hK _ _ ?_;clear hK K)|(clear hK K;clear hK K;with_reducible refine hK _ _ ?_;clear hK K))|(with_reducible refine splitB_intro (fun h=>?_) (fun h=>?_)<;>(try simp only[go_sem] at h)<;>(try exact g_f)<;>(try simp -implicitDefEqProofs only[go_sem,hp]))|(with_reducible refine And.intro (fun h=>?_) (fun h=>?_)<;>(try simp only[go_sem] at h)<;>(try exact g_f))|(with_reducible refine And.intro ?_ ?_;· exact g_x)|(with_reducible intro h;(try simp only[go_sem] at h);(try exact g_f))))
    all_goals exact CutQ_c rfl rfl
end Go.Proofs.YtephecognbbaoaaGreat
namespace Go.Proofs.YtephecognbbaoaaGreat
theorem readsLinks {W : World} : Reads Tryz.prog W 25 (fun l : List Lnk => [linksV l]) (fun l => l.length ≤ 5864062014634 ∧ ∀ x ∈ l, I64 x.fr ∧ I64 x.dst ∧ I64 x.edge) := by
  have h0 := Reads.struct (P := Tryz.prog) (W := W) (t := 111) (n := 1 + (1 + (1 + 0))) Tryz.underlying111 (by kernel_rfl) (ReadsF.cons (k := 1) rfl (by kernel_rfl) (Reads.int Tryz.underlying3) (ReadsF.cons (k := 1) rfl (by kernel_rfl) (Reads.int Tryz.underlying3) (ReadsF.cons (k := 1) rfl (by kernel_rfl) (Reads.int Tryz.underlying3) ReadsF.nil)))
  have h1 : Reads Tryz.prog W 111 lnkC (fun x => I64 x.fr ∧ I64 x.dst ∧ I64 x.edge) := Reads.map (X := Int × Int × Int × Unit) (fun x => (⟨x.1, x.2.1, x.2.2.1⟩ : Lnk)) (fun _ => rfl) (fun x h => ⟨h.1, h.2.1, h.2.2.1⟩) h0
  have h2 := Reads.slice (P := Tryz.prog) (W := W) (t := 25) (k := 3) Tryz.underlying25 (by kernel_rfl) (by omega) (fun _ => rfl) h1
  refine Reads.map (X := List Lnk) (fun x => x) (fun _ => rfl) (fun x h => ⟨?_, h.1⟩) h2
  have h1 : x.length * Tryz.prog.bytesOf 111 ≤ reachBytes := h.2
  have h2 : Tryz.prog.bytesOf 111 = 24 := by kernel_rfl
  have h3 : reachBytes = 140737488351232 := rfl
  rw [h2, h3] at h1
  omega
theorem readsNet {W : World} : Reads Tryz.prog W 27 netC NetOk := by
  have h0 := Reads.struct (P := Tryz.prog) (W := W) (t := 27) (n := 3 + (1 + (1 + 0))) Tryz.underlying27 (by kernel_rfl) (ReadsF.cons (k := 3) rfl (by kernel_rfl) readsAlg (ReadsF.cons (k := 1) rfl (by kernel_rfl) (Reads.int Tryz.underlying3) (ReadsF.cons (k := 1) rfl (by kernel_rfl) readsLinks ReadsF.nil)))
  refine Reads.map (X := Alg × Int × List Lnk × Unit) (fun x => (⟨x.1, x.2.1, x.2.2.1⟩ : Net)) (fun _ => rfl) (fun x h => ?_) h0
  obtain ⟨h1, h2, h3, _⟩ := h
  exact ⟨h1, h2, h3.1, h3.2⟩
theorem readsState {W : World} : Reads Tryz.prog W 22 (fun l : List (List Int) => [rowsC l]) StOk :=
  Reads.map (X := List (List Int)) (fun x => x) (fun _ => rfl) (fun x h => ⟨h.1, h.2⟩) readsRows
theorem readsInts {W : World} : Reads Tryz.prog W 51 (fun l : List Int => [intsA l]) (fun l => l.length ≤ 17592186044000) :=
  Reads.map (X := List Int) (fun x => x) (fun _ => rfl) (fun x h => by
      have h4 : x.length * Tryz.prog.bytesOf 3 ≤ reachBytes := h.2
      have h5 : Tryz.prog.bytesOf 3 = 8 := by kernel_rfl
      have h3 : reachBytes = 140737488351232 := rfl
      rw [h5, h3] at h4
      omega)
    (Reads.slice Tryz.underlying51 (k := 1) (by kernel_rfl) (by omega) (fun _ => rfl) (Reads.int Tryz.underlying3))
end Go.Proofs.YtephecognbbaoaaGreat
namespace Go.Proofs.YtephecognbbaoaaGreat
theorem readsRtr {W : World} : Reads Tryz.prog W 69 rtrC RtrOk := by
  have h0 := Reads.struct (P := Tryz.prog) (W := W) (t := 69) (n := 1 + (1 + 0)) Tryz.underlying69 (by kernel_rfl) (ReadsF.cons (k := 1) rfl (by kernel_rfl) readsInts (ReadsF.cons (k := 1) rfl (by kernel_rfl) readsState ReadsF.nil))
  refine Reads.map (X := List Int × List (List Int) × Unit) (fun x => (⟨x.1, x.2.1⟩ : Rtr)) (fun _ => rfl) (fun x h => ?_) h0
  obtain ⟨h1, h2, _⟩ := h
  exact ⟨h1, h2.len, h2.row⟩
theorem readsMail {W : World} : Reads Tryz.prog W 71 mailC MailOk := by
  have h0 := Reads.struct (P := Tryz.prog) (W := W) (t := 71) (n := 1 + (1 + (1 + 0))) Tryz.underlying71 (by kernel_rfl) (ReadsF.cons (k := 1) rfl (by kernel_rfl) (Reads.int Tryz.underlying3) (ReadsF.cons (k := 1) rfl (by kernel_rfl) (Reads.int Tryz.underlying3) (ReadsF.cons (k := 1) rfl (by kernel_rfl) (Reads.string Tryz.underlying9) ReadsF.nil)))
  refine Reads.map (X := Int × Int × ByteArray × Unit) (fun x => (⟨x.1, x.2.1, numsS x.2.2.1⟩ : Mail)) (fun x => by rw [mailC, str_numsS]; rfl) (fun x h => ?_) h0
  obtain ⟨h1, h2, h3, _⟩ := h
  exact ⟨h1, h2, (by show (numsS x.2.2.1).length ≤ 140737488351232; rw [← numsS_size]; exact h3), numsS_range _⟩
theorem readsEng {W : World} : Reads Tryz.prog W 31 engC EngOk := by
  have h1 := Reads.slice (P := Tryz.prog) (W := W) (t := 28) (k := 2) Tryz.underlying28 (by kernel_rfl) (by omega) (fun _ => rfl) readsRtr
  have h2 := Reads.slice (P := Tryz.prog) (W := W) (t := 29) (k := 3) Tryz.underlying29 (by kernel_rfl) (by omega) (fun _ => rfl) readsMail
  have h0 := Reads.struct (P := Tryz.prog) (W := W) (t := 31) (n := 1 + (1 + 0)) Tryz.underlying31 (by kernel_rfl) (ReadsF.cons (k := 1) rfl (by kernel_rfl) h1 (ReadsF.cons (k := 1) rfl (by kernel_rfl) h2 ReadsF.nil))
  refine Reads.map (X := List Rtr × List Mail × Unit) (fun x => (⟨x.1, x.2.1⟩ : Eng)) (fun _ => rfl) (fun x h => ?_) h0
  obtain ⟨⟨h3, h4⟩, ⟨h5, h6⟩, _⟩ := h
  have e1 : Tryz.prog.bytesOf 69 = 48 := by kernel_rfl
  have e2 : Tryz.prog.bytesOf 71 = 32 := by kernel_rfl
  have e3 : reachBytes = 140737488351232 := rfl
  rw [e1, e3] at h4
  rw [e2, e3] at h6
  exact ⟨by simp only; omega, h3, by simp only; omega, h5⟩
end Go.Proofs.YtephecognbbaoaaGreat
namespace Go.Proofs.YtephecognbbaoaaGreat
structure EvtOk (v : Evt) : Prop where
  k : I64 v.kind
  a : I64 v.at'
  b : I64 v.b
  c : I64 v.c
  rl : v.routes.length ≤ 17592186044000
theorem readsEvt {W : World} : Reads Tryz.prog W 53 evtC EvtOk := by
  have h0 := Reads.struct (P := Tryz.prog) (W := W) (t := 53) (n := 1 + (1 + (1 + (1 + (1 + 0))))) Tryz.underlying53 (by kernel_rfl) (ReadsF.cons (k := 1) rfl (by kernel_rfl) (Reads.int Tryz.underlying3) (ReadsF.cons (k := 1) rfl (by kernel_rfl) (Reads.int Tryz.underlying3) (ReadsF.cons (k := 1) rfl (by kernel_rfl) (Reads.int Tryz.underlying3) (ReadsF.cons (k := 1) rfl (by kernel_rfl) (Reads.int Tryz.underlying3) (ReadsF.cons (k := 1) rfl (by kernel_rfl) readsInts ReadsF.nil)))))
  refine Reads.map (X := Int × Int × Int × Int × List Int × Unit) (fun x => (⟨x.1, x.2.1, x.2.2.1, x.2.2.2.1, x.2.2.2.2.1⟩ : Evt)) (fun _ => rfl) (fun x h => ?_) h0
  obtain ⟨h1, h2, h3, h4, h5, _⟩ := h
  exact ⟨h1, h2, h3, h4, h5⟩
end Go.Proofs.YtephecognbbaoaaGreat
namespace Go.Proofs.YtephecognbbaoaaGreat
structure EvtsOk (l : List Evt) : Prop where
  len : l.length ≤ 3000000000000
  ok : ∀ v ∈ l, EvtOk v
theorem readsEvts {W : World} : Reads Tryz.prog W 32 (fun l : List Evt => [.sl (l.map evtC)]) EvtsOk := by
  have h2 := Reads.slice (P := Tryz.prog) (W := W) (t := 32) (k := 5) Tryz.underlying32 (by kernel_rfl) (by omega) (fun _ => rfl) readsEvt
  refine Reads.map (X := List Evt) (fun x => x) (fun _ => rfl) (fun x h => ⟨?_, h.1⟩) h2
  have h1 : x.length * Tryz.prog.bytesOf 53 ≤ reachBytes := h.2
  have h3 : Tryz.prog.bytesOf 53 = 56 := by kernel_rfl
  have h4 : reachBytes = 140737488351232 := rfl
  rw [h3, h4] at h1
  omega
end Go.Proofs.YtephecognbbaoaaGreat
