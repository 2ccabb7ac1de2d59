/- Pairs of algebras, as the document tells them: the whole call. -/
import Derived.Test.YtephecognbbaoaaBr
namespace Go.Proofs.Ytephecognbbaoaa
open Go
set_option linter.all false
set_option maxRecDepth 100000
set_option maxHeartbeats 4000000

theorem pairOf_calls (x y : Alg) (fx : FormA x) (fy : FormA y) (he : x.edges.length = y.edges.length) (h24 : (x.size - 1) * (y.size - 1) + 1 ≤ 24) (hel : x.edges.length ≤ 24) (σ : Store) :
    ACalls Try.prog 105 [.agg (algC x), .agg (algC y)] σ fun r σ' => ∃ τ, σ' = σ ++ τ ∧ OwnAlg (σ ++ τ) σ.length r (pairA x y) := by
  have hN := form_last fx fy
  have x2 := fx.s2
  have x24 := fx.s24
  have y2 := fy.s2
  have y24 := fy.s24
  have hok := form_pairOk fx fy
  obtain ⟨N, hNd⟩ : ∃ N, x.size - 1 = N := ⟨_, rfl⟩
  obtain ⟨m, hmd⟩ : ∃ m, y.size - 1 = m := ⟨_, rfl⟩
  have i1 : I64 (x.size - 1) := by unfold I64; omega
  have i2 : I64 (y.size - 1) := by unfold I64; omega
  refine ACalls_of_awp Try.func105 rfl Try.results105 ?_
  simp only [List.length_cons, List.length_nil, Try.ntmps105, Nat.reduceAdd, Nat.reduceSub, enterA]
  refine AWP_seq_k fun K hK => ?_
  (refine AWP_region ?_; simp -implicitDefEqProofs only [go_sem])
  refine hK _ _ ?_; clear hK K
  refine AWP_freezeP 2 rfl (by simp only [st0]; rfl) ?_
  simp only [ss0, List.set_cons_zero]
  refine AWP_freezeP 3 rfl (by simp only [st1]; rfl) ?_
  simp only [ss1, List.set_cons_zero, List.set_cons_succ]
  (repeat' (first|(refine g_s fun K hK=>?_)|(refine g_b ?_)|(refine g_r ?_)|(refine g_k ?_;simp only[thenQ,blockQ])|(refine g_e ?_;simp only[thenQ,blockQ,↓reduceIte,Nat.reduceEqDiff])|(refine g_c (fun h=>?_) (fun h=>?_)<;>(try simp only[go_sem] at h)<;>(try exact g_f))|((first|refine g_t ?_|refine g_g ?_|refine g_U ?_|refine g_A ?_|refine g_W ?_);(try simp -implicitDefEqProofs only[go_sem]))|(with_reducible refine hK _ _ ?_;clear hK K)|(clear hK K;first|(with_reducible refine hK _ _ ?_;clear hK K)|(clear hK K;with_reducible refine hK _ _ ?_;clear hK K)|(clear hK K;clear hK K;with_reducible refine hK _ _ ?_;clear hK K))|(with_reducible refine splitB_intro (fun h=>?_) (fun h=>?_)<;>(try simp only[go_sem] at h)<;>(try exact g_f)<;>(try simp -implicitDefEqProofs only[go_sem]))|(with_reducible refine And.intro (fun h=>?_) (fun h=>?_)<;>(try simp only[go_sem] at h)<;>(try exact g_f))|(with_reducible refine And.intro ?_ ?_;· exact g_x)|(with_reducible intro h;(try simp only[go_sem] at h);(try exact g_f))))
  refine AWP_pad ?_
  refine AWP_pad ?_
  have hJ := hK
  clear hK
  have hc0 : ∀ m : Int, divL 0 m = [] := fun _ => rfl
  have hc1 : ∀ m : Int, modL 0 m = [] := fun _ => rfl
  refine AWP_each (ints N) (fun _ _ _ => True) (fun i _ _ => [(7, intA1 i)]) (fun i _ τ => σ ++ (.dead :: .dead :: .cells 3 [[intA1 0, .c (.slice none 0 0), .c (.slice none 0 0)]] :: .cells 1 [[accV 1 (σ.length + (τ.length + 5)) (divL (i * m) m)]] :: .cells 1 [[accV 1 (σ.length + (τ.length + 6)) (modL (i * m) m)]] :: (τ ++ [accO intC 1 (divL (i * m) m), accO intC 1 (modL (i * m) m)]))) () [] trivial ?_ (ALe_of ?_) ?_ ?_
  · simp [hc0, hc1, accV, accO, intA1]
  · simp -implicitDefEqProofs only [go_sem]
  · rintro i r _ τ hi0 hi1 _ L hL
    rw [ints_length] at hi1
    have him : 0 ≤ i * m := Int.mul_nonneg hi0 (by omega)
    simp -implicitDefEqProofs only [go_sem]
    (repeat' (first|(refine g_s fun K hK=>?_)|(refine g_b ?_)|(refine g_r ?_)|(refine g_k ?_;simp only[thenQ,blockQ])|(refine g_e ?_;simp only[thenQ,blockQ,↓reduceIte,Nat.reduceEqDiff])|(refine g_c (fun h=>?_) (fun h=>?_)<;>(try simp only[go_sem] at h)<;>(try exact g_f))|((first|refine g_t ?_|refine g_g ?_|refine g_U ?_|refine g_A ?_|refine g_W ?_);(try simp -implicitDefEqProofs only[go_sem,i1, hNd]))|(with_reducible refine hK _ _ ?_;clear hK K)|(clear hK K;first|(with_reducible refine hK _ _ ?_;clear hK K)|(clear hK K;with_reducible refine hK _ _ ?_;clear hK K)|(clear hK K;clear hK K;with_reducible refine hK _ _ ?_;clear hK K))|(with_reducible refine splitB_intro (fun h=>?_) (fun h=>?_)<;>(try simp only[go_sem] at h)<;>(try exact g_f)<;>(try simp -implicitDefEqProofs only[go_sem,i1, hNd]))|(with_reducible refine And.intro (fun h=>?_) (fun h=>?_)<;>(try simp only[go_sem] at h)<;>(try exact g_f))|(with_reducible refine And.intro ?_ ?_;· exact g_x)|(with_reducible intro h;(try simp only[go_sem] at h);(try exact g_f))))
    have hJ2 := hK
    clear hK
    refine AWP_each (ints m) (fun _ _ _ => True) (fun j _ _ => [(8, intA1 j)]) (fun j _ τ2 => σ ++ (.dead :: .dead :: .cells 3 [[intA1 0, .c (.slice none 0 0), .c (.slice none 0 0)]] :: .cells 1 [[accV 1 (σ.length + (τ2.length + 5)) (divL (i * m + j) m)]] :: .cells 1 [[accV 1 (σ.length + (τ2.length + 6)) (modL (i * m + j) m)]] :: (τ2 ++ [accO intC 1 (divL (i * m + j) m), accO intC 1 (modL (i * m + j) m)]))) () τ trivial ?_ (ALe_of ?_) ?_ ?_
    · simp [intA1]
    · simp -implicitDefEqProofs only [go_sem]
    · rintro j r2 _ τ2 hj0 hj1 _ L2 hL2
      rw [ints_length] at hj1
      have hjm : j < m := by omega
      have hds := divL_snoc hi0 hj0 hjm
      have hms := modL_snoc hi0 hj0 hjm
      have hdl := divL_len (i * m + j) m
      have hml := modL_len (i * m + j) m
      have hcb : i * m + j ≤ 529 := by
        have := hok.mul (p := i) (q := j) hi0 (by omega) hj0 (by omega)
        rw [hNd, hmd] at this
        rw [hNd, hmd] at hN
        omega
      have hsuc : i * m + (j + 1) = i * m + j + 1 := by omega
      obtain ⟨D, hD⟩ : ∃ D, divL (i * m + j) m = D := ⟨_, rfl⟩
      obtain ⟨M, hM⟩ : ∃ M, modL (i * m + j) m = M := ⟨_, rfl⟩
      rw [hD] at hdl hds
      rw [hM] at hml hms
      have hDM : D.length = M.length := by omega
      have hD5 : D.length ≤ 529 := by omega
      simp only [hD, hM]
      have hnext : ∀ {S : Store}, S = σ ++ (.dead :: .dead :: .cells 3 [[intA1 0, .c (.slice none 0 0), .c (.slice none 0 0)]] :: .cells 1 [[.own (σ.length + (τ2.length + 7)) 1 0 (D.length + 1) (D.length + 1)]] :: .cells 1 [[.own (σ.length + (τ2.length + 8)) 1 0 (M.length + 1) (M.length + 1)]] :: (τ2 ++ [.dead, .dead, .cells 1 (D.map intC ++ [intC i]), .cells 1 (M.map intC ++ [intC j])])) →
          σ ++ (.dead :: .dead :: .cells 3 [[intA1 0, .c (.slice none 0 0), .c (.slice none 0 0)]] :: .cells 1 [[accV 1 (σ.length + ((τ2 ++ [Ob.dead, Ob.dead]).length + 5)) (divL (i * m + (j + 1)) m)]] :: .cells 1 [[accV 1 (σ.length + ((τ2 ++ [Ob.dead, Ob.dead]).length + 6)) (modL (i * m + (j + 1)) m)]] :: ((τ2 ++ [Ob.dead, Ob.dead]) ++ [accO intC 1 (divL (i * m + (j + 1)) m), accO intC 1 (modL (i * m + (j + 1)) m)])) = S := fun {S} h => by
        rw [h]
        simp [hsuc, hds, hms, accV_snoc, accO_snoc]
      rcases D with _ | ⟨d, D⟩ <;> rcases M with _ | ⟨e, M⟩ <;> simp only [List.length_cons, List.length_nil] at hDM hD5
      · simp -implicitDefEqProofs only [go_sem, accV, accO]
        (repeat' (first|(refine g_s fun K hK=>?_)|(refine g_b ?_)|(refine g_r ?_)|(refine g_k ?_;simp only[thenQ,blockQ])|(refine g_e ?_;simp only[thenQ,blockQ,↓reduceIte,Nat.reduceEqDiff])|(refine g_c (fun h=>?_) (fun h=>?_)<;>(try simp only[go_sem] at h)<;>(try exact g_f))|((first|refine g_t ?_|refine g_G ?_|refine AWP_drawW false tab_mixed (by decide +kernel) ?_);(try simp -implicitDefEqProofs only[go_sem,i2, hmd]))|(with_reducible refine hK _ _ ?_;clear hK K)|(clear hK K;first|(with_reducible refine hK _ _ ?_;clear hK K)|(clear hK K;with_reducible refine hK _ _ ?_;clear hK K)|(clear hK K;clear hK K;with_reducible refine hK _ _ ?_;clear hK K))|(with_reducible refine splitB_intro (fun h=>?_) (fun h=>?_)<;>(try simp only[go_sem] at h)<;>(try exact g_f)<;>(try simp -implicitDefEqProofs only[go_sem,i2, hmd]))|(with_reducible refine And.intro (fun h=>?_) (fun h=>?_)<;>(try simp only[go_sem] at h)<;>(try exact g_f))|(with_reducible refine And.intro ?_ ?_;· exact g_x)|(with_reducible intro h;(try simp only[go_sem] at h);(try exact g_f))))
        refine hL2 () (τ2 ++ [.dead, .dead]) _ _ trivial (ALe_of ?_) (hnext ?_)
        · simp -implicitDefEqProofs only [go_sem]
        · simp [intC, intA1]
      · omega
      · omega
      · simp -implicitDefEqProofs only [go_sem, accV, accO]
        (repeat' (first|(refine g_s fun K hK=>?_)|(refine g_b ?_)|(refine g_r ?_)|(refine g_k ?_;simp only[thenQ,blockQ])|(refine g_e ?_;simp only[thenQ,blockQ,↓reduceIte,Nat.reduceEqDiff])|(refine g_c (fun h=>?_) (fun h=>?_)<;>(try simp only[go_sem] at h)<;>(try exact g_f))|((first|refine g_t ?_|refine g_G ?_|refine AWP_drawB (σ ++ (.dead :: .dead :: .cells 3 [[.c (.int .i64 0), .c (.slice none 0 0), .c (.slice none 0 0)]] :: .cells 1 [[.own (σ.length + (τ2.length + 5)) 1 0 (D.length + 1) (D.length + 1)]] :: .cells 1 [[.own (σ.length + (τ2.length + 6)) 1 0 (M.length + 1) (M.length + 1)]] :: τ2)) ⟨_, by simp; rfl⟩ tab_mixed (by decide +kernel) ?_);(try simp -implicitDefEqProofs only[go_sem,i2, hmd]))|(with_reducible refine hK _ _ ?_;clear hK K)|(clear hK K;first|(with_reducible refine hK _ _ ?_;clear hK K)|(clear hK K;with_reducible refine hK _ _ ?_;clear hK K)|(clear hK K;clear hK K;with_reducible refine hK _ _ ?_;clear hK K))|(with_reducible refine splitB_intro (fun h=>?_) (fun h=>?_)<;>(try simp only[go_sem] at h)<;>(try exact g_f)<;>(try simp -implicitDefEqProofs only[go_sem,i2, hmd]))|(with_reducible refine And.intro (fun h=>?_) (fun h=>?_)<;>(try simp only[go_sem] at h)<;>(try exact g_f))|(with_reducible refine And.intro ?_ ?_;· exact g_x)|(with_reducible intro h;(try simp only[go_sem] at h);(try exact g_f))))
        refine hL2 () (τ2 ++ [.dead, .dead]) _ _ trivial (ALe_of ?_) (hnext ?_)
        · simp -implicitDefEqProofs only [go_sem]
        · simp [intC, intA1]
    · rintro j _ τ2 hj _ L2
      rw [ints_length] at hj
      have hjm : j = m := by omega
      have hsuc : (i + 1) * m = i * m + j := by rw [hjm, Int.add_mul, Int.one_mul]
      simp -implicitDefEqProofs only [go_sem]
      (repeat' (first|(refine g_s fun K hK=>?_)|(refine g_b ?_)|(refine g_r ?_)|(refine g_k ?_;simp only[thenQ,blockQ])|(refine g_e ?_;simp only[thenQ,blockQ,↓reduceIte,Nat.reduceEqDiff])|(refine g_c (fun h=>?_) (fun h=>?_)<;>(try simp only[go_sem] at h)<;>(try exact g_f))|((first|refine g_t ?_|refine g_g ?_|refine g_U ?_|refine g_A ?_|refine g_W ?_);(try simp -implicitDefEqProofs only[go_sem,i2, hmd]))|(with_reducible refine hK _ _ ?_;clear hK K)|(clear hK K;first|(with_reducible refine hK _ _ ?_;clear hK K)|(clear hK K;with_reducible refine hK _ _ ?_;clear hK K)|(clear hK K;clear hK K;with_reducible refine hK _ _ ?_;clear hK K))|(with_reducible refine splitB_intro (fun h=>?_) (fun h=>?_)<;>(try simp only[go_sem] at h)<;>(try exact g_f)<;>(try simp -implicitDefEqProofs only[go_sem,i2, hmd]))|(with_reducible refine And.intro (fun h=>?_) (fun h=>?_)<;>(try simp only[go_sem] at h)<;>(try exact g_f))|(with_reducible refine And.intro ?_ ?_;· exact g_x)|(with_reducible intro h;(try simp only[go_sem] at h);(try exact g_f))))
      refine hJ2 _ _ ?_
      clear hJ2
      (repeat' (first|(refine g_s fun K hK=>?_)|(refine g_b ?_)|(refine g_r ?_)|(refine g_k ?_;simp only[thenQ,blockQ])|(refine g_e ?_;simp only[thenQ,blockQ,↓reduceIte,Nat.reduceEqDiff])|(refine g_c (fun h=>?_) (fun h=>?_)<;>(try simp only[go_sem] at h)<;>(try exact g_f))|((first|refine g_t ?_|refine g_g ?_|refine g_U ?_|refine g_A ?_|refine g_W ?_);(try simp -implicitDefEqProofs only[go_sem]))|(with_reducible refine hK _ _ ?_;clear hK K)|(clear hK K;first|(with_reducible refine hK _ _ ?_;clear hK K)|(clear hK K;with_reducible refine hK _ _ ?_;clear hK K)|(clear hK K;clear hK K;with_reducible refine hK _ _ ?_;clear hK K))|(with_reducible refine splitB_intro (fun h=>?_) (fun h=>?_)<;>(try simp only[go_sem] at h)<;>(try exact g_f)<;>(try simp -implicitDefEqProofs only[go_sem]))|(with_reducible refine And.intro (fun h=>?_) (fun h=>?_)<;>(try simp only[go_sem] at h)<;>(try exact g_f))|(with_reducible refine And.intro ?_ ?_;· exact g_x)|(with_reducible intro h;(try simp only[go_sem] at h);(try exact g_f))))
      refine hL () τ2 _ _ trivial (ALe_of ?_) ?_
      · simp -implicitDefEqProofs only [go_sem]
      · rw [hsuc]
        simp [intA1]
  · rintro i _ τ hi _ L
    rw [ints_length] at hi
    have hiN : i = N := by omega
    rw [hiN]
    have hdl := divL_len (N * m) m
    have hml := modL_len (N * m) m
    rw [hNd, hmd] at hN h24
    refine AWP_freezeS (k := 1) (kk := 1) (b := σ.length + (τ.length + 5)) (rows := [[accV 1 (σ.length + (τ.length + 5)) (divL (N * m) m)]]) σ [.dead, .dead, .cells 3 [[intA1 0, .c (.slice none 0 0), .c (.slice none 0 0)]]] (.cells 1 [[accV 1 (σ.length + (τ.length + 6)) (modL (N * m) m)]] :: τ) [accO intC 1 (modL (N * m) m)] 0 0 intC (divL (N * m) m) (by simp) rfl rfl (by simp; omega) ?_
    refine AWP_freezeS (k := 1) (kk := 1) (b := σ.length + (τ.length + 6)) (rows := [[accV 1 (σ.length + (τ.length + 6)) (modL (N * m) m)]]) σ [.dead, .dead, .cells 3 [[intA1 0, .c (.slice none 0 0), .c (.slice none 0 0)]], .cells 1 [[.sl ((divL (N * m) m).map intC)]]] (τ ++ [.dead]) [] 0 0 intC (modL (N * m) m) (by simp) rfl rfl (by simp; omega) ?_
    simp -implicitDefEqProofs only [go_sem]
    (repeat' (first|(refine g_s fun K hK=>?_)|(refine g_b ?_)|(refine g_r ?_)|(refine g_k ?_;simp only[thenQ,blockQ])|(refine g_e ?_;simp only[thenQ,blockQ,↓reduceIte,Nat.reduceEqDiff])|(refine g_c (fun h=>?_) (fun h=>?_)<;>(try simp only[go_sem] at h)<;>(try exact g_f))|((first|refine g_t ?_|refine g_g ?_|refine g_U ?_|refine g_A ?_|refine g_W ?_);(try simp -implicitDefEqProofs only[go_sem,i1, hNd]))|(with_reducible refine hK _ _ ?_;clear hK K)|(clear hK K;first|(with_reducible refine hK _ _ ?_;clear hK K)|(clear hK K;with_reducible refine hK _ _ ?_;clear hK K)|(clear hK K;clear hK K;with_reducible refine hK _ _ ?_;clear hK K))|(with_reducible refine splitB_intro (fun h=>?_) (fun h=>?_)<;>(try simp only[go_sem] at h)<;>(try exact g_f)<;>(try simp -implicitDefEqProofs only[go_sem,i1, hNd]))|(with_reducible refine And.intro (fun h=>?_) (fun h=>?_)<;>(try simp only[go_sem] at h)<;>(try exact g_f))|(with_reducible refine And.intro ?_ ?_;· exact g_x)|(with_reducible intro h;(try simp only[go_sem] at h);(try exact g_f))))
    refine hJ _ _ ?_
    clear hJ
    have hlI : ((divL (N * m) m).length : Int) = N * m := by rw [divL_len]; omega
    have hokN : PairOk N m := by rw [hNd, hmd] at hok; exact hok
    have hfind := fun p q p0 p1 q0 q1 => find_calls N m p q hokN (by omega) p0 p1 q0 q1
    have ad : ∀ k, 0 ≤ k → k < N * m → at0 (divL (N * m) m) k = k / m := fun k k0 k1 => at0_intsM (fun k => k / m) k0 k1
    have am : ∀ k, 0 ≤ k → k < N * m → at0 (modL (N * m) m) k = k % m := fun k k0 k1 => at0_intsM (fun k => k % m) k0 k1
    refine AWP_seq_k fun K hK => ?_
    (refine AWP_region ?_; simp -implicitDefEqProofs only [go_sem, hlI])
    refine hK _ _ ?_; clear hK K
    obtain ⟨D, hD⟩ : ∃ D, divL (N * m) m = D := ⟨_, rfl⟩
    obtain ⟨M, hM⟩ : ∃ M, modL (N * m) m = M := ⟨_, rfl⟩
    rw [hD] at hdl ad
    rw [hM] at hml am
    simp only [hD, hM] at hfind ⊢
    refine AWP_freezeP 5 rfl (by first | rfl | (simp -implicitDefEqProofs only [go_sem]; done) | (simp -implicitDefEqProofs only [go_sem]; rfl)) ?_
    simp -implicitDefEqProofs only [go_sem]
    refine AWP_freezeP 6 rfl (by first | rfl | (simp -implicitDefEqProofs only [go_sem]; done) | (simp -implicitDefEqProofs only [go_sem]; rfl)) ?_
    simp -implicitDefEqProofs only [go_sem]
    refine AWP_freezeP 9 rfl (by first | rfl | (simp -implicitDefEqProofs only [go_sem]; done) | (simp -implicitDefEqProofs only [go_sem]; rfl)) ?_
    simp -implicitDefEqProofs only [go_sem]
    have hLx : (x.size - 1) * (y.size - 1) = N * m := by rw [hNd, hmd]
    have hbe : ∀ i k, pairBest x y i k = pairBest x y i k := fun _ _ => rfl
    obtain ⟨Lp, hLp⟩ : ∃ Lp, N * m = Lp := ⟨_, rfl⟩
    rw [hLp] at hfind ad am hdl hml hN h24 hlI hLx ⊢
    have i4 : I64 (Lp + 1) := by unfold I64; omega
    obtain ⟨T, hT⟩ : ∃ T : Store, τ ++ [.dead, .dead, .dead] = T := ⟨_, rfl⟩
    rw [hT]
    have hBs : (pairA x y).best = (ints (Lp + 1)).map fun i => (ints (Lp + 1)).map fun k => pairBest x y i k := by rw [← hLx]; rfl
    have hEs : (pairA x y).edges = (ints x.edges.length).map fun e => (ints (Lp + 1)).map fun k => pairEdge x y e k := by rw [← hLx]; rfl
    have hSz : (pairA x y).size = Lp + 1 := by rw [← hLx]; rfl
    have hlen : σ.length + (T.length + 5) = (σ ++ (.dead :: .dead :: .cells 3 [[intA1 0, .c (.slice none 0 0), .c (.slice none 0 0)]] :: .dead :: .dead :: T)).length := by simp
    (repeat' (first|(refine g_s fun K hK=>?_)|(refine g_b ?_)|(refine g_r ?_)|(refine g_k ?_;simp only[thenQ,blockQ])|(refine g_e ?_;simp only[thenQ,blockQ,↓reduceIte,Nat.reduceEqDiff])|(refine g_c (fun h=>?_) (fun h=>?_)<;>(try simp only[go_sem] at h)<;>(try exact g_f))|((first|refine g_t ?_|refine g_g ?_|refine g_U ?_|refine g_A ?_|refine g_W ?_);(try simp -implicitDefEqProofs only[go_sem,i4]))|(with_reducible refine hK _ _ ?_;clear hK K)|(clear hK K;first|(with_reducible refine hK _ _ ?_;clear hK K)|(clear hK K;with_reducible refine hK _ _ ?_;clear hK K)|(clear hK K;clear hK K;with_reducible refine hK _ _ ?_;clear hK K))|(with_reducible refine splitB_intro (fun h=>?_) (fun h=>?_)<;>(try simp only[go_sem] at h)<;>(try exact g_f)<;>(try simp -implicitDefEqProofs only[go_sem,i4]))|(with_reducible refine And.intro (fun h=>?_) (fun h=>?_)<;>(try simp only[go_sem] at h)<;>(try exact g_f))|(with_reducible refine And.intro ?_ ?_;· exact g_x)|(with_reducible intro h;(try simp only[go_sem] at h);(try exact g_f))))
    refine AWP_pad ?_
    have hJ := hK
    clear hK
    obtain ⟨ρ, hρ⟩ : ∃ ρ : Store, σ ++ (.dead :: .dead :: .cells 3 [[intA1 0, .c (.slice none 0 0), .c (.slice none 0 0)]] :: .dead :: .dead :: T) = ρ := ⟨_, rfl⟩
    rw [hρ] at hlen
    obtain ⟨Bst, hBst⟩ : ∃ b, (pairA x y).best = b := ⟨_, rfl⟩
    rw [hBst] at hBs
    have hBl : Bst.length = (Lp + 1).toNat := by rw [hBs, List.length_map, ints_length]
    refine AWP_each (ints (Lp + 1)) (fun i r acc => acc ++ r.map (fun i => (ints (Lp + 1)).map fun k => pairBest x y i k) = Bst) (fun i _ _ => [(12, intA1 i), (11, .ptr ρ.length 3 0 0)])
      (fun _ acc τ2 => ρ ++ (.cells 3 [[intA1 (Lp + 1), accV 1 (ρ.length + (τ2.length + 1)) acc, .c (.slice none 0 0)]] :: (τ2 ++ [accO rowC 1 acc]))) [] [] hBs.symm ?_ (ALe_of ?_) ?_ ?_
    · rw [← hρ]
      simp [accV, accO, intA1]
    · simp -implicitDefEqProofs only [go_sem, hlen]
    · rintro i r acc τ2 hi0 hi1 h5 L3 hL3
      rw [ints_length] at hi1
      have hiL : i ≤ Lp := by omega
      rw [at0_intsX hi0 (by omega), List.map_cons] at h5
      have hal : acc.length + 1 ≤ 24 := by have := congrArg List.length h5; simp at this; omega
      simp -implicitDefEqProofs only [go_sem]
      (repeat' (first|(refine g_s fun K hK=>?_)|(refine g_b ?_)|(refine g_r ?_)|(refine g_k ?_;simp only[thenQ,blockQ])|(refine g_e ?_;simp only[thenQ,blockQ,↓reduceIte,Nat.reduceEqDiff])|(refine g_c (fun h=>?_) (fun h=>?_)<;>(try simp only[go_sem] at h)<;>(try exact g_f))|((first|refine g_t ?_|refine g_G ?_|refine g_U ?_|refine g_A ?_|refine g_W ?_);(try simp -implicitDefEqProofs only[go_sem]))|(with_reducible refine hK _ _ ?_;clear hK K)|(clear hK K;first|(with_reducible refine hK _ _ ?_;clear hK K)|(clear hK K;with_reducible refine hK _ _ ?_;clear hK K)|(clear hK K;clear hK K;with_reducible refine hK _ _ ?_;clear hK K))|(with_reducible refine splitB_intro (fun h=>?_) (fun h=>?_)<;>(try simp only[go_sem] at h)<;>(try exact g_f)<;>(try simp -implicitDefEqProofs only[go_sem]))|(with_reducible refine And.intro (fun h=>?_) (fun h=>?_)<;>(try simp only[go_sem] at h)<;>(try exact g_f))|(with_reducible refine And.intro ?_ ?_;· exact g_x)|(with_reducible intro h;(try simp only[go_sem] at h);(try exact g_f))))
      refine AWP_pad ?_
      have hJ2 := hK
      clear hK
      obtain ⟨ca, hca⟩ : ∃ ca, accV 1 (ρ.length + (τ2.length + 1)) acc = ca := ⟨_, rfl⟩
      obtain ⟨oa, hoa⟩ : ∃ oa, accO rowC 1 acc = oa := ⟨_, rfl⟩
      rw [hca, hoa]
      refine AWP_each (ints (Lp + 1)) (fun j r row => row ++ r.map (fun k => pairBest x y i k) = (ints (Lp + 1)).map fun k => pairBest x y i k) (fun j row τ3 => [(14, intA1 j), (13, accV 1 (ρ.length + (τ2.length + (τ3.length + 2))) row)])
        (fun _ row τ3 => ρ ++ (.cells 3 [[intA1 (Lp + 1), ca, .c (.slice none 0 0)]] :: (τ2 ++ oa :: (τ3 ++ [accO intC 1 row])))) [] [] rfl ?_ (ALe_of ?_) ?_ ?_
      · simp [accO, intA1]
      · simp -implicitDefEqProofs only [go_sem, accV, accO]
      · rintro j r2 row τ3 hj0 hj1 h4 L2 hL2
        rw [ints_length] at hj1
        have hjL : j ≤ Lp := by omega
        rw [at0_intsX hj0 (by omega), List.map_cons] at h4
        have hrl : row.length + 1 ≤ 24 := by have := congrArg List.length h4; simp [ints_length] at this; omega
        by_cases c1 : i = Lp
        · have hv : pairBest x y i j = j := by rw [pairBest, hLx, if_pos c1]
          rcases row with _ | ⟨w, row⟩ <;> simp only [List.length_cons, List.length_nil] at hrl <;> simp -implicitDefEqProofs only [go_sem, accV, accO]
          all_goals (repeat' (first|(refine g_s fun K hK=>?_)|(refine g_b ?_)|(refine g_r ?_)|(refine g_k ?_;simp only[thenQ,blockQ])|(refine g_e ?_;simp only[thenQ,blockQ,↓reduceIte,Nat.reduceEqDiff])|(refine g_c (fun h=>?_) (fun h=>?_)<;>(try simp only[go_sem] at h)<;>(try exact g_f))|((first|refine g_t ?_|refine g_G ?_|refine g_U ?_|refine g_A ?_|refine g_W ?_);(try simp -implicitDefEqProofs only[go_sem]))|(with_reducible refine hK _ _ ?_;clear hK K)|(clear hK K;first|(with_reducible refine hK _ _ ?_;clear hK K)|(clear hK K;with_reducible refine hK _ _ ?_;clear hK K)|(clear hK K;clear hK K;with_reducible refine hK _ _ ?_;clear hK K))|(with_reducible refine splitB_intro (fun h=>?_) (fun h=>?_)<;>(try simp only[go_sem] at h)<;>(try exact g_f)<;>(try simp -implicitDefEqProofs only[go_sem]))|(with_reducible refine And.intro (fun h=>?_) (fun h=>?_)<;>(try simp only[go_sem] at h)<;>(try exact g_f))|(with_reducible refine And.intro ?_ ?_;· exact g_x)|(with_reducible intro h;(try simp only[go_sem] at h);(try exact g_f))))
          · refine hL2 [pairBest x y i j] (τ3 ++ [.dead]) _ _ (by simpa using h4) (ALe_of ?_) ?_
            · simp -implicitDefEqProofs only [go_sem, accV]
            · simp [accO, intC, intA1, hv]
          · refine hL2 (w :: row ++ [pairBest x y i j]) (τ3 ++ [.dead]) _ _ (by simpa using h4) (ALe_of ?_) ?_
            · simp -implicitDefEqProofs only [go_sem, accV]
            · simp [accO, intC, intA1, hv]
        · by_cases c2 : j = Lp
          · have hv : pairBest x y i j = i := by rw [pairBest, hLx, if_neg c1, if_pos c2]
            rcases row with _ | ⟨w, row⟩ <;> simp only [List.length_cons, List.length_nil] at hrl <;> simp -implicitDefEqProofs only [go_sem, accV, accO]
            all_goals (repeat' (first|(refine g_s fun K hK=>?_)|(refine g_b ?_)|(refine g_r ?_)|(refine g_k ?_;simp only[thenQ,blockQ])|(refine g_e ?_;simp only[thenQ,blockQ,↓reduceIte,Nat.reduceEqDiff])|(refine g_c (fun h=>?_) (fun h=>?_)<;>(try simp only[go_sem] at h)<;>(try exact g_f))|((first|refine g_t ?_|refine g_G ?_|refine g_U ?_|refine g_A ?_|refine g_W ?_);(try simp -implicitDefEqProofs only[go_sem]))|(with_reducible refine hK _ _ ?_;clear hK K)|(clear hK K;first|(with_reducible refine hK _ _ ?_;clear hK K)|(clear hK K;with_reducible refine hK _ _ ?_;clear hK K)|(clear hK K;clear hK K;with_reducible refine hK _ _ ?_;clear hK K))|(with_reducible refine splitB_intro (fun h=>?_) (fun h=>?_)<;>(try simp only[go_sem] at h)<;>(try exact g_f)<;>(try simp -implicitDefEqProofs only[go_sem]))|(with_reducible refine And.intro (fun h=>?_) (fun h=>?_)<;>(try simp only[go_sem] at h)<;>(try exact g_f))|(with_reducible refine And.intro ?_ ?_;· exact g_x)|(with_reducible intro h;(try simp only[go_sem] at h);(try exact g_f))))
            · refine hL2 [pairBest x y i j] (τ3 ++ [.dead]) _ _ (by simpa using h4) (ALe_of ?_) ?_
              · simp -implicitDefEqProofs only [go_sem, accV]
              · simp [accO, intC, intA1, hv]
            · refine hL2 (w :: row ++ [pairBest x y i j]) (τ3 ++ [.dead]) _ _ (by simpa using h4) (ALe_of ?_) ?_
              · simp -implicitDefEqProofs only [go_sem, accV]
              · simp [accO, intC, intA1, hv]
          · have hi2 : i < Lp := by omega
            have hj2 : j < Lp := by omega
            have f1 := ad i hi0 hi2
            have f2 := am i hi0 hi2
            have f3 := ad j hj0 hj2
            have f4 := am j hj0 hj2
            have g1 := hokN.div hi0 (show i < N * m by omega)
            have g2 := hokN.mod (i := i)
            have g3 := hokN.div hj0 (show j < N * m by omega)
            have g4 := hokN.mod (i := j)
            have hv0 : pairBest x y i j = if i / m = j / m then pairN x y (i / m) (at2 y.best (i % m) (j % m)) else if at2 x.best (i / m) (j / m) = i / m then i else j := by rw [pairBest, hLx, if_neg c1, if_neg c2, hmd]
            obtain ⟨a, ha⟩ : ∃ a, i / m = a := ⟨_, rfl⟩
            obtain ⟨b, hb⟩ : ∃ b, i % m = b := ⟨_, rfl⟩
            obtain ⟨c, hc⟩ : ∃ c, j / m = c := ⟨_, rfl⟩
            obtain ⟨d, hd⟩ : ∃ d, j % m = d := ⟨_, rfl⟩
            rw [ha] at f1 g1 hv0
            rw [hb] at f2 g2 hv0
            rw [hc] at f3 g3 hv0
            rw [hd] at f4 g4 hv0
            have hbx := fx.best_len g1.1 (show a < x.size by omega)
            have hby := fy.best_len g2.1 (show b < y.size by omega)
            have hxb := fx.bl
            have hyb := fy.bl
            by_cases c3 : a = c
            · have hin := fy.best_in g2.1 (show b < y.size by omega) g4.1 (show d < y.size by omega)
              have hF := hfind a (at2 y.best b d) g1.1 (by omega) hin.1 (by omega)
              have hvN : (if a = N ∨ at2 y.best b d = m then Lp else a * m + at2 y.best b d) = pairN x y a (at2 y.best b d) := by rw [pairN, hLx, hNd, hmd]
              rw [hvN] at hF
              have hv : pairBest x y i j = pairN x y a (at2 y.best b d) := by rw [hv0, if_pos c3]
              obtain ⟨V, hV⟩ : ∃ V, pairN x y a (at2 y.best b d) = V := ⟨_, rfl⟩
              rw [hV] at hF hv
              have e2 : at2 y.best b d = at0 (at0 y.best b) d := rfl
              rw [e2] at hF
              rcases row with _ | ⟨w, row⟩ <;> simp only [List.length_cons, List.length_nil] at hrl <;> simp -implicitDefEqProofs only [go_sem, accV, accO]
              all_goals (repeat' (first|(refine g_s fun K hK=>?_)|(refine g_b ?_)|(refine g_r ?_)|(refine g_k ?_;simp only[thenQ,blockQ])|(refine g_e ?_;simp only[thenQ,blockQ,↓reduceIte,Nat.reduceEqDiff])|(refine g_c (fun h=>?_) (fun h=>?_)<;>(try simp only[go_sem] at h)<;>(try exact g_f))|((first|refine g_t ?_|refine g_G ?_|refine g_U ?_|refine g_A ?_|refine (hF _).use ?_|refine g_q (fun τ=>hF _) ?_|refine g_W ?_);(try simp -implicitDefEqProofs only[go_sem,f1, f2, f3, f4]))|(with_reducible refine hK _ _ ?_;clear hK K)|(clear hK K;first|(with_reducible refine hK _ _ ?_;clear hK K)|(clear hK K;with_reducible refine hK _ _ ?_;clear hK K)|(clear hK K;clear hK K;with_reducible refine hK _ _ ?_;clear hK K))|(with_reducible refine splitB_intro (fun h=>?_) (fun h=>?_)<;>(try simp only[go_sem] at h)<;>(try exact g_f)<;>(try simp -implicitDefEqProofs only[go_sem,f1, f2, f3, f4]))|(with_reducible refine And.intro (fun h=>?_) (fun h=>?_)<;>(try simp only[go_sem] at h)<;>(try exact g_f))|(with_reducible refine And.intro ?_ ?_;· exact g_x)|(with_reducible intro h;(try simp only[go_sem] at h);(try exact g_f))))
              · refine hL2 [pairBest x y i j] (τ3 ++ [.dead]) _ _ (by simpa using h4) (ALe_of ?_) ?_
                · simp -implicitDefEqProofs only [go_sem, accV]
                · simp [accO, intC, intA1, hv]
              · refine hL2 (w :: row ++ [pairBest x y i j]) (τ3 ++ [.dead]) _ _ (by simpa using h4) (ALe_of ?_) ?_
                · simp -implicitDefEqProofs only [go_sem, accV]
                · simp [accO, intC, intA1, hv]
            · have e2 : at2 x.best a c = at0 (at0 x.best a) c := rfl
              rw [if_neg c3, e2] at hv0
              by_cases c4 : at0 (at0 x.best a) c = a
              · have hv : pairBest x y i j = i := by rw [hv0, if_pos c4]
                rcases row with _ | ⟨w, row⟩ <;> simp only [List.length_cons, List.length_nil] at hrl <;> simp -implicitDefEqProofs only [go_sem, accV, accO]
                all_goals (repeat' (first|(refine g_s fun K hK=>?_)|(refine g_b ?_)|(refine g_r ?_)|(refine g_k ?_;simp only[thenQ,blockQ])|(refine g_e ?_;simp only[thenQ,blockQ,↓reduceIte,Nat.reduceEqDiff])|(refine g_c (fun h=>?_) (fun h=>?_)<;>(try simp only[go_sem] at h)<;>(try exact g_f))|((first|refine g_t ?_|refine g_G ?_|refine g_U ?_|refine g_A ?_|refine g_W ?_);(try simp -implicitDefEqProofs only[go_sem,f1, f2, f3, f4]))|(with_reducible refine hK _ _ ?_;clear hK K)|(clear hK K;first|(with_reducible refine hK _ _ ?_;clear hK K)|(clear hK K;with_reducible refine hK _ _ ?_;clear hK K)|(clear hK K;clear hK K;with_reducible refine hK _ _ ?_;clear hK K))|(with_reducible refine splitB_intro (fun h=>?_) (fun h=>?_)<;>(try simp only[go_sem] at h)<;>(try exact g_f)<;>(try simp -implicitDefEqProofs only[go_sem,f1, f2, f3, f4]))|(with_reducible refine And.intro (fun h=>?_) (fun h=>?_)<;>(try simp only[go_sem] at h)<;>(try exact g_f))|(with_reducible refine And.intro ?_ ?_;· exact g_x)|(with_reducible intro h;(try simp only[go_sem] at h);(try exact g_f))))
                · refine hL2 [pairBest x y i j] (τ3 ++ [.dead]) _ _ (by simpa using h4) (ALe_of ?_) ?_
                  · simp -implicitDefEqProofs only [go_sem, accV]
                  · simp [accO, intC, intA1, hv]
                · refine hL2 (w :: row ++ [pairBest x y i j]) (τ3 ++ [.dead]) _ _ (by simpa using h4) (ALe_of ?_) ?_
                  · simp -implicitDefEqProofs only [go_sem, accV]
                  · simp [accO, intC, intA1, hv]
              · have hv : pairBest x y i j = j := by rw [hv0, if_neg c4]
                rcases row with _ | ⟨w, row⟩ <;> simp only [List.length_cons, List.length_nil] at hrl <;> simp -implicitDefEqProofs only [go_sem, accV, accO]
                all_goals (repeat' (first|(refine g_s fun K hK=>?_)|(refine g_b ?_)|(refine g_r ?_)|(refine g_k ?_;simp only[thenQ,blockQ])|(refine g_e ?_;simp only[thenQ,blockQ,↓reduceIte,Nat.reduceEqDiff])|(refine g_c (fun h=>?_) (fun h=>?_)<;>(try simp only[go_sem] at h)<;>(try exact g_f))|((first|refine g_t ?_|refine g_G ?_|refine g_U ?_|refine g_A ?_|refine g_W ?_);(try simp -implicitDefEqProofs only[go_sem,f1, f2, f3, f4]))|(with_reducible refine hK _ _ ?_;clear hK K)|(clear hK K;first|(with_reducible refine hK _ _ ?_;clear hK K)|(clear hK K;with_reducible refine hK _ _ ?_;clear hK K)|(clear hK K;clear hK K;with_reducible refine hK _ _ ?_;clear hK K))|(with_reducible refine splitB_intro (fun h=>?_) (fun h=>?_)<;>(try simp only[go_sem] at h)<;>(try exact g_f)<;>(try simp -implicitDefEqProofs only[go_sem,f1, f2, f3, f4]))|(with_reducible refine And.intro (fun h=>?_) (fun h=>?_)<;>(try simp only[go_sem] at h)<;>(try exact g_f))|(with_reducible refine And.intro ?_ ?_;· exact g_x)|(with_reducible intro h;(try simp only[go_sem] at h);(try exact g_f))))
                · refine hL2 [pairBest x y i j] (τ3 ++ [.dead]) _ _ (by simpa using h4) (ALe_of ?_) ?_
                  · simp -implicitDefEqProofs only [go_sem, accV]
                  · simp [accO, intC, intA1, hv]
                · refine hL2 (w :: row ++ [pairBest x y i j]) (τ3 ++ [.dead]) _ _ (by simpa using h4) (ALe_of ?_) ?_
                  · simp -implicitDefEqProofs only [go_sem, accV]
                  · simp [accO, intC, intA1, hv]
      · rintro j row τ3 hj h4 L2
        rw [ints_length] at hj
        rw [List.map_nil, List.append_nil] at h4
        simp -implicitDefEqProofs only [go_sem]
        (repeat' (first|(refine g_s fun K hK=>?_)|(refine g_b ?_)|(refine g_r ?_)|(refine g_k ?_;simp only[thenQ,blockQ])|(refine g_e ?_;simp only[thenQ,blockQ,↓reduceIte,Nat.reduceEqDiff])|(refine g_c (fun h=>?_) (fun h=>?_)<;>(try simp only[go_sem] at h)<;>(try exact g_f))|((first|refine g_g ?_|refine g_U ?_|refine g_A ?_|refine g_W ?_);(try simp -implicitDefEqProofs only[go_sem]))|(with_reducible refine hK _ _ ?_;clear hK K)|(clear hK K;first|(with_reducible refine hK _ _ ?_;clear hK K)|(clear hK K;with_reducible refine hK _ _ ?_;clear hK K)|(clear hK K;clear hK K;with_reducible refine hK _ _ ?_;clear hK K))|(with_reducible refine splitB_intro (fun h=>?_) (fun h=>?_)<;>(try simp only[go_sem] at h)<;>(try exact g_f)<;>(try simp -implicitDefEqProofs only[go_sem]))|(with_reducible refine And.intro (fun h=>?_) (fun h=>?_)<;>(try simp only[go_sem] at h)<;>(try exact g_f))|(with_reducible refine And.intro ?_ ?_;· exact g_x)|(with_reducible intro h;(try simp only[go_sem] at h);(try exact g_f))))
        refine hJ2 _ _ ?_
        clear hJ2
        have est : ρ ++ (Ob.cells 3 [[.c (.int .i64 (Lp + 1)), ca, .c (.slice none 0 0)]] :: (τ2 ++ oa :: (τ3 ++ [accO intC 1 row]))) = ρ ++ ((Ob.cells 3 [[.c (.int .i64 (Lp + 1)), ca, .c (.slice none 0 0)]] :: (τ2 ++ oa :: τ3)) ++ accO intC 1 row :: []) := by simp
        rw [est]
        refine AWP_freezeAcc 13 intC 1 row ρ (Ob.cells 3 [[.c (.int .i64 (Lp + 1)), ca, .c (.slice none 0 0)]] :: (τ2 ++ oa :: τ3)) [] (by simp [look, Nat.add_assoc]) ?_
        rw [h4, ← hca, ← hoa]
        obtain ⟨rowI, hrI⟩ : ∃ l, ((ints (Lp + 1)).map fun k => pairBest x y i k) = l := ⟨_, rfl⟩
        rw [hrI] at h5 ⊢
        rcases acc with _ | ⟨w, acc⟩ <;> simp only [List.length_cons, List.length_nil] at hal <;> simp -implicitDefEqProofs only [go_sem, accV, accO]
        all_goals (repeat' (first|(refine g_s fun K hK=>?_)|(refine g_b ?_)|(refine g_r ?_)|(refine g_k ?_;simp only[thenQ,blockQ])|(refine g_e ?_;simp only[thenQ,blockQ,↓reduceIte,Nat.reduceEqDiff])|(refine g_c (fun h=>?_) (fun h=>?_)<;>(try simp only[go_sem] at h)<;>(try exact g_f))|((first|refine g_t ?_|refine g_G ?_|refine g_U ?_|refine g_A ?_|refine g_W ?_);(try simp -implicitDefEqProofs only[go_sem]))|(with_reducible refine hK _ _ ?_;clear hK K)|(clear hK K;first|(with_reducible refine hK _ _ ?_;clear hK K)|(clear hK K;with_reducible refine hK _ _ ?_;clear hK K)|(clear hK K;clear hK K;with_reducible refine hK _ _ ?_;clear hK K))|(with_reducible refine splitB_intro (fun h=>?_) (fun h=>?_)<;>(try simp only[go_sem] at h)<;>(try exact g_f)<;>(try simp -implicitDefEqProofs only[go_sem]))|(with_reducible refine And.intro (fun h=>?_) (fun h=>?_)<;>(try simp only[go_sem] at h)<;>(try exact g_f))|(with_reducible refine And.intro ?_ ?_;· exact g_x)|(with_reducible intro h;(try simp only[go_sem] at h);(try exact g_f))))
        · refine hL3 [rowI] (τ2 ++ .dead :: (τ3 ++ [.dead])) _ _ (by simpa using h5) (ALe_of ?_) ?_
          · simp -implicitDefEqProofs only [go_sem, accV, hlen]
          · simp [accO, accV, rowC, intsA, intA1]
            omega
        · refine hL3 (w :: acc ++ [rowI]) (τ2 ++ .dead :: (τ3 ++ [.dead])) _ _ (by simpa using h5) (ALe_of ?_) ?_
          · simp -implicitDefEqProofs only [go_sem, accV, hlen]
          · simp [accO, accV, rowC, intsA, intA1]
            omega
    · rintro i acc τ2 hi h5 L3
      rw [ints_length] at hi
      rw [List.map_nil, List.append_nil] at h5
      obtain ⟨w, hw⟩ : ∃ w, (Lp + 1).toNat = w := ⟨_, rfl⟩
      rw [h5] 
      simp -implicitDefEqProofs only [go_sem]
      (repeat' (first|(refine g_s fun K hK=>?_)|(refine g_b ?_)|(refine g_r ?_)|(refine g_k ?_;simp only[thenQ,blockQ])|(refine g_e ?_;simp only[thenQ,blockQ,↓reduceIte,Nat.reduceEqDiff])|(refine g_c (fun h=>?_) (fun h=>?_)<;>(try simp only[go_sem] at h)<;>(try exact g_f))|((first|refine g_g ?_|refine g_U ?_|refine g_A ?_|refine g_W ?_);(try simp -implicitDefEqProofs only[go_sem]))|(with_reducible refine hK _ _ ?_;clear hK K)|(clear hK K;first|(with_reducible refine hK _ _ ?_;clear hK K)|(clear hK K;with_reducible refine hK _ _ ?_;clear hK K)|(clear hK K;clear hK K;with_reducible refine hK _ _ ?_;clear hK K))|(with_reducible refine splitB_intro (fun h=>?_) (fun h=>?_)<;>(try simp only[go_sem] at h)<;>(try exact g_f)<;>(try simp -implicitDefEqProofs only[go_sem]))|(with_reducible refine And.intro (fun h=>?_) (fun h=>?_)<;>(try simp only[go_sem] at h)<;>(try exact g_f))|(with_reducible refine And.intro ?_ ?_;· exact g_x)|(with_reducible intro h;(try simp only[go_sem] at h);(try exact g_f))))
      refine hJ _ _ ?_
      clear hJ
      refine AWP_freezeS (k := 3) (kk := 1) (b := ρ.length + (τ2.length + 1)) (rows := [[intA1 (Lp + 1), accV 1 (ρ.length + (τ2.length + 1)) Bst, .c (.slice none 0 0)]]) ρ [] τ2 [] 0 1 rowC Bst (by simp [intA1]) rfl rfl (by simp; omega) ?_
      obtain ⟨T0, hT0⟩ : ∃ T0 : Store, τ2 ++ [.dead] = T0 := ⟨_, rfl⟩
      simp -implicitDefEqProofs only [go_sem, hT0]
      (repeat' (first|(refine g_s fun K hK=>?_)|(refine g_b ?_)|(refine g_r ?_)|(refine g_k ?_;simp only[thenQ,blockQ])|(refine g_e ?_;simp only[thenQ,blockQ,↓reduceIte,Nat.reduceEqDiff])|(refine g_c (fun h=>?_) (fun h=>?_)<;>(try simp only[go_sem] at h)<;>(try exact g_f))|((first|refine g_t ?_|refine g_G ?_|refine g_U ?_|refine g_A ?_|refine g_W ?_);(try simp -implicitDefEqProofs only[go_sem]))|(with_reducible refine hK _ _ ?_;clear hK K)|(clear hK K;first|(with_reducible refine hK _ _ ?_;clear hK K)|(clear hK K;with_reducible refine hK _ _ ?_;clear hK K)|(clear hK K;clear hK K;with_reducible refine hK _ _ ?_;clear hK K))|(with_reducible refine splitB_intro (fun h=>?_) (fun h=>?_)<;>(try simp only[go_sem] at h)<;>(try exact g_f)<;>(try simp -implicitDefEqProofs only[go_sem]))|(with_reducible refine And.intro (fun h=>?_) (fun h=>?_)<;>(try simp only[go_sem] at h)<;>(try exact g_f))|(with_reducible refine And.intro ?_ ?_;· exact g_x)|(with_reducible intro h;(try simp only[go_sem] at h);(try exact g_f))))
      refine AWP_pad ?_
      have hJ := hK
      clear hK
      obtain ⟨Est, hEst⟩ : ∃ b, (pairA x y).edges = b := ⟨_, rfl⟩
      rw [hEst] at hEs
      refine AWP_each (ints x.edges.length) (fun e r (s : List Nat × Store) => ∃ M', M' ++ r.map (fun e => (ints (Lp + 1)).map fun k => pairEdge x y e k) = Est ∧ RowsAt ((ρ ++ [.dead]) ++ s.2) (ρ.length + 1) s.1 M' ∧ s.1.Nodup)
        (fun e s _ => [(16, intA1 e)])
        (fun _ s _ => ρ ++ (.cells 3 [[intA1 (Lp + 1), .sl (Bst.map rowC), accV 1 (ρ.length + (s.2.length + 1)) s.1]] :: (s.2 ++ [accO (rowV w) 1 s.1]))) ([], T0) [] ⟨[], hEs.symm, RowsAt.nil _ _, List.nodup_nil⟩ ?_ (ALe_of ?_) ?_ ?_
      · simp [accV, accO, intA1]
      · simp -implicitDefEqProofs only [go_sem]
      · rintro e r ⟨q, Te⟩ τ9 he0 he1 ⟨M', h3, h4, h5n⟩ L4 hL4
        rw [ints_length] at he1
        have he2 : e < x.edges.length := by omega
        rw [at0_intsX he0 he2, List.map_cons] at h3
        have h4 : RowsAt ((ρ ++ [.dead]) ++ Te) (ρ.length + 1) q M' := h4
        have hql : q.length + 1 ≤ 24 := by have := congrArg List.length h3; have := congrArg List.length hEs; have := h4.1; simp [ints_length] at *; omega
        simp -implicitDefEqProofs only [go_sem]
        (repeat' (first|(refine g_s fun K hK=>?_)|(refine g_b ?_)|(refine g_r ?_)|(refine g_k ?_;simp only[thenQ,blockQ])|(refine g_e ?_;simp only[thenQ,blockQ,↓reduceIte,Nat.reduceEqDiff])|(refine g_c (fun h=>?_) (fun h=>?_)<;>(try simp only[go_sem] at h)<;>(try exact g_f))|((first|refine g_t ?_|refine g_G ?_|refine g_U ?_|refine g_A ?_|refine g_W ?_);(try simp -implicitDefEqProofs only[go_sem]))|(with_reducible refine hK _ _ ?_;clear hK K)|(clear hK K;first|(with_reducible refine hK _ _ ?_;clear hK K)|(clear hK K;with_reducible refine hK _ _ ?_;clear hK K)|(clear hK K;clear hK K;with_reducible refine hK _ _ ?_;clear hK K))|(with_reducible refine splitB_intro (fun h=>?_) (fun h=>?_)<;>(try simp only[go_sem] at h)<;>(try exact g_f)<;>(try simp -implicitDefEqProofs only[go_sem]))|(with_reducible refine And.intro (fun h=>?_) (fun h=>?_)<;>(try simp only[go_sem] at h)<;>(try exact g_f))|(with_reducible refine And.intro ?_ ?_;· exact g_x)|(with_reducible intro h;(try simp only[go_sem] at h);(try exact g_f))))
        refine AWP_pad ?_
        have hJ2 := hK
        clear hK
        obtain ⟨ca, hca⟩ : ∃ ca, accV 1 (ρ.length + (Te.length + 1)) q = ca := ⟨_, rfl⟩
        obtain ⟨oa, hoa⟩ : ∃ oa, accO (rowV w) 1 q = oa := ⟨_, rfl⟩
        rw [hca, hoa]
        refine AWP_each (ints Lp) (fun j r row => row ++ r.map (fun k => pairEdge x y e k) = (ints Lp).map fun k => pairEdge x y e k) (fun j row τ3 => [(18, intA1 j), (17, accV 1 (ρ.length + (Te.length + (τ3.length + 2))) row)])
          (fun _ row τ3 => ρ ++ (.cells 3 [[intA1 (Lp + 1), .sl (Bst.map rowC), ca]] :: (Te ++ oa :: (τ3 ++ [accO intC 1 row])))) [] [] rfl ?_ (ALe_of ?_) ?_ ?_
        · simp [accO, intA1]
        · simp -implicitDefEqProofs only [go_sem, accV, accO]
        · rintro j r2 row τ3 hj0 hj1 h6 L2 hL2
          rw [ints_length] at hj1
          have hjL : j < Lp := by omega
          rw [at0_intsX hj0 hjL, List.map_cons] at h6
          have hrl : row.length + 1 ≤ 24 := by have := congrArg List.length h6; simp [ints_length] at this; omega
          have f3 := ad j hj0 hjL
          have f4 := am j hj0 hjL
          have g3 := hokN.div hj0 (show j < N * m by omega)
          have g4 := hokN.mod (i := j)
          have hv : pairEdge x y e j = pairN x y (at2 x.edges e (j / m)) (at2 y.edges e (j % m)) := by rw [pairEdge, hLx, if_neg (by omega), hmd]
          obtain ⟨c, hc⟩ : ∃ c, j / m = c := ⟨_, rfl⟩
          obtain ⟨d, hd⟩ : ∃ d, j % m = d := ⟨_, rfl⟩
          rw [hc] at f3 g3 hv
          rw [hd] at f4 g4 hv
          have hin1 := fx.edge_in he0 he2 g3.1 (show c < x.size by omega)
          have hin2 := fy.edge_in he0 (show e < y.edges.length by omega) g4.1 (show d < y.size by omega)
          have hel1 := fx.edge_len he0 he2
          have hel2 := fy.edge_len he0 (show e < y.edges.length by omega)
          have hF := hfind (at2 x.edges e c) (at2 y.edges e d) hin1.1 (by omega) hin2.1 (by omega)
          have hvN : (if at2 x.edges e c = N ∨ at2 y.edges e d = m then Lp else at2 x.edges e c * m + at2 y.edges e d) = pairN x y (at2 x.edges e c) (at2 y.edges e d) := by rw [pairN, hLx, hNd, hmd]
          rw [hvN] at hF
          obtain ⟨V, hV⟩ : ∃ V, pairN x y (at2 x.edges e c) (at2 y.edges e d) = V := ⟨_, rfl⟩
          rw [hV] at hF hv
          have e1 : at2 x.edges e c = at0 (at0 x.edges e) c := rfl
          have e2 : at2 y.edges e d = at0 (at0 y.edges e) d := rfl
          rw [e1, e2] at hF
          rcases row with _ | ⟨v, row⟩ <;> simp only [List.length_cons, List.length_nil] at hrl <;> simp -implicitDefEqProofs only [go_sem, accV, accO]
          all_goals (repeat' (first|(refine g_s fun K hK=>?_)|(refine g_b ?_)|(refine g_r ?_)|(refine g_k ?_;simp only[thenQ,blockQ])|(refine g_e ?_;simp only[thenQ,blockQ,↓reduceIte,Nat.reduceEqDiff])|(refine g_c (fun h=>?_) (fun h=>?_)<;>(try simp only[go_sem] at h)<;>(try exact g_f))|((first|refine g_t ?_|refine g_G ?_|refine g_U ?_|refine g_A ?_|refine (hF _).use ?_|refine g_q (fun τ=>hF _) ?_|refine g_W ?_);(try simp -implicitDefEqProofs only[go_sem,f3, f4]))|(with_reducible refine hK _ _ ?_;clear hK K)|(clear hK K;first|(with_reducible refine hK _ _ ?_;clear hK K)|(clear hK K;with_reducible refine hK _ _ ?_;clear hK K)|(clear hK K;clear hK K;with_reducible refine hK _ _ ?_;clear hK K))|(with_reducible refine splitB_intro (fun h=>?_) (fun h=>?_)<;>(try simp only[go_sem] at h)<;>(try exact g_f)<;>(try simp -implicitDefEqProofs only[go_sem,f3, f4]))|(with_reducible refine And.intro (fun h=>?_) (fun h=>?_)<;>(try simp only[go_sem] at h)<;>(try exact g_f))|(with_reducible refine And.intro ?_ ?_;· exact g_x)|(with_reducible intro h;(try simp only[go_sem] at h);(try exact g_f))))
          · refine hL2 [pairEdge x y e j] (τ3 ++ [.dead]) _ _ (by simpa using h6) (ALe_of ?_) ?_
            · simp -implicitDefEqProofs only [go_sem, accV]
            · simp [accO, intC, intA1, hv]
          · refine hL2 (v :: row ++ [pairEdge x y e j]) (τ3 ++ [.dead]) _ _ (by simpa using h6) (ALe_of ?_) ?_
            · simp -implicitDefEqProofs only [go_sem, accV]
            · simp [accO, intC, intA1, hv]
        · rintro j row τ3 hj h6 L2
          rw [ints_length] at hj
          rw [List.map_nil, List.append_nil] at h6
          have hrl : row.length = Lp.toNat := by rw [h6, List.length_map, ints_length]
          rcases row with _ | ⟨v, row⟩
          · simp at hrl; omega
          simp only [List.length_cons] at hrl
          rw [← hca, ← hoa]
          simp -implicitDefEqProofs only [go_sem, accV, accO]
          (repeat' (first|(refine g_s fun K hK=>?_)|(refine g_b ?_)|(refine g_r ?_)|(refine g_k ?_;simp only[thenQ,blockQ])|(refine g_e ?_;simp only[thenQ,blockQ,↓reduceIte,Nat.reduceEqDiff])|(refine g_c (fun h=>?_) (fun h=>?_)<;>(try simp only[go_sem] at h)<;>(try exact g_f))|((first|refine g_g ?_|refine g_U ?_|refine g_A ?_|refine g_W ?_);(try simp -implicitDefEqProofs only[go_sem]))|(with_reducible refine hK _ _ ?_;clear hK K)|(clear hK K;first|(with_reducible refine hK _ _ ?_;clear hK K)|(clear hK K;with_reducible refine hK _ _ ?_;clear hK K)|(clear hK K;clear hK K;with_reducible refine hK _ _ ?_;clear hK K))|(with_reducible refine splitB_intro (fun h=>?_) (fun h=>?_)<;>(try simp only[go_sem] at h)<;>(try exact g_f)<;>(try simp -implicitDefEqProofs only[go_sem]))|(with_reducible refine And.intro (fun h=>?_) (fun h=>?_)<;>(try simp only[go_sem] at h)<;>(try exact g_f))|(with_reducible refine And.intro ?_ ?_;· exact g_x)|(with_reducible intro h;(try simp only[go_sem] at h);(try exact g_f))))
          refine hJ2 _ _ ?_
          clear hJ2
          have hfull : ((ints (Lp + 1)).map fun k => pairEdge x y e k) = v :: row ++ [Lp] := by
            have hlast : pairEdge x y e Lp = Lp := by rw [pairEdge, hLx, if_pos rfl]
            rw [ints_snoc (by omega), List.map_append, ← h6, List.map_singleton, hlast]
          have hgr := rowsGrow (τ3 := τ3) h4 h5n (by simp) .dead (v :: row ++ [Lp])
          rw [hfull] at h3
          have hwr : row.length + 2 = w := by omega
          have hpl : (ρ ++ [Ob.dead]).length + (Te.length + (τ3.length + 2)) = ρ.length + (Te.length + (τ3.length + 3)) := by simp; omega
          rw [hpl] at hgr
          rcases q with _ | ⟨y0, q⟩ <;> simp only [List.length_cons, List.length_nil] at hql <;> simp -implicitDefEqProofs only [go_sem, accV, accO]
          all_goals (repeat' (first|(refine g_s fun K hK=>?_)|(refine g_b ?_)|(refine g_r ?_)|(refine g_k ?_;simp only[thenQ,blockQ])|(refine g_e ?_;simp only[thenQ,blockQ,↓reduceIte,Nat.reduceEqDiff])|(refine g_c (fun h=>?_) (fun h=>?_)<;>(try simp only[go_sem] at h)<;>(try exact g_f))|((first|refine g_t ?_|refine g_G ?_|refine AWP_drawB (ρ ++ (.cells 3 [[.c (.int .i64 (Lp + 1)), .sl (Bst.map rowC), .c (.slice none 0 0)]] :: Te)) ⟨_, by simp; rfl⟩ tab_mixed (by decide +kernel) ?_|refine AWP_drawB (ρ ++ (.cells 3 [[.c (.int .i64 (Lp + 1)), .sl (Bst.map rowC), .own (ρ.length + (Te.length + 1)) 1 0 (q.length + 1) (q.length + 1)]] :: Te)) ⟨_, by simp; rfl⟩ tab_mixed (by decide +kernel) ?_);(try simp -implicitDefEqProofs only[go_sem]))|(with_reducible refine hK _ _ ?_;clear hK K)|(clear hK K;first|(with_reducible refine hK _ _ ?_;clear hK K)|(clear hK K;with_reducible refine hK _ _ ?_;clear hK K)|(clear hK K;clear hK K;with_reducible refine hK _ _ ?_;clear hK K))|(with_reducible refine splitB_intro (fun h=>?_) (fun h=>?_)<;>(try simp only[go_sem] at h)<;>(try exact g_f)<;>(try simp -implicitDefEqProofs only[go_sem]))|(with_reducible refine And.intro (fun h=>?_) (fun h=>?_)<;>(try simp only[go_sem] at h)<;>(try exact g_f))|(with_reducible refine And.intro ?_ ?_;· exact g_x)|(with_reducible intro h;(try simp only[go_sem] at h);(try exact g_f))))
          · refine hL4 ([] ++ [ρ.length + (Te.length + (τ3.length + 3))], Te ++ .dead :: (τ3 ++ [.dead, .cells 1 ((v :: row ++ [Lp]).map intC)])) τ9 _ _ ⟨M' ++ [v :: row ++ [Lp]], by simpa using h3, hgr.1, hgr.2⟩ (ALe_of ?_) ?_
            · simp -implicitDefEqProofs only [go_sem, accV, rowV]
            · simp [accO, accV, rowV, intC, intA1, hwr]
              omega
          · refine hL4 ((y0 :: q) ++ [ρ.length + (Te.length + (τ3.length + 3))], Te ++ .dead :: (τ3 ++ [.dead, .cells 1 ((v :: row ++ [Lp]).map intC)])) τ9 _ _ ⟨M' ++ [v :: row ++ [Lp]], by simpa using h3, hgr.1, hgr.2⟩ (ALe_of ?_) ?_
            · simp -implicitDefEqProofs only [go_sem, accV, rowV]
            · simp [accO, accV, rowV, intC, intA1, hwr]
              omega
      · rintro e ⟨q, Te⟩ τ9 he0 ⟨M', h3, h4, h5n⟩ L4
        rw [ints_length] at he0
        have h4 : RowsAt ((ρ ++ [.dead]) ++ Te) (ρ.length + 1) q M' := h4
        have h3 : M' = Est := by simpa using h3
        subst h3
        have hwd : ∀ r ∈ M', r.length = w := fun r hr => by
          rw [hEs] at hr
          obtain ⟨i, _, rfl⟩ := List.mem_map.1 hr
          rw [List.length_map, ints_length, hw]
        have hLd : ∀ L : Store, (ρ ++ L)[σ.length + 2]? = some (.cells 3 [[intA1 0, .c (.slice none 0 0), .c (.slice none 0 0)]]) := fun L => by
          rw [← hρ, List.append_assoc, List.getElem?_append_right (by omega)]
          have e : σ.length + 2 - σ.length = 2 := by omega
          rw [e]
          rfl
        have hSt : ∀ (L : Store) (o : Ob), (ρ ++ L).set (σ.length + 2) o = σ ++ (.dead :: .dead :: o :: .dead :: .dead :: (T ++ L)) := fun L o => by
          rw [← hρ, List.append_assoc, List.set_append_right _ _ (by omega)]
          have e : σ.length + 2 - σ.length = 2 := by omega
          rw [e]
          simp
        have hO := fun v1 v2 => ownM_end (lo := σ.length) (w := w) (A' := σ ++ (.dead :: .dead :: v1 :: .dead :: .dead :: (T ++ [v2]))) (A := ρ ++ [.dead]) (by simp [← hlen]; omega) (by simpa using h4) h5n hwd (by simp [← hlen]; omega)
        simp -implicitDefEqProofs only [go_sem]
        (repeat' (first|(refine g_s fun K hK=>?_)|(refine g_b ?_)|(refine g_r ?_)|(refine g_k ?_;simp only[thenQ,blockQ])|(refine g_e ?_;simp only[thenQ,blockQ,↓reduceIte,Nat.reduceEqDiff])|(refine g_c (fun h=>?_) (fun h=>?_)<;>(try simp only[go_sem] at h)<;>(try exact g_f))|((first|refine g_g ?_|refine g_U ?_|refine g_A ?_|refine g_W ?_);(try simp -implicitDefEqProofs only[go_sem]))|(with_reducible refine hK _ _ ?_;clear hK K)|(clear hK K;first|(with_reducible refine hK _ _ ?_;clear hK K)|(clear hK K;with_reducible refine hK _ _ ?_;clear hK K)|(clear hK K;clear hK K;with_reducible refine hK _ _ ?_;clear hK K))|(with_reducible refine splitB_intro (fun h=>?_) (fun h=>?_)<;>(try simp only[go_sem] at h)<;>(try exact g_f)<;>(try simp -implicitDefEqProofs only[go_sem]))|(with_reducible refine And.intro (fun h=>?_) (fun h=>?_)<;>(try simp only[go_sem] at h)<;>(try exact g_f))|(with_reducible refine And.intro ?_ ?_;· exact g_x)|(with_reducible intro h;(try simp only[go_sem] at h);(try exact g_f))))
        refine hJ _ _ ?_
        clear hJ
        rcases q with _ | ⟨y0, q⟩ <;> simp -implicitDefEqProofs only [go_sem, accV, accO]
        all_goals (repeat' (first|(refine g_s fun K hK=>?_)|(refine g_b ?_)|(refine g_r ?_)|(refine g_k ?_;simp only[thenQ,blockQ])|(refine g_e ?_;simp only[thenQ,blockQ,↓reduceIte,Nat.reduceEqDiff])|(refine g_c (fun h=>?_) (fun h=>?_)<;>(try simp only[go_sem] at h)<;>(try exact g_f))|((first|refine g_t ?_|refine g_g ?_|refine g_U ?_|refine g_A ?_|refine g_W ?_);(try simp -implicitDefEqProofs only[go_sem,hLd, hSt]))|(with_reducible refine hK _ _ ?_;clear hK K)|(clear hK K;first|(with_reducible refine hK _ _ ?_;clear hK K)|(clear hK K;with_reducible refine hK _ _ ?_;clear hK K)|(clear hK K;clear hK K;with_reducible refine hK _ _ ?_;clear hK K))|(with_reducible refine splitB_intro (fun h=>?_) (fun h=>?_)<;>(try simp only[go_sem] at h)<;>(try exact g_f)<;>(try simp -implicitDefEqProofs only[go_sem,hLd, hSt]))|(with_reducible refine And.intro (fun h=>?_) (fun h=>?_)<;>(try simp only[go_sem] at h)<;>(try exact g_f))|(with_reducible refine And.intro ?_ ?_;· exact g_x)|(with_reducible intro h;(try simp only[go_sem] at h);(try exact g_f))))
        · obtain ⟨ids, hOM⟩ := hO (.cells 3 [[.c (.int .i64 (Lp + 1)), .sl (Bst.map rowC), .c (.slice none 0 0)]]) (.cells 3 [[.c (.int .i64 (Lp + 1)), .sl (Bst.map rowC), .c (.slice none 0 0)]])
          refine ⟨_, rfl, ids, _, by rw [hSz, hBst]; rfl, ?_⟩
          rw [hSz, hw, hEst]
          simp only [accV, accO] at hOM
          simpa using hOM
        · obtain ⟨ids, hOM⟩ := hO (.cells 3 [[.c (.int .i64 (Lp + 1)), .sl (Bst.map rowC), .own (ρ.length + (Te.length + 1)) 1 0 (q.length + 1) (q.length + 1)]]) (.cells 3 [[.c (.int .i64 (Lp + 1)), .sl (Bst.map rowC), .own (ρ.length + (Te.length + 1)) 1 0 (q.length + 1) (q.length + 1)]])
          refine ⟨_, rfl, ids, _, by rw [hSz, hBst]; rfl, ?_⟩
          have ep : (ρ ++ [Ob.dead]).length + Te.length = ρ.length + (Te.length + 1) := by simp; omega
          rw [hSz, hw, hEst]
          rw [ep] at hOM
          simp only [accV, accO] at hOM
          simpa using hOM
end Go.Proofs.Ytephecognbbaoaa
