/- Schedules, as the program runs them: all of it. -/
import Derived.Test.YtephecognbbaoabYc
import Derived.Test.YtephecognbbaoabPs
namespace Go.Proofs.Ytephecognbbaoab
open Go
set_option linter.all false
set_option maxRecDepth 100000
set_option maxHeartbeats 1000000

/-- A node that looks at what others had. -/
theorem lookT_calls (n : Net) (hc : checkN n = 0) (hl : n.links.length ≤ 5864062014634) (outs : List (List (List Int))) (k i : Int) (u : Trn) (hu : TrnIn n u) (ho : ∀ s ∈ outs, RowsIn n s) (L b9 b10 b11 b13 bo : Nat) (S : Store) (hL : L = outs.length)
    (h9 : S[b9]? = some (.cells 1 [[.own bo 1 0 L L]])) (hb : S[bo]? = some (.cells 1 (outs.map stC))) (h10 : S[b10]? = some (.cells 1 [[intA1 k]])) (h11 : S[b11]? = some (.cells 2 [trnC u])) (h13 : S[b13]? = some (.cells 1 [[intA1 i]]))
    (hk0 : 0 ≤ k) (hk1 : k < outs.length) (hol : outs.length ≤ 201) (hi0 : 0 ≤ i) (hi1 : i < n.nodes) :
    ACalls Try.prog 87 [.agg (netC n), intA1 i, .fn 88 [] [.ptr b9 1 0 0, .ptr b10 1 0 0, .ptr b11 2 0 0, .ptr b13 1 0 0]] S fun r σ' => σ' = S ∧ r = intsA ((ints n.nodes).map fun j => routeL n i j (fun to => at2 (at0 outs (usedA u k i to)) to j) n.links) := by
  have hn := netIn_of hc
  refine look_calls n i (fun to j => at2 (at0 outs (usedA u k i to)) to j) _ _ S hn hl hi0 hi1 (by kernel_rfl) (fun to j h1 h2 h3 h4 => has_in hu ho hk0 hk1 ⟨hi0, hi1⟩ ⟨h1, h2⟩ ⟨h3, h4⟩) (fun to j h1 h2 h3 h4 S' hS => ?_)
  have hus := used_in hu hk0 ⟨hi0, hi1⟩ (to := to) ⟨h1, h2⟩
  have hrow := ho _ (at0_mem outs hus.1 (by omega))
  have hlen := hrow.len
  have hr2 := hrow.row _ (at0_mem _ h1 (by rw [hlen]; exact h2))
  have hal := hu.len
  have har := hu.row _ (at0_mem u.ages hi0 (by omega))
  exact run1_calls outs k i to j u L b9 b10 b11 b13 bo S' hL (hS.get h9) (hS.get hb) (hS.get h10) (hS.get h11) (hS.get h13) hk0 hk1 hol hi0 (by omega) h1 (by omega) (at2_age hu ⟨hi0, hi1⟩ ⟨h1, h2⟩) (by omega) h3 (by omega)

theorem set_row1 (l : List (List Int)) (k : Nat) (v : List Int) : (l.map rowC).set k [intsA v] = (l.set k v).map rowC := by
  rw [List.map_set]
  rfl

def errT (n : Net) (x : List (List Int)) (t : List Trn) : Int := if checkT n t ≠ 0 then checkT n t else rowsErr n x
def runC (n : Net) (x : List (List Int)) (t : List Trn) : AV := .tup [statesA (if errT n x t = 0 then runA n x t else []), intA1 (errT n x t)]

theorem run_calls (n : Net) (x : List (List Int)) (t : List Trn) (okn : NetOk n) (okx : StOk x) (okt : TsOk t) (σ : Store) : ACalls Try.prog 29 [.agg (netC n), rowsC x, trnsA t] σ fun r σ' => σ' = σ ∧ r = runC n x t := by
  have hl := okn.len
  have hC := asyncCheck_calls n t okn okt
  refine ACalls.cutX ?_
  by_cases h0 : checkT n t = 0
  · obtain ⟨hc, h200, ht⟩ := checkT_zero h0
    have hn := netIn_of hc
    have n1 := hn.n1
    have n6 := hn.n6
    have s2 := hn.alg.s2
    have s24 := hn.alg.s24
    have hR := rows_calls n x (by unfold I64; omega) okx
    have e : errT n x t = rowsErr n x := by rw [errT, if_neg (not_not_intro h0)]
    rw [h0] at hC
    rw [runC, e]
    by_cases h1 : rowsErr n x = 0
    · have hx := rowsIn_of h1
      rw [if_pos h1]
      rw [h1] at hR ⊢
      refine ACalls_of_awp Try.func29 rfl Try.results29 ?_
      simp only [List.length_cons, List.length_nil, Try.ntmps29, Nat.reduceAdd, Nat.reduceSub, enterA]
      refine AWP_seq_k fun K hK => ?_
      (refine AWP_region ?_; simp -implicitDefEqProofs only [go_sem])
      refine hK _ _ ?_; clear hK K
      refine AWP_freezeP 3 rfl (by simp only [st0]; rfl) ?_
      simp only [ss0, List.set_cons_zero]
      (repeat' (first|(refine g_s fun K hK=>?_)|(refine g_b ?_)|(refine g_r ?_)|(refine g_k ?_;simp only[thenQ,blockQ])|(refine g_e ?_;simp only[thenQ,blockQ,↓reduceIte,Nat.reduceEqDiff])|(refine g_c (fun h=>?_) (fun h=>?_)<;>(try simp only[go_sem] at h)<;>(try exact g_f))|((first|refine g_t ?_|refine g_g ?_|refine g_U ?_|refine g_A ?_|refine (hC _).use ?_|refine g_q (fun τ=>hC _) ?_|refine (hR _).use ?_|refine g_q (fun τ=>hR _) ?_|refine (own_calls x okx _).use ?_|refine g_q (fun τ=>own_calls x okx _) ?_|refine g_W ?_);(try simp -implicitDefEqProofs only[go_sem]))|(with_reducible refine hK _ _ ?_;clear hK K)|(clear hK K;first|(with_reducible refine hK _ _ ?_;clear hK K)|(clear hK K;with_reducible refine hK _ _ ?_;clear hK K)|(clear hK K;clear hK K;with_reducible refine hK _ _ ?_;clear hK K))|(with_reducible refine splitB_intro (fun h=>?_) (fun h=>?_)<;>(try simp only[go_sem] at h)<;>(try exact g_f)<;>(try simp -implicitDefEqProofs only[go_sem]))|(with_reducible refine And.intro (fun h=>?_) (fun h=>?_)<;>(try simp only[go_sem] at h)<;>(try exact g_f))|(with_reducible refine And.intro ?_ ?_;· exact g_x)|(with_reducible intro h;(try simp only[go_sem] at h);(try exact g_f))))
      refine AWP_moveC (σ.length + 2) 0 0 (b := σ.length + 1) (by omega) (by first | rfl | (simp -implicitDefEqProofs only [go_sem]; done) | (simp -implicitDefEqProofs only [go_sem]; rfl)) rfl rfl (by first | rfl | (simp -implicitDefEqProofs only [go_sem]; done) | (simp -implicitDefEqProofs only [go_sem]; rfl)) ?_
      simp -implicitDefEqProofs only [go_sem]
      have hJ := hK
      clear hK
      refine AWP_each t (fun k r outs => runF n k r outs = runA n x t ∧ (∀ s ∈ outs, RowsIn n s) ∧ (outs.length : Int) = k + 1) (fun k _ _ => [(30, intA1 k)])
        (fun _ outs τ => σ ++ (.dead :: .dead :: .cells 1 [[.own (σ.length + (τ.length + 3)) 1 0 outs.length outs.length]] :: (τ ++ [.cells 1 (outs.map stC)]))) [x] [] ⟨rfl, fun s hs => by rw [List.mem_singleton.1 hs]; exact hx, rfl⟩ ?_ (ALe_of ?_) ?_ ?_
      · simp [stC, rowsC]
      · simp -implicitDefEqProofs only [go_sem]
      · rintro k r outs τ hk0 hk1 ⟨h3, hin, hol⟩ L hL
        have hmem := at0_mem t hk0 hk1
        obtain ⟨u, hu⟩ : ∃ u, at0 t k = u := ⟨_, rfl⟩
        rw [hu] at h3 hmem
        have hui := ht u hmem
        have hg := get_mapF stC outs (k := k) hk0 (by omega)
        obtain ⟨y0, hy0⟩ : ∃ y, at0 outs k = y := ⟨_, rfl⟩
        rw [hy0] at hg
        have hyin : RowsIn n y0 := by rw [← hy0]; exact hin _ (at0_mem outs hk0 (by omega))
        have hyl := hyin.len
        have hyo := hyin.stOk hn
        have hyne : y0 ≠ [] := fun e => by rw [e] at hyl; simp at hyl; omega
        simp -implicitDefEqProofs only [go_sem]
        (repeat' (first|(refine g_s fun K hK=>?_)|(refine g_b ?_)|(refine g_r ?_)|(refine g_k ?_;simp only[thenQ,blockQ])|(refine g_e ?_;simp only[thenQ,blockQ,↓reduceIte,Nat.reduceEqDiff])|(refine g_c (fun h=>?_) (fun h=>?_)<;>(try simp only[go_sem] at h)<;>(try exact g_f))|((first|refine g_t ?_|refine g_g ?_|refine g_U ?_|refine g_A ?_|refine g_W ?_);(try simp -implicitDefEqProofs only[go_sem,hu, hg]))|(with_reducible refine hK _ _ ?_;clear hK K)|(clear hK K;first|(with_reducible refine hK _ _ ?_;clear hK K)|(clear hK K;with_reducible refine hK _ _ ?_;clear hK K)|(clear hK K;clear hK K;with_reducible refine hK _ _ ?_;clear hK K))|(with_reducible refine splitB_intro (fun h=>?_) (fun h=>?_)<;>(try simp only[go_sem] at h)<;>(try exact g_f)<;>(try simp -implicitDefEqProofs only[go_sem,hu, hg]))|(with_reducible refine And.intro (fun h=>?_) (fun h=>?_)<;>(try simp only[go_sem] at h)<;>(try exact g_f))|(with_reducible refine And.intro ?_ ?_;· exact g_x)|(with_reducible intro h;(try simp only[go_sem] at h);(try exact g_f))))
        refine ACalls.useX (ownW_calls y0 hyo hyne _) ?_
        rintro τ9 r9 ⟨τ2, rfl, rfl⟩
        simp -implicitDefEqProofs only [go_sem]
        (repeat' (first|(refine g_s fun K hK=>?_)|(refine g_b ?_)|(refine g_r ?_)|(refine g_k ?_;simp only[thenQ,blockQ])|(refine g_e ?_;simp only[thenQ,blockQ,↓reduceIte,Nat.reduceEqDiff])|(refine g_c (fun h=>?_) (fun h=>?_)<;>(try simp only[go_sem] at h)<;>(try exact g_f))|((first|refine g_t ?_|refine g_g ?_|refine g_U ?_|refine g_A ?_|refine g_W ?_);(try simp -implicitDefEqProofs only[go_sem]))|(with_reducible refine hK _ _ ?_;clear hK K)|(clear hK K;first|(with_reducible refine hK _ _ ?_;clear hK K)|(clear hK K;with_reducible refine hK _ _ ?_;clear hK K)|(clear hK K;clear hK K;with_reducible refine hK _ _ ?_;clear hK K))|(with_reducible refine splitB_intro (fun h=>?_) (fun h=>?_)<;>(try simp only[go_sem] at h)<;>(try exact g_f)<;>(try simp -implicitDefEqProofs only[go_sem]))|(with_reducible refine And.intro (fun h=>?_) (fun h=>?_)<;>(try simp only[go_sem] at h)<;>(try exact g_f))|(with_reducible refine And.intro ?_ ?_;· exact g_x)|(with_reducible intro h;(try simp only[go_sem] at h);(try exact g_f))))
        have hJ2 := hK
        clear hK
        have hnl : ∀ q, 0 ≤ q → q < n.nodes → at0 (nextT n outs k u) q = if at0 u.act q then (ints n.nodes).map (fun j => routeL n q j (fun to => at2 (at0 outs (usedA u k q to)) to j) n.links) else at0 (at0 outs k) q := fun q h0 h1 => by
          rw [nextT, at0_ints_map _ ⟨h0, h1⟩]
        obtain ⟨ρ, hρ⟩ : ∃ ρ : Store, .dead :: .dead :: .cells 1 [[.own (σ.length + (τ.length + 3)) 1 0 outs.length outs.length]] :: (τ ++ .cells 1 (outs.map stC) :: .cells 1 [[intA1 k]] :: .cells 2 [trnC u] :: τ2) = ρ := ⟨_, rfl⟩
        have hρl : τ.length + (6 + τ2.length) = ρ.length := by rw [← hρ]; simp; omega
        have r9 : ∀ l, (ρ ++ l)[2]? = some (.cells 1 [[.own (σ.length + (τ.length + 3)) 1 0 outs.length outs.length]]) := fun l => by rw [← hρ]; rfl
        have ro : ∀ l, (ρ ++ l)[τ.length + 3]? = some (.cells 1 (outs.map stC)) := fun l => by
          rw [← hρ]
          simp -implicitDefEqProofs only [go_sem]
        have r10 : ∀ l, (ρ ++ l)[τ.length + 4]? = some (.cells 1 [[intA1 k]]) := fun l => by
          rw [← hρ]
          simp -implicitDefEqProofs only [go_sem]
        have r11 : ∀ l, (ρ ++ l)[τ.length + 5]? = some (.cells 2 [trnC u]) := fun l => by
          rw [← hρ]
          simp -implicitDefEqProofs only [go_sem]
        refine AWP_each y0 (fun i r (yl : List (List Int)) => (yl.length : Int) = n.nodes ∧ ∀ q, 0 ≤ q → q < n.nodes → at0 yl q = if q < i then at0 (nextT n outs k u) q else at0 y0 q) (fun i _ _ => [(42, intA1 i), (12, .own (σ.length + ρ.length) 1 0 y0.length y0.length)])
          (fun _ yl τ3 => σ ++ (ρ ++ .cells 1 (yl.map rowC) :: τ3)) y0 [] ⟨hyl, fun q h0 h1 => by rw [if_neg (by omega)]⟩ ?_ (ALe_of ?_) ?_ ?_
        · rw [← hρ]
          simp [intA1, trnC, boolsA, rowsC]
        · simp -implicitDefEqProofs only [go_sem, hρl]
        · rintro i r yl τ3 hi0 hi1 ⟨h5, h6⟩ L2 hL2
          have hact := hui.act
          have hi1 : i < n.nodes := by omega
          have hni := hnl i hi0 hi1
          obtain ⟨a, ha⟩ : ∃ a, at0 u.act i = a := ⟨_, rfl⟩
          rw [ha] at hni
          cases a
          · rw [if_neg (by decide)] at hni
            simp -implicitDefEqProofs only [go_sem]
            (repeat' (first|(refine g_s fun K hK=>?_)|(refine g_b ?_)|(refine g_r ?_)|(refine g_k ?_;simp only[thenQ,blockQ])|(refine g_e ?_;simp only[thenQ,blockQ,↓reduceIte,Nat.reduceEqDiff])|(refine g_c (fun h=>?_) (fun h=>?_)<;>(try simp only[go_sem] at h)<;>(try exact g_f))|((first|refine g_t ?_|refine g_g ?_|refine g_U ?_|refine g_A ?_|refine g_W ?_);(try simp -implicitDefEqProofs only[go_sem,ha, r9, ro, r10, r11]))|(with_reducible refine hK _ _ ?_;clear hK K)|(clear hK K;first|(with_reducible refine hK _ _ ?_;clear hK K)|(clear hK K;with_reducible refine hK _ _ ?_;clear hK K)|(clear hK K;clear hK K;with_reducible refine hK _ _ ?_;clear hK K))|(with_reducible refine splitB_intro (fun h=>?_) (fun h=>?_)<;>(try simp only[go_sem] at h)<;>(try exact g_f)<;>(try simp -implicitDefEqProofs only[go_sem,ha, r9, ro, r10, r11]))|(with_reducible refine And.intro (fun h=>?_) (fun h=>?_)<;>(try simp only[go_sem] at h)<;>(try exact g_f))|(with_reducible refine And.intro ?_ ?_;· exact g_x)|(with_reducible intro h;(try simp only[go_sem] at h);(try exact g_f))))
            refine hL2 yl (τ3 ++ [.cells 1 [[intA1 i]]]) _ _ ⟨h5, fun q h0 h1 => ?_⟩ (ALe_of ?_) (by simp [intA1])
            · have h7 := h6 q h0 h1
              by_cases hq : q < i
              · rw [if_pos hq] at h7
                rw [if_pos (by omega)]
                exact h7
              · rw [if_neg hq] at h7
                by_cases hqi : q = i
                · rw [if_pos (by omega), h7, hqi, hni, hy0]
                · rw [if_neg (by omega)]
                  exact h7
            · simp -implicitDefEqProofs only [go_sem, hρl]
          · obtain ⟨v, hv⟩ : ∃ v, (ints n.nodes).map (fun j => routeL n i j (fun to => at2 (at0 outs (usedA u k i to)) to j) n.links) = v := ⟨_, rfl⟩
            have hLk := fun b9 b10 b11 b13 S => lookT_calls n hc hl outs k i u hui hin outs.length b9 b10 b11 b13 (σ.length + (τ.length + 3)) S rfl
            rw [if_pos rfl] at hni
            rw [hv] at hni hLk
            have hget : (yl.map rowC)[i.toNat]? = some (rowC (at0 yl i)) := get_mapF rowC yl hi0 (by omega)
            have hy : y0.length = yl.length := by omega
            have hL9 : ∀ τ4, ACalls Try.prog 87 [.agg (netC n), intA1 i, .fn 88 [] [.ptr (σ.length + 2) 1 0 0, .ptr (σ.length + (τ.length + 4)) 1 0 0, .ptr (σ.length + (τ.length + 5)) 2 0 0, .ptr (σ.length + (ρ.length + (τ3.length + 1))) 1 0 0]]
                ((σ ++ (ρ ++ .cells 1 (yl.map rowC) :: (τ3 ++ [.cells 1 [[intA1 i]]]))) ++ τ4) fun r σ' => σ' = (σ ++ (ρ ++ .cells 1 (yl.map rowC) :: (τ3 ++ [.cells 1 [[intA1 i]]]))) ++ τ4 ∧ r = intsA v := fun τ4 =>
              hLk _ _ _ _ _ (by rw [List.append_assoc, st1, List.append_assoc]; exact r9 _) (by rw [List.append_assoc, st1, List.append_assoc]; exact ro _) (by rw [List.append_assoc, st1, List.append_assoc]; exact r10 _) (by rw [List.append_assoc, st1, List.append_assoc]; exact r11 _)
                (by rw [List.append_assoc, st1, List.append_assoc, st1, List.cons_append, List.getElem?_cons_succ, List.append_assoc, st0]; rfl) hk0 (by omega) (by omega) hi0 hi1
            simp -implicitDefEqProofs only [go_sem]
            (repeat' (first|(refine g_s fun K hK=>?_)|(refine g_b ?_)|(refine g_r ?_)|(refine g_k ?_;simp only[thenQ,blockQ])|(refine g_e ?_;simp only[thenQ,blockQ,↓reduceIte,Nat.reduceEqDiff])|(refine g_c (fun h=>?_) (fun h=>?_)<;>(try simp only[go_sem] at h)<;>(try exact g_f))|((first|refine g_t ?_|refine g_g ?_|refine g_U ?_|refine g_A ?_|refine g_q hL9 ?_|refine g_W ?_);(try simp -implicitDefEqProofs only[go_sem,ha, r9, ro, r10, r11, set_row1, hget]))|(with_reducible refine hK _ _ ?_;clear hK K)|(clear hK K;first|(with_reducible refine hK _ _ ?_;clear hK K)|(clear hK K;with_reducible refine hK _ _ ?_;clear hK K)|(clear hK K;clear hK K;with_reducible refine hK _ _ ?_;clear hK K))|(with_reducible refine splitB_intro (fun h=>?_) (fun h=>?_)<;>(try simp only[go_sem] at h)<;>(try exact g_f)<;>(try simp -implicitDefEqProofs only[go_sem,ha, r9, ro, r10, r11, set_row1, hget]))|(with_reducible refine And.intro (fun h=>?_) (fun h=>?_)<;>(try simp only[go_sem] at h)<;>(try exact g_f))|(with_reducible refine And.intro ?_ ?_;· exact g_x)|(with_reducible intro h;(try simp only[go_sem] at h);(try exact g_f))))
            refine hL2 (yl.set i.toNat v) (τ3 ++ [.cells 1 [[intA1 i]]]) _ _ ⟨by simp [h5], fun q h0 h1 => ?_⟩ (ALe_of ?_) (by simp [intA1, rowC, intsA])
            · rw [at0_setX yl v hi0 h0 (by omega)]
              have h7 := h6 q h0 h1
              by_cases hqi : q = i
              · rw [if_pos hqi, if_pos (by omega), hqi, hni]
              · rw [if_neg hqi, h7]
                by_cases hq : q < i
                · rw [if_pos hq, if_pos (by omega)]
                · rw [if_neg hq, if_neg (by omega)]
            · simp -implicitDefEqProofs only [go_sem, hρl]
        · rintro i yl τ3 hi ⟨h5, h6⟩ L2
          simp -implicitDefEqProofs only [go_sem]
          (repeat' (first|(refine g_s fun K hK=>?_)|(refine g_b ?_)|(refine g_r ?_)|(refine g_k ?_;simp only[thenQ,blockQ])|(refine g_e ?_;simp only[thenQ,blockQ,↓reduceIte,Nat.reduceEqDiff])|(refine g_c (fun h=>?_) (fun h=>?_)<;>(try simp only[go_sem] at h)<;>(try exact g_f))|((first|refine g_g ?_|refine g_U ?_|refine g_A ?_|refine g_W ?_);(try simp -implicitDefEqProofs only[go_sem]))|(with_reducible refine hK _ _ ?_;clear hK K)|(clear hK K;first|(with_reducible refine hK _ _ ?_;clear hK K)|(clear hK K;with_reducible refine hK _ _ ?_;clear hK K)|(clear hK K;clear hK K;with_reducible refine hK _ _ ?_;clear hK K))|(with_reducible refine splitB_intro (fun h=>?_) (fun h=>?_)<;>(try simp only[go_sem] at h)<;>(try exact g_f)<;>(try simp -implicitDefEqProofs only[go_sem]))|(with_reducible refine And.intro (fun h=>?_) (fun h=>?_)<;>(try simp only[go_sem] at h)<;>(try exact g_f))|(with_reducible refine And.intro ?_ ?_;· exact g_x)|(with_reducible intro h;(try simp only[go_sem] at h);(try exact g_f))))
          refine hJ2 _ _ ?_
          clear hJ2
          have hyn : yl = nextT n outs k u := by
            have h7 := (nextT_in hc hui hin hk0 (by omega)).len
            refine at0_ext (by omega) fun q h0 h1 => ?_
            rw [h6 q h0 (by omega), if_pos (by omega)]
          have hyll : y0.length = yl.length := by omega
          refine AWP_freezeT 12 (a := .own (σ.length + ρ.length) 1 0 y0.length y0.length) (es := yl.map rowC) (by simp [look]) (by simp [elemsA, st1, hyll]) ?_
          have hkil : killA (σ ++ (ρ ++ .cells 1 (yl.map rowC) :: τ3)) (.own (σ.length + ρ.length) 1 0 y0.length y0.length) = σ ++ (ρ ++ .dead :: τ3) := by simp [killA, ss1]
          rw [hkil, hyn, ← hρ]
          simp -implicitDefEqProofs only [go_sem]
          (repeat' (first|(refine g_s fun K hK=>?_)|(refine g_b ?_)|(refine g_r ?_)|(refine g_k ?_;simp only[thenQ,blockQ])|(refine g_e ?_;simp only[thenQ,blockQ,↓reduceIte,Nat.reduceEqDiff])|(refine g_c (fun h=>?_) (fun h=>?_)<;>(try simp only[go_sem] at h)<;>(try exact g_f))|((first|refine g_t ?_|refine g_G ?_|refine g_U ?_|refine g_A ?_|refine g_W ?_);(try simp -implicitDefEqProofs only[go_sem]))|(with_reducible refine hK _ _ ?_;clear hK K)|(clear hK K;first|(with_reducible refine hK _ _ ?_;clear hK K)|(clear hK K;with_reducible refine hK _ _ ?_;clear hK K)|(clear hK K;clear hK K;with_reducible refine hK _ _ ?_;clear hK K))|(with_reducible refine splitB_intro (fun h=>?_) (fun h=>?_)<;>(try simp only[go_sem] at h)<;>(try exact g_f)<;>(try simp -implicitDefEqProofs only[go_sem]))|(with_reducible refine And.intro (fun h=>?_) (fun h=>?_)<;>(try simp only[go_sem] at h)<;>(try exact g_f))|(with_reducible refine And.intro ?_ ?_;· exact g_x)|(with_reducible intro h;(try simp only[go_sem] at h);(try exact g_f))))
          refine hL (outs ++ [nextT n outs k u]) (τ ++ .dead :: .cells 1 [[intA1 k]] :: .cells 2 [trnC u] :: (τ2 ++ .dead :: τ3)) _ _ ⟨h3, fun s hs => ?_, by simp; omega⟩ (ALe_of ?_) ?_
          · rcases List.mem_append.1 hs with hs | hs
            · exact hin s hs
            · rw [List.mem_singleton.1 hs]
              exact nextT_in hc hui hin hk0 (by omega)
          · simp -implicitDefEqProofs only [go_sem]
          · simp [stC, rowsC, intA1, trnC, boolsA]
            omega
      · rintro k outs τ hk ⟨h3, hin, hol⟩ L
        rw [runF] at h3
        subst h3
        simp -implicitDefEqProofs only [go_sem]
        (repeat' (first|(refine g_s fun K hK=>?_)|(refine g_b ?_)|(refine g_r ?_)|(refine g_k ?_;simp only[thenQ,blockQ])|(refine g_e ?_;simp only[thenQ,blockQ,↓reduceIte,Nat.reduceEqDiff])|(refine g_c (fun h=>?_) (fun h=>?_)<;>(try simp only[go_sem] at h)<;>(try exact g_f))|((first|refine g_g ?_|refine g_U ?_|refine g_A ?_|refine g_W ?_);(try simp -implicitDefEqProofs only[go_sem]))|(with_reducible refine hK _ _ ?_;clear hK K)|(clear hK K;first|(with_reducible refine hK _ _ ?_;clear hK K)|(clear hK K;with_reducible refine hK _ _ ?_;clear hK K)|(clear hK K;clear hK K;with_reducible refine hK _ _ ?_;clear hK K))|(with_reducible refine splitB_intro (fun h=>?_) (fun h=>?_)<;>(try simp only[go_sem] at h)<;>(try exact g_f)<;>(try simp -implicitDefEqProofs only[go_sem]))|(with_reducible refine And.intro (fun h=>?_) (fun h=>?_)<;>(try simp only[go_sem] at h)<;>(try exact g_f))|(with_reducible refine And.intro ?_ ?_;· exact g_x)|(with_reducible intro h;(try simp only[go_sem] at h);(try exact g_f))))
        refine hJ _ _ ?_
        clear hJ
        (repeat' (first|(refine g_s fun K hK=>?_)|(refine g_b ?_)|(refine g_r ?_)|(refine g_k ?_;simp only[thenQ,blockQ])|(refine g_e ?_;simp only[thenQ,blockQ,↓reduceIte,Nat.reduceEqDiff])|(refine g_c (fun h=>?_) (fun h=>?_)<;>(try simp only[go_sem] at h)<;>(try exact g_f))|((first|refine g_g ?_|refine g_U ?_|refine g_A ?_|refine g_W ?_);(try simp -implicitDefEqProofs only[go_sem]))|(with_reducible refine hK _ _ ?_;clear hK K)|(clear hK K;first|(with_reducible refine hK _ _ ?_;clear hK K)|(clear hK K;with_reducible refine hK _ _ ?_;clear hK K)|(clear hK K;clear hK K;with_reducible refine hK _ _ ?_;clear hK K))|(with_reducible refine splitB_intro (fun h=>?_) (fun h=>?_)<;>(try simp only[go_sem] at h)<;>(try exact g_f)<;>(try simp -implicitDefEqProofs only[go_sem]))|(with_reducible refine And.intro (fun h=>?_) (fun h=>?_)<;>(try simp only[go_sem] at h)<;>(try exact g_f))|(with_reducible refine And.intro ?_ ?_;· exact g_x)|(with_reducible intro h;(try simp only[go_sem] at h);(try exact g_f))))
        have he : elemsA (σ ++ (.dead :: .dead :: .cells 1 [[.own (σ.length + (τ.length + 3)) 1 0 (runA n x t).length (runA n x t).length]] :: (τ ++ [.cells 1 ((runA n x t).map stC)]))) (.own (σ.length + (τ.length + 3)) 1 0 (runA n x t).length (runA n x t).length) = some ((runA n x t).map stC) := by
          simp -implicitDefEqProofs only [go_sem]
        refine AWP_freezeT 6 (a := .own (σ.length + (τ.length + 3)) 1 0 (runA n x t).length (runA n x t).length) (es := (runA n x t).map stC) (by simp [look]) he ?_
        have hkil : killA (σ ++ (.dead :: .dead :: .cells 1 [[.own (σ.length + (τ.length + 3)) 1 0 (runA n x t).length (runA n x t).length]] :: (τ ++ [.cells 1 ((runA n x t).map stC)]))) (.own (σ.length + (τ.length + 3)) 1 0 (runA n x t).length (runA n x t).length) = σ ++ (.dead :: .dead :: .cells 1 [[.own (σ.length + (τ.length + 3)) 1 0 (runA n x t).length (runA n x t).length]] :: (τ ++ [.dead])) := by simp [killA, ss1]
        rw [hkil]
        (repeat' (first|(refine g_s fun K hK=>?_)|(refine g_b ?_)|(refine g_r ?_)|(refine g_k ?_;simp only[thenQ,blockQ])|(refine g_e ?_;simp only[thenQ,blockQ,↓reduceIte,Nat.reduceEqDiff])|(refine g_c (fun h=>?_) (fun h=>?_)<;>(try simp only[go_sem] at h)<;>(try exact g_f))|((first|refine g_t ?_|refine g_g ?_|refine g_U ?_|refine g_A ?_|refine g_W ?_);(try simp -implicitDefEqProofs only[go_sem]))|(with_reducible refine hK _ _ ?_;clear hK K)|(clear hK K;first|(with_reducible refine hK _ _ ?_;clear hK K)|(clear hK K;with_reducible refine hK _ _ ?_;clear hK K)|(clear hK K;clear hK K;with_reducible refine hK _ _ ?_;clear hK K))|(with_reducible refine splitB_intro (fun h=>?_) (fun h=>?_)<;>(try simp only[go_sem] at h)<;>(try exact g_f)<;>(try simp -implicitDefEqProofs only[go_sem]))|(with_reducible refine And.intro (fun h=>?_) (fun h=>?_)<;>(try simp only[go_sem] at h)<;>(try exact g_f))|(with_reducible refine And.intro ?_ ?_;· exact g_x)|(with_reducible intro h;(try simp only[go_sem] at h);(try exact g_f))))
        refine CutQ_w rfl ?_ (.eq rfl)
        exact .tupL (.cons (.states _) (.cons (.c _) .nil))
    · rw [if_neg h1]
      refine ACalls_of_awp Try.func29 rfl Try.results29 ?_
      simp only [List.length_cons, List.length_nil, Try.ntmps29, Nat.reduceAdd, Nat.reduceSub, enterA]
      (repeat' (first|(refine g_s fun K hK=>?_)|(refine g_b ?_)|(refine g_r ?_)|(refine g_k ?_;simp only[thenQ,blockQ])|(refine g_e ?_;simp only[thenQ,blockQ,↓reduceIte,Nat.reduceEqDiff])|(refine g_c (fun h=>?_) (fun h=>?_)<;>(try simp only[go_sem] at h)<;>(try exact g_f))|((first|refine g_t ?_|refine g_g ?_|refine g_U ?_|refine g_A ?_|refine (hC _).use ?_|refine g_q (fun τ=>hC _) ?_|refine (hR _).use ?_|refine g_q (fun τ=>hR _) ?_|refine g_W ?_);(try simp -implicitDefEqProofs only[go_sem]))|(with_reducible refine hK _ _ ?_;clear hK K)|(clear hK K;first|(with_reducible refine hK _ _ ?_;clear hK K)|(clear hK K;with_reducible refine hK _ _ ?_;clear hK K)|(clear hK K;clear hK K;with_reducible refine hK _ _ ?_;clear hK K))|(with_reducible refine splitB_intro (fun h=>?_) (fun h=>?_)<;>(try simp only[go_sem] at h)<;>(try exact g_f)<;>(try simp -implicitDefEqProofs only[go_sem]))|(with_reducible refine And.intro (fun h=>?_) (fun h=>?_)<;>(try simp only[go_sem] at h)<;>(try exact g_f))|(with_reducible refine And.intro ?_ ?_;· exact g_x)|(with_reducible intro h;(try simp only[go_sem] at h);(try exact g_f))))
      refine CutQ_w rfl ?_ ?_
      · (repeat' (first | exact Bd.c _ | exact Bd.emp | exact BdL.nil | exact Bd.ints _ | refine Bd.aggL ?_ | refine Bd.tupL ?_ | refine BdL.cons ?_ ?_))
      · exact .tup (.cons .nil (.cons (.refl _) .nil))
  · have e : errT n x t = checkT n t := by rw [errT, if_pos h0]
    rw [runC, e, if_neg h0]
    refine ACalls_of_awp Try.func29 rfl Try.results29 ?_
    simp only [List.length_cons, List.length_nil, Try.ntmps29, Nat.reduceAdd, Nat.reduceSub, enterA]
    (repeat' (first|(refine g_s fun K hK=>?_)|(refine g_b ?_)|(refine g_r ?_)|(refine g_k ?_;simp only[thenQ,blockQ])|(refine g_e ?_;simp only[thenQ,blockQ,↓reduceIte,Nat.reduceEqDiff])|(refine g_c (fun h=>?_) (fun h=>?_)<;>(try simp only[go_sem] at h)<;>(try exact g_f))|((first|refine g_t ?_|refine g_g ?_|refine g_U ?_|refine g_A ?_|refine (hC _).use ?_|refine g_q (fun τ=>hC _) ?_|refine g_W ?_);(try simp -implicitDefEqProofs only[go_sem]))|(with_reducible refine hK _ _ ?_;clear hK K)|(clear hK K;first|(with_reducible refine hK _ _ ?_;clear hK K)|(clear hK K;with_reducible refine hK _ _ ?_;clear hK K)|(clear hK K;clear hK K;with_reducible refine hK _ _ ?_;clear hK K))|(with_reducible refine splitB_intro (fun h=>?_) (fun h=>?_)<;>(try simp only[go_sem] at h)<;>(try exact g_f)<;>(try simp -implicitDefEqProofs only[go_sem]))|(with_reducible refine And.intro (fun h=>?_) (fun h=>?_)<;>(try simp only[go_sem] at h)<;>(try exact g_f))|(with_reducible refine And.intro ?_ ?_;· exact g_x)|(with_reducible intro h;(try simp only[go_sem] at h);(try exact g_f))))
    refine CutQ_w rfl ?_ ?_
    · (repeat' (first | exact Bd.c _ | exact Bd.emp | exact BdL.nil | exact Bd.ints _ | refine Bd.aggL ?_ | refine Bd.tupL ?_ | refine BdL.cons ?_ ?_))
    · exact .tup (.cons .nil (.cons (.refl _) .nil))
end Go.Proofs.Ytephecognbbaoab
