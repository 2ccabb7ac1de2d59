/- Schedules, as the document runs them. -/
import Derived.Test.YtephecognbbaoabYd
import Derived.Test.YtephecognbbaoabYf
namespace Go.Proofs.Ytephecognbbaoab
open Go
set_option linter.all false
set_option maxRecDepth 100000
set_option maxHeartbeats 4000000

theorem has_val {n : Net} {u : Trn} (hu : TrnIn n u) {out : List (List (List Int))} (ho : ∀ s ∈ out, RowsIn n s) {k : Int} (hk : 0 ≤ k) (hk2 : k < out.length) {i j : Int} (hi : 0 ≤ i ∧ i < n.nodes) (hj : 0 ≤ j ∧ j < n.nodes) :
    ∀ v ∈ (ints n.nodes).map fun to => at2 (at0 out (usedA u k i to)) to j, 0 ≤ v ∧ v < n.alg.size := fun v hv => by
  obtain ⟨to, ht, rfl⟩ := List.mem_map.1 hv
  exact has_in hu ho hk hk2 hi (mem_ints.1 ht) hj

theorem foldl_same {X Y : Type} {f g : Y → X → Y} : ∀ (l : List X) (a : Y), (∀ b, ∀ x ∈ l, f b x = g b x) → l.foldl f a = l.foldl g a
  | [], _, _ => rfl
  | x :: r, a, h => by
    rw [List.foldl_cons, List.foldl_cons, h a x (by simp)]
    exact foldl_same r _ fun b y hy => h b y (by simp [hy])

theorem cell_routeT {n : Net} (hn : NetIn n) {u : Trn} {out : List (List (List Int))} {k i j : Int} (ha : at0 u.act i = true) : cellT n out k u i j = routeR n i j fun to => at0 ((ints n.nodes).map fun to => at2 (at0 out (usedA u k i to)) to j) to := by
  rw [cellT, if_pos ha]
  unfold routeR
  refine foldl_same _ _ fun o to hto => ?_
  have h := mem_ints.1 hto
  simp only [at0_ints_map _ h]

theorem runOf_calls (n : Net) (x : List (List Int)) (t : List Trn) (hc : checkN n = 0) (hx : RowsIn n x) (hl : n.links.length ≤ 5864062014634) (htl : t.length ≤ 200) (ht : ∀ u ∈ t, TrnIn n u) (σ : Store) :
    ACalls Try.prog 34 [.agg (netC n), rowsC x, trnsA t] σ fun r σ' => σ' = σ ∧ r = statesA (runA n x t) := by
  have hn := netIn_of hc
  have n1 := hn.n1
  have n6 := hn.n6
  have s2 := hn.alg.s2
  have s24 := hn.alg.s24
  refine ACalls.cutX ?_
  refine ACalls_of_awp Try.func34 rfl Try.results34 ?_
  simp only [List.length_cons, List.length_nil, Try.ntmps34, Nat.reduceAdd, Nat.reduceSub, enterA]
  refine AWP_seq_k fun K hK => ?_
  (refine AWP_region ?_; simp -implicitDefEqProofs only [go_sem])
  refine hK _ _ ?_; clear hK K
  refine AWP_freezeP 3 rfl (by simp only [st0]; rfl) ?_
  simp only [ss0, List.set_cons_zero]
  (repeat' (first|(refine g_s fun K hK=>?_)|(refine g_b ?_)|(refine g_r ?_)|(refine g_k ?_;simp only[thenQ,blockQ])|(refine g_e ?_;simp only[thenQ,blockQ,↓reduceIte,Nat.reduceEqDiff])|(refine g_c (fun h=>?_) (fun h=>?_)<;>(try simp only[go_sem] at h)<;>(try exact g_f))|((first|refine g_t ?_|refine g_g ?_|refine g_U ?_|refine g_A ?_|refine g_W ?_);(try simp -implicitDefEqProofs only[go_sem]))|(with_reducible refine hK _ _ ?_;clear hK K)|(clear hK K;first|(with_reducible refine hK _ _ ?_;clear hK K)|(clear hK K;with_reducible refine hK _ _ ?_;clear hK K)|(clear hK K;clear hK K;with_reducible refine hK _ _ ?_;clear hK K))|(with_reducible refine splitB_intro (fun h=>?_) (fun h=>?_)<;>(try simp only[go_sem] at h)<;>(try exact g_f)<;>(try simp -implicitDefEqProofs only[go_sem]))|(with_reducible refine And.intro (fun h=>?_) (fun h=>?_)<;>(try simp only[go_sem] at h)<;>(try exact g_f))|(with_reducible refine And.intro ?_ ?_;· exact g_x)|(with_reducible intro h;(try simp only[go_sem] at h);(try exact g_f))))
  have hJ := hK
  clear hK
  refine AWP_each t (fun k r outs => runF n k r outs = runA n x t ∧ (∀ s ∈ outs, RowsIn n s) ∧ (outs.length : Int) = k + 1) (fun k outs τ => [(8, intA1 (k + 1)), (7, .own (σ.length + (τ.length + 1)) 1 0 outs.length outs.length)])
    (fun _ outs τ => σ ++ (.dead :: (τ ++ [.cells 1 (outs.map stC)]))) [x] [] ⟨rfl, fun s hs => by rw [List.mem_singleton.1 hs]; exact hx, rfl⟩ ?_ (ALe_of ?_) ?_ ?_
  · simp [stC, rowsC]
  · simp -implicitDefEqProofs only [go_sem, Int.zero_add]
  · rintro k r outs τ hk0 hk1 ⟨h3, hin, hol⟩ L hL
    have hmem := at0_mem t hk0 hk1
    obtain ⟨u, hu⟩ : ∃ u, at0 t k = u := ⟨_, rfl⟩
    rw [hu] at h3 hmem
    have hui := ht u hmem
    have hkk : k + 1 - 1 = k := by omega
    have hg := fun (q : Int) (h0 : 0 ≤ q) (h1 : q < outs.length) => get_mapF stC outs (k := q) h0 h1
    have hgk := hg k hk0 (by omega)
    have hal := hui.act
    have hyin := hin _ (at0_mem outs hk0 (by omega))
    obtain ⟨y0, hy0⟩ : ∃ y, at0 outs k = y := ⟨_, rfl⟩
    rw [hy0] at hgk hyin
    have hyl := hyin.len
    obtain ⟨Y, hY⟩ : ∃ Y, nextT n outs k u = Y := ⟨_, rfl⟩
    have hYe := nextT_eq hc hui hin hk0 (by omega)
    have hYin := nextT_in hc hui hin hk0 (by omega)
    rw [hY] at hYe hYin
    obtain ⟨ρ0, hρ0⟩ : ∃ ρ0 : Store, .dead :: (τ ++ [.cells 1 (outs.map stC)]) = ρ0 := ⟨_, rfl⟩
    have ro : ∀ l, (ρ0 ++ l)[τ.length + 1]? = some (.cells 1 (outs.map stC)) := fun l => by
      rw [← hρ0]
      simp -implicitDefEqProofs only [go_sem]
    have hρl : ρ0.length = τ.length + 2 := by rw [← hρ0]; simp
    have hρl0 : τ.length + 1 < ρ0.length := by omega
    rw [hρ0]
    simp -implicitDefEqProofs only [go_sem]
    (repeat' (first|(refine g_s fun K hK=>?_)|(refine g_b ?_)|(refine g_r ?_)|(refine g_k ?_;simp only[thenQ,blockQ])|(refine g_e ?_;simp only[thenQ,blockQ,↓reduceIte,Nat.reduceEqDiff])|(refine g_c (fun h=>?_) (fun h=>?_)<;>(try simp only[go_sem] at h)<;>(try exact g_f))|((first|refine g_t ?_|refine g_G ?_|refine g_U ?_|refine g_A ?_|refine g_W ?_);(try simp -implicitDefEqProofs only[go_sem]))|(with_reducible refine hK _ _ ?_;clear hK K)|(clear hK K;first|(with_reducible refine hK _ _ ?_;clear hK K)|(clear hK K;with_reducible refine hK _ _ ?_;clear hK K)|(clear hK K;clear hK K;with_reducible refine hK _ _ ?_;clear hK K))|(with_reducible refine splitB_intro (fun h=>?_) (fun h=>?_)<;>(try simp only[go_sem] at h)<;>(try exact g_f)<;>(try simp -implicitDefEqProofs only[go_sem]))|(with_reducible refine And.intro (fun h=>?_) (fun h=>?_)<;>(try simp only[go_sem] at h)<;>(try exact g_f))|(with_reducible refine And.intro ?_ ?_;· exact g_x)|(with_reducible intro h;(try simp only[go_sem] at h);(try exact g_f))))
    refine AWP_pad ?_
    rw [List.append_assoc]
    have hJ2 := hK
    clear hK
    refine AWP_each (ints n.nodes) (fun i r acc => acc ++ r.map (fun i => (ints n.nodes).map fun j => cellT n outs k u i j) = Y) (fun i acc τ1 => [(10, intA1 i), (9, accV 1 (σ.length + (ρ0.length + τ1.length)) acc)]) (fun _ acc τ1 => σ ++ (ρ0 ++ (τ1 ++ [accO rowC 1 acc]))) [] [] (by rw [hYe]; rfl) ?_ (ALe_of ?_) ?_ ?_
    · simp [accO]
    · simp -implicitDefEqProofs only [go_sem, accV]
    · rintro i ri acc τ1 hi0 hi1 h4 L2 hL2
      rw [ints_length] at hi1
      rw [at0_ints hi0 (by omega), List.map_cons] at h4
      have hacl : acc.length + 1 ≤ 6 := by have := congrArg List.length h4; have := hYin.len; simp at *; omega
      obtain ⟨ρ1, hρ1⟩ : ∃ ρ1 : Store, ρ0 ++ (τ1 ++ [accO rowC 1 acc]) = ρ1 := ⟨_, rfl⟩
      have ro1 : ∀ l, (ρ1 ++ l)[τ.length + 1]? = some (.cells 1 (outs.map stC)) := fun l => by
        rw [← hρ1, List.append_assoc]
        exact ro _
      obtain ⟨a, ha⟩ : ∃ a, at0 u.act i = a := ⟨_, rfl⟩
      rw [hρ1]
      simp -implicitDefEqProofs only [go_sem]
      (repeat' (first|(refine g_s fun K hK=>?_)|(refine g_b ?_)|(refine g_r ?_)|(refine g_k ?_;simp only[thenQ,blockQ])|(refine g_e ?_;simp only[thenQ,blockQ,↓reduceIte,Nat.reduceEqDiff])|(refine g_c (fun h=>?_) (fun h=>?_)<;>(try simp only[go_sem] at h)<;>(try exact g_f))|((first|refine g_t ?_|refine g_G ?_|refine g_U ?_|refine g_A ?_|refine g_W ?_);(try simp -implicitDefEqProofs only[go_sem]))|(with_reducible refine hK _ _ ?_;clear hK K)|(clear hK K;first|(with_reducible refine hK _ _ ?_;clear hK K)|(clear hK K;with_reducible refine hK _ _ ?_;clear hK K)|(clear hK K;clear hK K;with_reducible refine hK _ _ ?_;clear hK K))|(with_reducible refine splitB_intro (fun h=>?_) (fun h=>?_)<;>(try simp only[go_sem] at h)<;>(try exact g_f)<;>(try simp -implicitDefEqProofs only[go_sem]))|(with_reducible refine And.intro (fun h=>?_) (fun h=>?_)<;>(try simp only[go_sem] at h)<;>(try exact g_f))|(with_reducible refine And.intro ?_ ?_;· exact g_x)|(with_reducible intro h;(try simp only[go_sem] at h);(try exact g_f))))
      refine AWP_pad ?_
      rw [List.append_assoc]
      have hJ3 := hK
      clear hK
      refine AWP_each (ints n.nodes) (fun j r row => row ++ r.map (fun j => cellT n outs k u i j) = (ints n.nodes).map fun j => cellT n outs k u i j) (fun j row τ2 => [(12, intA1 j), (11, accV 1 (σ.length + (ρ1.length + τ2.length)) row)]) (fun _ row τ2 => σ ++ (ρ1 ++ (τ2 ++ [accO intC 1 row]))) [] [] rfl ?_ (ALe_of ?_) ?_ ?_
      · simp [accO]
      · simp -implicitDefEqProofs only [go_sem, accV]
      · rintro j rj row τ2 hj0 hj1 h5 L3 hL3
        rw [ints_length] at hj1
        rw [at0_ints hj0 (by omega), List.map_cons] at h5
        have hrl : row.length + 1 ≤ 6 := by have := congrArg List.length h5; simp [ints_length] at this; omega
        have hrow := hyin.row _ (at0_mem y0 hi0 (by omega))
        have fin : ∀ (v : Int), cellT n outs k u i j = v → True := fun _ _ => trivial
        cases a
        · obtain ⟨v, hv⟩ : ∃ v, cellT n outs k u i j = v := ⟨_, rfl⟩
          have hv2 : at0 (at0 y0 i) j = v := by rw [← hv, cellT, ha, if_neg (by decide), hy0]; rfl
          rw [hv] at h5
          rcases row with _ | ⟨y, row⟩ <;> simp only [List.length_cons, List.length_nil] at hrl <;> simp -implicitDefEqProofs only [go_sem, accV, accO]
          all_goals (repeat' (first|(refine g_s fun K hK=>?_)|(refine g_b ?_)|(refine g_r ?_)|(refine g_k ?_;simp only[thenQ,blockQ])|(refine g_e ?_;simp only[thenQ,blockQ,↓reduceIte,Nat.reduceEqDiff])|(refine g_c (fun h=>?_) (fun h=>?_)<;>(try simp only[go_sem] at h)<;>(try exact g_f))|((first|refine g_t ?_|refine g_G ?_|refine g_U ?_|refine g_A ?_|refine g_W ?_);(try simp -implicitDefEqProofs only[go_sem,hkk, hu, ha, ro1, hy0, hv2]))|(with_reducible refine hK _ _ ?_;clear hK K)|(clear hK K;first|(with_reducible refine hK _ _ ?_;clear hK K)|(clear hK K;with_reducible refine hK _ _ ?_;clear hK K)|(clear hK K;clear hK K;with_reducible refine hK _ _ ?_;clear hK K))|(with_reducible refine splitB_intro (fun h=>?_) (fun h=>?_)<;>(try simp only[go_sem] at h)<;>(try exact g_f)<;>(try simp -implicitDefEqProofs only[go_sem,hkk, hu, ha, ro1, hy0, hv2]))|(with_reducible refine And.intro (fun h=>?_) (fun h=>?_)<;>(try simp only[go_sem] at h)<;>(try exact g_f))|(with_reducible refine And.intro ?_ ?_;· exact g_x)|(with_reducible intro h;(try simp only[go_sem] at h);(try exact g_f))))
          · refine hL3 [v] (τ2 ++ [.dead]) _ _ (by simpa using h5) (ALe_of ?_) ?_
            · simp -implicitDefEqProofs only [go_sem, accV]
            · simp [accO, intC, intA1]
          · refine hL3 (y :: row ++ [v]) (τ2 ++ [.dead]) _ _ (by simpa using h5) (ALe_of ?_) ?_
            · simp -implicitDefEqProofs only [go_sem, accV]
            · simp [accO, intC, intA1]
        · have hcr := cell_routeT hn (out := outs) (k := k) (j := j) ha
          obtain ⟨ρ2, hρ2⟩ : ∃ ρ2 : Store, ρ1 ++ (τ2 ++ [accO intC 1 row]) = ρ2 := ⟨_, rfl⟩
          have ro2 : ∀ l, (ρ2 ++ l)[τ.length + 1]? = some (.cells 1 (outs.map stC)) := fun l => by
            rw [← hρ2, List.append_assoc]
            exact ro1 _
          rw [hρ2]
          simp -implicitDefEqProofs only [go_sem]
          (repeat' (first|(refine g_s fun K hK=>?_)|(refine g_b ?_)|(refine g_r ?_)|(refine g_k ?_;simp only[thenQ,blockQ])|(refine g_e ?_;simp only[thenQ,blockQ,↓reduceIte,Nat.reduceEqDiff])|(refine g_c (fun h=>?_) (fun h=>?_)<;>(try simp only[go_sem] at h)<;>(try exact g_f))|((first|refine g_t ?_|refine g_G ?_|refine g_U ?_|refine g_A ?_|refine g_W ?_);(try simp -implicitDefEqProofs only[go_sem,hkk, hu, ha]))|(with_reducible refine hK _ _ ?_;clear hK K)|(clear hK K;first|(with_reducible refine hK _ _ ?_;clear hK K)|(clear hK K;with_reducible refine hK _ _ ?_;clear hK K)|(clear hK K;clear hK K;with_reducible refine hK _ _ ?_;clear hK K))|(with_reducible refine splitB_intro (fun h=>?_) (fun h=>?_)<;>(try simp only[go_sem] at h)<;>(try exact g_f)<;>(try simp -implicitDefEqProofs only[go_sem,hkk, hu, ha]))|(with_reducible refine And.intro (fun h=>?_) (fun h=>?_)<;>(try simp only[go_sem] at h)<;>(try exact g_f))|(with_reducible refine And.intro ?_ ?_;· exact g_x)|(with_reducible intro h;(try simp only[go_sem] at h);(try exact g_f))))
          refine AWP_pad ?_
          rw [List.append_assoc]
          have hJ4 := hK
          clear hK
          refine AWP_each (ints n.nodes) (fun to r has => has ++ r.map (fun to => at2 (at0 outs (usedA u k i to)) to j) = (ints n.nodes).map fun to => at2 (at0 outs (usedA u k i to)) to j) (fun to has τ3 => [(14, intA1 to), (13, accV 1 (σ.length + (ρ2.length + τ3.length)) has)]) (fun _ has τ3 => σ ++ (ρ2 ++ (τ3 ++ [accO intC 1 has]))) [] [] rfl ?_ (ALe_of ?_) ?_ ?_
          · simp [accO]
          · simp -implicitDefEqProofs only [go_sem, accV]
          · rintro to r3 has τ3 ht0 ht1 h6 L4 hL4
            rw [ints_length] at ht1
            rw [at0_ints ht0 (by omega), List.map_cons] at h6
            have hhl : has.length + 1 ≤ 6 := by have := congrArg List.length h6; simp [ints_length] at this; omega
            have hus := used_in hui hk0 (i := i) ⟨hi0, by omega⟩ (to := to) ⟨ht0, by omega⟩
            have hU := used_calls n u k i to hn hui hk0 (by omega) hi0 (by omega) ht0 (by omega)
            obtain ⟨s, hs⟩ : ∃ s, usedA u k i to = s := ⟨_, rfl⟩
            rw [hs] at hU hus h6
            have hzin := hin _ (at0_mem outs hus.1 (by omega))
            obtain ⟨z0, hz0⟩ : ∃ z, at0 outs s = z := ⟨_, rfl⟩
            rw [hz0] at hzin h6
            have hzl := hzin.len
            have hzr := hzin.row _ (at0_mem z0 ht0 (by omega))
            obtain ⟨v, hv⟩ : ∃ v, at2 z0 to j = v := ⟨_, rfl⟩
            have hv2 : at0 (at0 z0 to) j = v := hv
            rw [hv] at h6
            rcases has with _ | ⟨y, has⟩ <;> simp only [List.length_cons, List.length_nil] at hhl <;> simp -implicitDefEqProofs only [go_sem, accV, accO]
            all_goals (repeat' (first|(refine g_s fun K hK=>?_)|(refine g_b ?_)|(refine g_r ?_)|(refine g_k ?_;simp only[thenQ,blockQ])|(refine g_e ?_;simp only[thenQ,blockQ,↓reduceIte,Nat.reduceEqDiff])|(refine g_c (fun h=>?_) (fun h=>?_)<;>(try simp only[go_sem] at h)<;>(try exact g_f))|((first|refine g_t ?_|refine g_G ?_|refine g_U ?_|refine g_A ?_|refine (hU _).use ?_|refine g_q (fun τ=>hU _) ?_|refine g_W ?_);(try simp -implicitDefEqProofs only[go_sem,hkk, hu, ro2, hz0, hv2]))|(with_reducible refine hK _ _ ?_;clear hK K)|(clear hK K;first|(with_reducible refine hK _ _ ?_;clear hK K)|(clear hK K;with_reducible refine hK _ _ ?_;clear hK K)|(clear hK K;clear hK K;with_reducible refine hK _ _ ?_;clear hK K))|(with_reducible refine splitB_intro (fun h=>?_) (fun h=>?_)<;>(try simp only[go_sem] at h)<;>(try exact g_f)<;>(try simp -implicitDefEqProofs only[go_sem,hkk, hu, ro2, hz0, hv2]))|(with_reducible refine And.intro (fun h=>?_) (fun h=>?_)<;>(try simp only[go_sem] at h)<;>(try exact g_f))|(with_reducible refine And.intro ?_ ?_;· exact g_x)|(with_reducible intro h;(try simp only[go_sem] at h);(try exact g_f))))
            · refine hL4 [v] (τ3 ++ [.dead]) _ _ (by simpa using h6) (ALe_of ?_) ?_
              · simp -implicitDefEqProofs only [go_sem, accV]
              · simp [accO, intC, intA1]
            · refine hL4 (y :: has ++ [v]) (τ3 ++ [.dead]) _ _ (by simpa using h6) (ALe_of ?_) ?_
              · simp -implicitDefEqProofs only [go_sem, accV]
              · simp [accO, intC, intA1]
          · rintro to has τ3 ht h6 L4
            rw [ints_length] at ht
            rw [List.map_nil, List.append_nil] at h6
            simp -implicitDefEqProofs only [go_sem]
            (repeat' (first|(refine g_s fun K hK=>?_)|(refine g_b ?_)|(refine g_r ?_)|(refine g_k ?_;simp only[thenQ,blockQ])|(refine g_e ?_;simp only[thenQ,blockQ,↓reduceIte,Nat.reduceEqDiff])|(refine g_c (fun h=>?_) (fun h=>?_)<;>(try simp only[go_sem] at h)<;>(try exact g_f))|((first|refine g_g ?_|refine g_U ?_|refine g_A ?_|refine g_W ?_);(try simp -implicitDefEqProofs only[go_sem]))|(with_reducible refine hK _ _ ?_;clear hK K)|(clear hK K;first|(with_reducible refine hK _ _ ?_;clear hK K)|(clear hK K;with_reducible refine hK _ _ ?_;clear hK K)|(clear hK K;clear hK K;with_reducible refine hK _ _ ?_;clear hK K))|(with_reducible refine splitB_intro (fun h=>?_) (fun h=>?_)<;>(try simp only[go_sem] at h)<;>(try exact g_f)<;>(try simp -implicitDefEqProofs only[go_sem]))|(with_reducible refine And.intro (fun h=>?_) (fun h=>?_)<;>(try simp only[go_sem] at h)<;>(try exact g_f))|(with_reducible refine And.intro ?_ ?_;· exact g_x)|(with_reducible intro h;(try simp only[go_sem] at h);(try exact g_f))))
            refine hJ4 _ _ ?_
            clear hJ4
            have est : σ ++ (ρ2 ++ (τ3 ++ [accO intC 1 has])) = σ ++ ((ρ2 ++ τ3) ++ accO intC 1 has :: []) := by simp
            rw [est]
            refine AWP_freezeAcc 13 intC 1 has σ (ρ2 ++ τ3) [] (by simp [look]) ?_
            have hR := routeOf_calls n i j has hn hl (by rw [h6, List.length_map, ints_length]; omega) (by rw [h6]; exact has_val hui hin hk0 (by omega) ⟨hi0, by omega⟩ ⟨hj0, by omega⟩)
            have hcv : (routeR n i j fun q => at0 has q) = cellT n outs k u i j := by rw [hcr, h6]
            rw [hcv] at hR
            obtain ⟨v, hv⟩ : ∃ v, cellT n outs k u i j = v := ⟨_, rfl⟩
            rw [hv] at hR h5
            have est2 : σ ++ ((ρ2 ++ τ3) ++ [Ob.dead]) = σ ++ (ρ1 ++ (τ2 ++ accO intC 1 row :: (τ3 ++ [.dead]))) := by rw [← hρ2]; simp
            rw [est2]
            rcases row with _ | ⟨y, row⟩ <;> simp only [List.length_cons, List.length_nil] at hrl <;> simp -implicitDefEqProofs only [go_sem, accV, accO]
            all_goals (repeat' (first|(refine g_s fun K hK=>?_)|(refine g_b ?_)|(refine g_r ?_)|(refine g_k ?_;simp only[thenQ,blockQ])|(refine g_e ?_;simp only[thenQ,blockQ,↓reduceIte,Nat.reduceEqDiff])|(refine g_c (fun h=>?_) (fun h=>?_)<;>(try simp only[go_sem] at h)<;>(try exact g_f))|((first|refine g_t ?_|refine g_G ?_|refine g_U ?_|refine g_A ?_|refine (hR _).use ?_|refine g_q (fun τ=>hR _) ?_|refine g_W ?_);(try simp -implicitDefEqProofs only[go_sem]))|(with_reducible refine hK _ _ ?_;clear hK K)|(clear hK K;first|(with_reducible refine hK _ _ ?_;clear hK K)|(clear hK K;with_reducible refine hK _ _ ?_;clear hK K)|(clear hK K;clear hK K;with_reducible refine hK _ _ ?_;clear hK K))|(with_reducible refine splitB_intro (fun h=>?_) (fun h=>?_)<;>(try simp only[go_sem] at h)<;>(try exact g_f)<;>(try simp -implicitDefEqProofs only[go_sem]))|(with_reducible refine And.intro (fun h=>?_) (fun h=>?_)<;>(try simp only[go_sem] at h)<;>(try exact g_f))|(with_reducible refine And.intro ?_ ?_;· exact g_x)|(with_reducible intro h;(try simp only[go_sem] at h);(try exact g_f))))
            · refine hL3 [v] (τ2 ++ .dead :: (τ3 ++ [.dead])) _ _ (by simpa using h5) (ALe_of ?_) ?_
              · simp -implicitDefEqProofs only [go_sem, accV]
              · simp [accO, intC, intA1]
            · refine hL3 (y :: row ++ [v]) (τ2 ++ .dead :: (τ3 ++ [.dead])) _ _ (by simpa using h5) (ALe_of ?_) ?_
              · simp -implicitDefEqProofs only [go_sem, accV]
              · simp [accO, intC, intA1]
      · rintro j row τ2 hj h5 L3
        rw [ints_length] at hj
        rw [List.map_nil, List.append_nil] at h5
        simp -implicitDefEqProofs only [go_sem]
        (repeat' (first|(refine g_s fun K hK=>?_)|(refine g_b ?_)|(refine g_r ?_)|(refine g_k ?_;simp only[thenQ,blockQ])|(refine g_e ?_;simp only[thenQ,blockQ,↓reduceIte,Nat.reduceEqDiff])|(refine g_c (fun h=>?_) (fun h=>?_)<;>(try simp only[go_sem] at h)<;>(try exact g_f))|((first|refine g_g ?_|refine g_U ?_|refine g_A ?_|refine g_W ?_);(try simp -implicitDefEqProofs only[go_sem]))|(with_reducible refine hK _ _ ?_;clear hK K)|(clear hK K;first|(with_reducible refine hK _ _ ?_;clear hK K)|(clear hK K;with_reducible refine hK _ _ ?_;clear hK K)|(clear hK K;clear hK K;with_reducible refine hK _ _ ?_;clear hK K))|(with_reducible refine splitB_intro (fun h=>?_) (fun h=>?_)<;>(try simp only[go_sem] at h)<;>(try exact g_f)<;>(try simp -implicitDefEqProofs only[go_sem]))|(with_reducible refine And.intro (fun h=>?_) (fun h=>?_)<;>(try simp only[go_sem] at h)<;>(try exact g_f))|(with_reducible refine And.intro ?_ ?_;· exact g_x)|(with_reducible intro h;(try simp only[go_sem] at h);(try exact g_f))))
        refine hJ3 _ _ ?_
        clear hJ3
        have est : σ ++ (ρ1 ++ (τ2 ++ [accO intC 1 row])) = σ ++ ((ρ1 ++ τ2) ++ accO intC 1 row :: []) := by simp
        rw [est]
        refine AWP_freezeAcc 11 intC 1 row σ (ρ1 ++ τ2) [] (by simp [look]) ?_
        have est2 : σ ++ ((ρ1 ++ τ2) ++ [Ob.dead]) = σ ++ (ρ0 ++ (τ1 ++ accO rowC 1 acc :: (τ2 ++ [.dead]))) := by rw [← hρ1]; simp
        rw [est2]
        rw [← h5] at h4
        rcases acc with _ | ⟨y, acc⟩ <;> simp only [List.length_cons, List.length_nil] at hacl <;> simp -implicitDefEqProofs only [go_sem, accV, accO]
        all_goals (repeat' (first|(refine g_s fun K hK=>?_)|(refine g_b ?_)|(refine g_r ?_)|(refine g_k ?_;simp only[thenQ,blockQ])|(refine g_e ?_;simp only[thenQ,blockQ,↓reduceIte,Nat.reduceEqDiff])|(refine g_c (fun h=>?_) (fun h=>?_)<;>(try simp only[go_sem] at h)<;>(try exact g_f))|((first|refine g_t ?_|refine g_G ?_|refine g_U ?_|refine g_A ?_|refine g_W ?_);(try simp -implicitDefEqProofs only[go_sem]))|(with_reducible refine hK _ _ ?_;clear hK K)|(clear hK K;first|(with_reducible refine hK _ _ ?_;clear hK K)|(clear hK K;with_reducible refine hK _ _ ?_;clear hK K)|(clear hK K;clear hK K;with_reducible refine hK _ _ ?_;clear hK K))|(with_reducible refine splitB_intro (fun h=>?_) (fun h=>?_)<;>(try simp only[go_sem] at h)<;>(try exact g_f)<;>(try simp -implicitDefEqProofs only[go_sem]))|(with_reducible refine And.intro (fun h=>?_) (fun h=>?_)<;>(try simp only[go_sem] at h)<;>(try exact g_f))|(with_reducible refine And.intro ?_ ?_;· exact g_x)|(with_reducible intro h;(try simp only[go_sem] at h);(try exact g_f))))
        · refine hL2 [row] (τ1 ++ .dead :: (τ2 ++ [.dead])) _ _ (by simpa using h4) (ALe_of ?_) ?_
          · simp -implicitDefEqProofs only [go_sem, accV]
          · simp [accO, rowC, intsA]
        · refine hL2 (y :: acc ++ [row]) (τ1 ++ .dead :: (τ2 ++ [.dead])) _ _ (by simpa using h4) (ALe_of ?_) ?_
          · simp -implicitDefEqProofs only [go_sem, accV]
          · simp [accO, rowC, intsA]
    · rintro i acc τ1 hi h4 L2
      rw [ints_length] at hi
      rw [List.map_nil, List.append_nil] at h4
      subst h4
      simp -implicitDefEqProofs only [go_sem]
      (repeat' (first|(refine g_s fun K hK=>?_)|(refine g_b ?_)|(refine g_r ?_)|(refine g_k ?_;simp only[thenQ,blockQ])|(refine g_e ?_;simp only[thenQ,blockQ,↓reduceIte,Nat.reduceEqDiff])|(refine g_c (fun h=>?_) (fun h=>?_)<;>(try simp only[go_sem] at h)<;>(try exact g_f))|((first|refine g_g ?_|refine g_U ?_|refine g_A ?_|refine g_W ?_);(try simp -implicitDefEqProofs only[go_sem]))|(with_reducible refine hK _ _ ?_;clear hK K)|(clear hK K;first|(with_reducible refine hK _ _ ?_;clear hK K)|(clear hK K;with_reducible refine hK _ _ ?_;clear hK K)|(clear hK K;clear hK K;with_reducible refine hK _ _ ?_;clear hK K))|(with_reducible refine splitB_intro (fun h=>?_) (fun h=>?_)<;>(try simp only[go_sem] at h)<;>(try exact g_f)<;>(try simp -implicitDefEqProofs only[go_sem]))|(with_reducible refine And.intro (fun h=>?_) (fun h=>?_)<;>(try simp only[go_sem] at h)<;>(try exact g_f))|(with_reducible refine And.intro ?_ ?_;· exact g_x)|(with_reducible intro h;(try simp only[go_sem] at h);(try exact g_f))))
      refine hJ2 _ _ ?_
      clear hJ2
      have est : σ ++ (ρ0 ++ (τ1 ++ [accO rowC 1 acc])) = σ ++ ((ρ0 ++ τ1) ++ accO rowC 1 acc :: []) := by simp
      rw [est]
      refine AWP_freezeAcc 9 rowC 1 acc σ (ρ0 ++ τ1) [] (by simp [look]) ?_
      have est2 : σ ++ ((ρ0 ++ τ1) ++ [Ob.dead]) = σ ++ (.dead :: (τ ++ .cells 1 (outs.map stC) :: (τ1 ++ [.dead]))) := by rw [← hρ0]; simp
      rw [est2]
      (repeat' (first|(refine g_s fun K hK=>?_)|(refine g_b ?_)|(refine g_r ?_)|(refine g_k ?_;simp only[thenQ,blockQ])|(refine g_e ?_;simp only[thenQ,blockQ,↓reduceIte,Nat.reduceEqDiff])|(refine g_c (fun h=>?_) (fun h=>?_)<;>(try simp only[go_sem] at h)<;>(try exact g_f))|((first|refine g_t ?_|refine g_G ?_|refine g_U ?_|refine g_A ?_|refine g_W ?_);(try simp -implicitDefEqProofs only[go_sem]))|(with_reducible refine hK _ _ ?_;clear hK K)|(clear hK K;first|(with_reducible refine hK _ _ ?_;clear hK K)|(clear hK K;with_reducible refine hK _ _ ?_;clear hK K)|(clear hK K;clear hK K;with_reducible refine hK _ _ ?_;clear hK K))|(with_reducible refine splitB_intro (fun h=>?_) (fun h=>?_)<;>(try simp only[go_sem] at h)<;>(try exact g_f)<;>(try simp -implicitDefEqProofs only[go_sem]))|(with_reducible refine And.intro (fun h=>?_) (fun h=>?_)<;>(try simp only[go_sem] at h)<;>(try exact g_f))|(with_reducible refine And.intro ?_ ?_;· exact g_x)|(with_reducible intro h;(try simp only[go_sem] at h);(try exact g_f))))
      refine hL (outs ++ [acc]) (τ ++ .dead :: (τ1 ++ [.dead])) _ _ ⟨by rw [← hY] at *; exact h3, fun s hs => ?_, by simp; omega⟩ (ALe_of ?_) ?_
      · rcases List.mem_append.1 hs with hs | hs
        · exact hin s hs
        · rw [List.mem_singleton.1 hs]
          exact hYin
      · simp -implicitDefEqProofs only [go_sem]
      · simp [stC, rowsC]
  · rintro k outs τ hk ⟨h3, hin, hol⟩ L
    rw [runF] at h3
    subst h3
    simp -implicitDefEqProofs only [go_sem]
    (repeat' (first|(refine g_s fun K hK=>?_)|(refine g_b ?_)|(refine g_r ?_)|(refine g_k ?_;simp only[thenQ,blockQ])|(refine g_e ?_;simp only[thenQ,blockQ,↓reduceIte,Nat.reduceEqDiff])|(refine g_c (fun h=>?_) (fun h=>?_)<;>(try simp only[go_sem] at h)<;>(try exact g_f))|((first|refine g_g ?_|refine g_U ?_|refine g_A ?_|refine g_W ?_);(try simp -implicitDefEqProofs only[go_sem]))|(with_reducible refine hK _ _ ?_;clear hK K)|(clear hK K;first|(with_reducible refine hK _ _ ?_;clear hK K)|(clear hK K;with_reducible refine hK _ _ ?_;clear hK K)|(clear hK K;clear hK K;with_reducible refine hK _ _ ?_;clear hK K))|(with_reducible refine splitB_intro (fun h=>?_) (fun h=>?_)<;>(try simp only[go_sem] at h)<;>(try exact g_f)<;>(try simp -implicitDefEqProofs only[go_sem]))|(with_reducible refine And.intro (fun h=>?_) (fun h=>?_)<;>(try simp only[go_sem] at h)<;>(try exact g_f))|(with_reducible refine And.intro ?_ ?_;· exact g_x)|(with_reducible intro h;(try simp only[go_sem] at h);(try exact g_f))))
    refine hJ _ _ ?_
    clear hJ
    (repeat' (first|(refine g_s fun K hK=>?_)|(refine g_b ?_)|(refine g_r ?_)|(refine g_k ?_;simp only[thenQ,blockQ])|(refine g_e ?_;simp only[thenQ,blockQ,↓reduceIte,Nat.reduceEqDiff])|(refine g_c (fun h=>?_) (fun h=>?_)<;>(try simp only[go_sem] at h)<;>(try exact g_f))|((first|refine g_g ?_|refine g_U ?_|refine g_A ?_|refine g_W ?_);(try simp -implicitDefEqProofs only[go_sem]))|(with_reducible refine hK _ _ ?_;clear hK K)|(clear hK K;first|(with_reducible refine hK _ _ ?_;clear hK K)|(clear hK K;with_reducible refine hK _ _ ?_;clear hK K)|(clear hK K;clear hK K;with_reducible refine hK _ _ ?_;clear hK K))|(with_reducible refine splitB_intro (fun h=>?_) (fun h=>?_)<;>(try simp only[go_sem] at h)<;>(try exact g_f)<;>(try simp -implicitDefEqProofs only[go_sem]))|(with_reducible refine And.intro (fun h=>?_) (fun h=>?_)<;>(try simp only[go_sem] at h)<;>(try exact g_f))|(with_reducible refine And.intro ?_ ?_;· exact g_x)|(with_reducible intro h;(try simp only[go_sem] at h);(try exact g_f))))
    have he : elemsA (σ ++ (.dead :: (τ ++ [.cells 1 ((runA n x t).map stC)]))) (.own (σ.length + (τ.length + 1)) 1 0 (runA n x t).length (runA n x t).length) = some ((runA n x t).map stC) := by
      simp -implicitDefEqProofs only [go_sem]
    refine AWP_freezeT 6 (a := .own (σ.length + (τ.length + 1)) 1 0 (runA n x t).length (runA n x t).length) (es := (runA n x t).map stC) (by simp [look]) he ?_
    have hkil : killA (σ ++ (.dead :: (τ ++ [.cells 1 ((runA n x t).map stC)]))) (.own (σ.length + (τ.length + 1)) 1 0 (runA n x t).length (runA n x t).length) = σ ++ (.dead :: (τ ++ [.dead])) := by simp [killA, ss1]
    rw [hkil]
    (repeat' (first|(refine g_s fun K hK=>?_)|(refine g_b ?_)|(refine g_r ?_)|(refine g_k ?_;simp only[thenQ,blockQ])|(refine g_e ?_;simp only[thenQ,blockQ,↓reduceIte,Nat.reduceEqDiff])|(refine g_c (fun h=>?_) (fun h=>?_)<;>(try simp only[go_sem] at h)<;>(try exact g_f))|((first|refine g_t ?_|refine g_g ?_|refine g_U ?_|refine g_A ?_|refine g_W ?_);(try simp -implicitDefEqProofs only[go_sem]))|(with_reducible refine hK _ _ ?_;clear hK K)|(clear hK K;first|(with_reducible refine hK _ _ ?_;clear hK K)|(clear hK K;with_reducible refine hK _ _ ?_;clear hK K)|(clear hK K;clear hK K;with_reducible refine hK _ _ ?_;clear hK K))|(with_reducible refine splitB_intro (fun h=>?_) (fun h=>?_)<;>(try simp only[go_sem] at h)<;>(try exact g_f)<;>(try simp -implicitDefEqProofs only[go_sem]))|(with_reducible refine And.intro (fun h=>?_) (fun h=>?_)<;>(try simp only[go_sem] at h)<;>(try exact g_f))|(with_reducible refine And.intro ?_ ?_;· exact g_x)|(with_reducible intro h;(try simp only[go_sem] at h);(try exact g_f))))
    exact CutQ_w rfl (Bd.states _) (.eq rfl)
end Go.Proofs.Ytephecognbbaoab
