/- What a plan is built into, as the document tells it. -/
import Derived.Test.YtephecognbbaoaaBs
import Derived.Test.YtephecognbbaoaaBx
import Derived.Test.YtephecognbbaoaaBq
import Derived.Test.YtephecognbbaoaaBd
namespace Go.Proofs.Ytephecognbbaoaa
open Go
set_option linter.all false
set_option maxRecDepth 100000
set_option maxHeartbeats 4000000

theorem built_calls : ∀ (p : Pl), PlOk p → wideP p = false → ∀ σ : Store, ACalls Try.prog 70 [.agg (plC p)] σ fun r σ' => ∃ τ, σ' = σ ++ τ ∧ BuiltQ (σ ++ τ) σ.length r p := by
  refine Pl.ind fun k n e ps ih ok hw σ => ?_
  cases ok with
  | mk _ _ _ _ hk hn he hev hpl hp =>
  rw [wideP, Bool.or_eq_false_iff] at hw
  have he8 : e.length ≤ 8 := by have := of_decide_eq_false hw.1; omega
  have hwp : ∀ x ∈ ps, wideP x = false := by
    have h := hw.2
    clear hp hpl ih hw
    induction ps with
    | nil => intro x hx; cases hx
    | cons y r ihr =>
      rw [wideL, Bool.or_eq_false_iff] at h
      intro x hx
      rcases List.mem_cons.1 hx with rfl | hx
      · exact h.1
      · exact ihr h.2 x hx
  have ihC : ∀ x ∈ ps, ∀ S, ACalls Try.prog 70 [.agg (plC x)] S fun r S' => S' = S ∧ r = .tup [.agg (algC (resP x)), intA1 (checkP x)] := fun x hx S =>
    ACalls.deep ((ih x hx (hp x hx) (hwp x hx) S).mono (by
      rintro r S' ⟨τ, e, h⟩
      subst e
      exact DeepQ_of rfl (.tupL (.cons (.aggL (.cons (.c _) (.cons (.rows _) (.cons (.rows _) .nil)))) (.cons (.c _) .nil))) (builtQ_deep h fun b hb => hb)))
  obtain ⟨E, hE⟩ : ∃ E, checkP (.mk k n e ps) = E := ⟨_, rfl⟩
  have hE2 := hE
  rw [checkP] at hE2
  have bad : ∀ {S τ : Store}, E ≠ 0 → S = σ ++ τ → ∃ τ', S = σ ++ τ' ∧ BuiltQ (σ ++ τ') σ.length (.tup [.agg [intA1 0, .c (.slice none 0 0), .c (.slice none 0 0)], intA1 E]) (.mk k n e ps) := fun {S τ} h0 h1 =>
    ⟨τ, h1, _, by rw [hE], by rw [hE, if_neg h0]⟩
  rw [plC_mk]
  by_cases hone : k = 4 ∧ ps.length = 1
  · obtain ⟨rfl, hl1⟩ := hone
    obtain ⟨x, rfl⟩ : ∃ x, ps = [x] := by
      match ps, hl1 with
      | [x], _ => exact ⟨x, rfl⟩
    have h := built4_calls n e x (.mk _ _ _ _ hk hn he hev hpl hp) (by rw [wideP, Bool.or_eq_false_iff]; exact hw) (fun S => ih x (by simp) (hp x (by simp)) (hwp x (by simp)) S) σ
    rw [plC_mk] at h
    exact h
  · refine ACalls_of_awp Try.func70 rfl Try.results70 ?_
    simp only [List.length_cons, List.length_nil, Try.ntmps70, Nat.reduceAdd, Nat.reduceSub, enterA]
    refine AWP_seq_k fun K hK => ?_
    (refine AWP_region ?_; simp -implicitDefEqProofs only [go_sem])
    refine hK _ _ ?_; clear hK K
    refine AWP_freezeP 1 rfl (by simp only [st0]; rfl) ?_
    simp only [ss0, List.set_cons_zero]
    (repeat' (first|(refine g_s fun K hK=>?_)|(refine g_b ?_)|(refine g_r ?_)|(refine g_k ?_;simp only[thenQ,blockQ])|(refine g_e ?_;simp only[thenQ,blockQ,↓reduceIte,Nat.reduceEqDiff])|(refine g_c (fun h=>?_) (fun h=>?_)<;>(try simp only[go_sem] at h)<;>(try exact g_f))|((first|refine g_t ?_|refine g_G ?_|refine g_U ?_|refine g_A ?_|refine g_W ?_);(try simp -implicitDefEqProofs only[go_sem]))|(with_reducible refine hK _ _ ?_;clear hK K)|(clear hK K;first|(with_reducible refine hK _ _ ?_;clear hK K)|(clear hK K;with_reducible refine hK _ _ ?_;clear hK K)|(clear hK K;clear hK K;with_reducible refine hK _ _ ?_;clear hK K))|(with_reducible refine splitB_intro (fun h=>?_) (fun h=>?_)<;>(try simp only[go_sem] at h)<;>(try exact g_f)<;>(try simp -implicitDefEqProofs only[go_sem]))|(with_reducible refine And.intro (fun h=>?_) (fun h=>?_)<;>(try simp only[go_sem] at h)<;>(try exact g_f))|(with_reducible refine And.intro ?_ ?_;· exact g_x)|(with_reducible intro h;(try simp only[go_sem] at h);(try exact g_f))))
    refine AWP_pad ?_
    have hJ := hK
    clear hK
    refine AWP_each ps (fun _ r acc => checkL ps = checkL r ∧ acc ++ r.map buildP = ps.map buildP) (fun q acc τ => [(5, intA1 q), (4, accV 3 (σ.length + (τ.length + 2)) acc)]) (fun _ acc τ => σ ++ (.dead :: .cells 3 [[intA1 0, .c (.slice none 0 0), .c (.slice none 0 0)]] :: (τ ++ [accO algC 3 acc]))) [] [] ⟨rfl, rfl⟩ ?_ (ALe_of ?_) ?_ ?_
    · simp [accO, intA1]
    · simp -implicitDefEqProofs only [go_sem, accV, accO]
    · rintro q r acc τ hq0 hq1 ⟨h3, h4⟩ L hL
      have hmem := at0_mem ps hq0 hq1
      obtain ⟨x, hx⟩ : ∃ x, at0 ps q = x := ⟨_, rfl⟩
      rw [hx] at h3 h4 hmem
      have hal : acc.length + 1 ≤ ps.length := by have := congrArg List.length h4; simp at this; omega
      have ihx := ihC x hmem
      rw [checkL] at h3
      by_cases hc : checkP x = 0
      · rw [if_neg (not_not_intro hc)] at h3
        rw [resP, if_pos hc, hc] at ihx
        obtain ⟨A, hA⟩ : ∃ A, buildP x = A := ⟨_, rfl⟩
        rw [List.map_cons, hA] at h4
        rw [hA] at ihx
        obtain ⟨k', n', e', ps'⟩ := x
        rw [plC_mk] at ihx
        rcases acc with _ | ⟨w, acc⟩ <;> simp only [List.length_cons, List.length_nil] at hal <;> simp -implicitDefEqProofs only [go_sem, accV, accO]
        all_goals (repeat' (first|(refine g_s fun K hK=>?_)|(refine g_b ?_)|(refine g_r ?_)|(refine g_k ?_;simp only[thenQ,blockQ])|(refine g_e ?_;simp only[thenQ,blockQ,↓reduceIte,Nat.reduceEqDiff])|(refine g_c (fun h=>?_) (fun h=>?_)<;>(try simp only[go_sem] at h)<;>(try exact g_f))|((first|refine g_t ?_|refine g_G ?_|refine g_U ?_|refine g_A ?_|refine (ihx _).use ?_|refine g_q (fun τ=>ihx _) ?_|refine g_W ?_);(try simp -implicitDefEqProofs only[go_sem,hx]))|(with_reducible refine hK _ _ ?_;clear hK K)|(clear hK K;first|(with_reducible refine hK _ _ ?_;clear hK K)|(clear hK K;with_reducible refine hK _ _ ?_;clear hK K)|(clear hK K;clear hK K;with_reducible refine hK _ _ ?_;clear hK K))|(with_reducible refine splitB_intro (fun h=>?_) (fun h=>?_)<;>(try simp only[go_sem] at h)<;>(try exact g_f)<;>(try simp -implicitDefEqProofs only[go_sem,hx]))|(with_reducible refine And.intro (fun h=>?_) (fun h=>?_)<;>(try simp only[go_sem] at h)<;>(try exact g_f))|(with_reducible refine And.intro ?_ ?_;· exact g_x)|(with_reducible intro h;(try simp only[go_sem] at h);(try exact g_f))))
        · refine hL [A] (τ ++ [.dead, .cells 3 [algC A]]) _ _ ⟨h3, by simpa using h4⟩ (ALe_of ?_) ?_
          · simp -implicitDefEqProofs only [go_sem, accV]
          · simp [accO, algC, intA1, rowsC]
        · refine hL (w :: acc ++ [A]) (τ ++ [.dead, .cells 3 [algC A]]) _ _ ⟨h3, by simpa using h4⟩ (ALe_of ?_) ?_
          · simp -implicitDefEqProofs only [go_sem, accV]
          · simp [accO, algC, intA1, rowsC]
      · rw [if_pos hc] at h3
        have hE3 : E = checkP x := by
          rw [← hE2, h3, if_pos hc]
        have hE0 : E ≠ 0 := by rw [hE3]; exact hc
        rw [resP, if_neg hc, ← hE3] at ihx
        obtain ⟨k', n', e', ps'⟩ := x
        rw [plC_mk] at ihx
        simp -implicitDefEqProofs only [go_sem]
        (repeat' (first|(refine g_s fun K hK=>?_)|(refine g_b ?_)|(refine g_r ?_)|(refine g_k ?_;simp only[thenQ,blockQ])|(refine g_e ?_;simp only[thenQ,blockQ,↓reduceIte,Nat.reduceEqDiff])|(refine g_c (fun h=>?_) (fun h=>?_)<;>(try simp only[go_sem] at h)<;>(try exact g_f))|((first|refine g_t ?_|refine g_G ?_|refine g_U ?_|refine g_A ?_|refine (ihx _).use ?_|refine g_q (fun τ=>ihx _) ?_|refine g_W ?_);(try simp -implicitDefEqProofs only[go_sem,hx]))|(with_reducible refine hK _ _ ?_;clear hK K)|(clear hK K;first|(with_reducible refine hK _ _ ?_;clear hK K)|(clear hK K;with_reducible refine hK _ _ ?_;clear hK K)|(clear hK K;clear hK K;with_reducible refine hK _ _ ?_;clear hK K))|(with_reducible refine splitB_intro (fun h=>?_) (fun h=>?_)<;>(try simp only[go_sem] at h)<;>(try exact g_f)<;>(try simp -implicitDefEqProofs only[go_sem,hx]))|(with_reducible refine And.intro (fun h=>?_) (fun h=>?_)<;>(try simp only[go_sem] at h)<;>(try exact g_f))|(with_reducible refine And.intro ?_ ?_;· exact g_x)|(with_reducible intro h;(try simp only[go_sem] at h);(try exact g_f))))
        exact bad hE0 rfl
    · rintro q acc τ hq ⟨h3, h4⟩ L
      rw [List.map_nil, List.append_nil] at h4
      rw [checkL] at h3
      rw [h3, if_neg (by decide)] at hE2
      have hcx : ∀ x ∈ ps, checkP x = 0 := checkL_mem h3
      have hAl : acc.length = ps.length := by rw [h4, List.length_map]
      have hIB : (acc.length : Int) = ps.length := by rw [hAl]
      simp -implicitDefEqProofs only [go_sem]
      (repeat' (first|(refine g_s fun K hK=>?_)|(refine g_b ?_)|(refine g_r ?_)|(refine g_k ?_;simp only[thenQ,blockQ])|(refine g_e ?_;simp only[thenQ,blockQ,↓reduceIte,Nat.reduceEqDiff])|(refine g_c (fun h=>?_) (fun h=>?_)<;>(try simp only[go_sem] at h)<;>(try exact g_f))|((first|refine g_g ?_|refine g_U ?_|refine g_A ?_|refine g_W ?_);(try simp -implicitDefEqProofs only[go_sem]))|(with_reducible refine hK _ _ ?_;clear hK K)|(clear hK K;first|(with_reducible refine hK _ _ ?_;clear hK K)|(clear hK K;with_reducible refine hK _ _ ?_;clear hK K)|(clear hK K;clear hK K;with_reducible refine hK _ _ ?_;clear hK K))|(with_reducible refine splitB_intro (fun h=>?_) (fun h=>?_)<;>(try simp only[go_sem] at h)<;>(try exact g_f)<;>(try simp -implicitDefEqProofs only[go_sem]))|(with_reducible refine And.intro (fun h=>?_) (fun h=>?_)<;>(try simp only[go_sem] at h)<;>(try exact g_f))|(with_reducible refine And.intro ?_ ?_;· exact g_x)|(with_reducible intro h;(try simp only[go_sem] at h);(try exact g_f))))
      refine hJ _ _ ?_
      clear hJ
      have est : σ ++ (.dead :: Ob.cells 3 [[.c (.int .i64 0), .c (.slice none 0 0), .c (.slice none 0 0)]] :: (τ ++ [accO algC 3 acc])) = σ ++ ((.dead :: Ob.cells 3 [[.c (.int .i64 0), .c (.slice none 0 0), .c (.slice none 0 0)]] :: τ) ++ accO algC 3 acc :: []) := by simp
      rw [est]
      refine AWP_freezeAcc 4 algC 3 acc σ (.dead :: Ob.cells 3 [[.c (.int .i64 0), .c (.slice none 0 0), .c (.slice none 0 0)]] :: τ) [] (by simp [look, Nat.add_assoc]) ?_
      have est2 : σ ++ ((.dead :: Ob.cells 3 [[.c (.int .i64 0), .c (.slice none 0 0), .c (.slice none 0 0)]] :: τ) ++ [.dead]) = σ ++ (.dead :: Ob.cells 3 [[.c (.int .i64 0), .c (.slice none 0 0), .c (.slice none 0 0)]] :: (τ ++ [.dead])) := by simp
      rw [est2]
      obtain ⟨T, hT⟩ : ∃ T : Store, τ ++ [.dead] = T := ⟨_, rfl⟩
      rw [hT]
      unfold ownErr at hE2
      by_cases hk4 : inR k 1 4 = true
      · have hkr := inR_iff.1 hk4
        rw [hk4, if_neg (by decide)] at hE2
        by_cases hpn : (ps.length : Int) = partsN k
        · rw [if_neg (not_not_intro hpn)] at hE2
          have hk123 : k = 3 ∨ k = 1 ∨ k = 2 := by
            have h5 : k ≠ 4 := fun h4 => hone ⟨h4, by rw [h4] at hpn; have : partsN 4 = 1 := rfl; omega⟩
            omega
          rcases hk123 with rfl | hk12
          · rw [if_pos rfl] at hE2
            have hp2 : (ps.length : Int) = 2 := hpn
            obtain ⟨x, y, rfl⟩ : ∃ x y, ps = [x, y] := by
              match ps, hp2 with
              | [x, y], _ => exact ⟨x, y, rfl⟩
              | [], h => simp at h
              | [x], h => simp at h
              | x :: y :: z :: r, h => simp at h; omega
            have hox := build_ok x (hcx x (by simp))
            have hoy := build_ok y (hcx y (by simp))
            have hxs := hox.size
            have hys := hoy.size
            have hxe := hox.edges
            have hye := hoy.edges
            have hlx := edges_le x (hcx x (by simp)) (hwp x (by simp))
            rw [edgesL_map, sizeL_map] at hE2
            have e0 : at0 ([x, y].map edgesP) 0 = edgesP x := rfl
            have e1 : at0 ([x, y].map edgesP) 1 = edgesP y := rfl
            have s0 : at0 ([x, y].map sizeP) 0 = sizeP x := rfl
            have s1 : at0 ([x, y].map sizeP) 1 = sizeP y := rfl
            rw [e0, e1, s0, s1, ← hxs, ← hys, ← hxe, ← hye] at hE2
            have hPO := fun he h24 hel => pairOf_calls (buildP x) (buildP y) hox.form hoy.form he h24 hel
            have hB : buildP (.mk 3 n e [x, y]) = pairA (buildP x) (buildP y) := by rw [buildP, if_neg (by decide), if_neg (by decide), if_pos rfl, buildL_map]; rfl
            have h4 : acc = [buildP x, buildP y] := h4
            subst h4
            have fx := hox.form
            have fy := hoy.form
            obtain ⟨A, hA⟩ : ∃ A, buildP x = A := ⟨_, rfl⟩
            obtain ⟨B, hB2⟩ : ∃ B, buildP y = B := ⟨_, rfl⟩
            rw [hA] at hE2 hPO hB fx hxe hxs
            rw [hB2] at hE2 hPO hB fy
            rw [hA, hB2]
            have fx2 := fx.s2
            have fx24 := fx.s24
            have fy2 := fy.s2
            have fy24 := fy.s24
            have hNL := form_last fx fy
            have ha0 : at0 [A, B] 0 = A := rfl
            have ha1 : at0 [A, B] 1 = B := rfl
            have j1 : I64 (A.size - 1) := by unfold I64; omega
            have j2 : I64 (B.size - 1) := by unfold I64; omega
            have j3 : I64 ((A.size - 1) * (B.size - 1)) := by unfold I64; omega
            have j4 : I64 ((A.size - 1) * (B.size - 1) + 1) := by unfold I64; omega
            by_cases hn0 : n = 0
            · rw [if_neg (not_not_intro hn0)] at hE2
              by_cases hel : 0 < e.length
              · rw [if_pos hel] at hE2
                simp -implicitDefEqProofs only [go_sem]
                (repeat' (first|(refine g_s fun K hK=>?_)|(refine g_b ?_)|(refine g_r ?_)|(refine g_k ?_;simp only[thenQ,blockQ])|(refine g_e ?_;simp only[thenQ,blockQ,↓reduceIte,Nat.reduceEqDiff])|(refine g_c (fun h=>?_) (fun h=>?_)<;>(try simp only[go_sem] at h)<;>(try exact g_f))|((first|refine g_t ?_|refine g_g ?_|refine g_U ?_|refine g_A ?_|refine g_W ?_);(try simp -implicitDefEqProofs only[go_sem]))|(with_reducible refine hK _ _ ?_;clear hK K)|(clear hK K;first|(with_reducible refine hK _ _ ?_;clear hK K)|(clear hK K;with_reducible refine hK _ _ ?_;clear hK K)|(clear hK K;clear hK K;with_reducible refine hK _ _ ?_;clear hK K))|(with_reducible refine splitB_intro (fun h=>?_) (fun h=>?_)<;>(try simp only[go_sem] at h)<;>(try exact g_f)<;>(try simp -implicitDefEqProofs only[go_sem]))|(with_reducible refine And.intro (fun h=>?_) (fun h=>?_)<;>(try simp only[go_sem] at h)<;>(try exact g_f))|(with_reducible refine And.intro ?_ ?_;· exact g_x)|(with_reducible intro h;(try simp only[go_sem] at h);(try exact g_f))))
                subst hE2
                exact bad (by decide) rfl
              · rw [if_neg hel] at hE2
                by_cases hee : (A.edges.length : Int) = B.edges.length
                · rw [if_neg (not_not_intro hee)] at hE2
                  by_cases h24 : 24 < (A.size - 1) * (B.size - 1) + 1
                  · rw [if_pos h24] at hE2
                    simp -implicitDefEqProofs only [go_sem]
                    (repeat' (first|(refine g_s fun K hK=>?_)|(refine g_b ?_)|(refine g_r ?_)|(refine g_k ?_;simp only[thenQ,blockQ])|(refine g_e ?_;simp only[thenQ,blockQ,↓reduceIte,Nat.reduceEqDiff])|(refine g_c (fun h=>?_) (fun h=>?_)<;>(try simp only[go_sem] at h)<;>(try exact g_f))|((first|refine g_t ?_|refine g_g ?_|refine g_U ?_|refine g_A ?_|refine g_W ?_);(try simp -implicitDefEqProofs only[go_sem,ha0, ha1, j1, j2, j3, j4]))|(with_reducible refine hK _ _ ?_;clear hK K)|(clear hK K;first|(with_reducible refine hK _ _ ?_;clear hK K)|(clear hK K;with_reducible refine hK _ _ ?_;clear hK K)|(clear hK K;clear hK K;with_reducible refine hK _ _ ?_;clear hK K))|(with_reducible refine splitB_intro (fun h=>?_) (fun h=>?_)<;>(try simp only[go_sem] at h)<;>(try exact g_f)<;>(try simp -implicitDefEqProofs only[go_sem,ha0, ha1, j1, j2, j3, j4]))|(with_reducible refine And.intro (fun h=>?_) (fun h=>?_)<;>(try simp only[go_sem] at h)<;>(try exact g_f))|(with_reducible refine And.intro ?_ ?_;· exact g_x)|(with_reducible intro h;(try simp only[go_sem] at h);(try exact g_f))))
                    subst hE2
                    exact bad (by decide) rfl
                  · rw [if_neg h24] at hE2
                    have hPO := hPO (by omega) (by omega) (by omega)
                    simp -implicitDefEqProofs only [go_sem]
                    (repeat' (first|(refine g_s fun K hK=>?_)|(refine g_b ?_)|(refine g_r ?_)|(refine g_k ?_;simp only[thenQ,blockQ])|(refine g_e ?_;simp only[thenQ,blockQ,↓reduceIte,Nat.reduceEqDiff])|(refine g_c (fun h=>?_) (fun h=>?_)<;>(try simp only[go_sem] at h)<;>(try exact g_f))|((first|refine g_t ?_|refine g_G ?_|refine AWP_drawK 11 tab_mixed (by decide +kernel) ?_|refine AWP_drawK 13 tab_mixed (by decide +kernel) ?_|refine AWP_drawK 6 tab_mixed (by decide +kernel) ?_);(try simp -implicitDefEqProofs only[go_sem,ha0, ha1, j1, j2, j3, j4]))|(with_reducible refine hK _ _ ?_;clear hK K)|(clear hK K;first|(with_reducible refine hK _ _ ?_;clear hK K)|(clear hK K;with_reducible refine hK _ _ ?_;clear hK K)|(clear hK K;clear hK K;with_reducible refine hK _ _ ?_;clear hK K))|(with_reducible refine splitB_intro (fun h=>?_) (fun h=>?_)<;>(try simp only[go_sem] at h)<;>(try exact g_f)<;>(try simp -implicitDefEqProofs only[go_sem,ha0, ha1, j1, j2, j3, j4]))|(with_reducible refine And.intro (fun h=>?_) (fun h=>?_)<;>(try simp only[go_sem] at h)<;>(try exact g_f))|(with_reducible refine And.intro ?_ ?_;· exact g_x)|(with_reducible intro h;(try simp only[go_sem] at h);(try exact g_f))))
                    refine ACalls.useX (hPO _) ?_
                    rintro τ5 r ⟨ids, a, rfl, h⟩
                    rw [List.append_assoc] at h
                    subst hE2
                    rcases h.form with rfl | ⟨b, m, rfl⟩
                    all_goals simp -implicitDefEqProofs only [go_sem]
                    all_goals (repeat' (first|(refine g_s fun K hK=>?_)|(refine g_b ?_)|(refine g_r ?_)|(refine g_k ?_;simp only[thenQ,blockQ])|(refine g_e ?_;simp only[thenQ,blockQ,↓reduceIte,Nat.reduceEqDiff])|(refine g_c (fun h=>?_) (fun h=>?_)<;>(try simp only[go_sem] at h)<;>(try exact g_f))|((first|refine g_t ?_|refine g_g ?_|refine g_U ?_|refine g_A ?_|refine g_W ?_);(try simp -implicitDefEqProofs only[go_sem]))|(with_reducible refine hK _ _ ?_;clear hK K)|(clear hK K;first|(with_reducible refine hK _ _ ?_;clear hK K)|(clear hK K;with_reducible refine hK _ _ ?_;clear hK K)|(clear hK K;clear hK K;with_reducible refine hK _ _ ?_;clear hK K))|(with_reducible refine splitB_intro (fun h=>?_) (fun h=>?_)<;>(try simp only[go_sem] at h)<;>(try exact g_f)<;>(try simp -implicitDefEqProofs only[go_sem]))|(with_reducible refine And.intro (fun h=>?_) (fun h=>?_)<;>(try simp only[go_sem] at h)<;>(try exact g_f))|(with_reducible refine And.intro ?_ ?_;· exact g_x)|(with_reducible intro h;(try simp only[go_sem] at h);(try exact g_f))))
                    all_goals exact ⟨_, rfl, _, by rw [hE]; rfl, by rw [hE, if_pos rfl, hB]; exact ⟨ids, _, rfl, h.skip (k := 2) (by simp) rfl⟩⟩
                · rw [if_pos hee] at hE2
                  simp -implicitDefEqProofs only [go_sem]
                  (repeat' (first|(refine g_s fun K hK=>?_)|(refine g_b ?_)|(refine g_r ?_)|(refine g_k ?_;simp only[thenQ,blockQ])|(refine g_e ?_;simp only[thenQ,blockQ,↓reduceIte,Nat.reduceEqDiff])|(refine g_c (fun h=>?_) (fun h=>?_)<;>(try simp only[go_sem] at h)<;>(try exact g_f))|((first|refine g_t ?_|refine g_g ?_|refine g_U ?_|refine g_A ?_|refine g_W ?_);(try simp -implicitDefEqProofs only[go_sem,ha0, ha1]))|(with_reducible refine hK _ _ ?_;clear hK K)|(clear hK K;first|(with_reducible refine hK _ _ ?_;clear hK K)|(clear hK K;with_reducible refine hK _ _ ?_;clear hK K)|(clear hK K;clear hK K;with_reducible refine hK _ _ ?_;clear hK K))|(with_reducible refine splitB_intro (fun h=>?_) (fun h=>?_)<;>(try simp only[go_sem] at h)<;>(try exact g_f)<;>(try simp -implicitDefEqProofs only[go_sem,ha0, ha1]))|(with_reducible refine And.intro (fun h=>?_) (fun h=>?_)<;>(try simp only[go_sem] at h)<;>(try exact g_f))|(with_reducible refine And.intro ?_ ?_;· exact g_x)|(with_reducible intro h;(try simp only[go_sem] at h);(try exact g_f))))
                  subst hE2
                  exact bad (by decide) rfl
            · rw [if_pos hn0] at hE2
              simp -implicitDefEqProofs only [go_sem]
              (repeat' (first|(refine g_s fun K hK=>?_)|(refine g_b ?_)|(refine g_r ?_)|(refine g_k ?_;simp only[thenQ,blockQ])|(refine g_e ?_;simp only[thenQ,blockQ,↓reduceIte,Nat.reduceEqDiff])|(refine g_c (fun h=>?_) (fun h=>?_)<;>(try simp only[go_sem] at h)<;>(try exact g_f))|((first|refine g_t ?_|refine g_g ?_|refine g_U ?_|refine g_A ?_|refine g_W ?_);(try simp -implicitDefEqProofs only[go_sem]))|(with_reducible refine hK _ _ ?_;clear hK K)|(clear hK K;first|(with_reducible refine hK _ _ ?_;clear hK K)|(clear hK K;with_reducible refine hK _ _ ?_;clear hK K)|(clear hK K;clear hK K;with_reducible refine hK _ _ ?_;clear hK K))|(with_reducible refine splitB_intro (fun h=>?_) (fun h=>?_)<;>(try simp only[go_sem] at h)<;>(try exact g_f)<;>(try simp -implicitDefEqProofs only[go_sem]))|(with_reducible refine And.intro (fun h=>?_) (fun h=>?_)<;>(try simp only[go_sem] at h)<;>(try exact g_f))|(with_reducible refine And.intro ?_ ?_;· exact g_x)|(with_reducible intro h;(try simp only[go_sem] at h);(try exact g_f))))
              subst hE2
              exact bad (by decide) rfl
          · have hp0 : ps = [] := by
              have : partsN k = 0 := by rcases hk12 with rfl | rfl <;> rfl
              rw [this] at hpn
              exact List.eq_nil_of_length_eq_zero (by omega)
            subst hp0
            have h4 : acc = [] := h4
            subst h4
            rw [if_neg (by omega), if_neg (by omega)] at hE2
            simp -implicitDefEqProofs only [go_sem]
            refine AWP_seq_k fun K hK => ?_
            (refine AWP_region ?_; simp -implicitDefEqProofs only [go_sem])
            refine hK _ _ ?_; clear hK K
            refine AWP_seq_k fun K hK => ?_
            have hR : ∀ α, ALe α [(8, intA1 0), (4, .sl []), (1, .cp [intA1 k, intA1 n, intsA e, .sl []] 0), (2, .ptr (σ.length + 1) 3 0 0)] → K α (σ ++ (.dead :: Ob.cells 3 [[.c (.int .i64 0), .c (.slice none 0 0), .c (.slice none 0 0)]] :: T)) := by
              intro α ha
              refine hK _ _ (AWPr.weak ha ?_)
              clear ha hK
              by_cases hn22 : 1 ≤ n ∧ n ≤ 22
              · have hBn : ∀ S, ACalls Try.prog 58 [intA1 n, intA1 1, intA1 22] S fun r S' => S' = S ∧ r = .c (.bool true) := fun S => by
                  have := between_calls n 1 22 S
                  rwa [decide_eq_true hn22.1, decide_eq_true hn22.2, Bool.and_self] at this
                have hnr : inR n 1 22 = true := inR_iff.2 hn22
                rw [hnr, if_neg (by decide)] at hE2
                simp -implicitDefEqProofs only [go_sem]
                (repeat' (first|(refine g_s fun K hK=>?_)|(refine g_b ?_)|(refine g_r ?_)|(refine g_k ?_;simp only[thenQ,blockQ])|(refine g_e ?_;simp only[thenQ,blockQ,↓reduceIte,Nat.reduceEqDiff])|(refine g_c (fun h=>?_) (fun h=>?_)<;>(try simp only[go_sem] at h)<;>(try exact g_f))|((first|refine g_t ?_|refine g_g ?_|refine g_U ?_|refine g_A ?_|refine (hBn _).use ?_|refine g_q (fun τ=>hBn _) ?_|refine g_W ?_);(try simp -implicitDefEqProofs only[go_sem]))|(with_reducible refine hK _ _ ?_;clear hK K)|(clear hK K;first|(with_reducible refine hK _ _ ?_;clear hK K)|(clear hK K;with_reducible refine hK _ _ ?_;clear hK K)|(clear hK K;clear hK K;with_reducible refine hK _ _ ?_;clear hK K))|(with_reducible refine splitB_intro (fun h=>?_) (fun h=>?_)<;>(try simp only[go_sem] at h)<;>(try exact g_f)<;>(try simp -implicitDefEqProofs only[go_sem]))|(with_reducible refine And.intro (fun h=>?_) (fun h=>?_)<;>(try simp only[go_sem] at h)<;>(try exact g_f))|(with_reducible refine And.intro ?_ ?_;· exact g_x)|(with_reducible intro h;(try simp only[go_sem] at h);(try exact g_f))))
                have hJ := hK
                clear hK
                refine AWP_each e (fun _ r _ => (e.any fun x => !inR x 1 n) = r.any fun x => !inR x 1 n) (fun q _ _ => [(16, intA1 q)]) (fun _ _ _ => σ ++ (.dead :: .cells 3 [[.c (.int .i64 0), .c (.slice none 0 0), .c (.slice none 0 0)]] :: T)) () [] rfl rfl (ALe_of ?_) ?_ ?_
                · simp -implicitDefEqProofs only [go_sem]
                · rintro q9 r9 _ τ9 hq0 hq1 h5 L9 hL9
                  obtain ⟨v, hv⟩ : ∃ v, at0 e q9 = v := ⟨_, rfl⟩
                  rw [hv, List.any_cons] at h5
                  have hBx := fun S => between_calls v 1 n S
                  by_cases hin : 1 ≤ v ∧ v ≤ n
                  · rw [decide_eq_true hin.1, decide_eq_true hin.2, Bool.and_self] at hBx
                    have hir : inR v 1 n = true := inR_iff.2 hin
                    rw [hir] at h5
                    simp -implicitDefEqProofs only [go_sem]
                    (repeat' (first|(refine g_s fun K hK=>?_)|(refine g_b ?_)|(refine g_r ?_)|(refine g_k ?_;simp only[thenQ,blockQ])|(refine g_e ?_;simp only[thenQ,blockQ,↓reduceIte,Nat.reduceEqDiff])|(refine g_c (fun h=>?_) (fun h=>?_)<;>(try simp only[go_sem] at h)<;>(try exact g_f))|((first|refine g_t ?_|refine g_g ?_|refine g_U ?_|refine g_A ?_|refine (hBx _).use ?_|refine g_q (fun τ=>hBx _) ?_|refine g_W ?_);(try simp -implicitDefEqProofs only[go_sem,hv]))|(with_reducible refine hK _ _ ?_;clear hK K)|(clear hK K;first|(with_reducible refine hK _ _ ?_;clear hK K)|(clear hK K;with_reducible refine hK _ _ ?_;clear hK K)|(clear hK K;clear hK K;with_reducible refine hK _ _ ?_;clear hK K))|(with_reducible refine splitB_intro (fun h=>?_) (fun h=>?_)<;>(try simp only[go_sem] at h)<;>(try exact g_f)<;>(try simp -implicitDefEqProofs only[go_sem,hv]))|(with_reducible refine And.intro (fun h=>?_) (fun h=>?_)<;>(try simp only[go_sem] at h)<;>(try exact g_f))|(with_reducible refine And.intro ?_ ?_;· exact g_x)|(with_reducible intro h;(try simp only[go_sem] at h);(try exact g_f))))
                    refine hL9 () [] _ _ h5 (ALe_of ?_) rfl
                    simp -implicitDefEqProofs only [go_sem]
                  · have hBv : (decide (1 ≤ v) && decide (v ≤ n)) = false := by simp; omega
                    rw [hBv] at hBx
                    have hir : inR v 1 n = false := by rw [← Bool.not_eq_true, inR_iff]; exact hin
                    rw [hir] at h5
                    rw [h5, if_pos (by rfl)] at hE2
                    simp -implicitDefEqProofs only [go_sem]
                    (repeat' (first|(refine g_s fun K hK=>?_)|(refine g_b ?_)|(refine g_r ?_)|(refine g_k ?_;simp only[thenQ,blockQ])|(refine g_e ?_;simp only[thenQ,blockQ,↓reduceIte,Nat.reduceEqDiff])|(refine g_c (fun h=>?_) (fun h=>?_)<;>(try simp only[go_sem] at h)<;>(try exact g_f))|((first|refine g_t ?_|refine g_g ?_|refine g_U ?_|refine g_A ?_|refine (hBx _).use ?_|refine g_q (fun τ=>hBx _) ?_|refine g_W ?_);(try simp -implicitDefEqProofs only[go_sem,hv]))|(with_reducible refine hK _ _ ?_;clear hK K)|(clear hK K;first|(with_reducible refine hK _ _ ?_;clear hK K)|(clear hK K;with_reducible refine hK _ _ ?_;clear hK K)|(clear hK K;clear hK K;with_reducible refine hK _ _ ?_;clear hK K))|(with_reducible refine splitB_intro (fun h=>?_) (fun h=>?_)<;>(try simp only[go_sem] at h)<;>(try exact g_f)<;>(try simp -implicitDefEqProofs only[go_sem,hv]))|(with_reducible refine And.intro (fun h=>?_) (fun h=>?_)<;>(try simp only[go_sem] at h)<;>(try exact g_f))|(with_reducible refine And.intro ?_ ?_;· exact g_x)|(with_reducible intro h;(try simp only[go_sem] at h);(try exact g_f))))
                    subst hE2
                    exact bad (by decide) rfl
                · rintro q9 _ τ9 hq h5 L9
                  have h5 : (e.any fun x => !inR x 1 n) = false := h5
                  have h5e := h5
                  rw [h5, if_neg (by decide)] at hE2
                  have i2 : I64 (n + 2) := by unfold I64; omega
                  simp -implicitDefEqProofs only [go_sem]
                  (repeat' (first|(refine g_s fun K hK=>?_)|(refine g_b ?_)|(refine g_r ?_)|(refine g_k ?_;simp only[thenQ,blockQ])|(refine g_e ?_;simp only[thenQ,blockQ,↓reduceIte,Nat.reduceEqDiff])|(refine g_c (fun h=>?_) (fun h=>?_)<;>(try simp only[go_sem] at h)<;>(try exact g_f))|((first|refine g_g ?_|refine g_U ?_|refine g_A ?_|refine g_W ?_);(try simp -implicitDefEqProofs only[go_sem]))|(with_reducible refine hK _ _ ?_;clear hK K)|(clear hK K;first|(with_reducible refine hK _ _ ?_;clear hK K)|(clear hK K;with_reducible refine hK _ _ ?_;clear hK K)|(clear hK K;clear hK K;with_reducible refine hK _ _ ?_;clear hK K))|(with_reducible refine splitB_intro (fun h=>?_) (fun h=>?_)<;>(try simp only[go_sem] at h)<;>(try exact g_f)<;>(try simp -implicitDefEqProofs only[go_sem]))|(with_reducible refine And.intro (fun h=>?_) (fun h=>?_)<;>(try simp only[go_sem] at h)<;>(try exact g_f))|(with_reducible refine And.intro ?_ ?_;· exact g_x)|(with_reducible intro h;(try simp only[go_sem] at h);(try exact g_f))))
                  refine hJ _ _ ?_
                  clear hJ
                  (repeat' (first|(refine g_s fun K hK=>?_)|(refine g_b ?_)|(refine g_r ?_)|(refine g_k ?_;simp only[thenQ,blockQ])|(refine g_e ?_;simp only[thenQ,blockQ,↓reduceIte,Nat.reduceEqDiff])|(refine g_c (fun h=>?_) (fun h=>?_)<;>(try simp only[go_sem] at h)<;>(try exact g_f))|((first|refine g_t ?_|refine g_g ?_|refine g_U ?_|refine g_A ?_|refine g_W ?_);(try simp -implicitDefEqProofs only[go_sem,i2]))|(with_reducible refine hK _ _ ?_;clear hK K)|(clear hK K;first|(with_reducible refine hK _ _ ?_;clear hK K)|(clear hK K;with_reducible refine hK _ _ ?_;clear hK K)|(clear hK K;clear hK K;with_reducible refine hK _ _ ?_;clear hK K))|(with_reducible refine splitB_intro (fun h=>?_) (fun h=>?_)<;>(try simp only[go_sem] at h)<;>(try exact g_f)<;>(try simp -implicitDefEqProofs only[go_sem,i2]))|(with_reducible refine And.intro (fun h=>?_) (fun h=>?_)<;>(try simp only[go_sem] at h)<;>(try exact g_f))|(with_reducible refine And.intro ?_ ?_;· exact g_x)|(with_reducible intro h;(try simp only[go_sem] at h);(try exact g_f))))
                  refine AWP_pad ?_
                  have hJ := hK
                  clear hK
                  have hcase : ∃ f : Int → Int → Int, buildP (.mk k n e []) = simpleA n e f ∧ ((k = 1 ∧ f = fun x a => a + x) ∨ (k = 2 ∧ f = fun x a => max a x)) := by
                    rcases hk12 with rfl | rfl
                    · exact ⟨_, by rw [buildP, if_pos rfl], .inl ⟨rfl, rfl⟩⟩
                    · exact ⟨_, by rw [buildP, if_neg (by decide), if_pos rfl], .inr ⟨rfl, rfl⟩⟩
                  obtain ⟨f, hB, hf⟩ := hcase
                  obtain ⟨s, hs⟩ : ∃ s, n + 2 = s := ⟨_, rfl⟩
                  have hBs : (simpleA n e f).best = (ints s).map fun i => (ints s).map fun k => min i k := by rw [← hs]; rfl
                  have hEs : (simpleA n e f).edges = e.map fun x => (ints s).map fun k => if k = n + 1 then k else min (f x k) (n + 1) := by rw [← hs]; rfl
                  have hSz : (simpleA n e f).size = s := hs
                  obtain ⟨Bst, hBst⟩ : ∃ b, (simpleA n e f).best = b := ⟨_, rfl⟩
                  obtain ⟨Est, hEst⟩ : ∃ b, (simpleA n e f).edges = b := ⟨_, rfl⟩
                  rw [hBst] at hBs
                  rw [hEst] at hEs
                  rw [hs] at i2 ⊢
                  obtain ⟨ρ, hρ⟩ : ∃ ρ : Store, σ ++ (.dead :: Ob.cells 3 [[.c (.int .i64 0), .c (.slice none 0 0), .c (.slice none 0 0)]] :: T) = ρ := ⟨_, rfl⟩
                  have hlen : σ.length + (T.length + 2) = ρ.length := by rw [← hρ]; simp
                  refine AWP_each (ints s) (fun i r acc => acc ++ r.map (fun i => (ints s).map fun k => min i k) = Bst) (fun i _ _ => [(18, intA1 i), (17, .ptr ρ.length 3 0 0)])
                    (fun _ acc τ2 => ρ ++ (.cells 3 [[intA1 s, accV 1 (ρ.length + (τ2.length + 1)) acc, .c (.slice none 0 0)]] :: (τ2 ++ [accO rowC 1 acc]))) [] [] hBs.symm ?_ (ALe_of ?_) ?_ ?_
                  · rw [← hρ]
                    simp [accV, accO, intA1]
                  · simp -implicitDefEqProofs only [go_sem, hlen]
                  · rintro i r acc τ2 hi0 hi1 h5 L3 hL3
                    rw [ints_length] at hi1
                    have hiL : i < s := by omega
                    rw [at0_intsX hi0 (by omega), List.map_cons] at h5
                    have hal : acc.length + 1 ≤ 24 := by have := congrArg List.length h5; have := congrArg List.length hBs; simp [ints_length] at *; omega
                    simp -implicitDefEqProofs only [go_sem]
                    (repeat' (first|(refine g_s fun K hK=>?_)|(refine g_b ?_)|(refine g_r ?_)|(refine g_k ?_;simp only[thenQ,blockQ])|(refine g_e ?_;simp only[thenQ,blockQ,↓reduceIte,Nat.reduceEqDiff])|(refine g_c (fun h=>?_) (fun h=>?_)<;>(try simp only[go_sem] at h)<;>(try exact g_f))|((first|refine g_t ?_|refine g_G ?_|refine g_U ?_|refine g_A ?_|refine g_W ?_);(try simp -implicitDefEqProofs only[go_sem]))|(with_reducible refine hK _ _ ?_;clear hK K)|(clear hK K;first|(with_reducible refine hK _ _ ?_;clear hK K)|(clear hK K;with_reducible refine hK _ _ ?_;clear hK K)|(clear hK K;clear hK K;with_reducible refine hK _ _ ?_;clear hK K))|(with_reducible refine splitB_intro (fun h=>?_) (fun h=>?_)<;>(try simp only[go_sem] at h)<;>(try exact g_f)<;>(try simp -implicitDefEqProofs only[go_sem]))|(with_reducible refine And.intro (fun h=>?_) (fun h=>?_)<;>(try simp only[go_sem] at h)<;>(try exact g_f))|(with_reducible refine And.intro ?_ ?_;· exact g_x)|(with_reducible intro h;(try simp only[go_sem] at h);(try exact g_f))))
                    refine AWP_pad ?_
                    have hJ2 := hK
                    clear hK
                    obtain ⟨ca, hca⟩ : ∃ ca, accV 1 (ρ.length + (τ2.length + 1)) acc = ca := ⟨_, rfl⟩
                    obtain ⟨oa, hoa⟩ : ∃ oa, accO rowC 1 acc = oa := ⟨_, rfl⟩
                    rw [hca, hoa]
                    refine AWP_each (ints s) (fun j r row => row ++ r.map (fun k => min i k) = (ints s).map fun k => min i k) (fun j row τ3 => [(20, intA1 j), (19, accV 1 (ρ.length + (τ2.length + (τ3.length + 2))) row)])
                      (fun _ row τ3 => ρ ++ (.cells 3 [[intA1 s, ca, .c (.slice none 0 0)]] :: (τ2 ++ oa :: (τ3 ++ [accO intC 1 row])))) [] [] rfl ?_ (ALe_of ?_) ?_ ?_
                    · simp [accO, intA1]
                    · simp -implicitDefEqProofs only [go_sem, accV, accO]
                    · rintro j r2 row τ3 hj0 hj1 h4 L2 hL2
                      rw [ints_length] at hj1
                      have hjL : j < s := by omega
                      rw [at0_intsX hj0 (by omega), List.map_cons] at h4
                      have hrl : row.length + 1 ≤ 24 := by have := congrArg List.length h4; simp [ints_length] at this; omega
                      by_cases c1 : j < i
                      · have hv : min i j = j := by omega
                        rw [hv] at h4
                        rcases row with _ | ⟨w, row⟩ <;> simp only [List.length_cons, List.length_nil] at hrl <;> simp -implicitDefEqProofs only [go_sem, accV, accO]
                        all_goals (repeat' (first|(refine g_s fun K hK=>?_)|(refine g_b ?_)|(refine g_r ?_)|(refine g_k ?_;simp only[thenQ,blockQ])|(refine g_e ?_;simp only[thenQ,blockQ,↓reduceIte,Nat.reduceEqDiff])|(refine g_c (fun h=>?_) (fun h=>?_)<;>(try simp only[go_sem] at h)<;>(try exact g_f))|((first|refine g_t ?_|refine g_G ?_|refine g_U ?_|refine g_A ?_|refine g_W ?_);(try simp -implicitDefEqProofs only[go_sem]))|(with_reducible refine hK _ _ ?_;clear hK K)|(clear hK K;first|(with_reducible refine hK _ _ ?_;clear hK K)|(clear hK K;with_reducible refine hK _ _ ?_;clear hK K)|(clear hK K;clear hK K;with_reducible refine hK _ _ ?_;clear hK K))|(with_reducible refine splitB_intro (fun h=>?_) (fun h=>?_)<;>(try simp only[go_sem] at h)<;>(try exact g_f)<;>(try simp -implicitDefEqProofs only[go_sem]))|(with_reducible refine And.intro (fun h=>?_) (fun h=>?_)<;>(try simp only[go_sem] at h)<;>(try exact g_f))|(with_reducible refine And.intro ?_ ?_;· exact g_x)|(with_reducible intro h;(try simp only[go_sem] at h);(try exact g_f))))
                        · refine hL2 [j] (τ3 ++ [.dead]) _ _ (by simpa using h4) (ALe_of ?_) ?_
                          · simp -implicitDefEqProofs only [go_sem, accV]
                          · simp [accO, intC, intA1]
                        · refine hL2 (w :: row ++ [j]) (τ3 ++ [.dead]) _ _ (by simpa using h4) (ALe_of ?_) ?_
                          · simp -implicitDefEqProofs only [go_sem, accV]
                          · simp [accO, intC, intA1]
                      · have hv : min i j = i := by omega
                        rw [hv] at h4
                        rcases row with _ | ⟨w, row⟩ <;> simp only [List.length_cons, List.length_nil] at hrl <;> simp -implicitDefEqProofs only [go_sem, accV, accO]
                        all_goals (repeat' (first|(refine g_s fun K hK=>?_)|(refine g_b ?_)|(refine g_r ?_)|(refine g_k ?_;simp only[thenQ,blockQ])|(refine g_e ?_;simp only[thenQ,blockQ,↓reduceIte,Nat.reduceEqDiff])|(refine g_c (fun h=>?_) (fun h=>?_)<;>(try simp only[go_sem] at h)<;>(try exact g_f))|((first|refine g_t ?_|refine g_G ?_|refine g_U ?_|refine g_A ?_|refine g_W ?_);(try simp -implicitDefEqProofs only[go_sem]))|(with_reducible refine hK _ _ ?_;clear hK K)|(clear hK K;first|(with_reducible refine hK _ _ ?_;clear hK K)|(clear hK K;with_reducible refine hK _ _ ?_;clear hK K)|(clear hK K;clear hK K;with_reducible refine hK _ _ ?_;clear hK K))|(with_reducible refine splitB_intro (fun h=>?_) (fun h=>?_)<;>(try simp only[go_sem] at h)<;>(try exact g_f)<;>(try simp -implicitDefEqProofs only[go_sem]))|(with_reducible refine And.intro (fun h=>?_) (fun h=>?_)<;>(try simp only[go_sem] at h)<;>(try exact g_f))|(with_reducible refine And.intro ?_ ?_;· exact g_x)|(with_reducible intro h;(try simp only[go_sem] at h);(try exact g_f))))
                        · refine hL2 [i] (τ3 ++ [.dead]) _ _ (by simpa using h4) (ALe_of ?_) ?_
                          · simp -implicitDefEqProofs only [go_sem, accV]
                          · simp [accO, intC, intA1]
                        · refine hL2 (w :: row ++ [i]) (τ3 ++ [.dead]) _ _ (by simpa using h4) (ALe_of ?_) ?_
                          · simp -implicitDefEqProofs only [go_sem, accV]
                          · simp [accO, intC, intA1]
                    · rintro j row τ3 hj h4 L2
                      rw [ints_length] at hj
                      rw [List.map_nil, List.append_nil] at h4
                      simp -implicitDefEqProofs only [go_sem]
                      (repeat' (first|(refine g_s fun K hK=>?_)|(refine g_b ?_)|(refine g_r ?_)|(refine g_k ?_;simp only[thenQ,blockQ])|(refine g_e ?_;simp only[thenQ,blockQ,↓reduceIte,Nat.reduceEqDiff])|(refine g_c (fun h=>?_) (fun h=>?_)<;>(try simp only[go_sem] at h)<;>(try exact g_f))|((first|refine g_g ?_|refine g_U ?_|refine g_A ?_|refine g_W ?_);(try simp -implicitDefEqProofs only[go_sem]))|(with_reducible refine hK _ _ ?_;clear hK K)|(clear hK K;first|(with_reducible refine hK _ _ ?_;clear hK K)|(clear hK K;with_reducible refine hK _ _ ?_;clear hK K)|(clear hK K;clear hK K;with_reducible refine hK _ _ ?_;clear hK K))|(with_reducible refine splitB_intro (fun h=>?_) (fun h=>?_)<;>(try simp only[go_sem] at h)<;>(try exact g_f)<;>(try simp -implicitDefEqProofs only[go_sem]))|(with_reducible refine And.intro (fun h=>?_) (fun h=>?_)<;>(try simp only[go_sem] at h)<;>(try exact g_f))|(with_reducible refine And.intro ?_ ?_;· exact g_x)|(with_reducible intro h;(try simp only[go_sem] at h);(try exact g_f))))
                      refine hJ2 _ _ ?_
                      clear hJ2
                      have est : ρ ++ (Ob.cells 3 [[.c (.int .i64 s), ca, .c (.slice none 0 0)]] :: (τ2 ++ oa :: (τ3 ++ [accO intC 1 row]))) = ρ ++ ((Ob.cells 3 [[.c (.int .i64 s), ca, .c (.slice none 0 0)]] :: (τ2 ++ oa :: τ3)) ++ accO intC 1 row :: []) := by simp
                      rw [est]
                      refine AWP_freezeAcc 19 intC 1 row ρ (Ob.cells 3 [[.c (.int .i64 s), ca, .c (.slice none 0 0)]] :: (τ2 ++ oa :: τ3)) [] (by simp [look, Nat.add_assoc]) ?_
                      rw [h4, ← hca, ← hoa]
                      obtain ⟨rowI, hrI⟩ : ∃ l, ((ints s).map fun k => min i k) = l := ⟨_, rfl⟩
                      rw [hrI] at h5 ⊢
                      rcases acc with _ | ⟨w, acc⟩ <;> simp only [List.length_cons, List.length_nil] at hal <;> simp -implicitDefEqProofs only [go_sem, accV, accO]
                      all_goals (repeat' (first|(refine g_s fun K hK=>?_)|(refine g_b ?_)|(refine g_r ?_)|(refine g_k ?_;simp only[thenQ,blockQ])|(refine g_e ?_;simp only[thenQ,blockQ,↓reduceIte,Nat.reduceEqDiff])|(refine g_c (fun h=>?_) (fun h=>?_)<;>(try simp only[go_sem] at h)<;>(try exact g_f))|((first|refine g_t ?_|refine g_G ?_|refine g_U ?_|refine g_A ?_|refine g_W ?_);(try simp -implicitDefEqProofs only[go_sem]))|(with_reducible refine hK _ _ ?_;clear hK K)|(clear hK K;first|(with_reducible refine hK _ _ ?_;clear hK K)|(clear hK K;with_reducible refine hK _ _ ?_;clear hK K)|(clear hK K;clear hK K;with_reducible refine hK _ _ ?_;clear hK K))|(with_reducible refine splitB_intro (fun h=>?_) (fun h=>?_)<;>(try simp only[go_sem] at h)<;>(try exact g_f)<;>(try simp -implicitDefEqProofs only[go_sem]))|(with_reducible refine And.intro (fun h=>?_) (fun h=>?_)<;>(try simp only[go_sem] at h)<;>(try exact g_f))|(with_reducible refine And.intro ?_ ?_;· exact g_x)|(with_reducible intro h;(try simp only[go_sem] at h);(try exact g_f))))
                      · refine hL3 [rowI] (τ2 ++ .dead :: (τ3 ++ [.dead])) _ _ (by simpa using h5) (ALe_of ?_) ?_
                        · simp -implicitDefEqProofs only [go_sem, accV, hlen]
                        · simp [accO, accV, rowC, intsA, intA1]
                          omega
                      · refine hL3 (w :: acc ++ [rowI]) (τ2 ++ .dead :: (τ3 ++ [.dead])) _ _ (by simpa using h5) (ALe_of ?_) ?_
                        · simp -implicitDefEqProofs only [go_sem, accV, hlen]
                        · simp [accO, accV, rowC, intsA, intA1]
                          omega
                  · rintro i acc τ2 hi h5 L3
                    rw [ints_length] at hi
                    rw [List.map_nil, List.append_nil] at h5
                    rw [h5]
                    simp -implicitDefEqProofs only [go_sem]
                    (repeat' (first|(refine g_s fun K hK=>?_)|(refine g_b ?_)|(refine g_r ?_)|(refine g_k ?_;simp only[thenQ,blockQ])|(refine g_e ?_;simp only[thenQ,blockQ,↓reduceIte,Nat.reduceEqDiff])|(refine g_c (fun h=>?_) (fun h=>?_)<;>(try simp only[go_sem] at h)<;>(try exact g_f))|((first|refine g_g ?_|refine g_U ?_|refine g_A ?_|refine g_W ?_);(try simp -implicitDefEqProofs only[go_sem]))|(with_reducible refine hK _ _ ?_;clear hK K)|(clear hK K;first|(with_reducible refine hK _ _ ?_;clear hK K)|(clear hK K;with_reducible refine hK _ _ ?_;clear hK K)|(clear hK K;clear hK K;with_reducible refine hK _ _ ?_;clear hK K))|(with_reducible refine splitB_intro (fun h=>?_) (fun h=>?_)<;>(try simp only[go_sem] at h)<;>(try exact g_f)<;>(try simp -implicitDefEqProofs only[go_sem]))|(with_reducible refine And.intro (fun h=>?_) (fun h=>?_)<;>(try simp only[go_sem] at h)<;>(try exact g_f))|(with_reducible refine And.intro ?_ ?_;· exact g_x)|(with_reducible intro h;(try simp only[go_sem] at h);(try exact g_f))))
                    refine hJ _ _ ?_
                    clear hJ
                    refine AWP_freezeS (k := 3) (kk := 1) (b := ρ.length + (τ2.length + 1)) (rows := [[intA1 s, accV 1 (ρ.length + (τ2.length + 1)) Bst, .c (.slice none 0 0)]]) ρ [] τ2 [] 0 1 rowC Bst (by simp [intA1]) rfl rfl (by simp; omega) ?_
                    obtain ⟨T0, hT0⟩ : ∃ T0 : Store, τ2 ++ [.dead] = T0 := ⟨_, rfl⟩
                    obtain ⟨w, hw⟩ : ∃ w, s.toNat = w := ⟨_, rfl⟩
                    simp -implicitDefEqProofs only [go_sem, hT0]
                    (repeat' (first|(refine g_s fun K hK=>?_)|(refine g_b ?_)|(refine g_r ?_)|(refine g_k ?_;simp only[thenQ,blockQ])|(refine g_e ?_;simp only[thenQ,blockQ,↓reduceIte,Nat.reduceEqDiff])|(refine g_c (fun h=>?_) (fun h=>?_)<;>(try simp only[go_sem] at h)<;>(try exact g_f))|((first|refine g_t ?_|refine g_G ?_|refine g_U ?_|refine g_A ?_|refine g_W ?_);(try simp -implicitDefEqProofs only[go_sem]))|(with_reducible refine hK _ _ ?_;clear hK K)|(clear hK K;first|(with_reducible refine hK _ _ ?_;clear hK K)|(clear hK K;with_reducible refine hK _ _ ?_;clear hK K)|(clear hK K;clear hK K;with_reducible refine hK _ _ ?_;clear hK K))|(with_reducible refine splitB_intro (fun h=>?_) (fun h=>?_)<;>(try simp only[go_sem] at h)<;>(try exact g_f)<;>(try simp -implicitDefEqProofs only[go_sem]))|(with_reducible refine And.intro (fun h=>?_) (fun h=>?_)<;>(try simp only[go_sem] at h)<;>(try exact g_f))|(with_reducible refine And.intro ?_ ?_;· exact g_x)|(with_reducible intro h;(try simp only[go_sem] at h);(try exact g_f))))
                    refine AWP_pad ?_
                    have hJ := hK
                    clear hK
                    refine AWP_each e (fun q r (st : List Nat × Store) => ∃ M', M' ++ r.map (fun x => (ints s).map fun k => if k = n + 1 then k else min (f x k) (n + 1)) = Est ∧ RowsAt ((ρ ++ [.dead]) ++ st.2) (ρ.length + 1) st.1 M' ∧ st.1.Nodup)
                      (fun q st _ => [(21, intA1 q)])
                      (fun _ st _ => ρ ++ (.cells 3 [[intA1 s, .sl (Bst.map rowC), accV 1 (ρ.length + (st.2.length + 1)) st.1]] :: (st.2 ++ [accO (rowV w) 1 st.1]))) ([], T0) [] ⟨[], hEs.symm, RowsAt.nil _ _, List.nodup_nil⟩ ?_ (ALe_of ?_) ?_ ?_
                    · simp [accV, accO, intA1]
                    · simp -implicitDefEqProofs only [go_sem]
                    · rintro q9 r9 ⟨q, Te⟩ τ9 hq0 hq1 ⟨M', h3, h4, h5n⟩ L4 hL4
                      obtain ⟨v, hv⟩ : ∃ v, at0 e q9 = v := ⟨_, rfl⟩
                      have hvin : 1 ≤ v ∧ v ≤ n := by
                        have hm := at0_mem e hq0 hq1
                        rw [hv] at hm
                        have := List.any_eq_false.1 h5e v hm
                        exact inR_iff.1 (by simpa using this)
                      rw [hv, List.map_cons] at h3
                      have h4 : RowsAt ((ρ ++ [.dead]) ++ Te) (ρ.length + 1) q M' := h4
                      have hql : q.length + 1 ≤ 24 := by have := congrArg List.length h3; have := congrArg List.length hEs; have := h4.1; simp at *; omega
                      simp -implicitDefEqProofs only [go_sem]
                      (repeat' (first|(refine g_s fun K hK=>?_)|(refine g_b ?_)|(refine g_r ?_)|(refine g_k ?_;simp only[thenQ,blockQ])|(refine g_e ?_;simp only[thenQ,blockQ,↓reduceIte,Nat.reduceEqDiff])|(refine g_c (fun h=>?_) (fun h=>?_)<;>(try simp only[go_sem] at h)<;>(try exact g_f))|((first|refine g_t ?_|refine g_G ?_|refine g_U ?_|refine g_A ?_|refine g_W ?_);(try simp -implicitDefEqProofs only[go_sem]))|(with_reducible refine hK _ _ ?_;clear hK K)|(clear hK K;first|(with_reducible refine hK _ _ ?_;clear hK K)|(clear hK K;with_reducible refine hK _ _ ?_;clear hK K)|(clear hK K;clear hK K;with_reducible refine hK _ _ ?_;clear hK K))|(with_reducible refine splitB_intro (fun h=>?_) (fun h=>?_)<;>(try simp only[go_sem] at h)<;>(try exact g_f)<;>(try simp -implicitDefEqProofs only[go_sem]))|(with_reducible refine And.intro (fun h=>?_) (fun h=>?_)<;>(try simp only[go_sem] at h)<;>(try exact g_f))|(with_reducible refine And.intro ?_ ?_;· exact g_x)|(with_reducible intro h;(try simp only[go_sem] at h);(try exact g_f))))
                      refine AWP_pad ?_
                      have hJ2 := hK
                      clear hK
                      obtain ⟨ca, hca⟩ : ∃ ca, accV 1 (ρ.length + (Te.length + 1)) q = ca := ⟨_, rfl⟩
                      obtain ⟨oa, hoa⟩ : ∃ oa, accO (rowV w) 1 q = oa := ⟨_, rfl⟩
                      rw [hca, hoa]
                      obtain ⟨F, hF⟩ : ∃ F : Int → Int, (fun k => if k = n + 1 then k else min (f v k) (n + 1)) = F := ⟨_, rfl⟩
                      have hFj : ∀ j, F j = if j = n + 1 then j else min (f v j) (n + 1) := fun j => by rw [← hF]
                      rw [hF] at h3
                      refine AWP_each (ints s) (fun j r row => row ++ r.map F = (ints s).map F) (fun j row τ3 => [(23, intA1 j), (22, accV 1 (ρ.length + (Te.length + (τ3.length + 2))) row)])
                        (fun _ row τ3 => ρ ++ (.cells 3 [[intA1 s, .sl (Bst.map rowC), ca]] :: (Te ++ oa :: (τ3 ++ [accO intC 1 row])))) [] [] rfl ?_ (ALe_of ?_) ?_ ?_
                      · simp [accO, intA1]
                      · simp -implicitDefEqProofs only [go_sem, accV, accO]
                      · rintro j r2 row τ3 hj0 hj1 h6 L2 hL2
                        rw [ints_length] at hj1
                        have hjL : j < s := by omega
                        rw [at0_intsX hj0 hjL, List.map_cons] at h6
                        have hrl : row.length + 1 ≤ 24 := by have := congrArg List.length h6; simp [ints_length] at this; omega
                        have hs1 : s - 1 = n + 1 := by omega
                        have i1 : I64 (n + 1) := by unfold I64; omega
                        have i3 : I64 (j + v) := by unfold I64; omega
                        have hFv := hFj j
                        obtain ⟨X, hX⟩ : ∃ X, F j = X := ⟨_, rfl⟩
                        rw [hX] at hFv h6
                        rcases hf with ⟨rfl, rfl⟩ | ⟨rfl, rfl⟩
                        · simp only at hFv
                          by_cases c1 : j = n + 1
                          · have hXv : X = n + 1 := by rw [hFv, if_pos c1]; exact c1
                            rcases row with _ | ⟨u, row⟩ <;> simp only [List.length_cons, List.length_nil] at hrl <;> simp -implicitDefEqProofs only [go_sem, accV, accO]
                            all_goals (repeat' (first|(refine g_s fun K hK=>?_)|(refine g_b ?_)|(refine g_r ?_)|(refine g_k ?_;simp only[thenQ,blockQ])|(refine g_e ?_;simp only[thenQ,blockQ,↓reduceIte,Nat.reduceEqDiff])|(refine g_c (fun h=>?_) (fun h=>?_)<;>(try simp only[go_sem] at h)<;>(try exact g_f))|((first|refine g_t ?_|refine g_G ?_|refine g_U ?_|refine g_A ?_|refine g_W ?_);(try simp -implicitDefEqProofs only[go_sem,hv, hs1, i1, i3]))|(with_reducible refine hK _ _ ?_;clear hK K)|(clear hK K;first|(with_reducible refine hK _ _ ?_;clear hK K)|(clear hK K;with_reducible refine hK _ _ ?_;clear hK K)|(clear hK K;clear hK K;with_reducible refine hK _ _ ?_;clear hK K))|(with_reducible refine splitB_intro (fun h=>?_) (fun h=>?_)<;>(try simp only[go_sem] at h)<;>(try exact g_f)<;>(try simp -implicitDefEqProofs only[go_sem,hv, hs1, i1, i3]))|(with_reducible refine And.intro (fun h=>?_) (fun h=>?_)<;>(try simp only[go_sem] at h)<;>(try exact g_f))|(with_reducible refine And.intro ?_ ?_;· exact g_x)|(with_reducible intro h;(try simp only[go_sem] at h);(try exact g_f))))
                            · refine hL2 [X] (τ3 ++ [.dead]) _ _ (by simpa using h6) (ALe_of ?_) ?_
                              · simp -implicitDefEqProofs only [go_sem, accV]
                              · simp [accO, intC, intA1, hXv]
                            · refine hL2 (u :: row ++ [X]) (τ3 ++ [.dead]) _ _ (by simpa using h6) (ALe_of ?_) ?_
                              · simp -implicitDefEqProofs only [go_sem, accV]
                              · simp [accO, intC, intA1, hXv]
                          · rw [if_neg c1] at hFv
                            by_cases c2 : n < j + v
                            · have hXv : X = n + 1 := by omega
                              rcases row with _ | ⟨u, row⟩ <;> simp only [List.length_cons, List.length_nil] at hrl <;> simp -implicitDefEqProofs only [go_sem, accV, accO]
                              all_goals (repeat' (first|(refine g_s fun K hK=>?_)|(refine g_b ?_)|(refine g_r ?_)|(refine g_k ?_;simp only[thenQ,blockQ])|(refine g_e ?_;simp only[thenQ,blockQ,↓reduceIte,Nat.reduceEqDiff])|(refine g_c (fun h=>?_) (fun h=>?_)<;>(try simp only[go_sem] at h)<;>(try exact g_f))|((first|refine g_t ?_|refine g_G ?_|refine g_U ?_|refine g_A ?_|refine g_W ?_);(try simp -implicitDefEqProofs only[go_sem,hv, hs1, i1, i3]))|(with_reducible refine hK _ _ ?_;clear hK K)|(clear hK K;first|(with_reducible refine hK _ _ ?_;clear hK K)|(clear hK K;with_reducible refine hK _ _ ?_;clear hK K)|(clear hK K;clear hK K;with_reducible refine hK _ _ ?_;clear hK K))|(with_reducible refine splitB_intro (fun h=>?_) (fun h=>?_)<;>(try simp only[go_sem] at h)<;>(try exact g_f)<;>(try simp -implicitDefEqProofs only[go_sem,hv, hs1, i1, i3]))|(with_reducible refine And.intro (fun h=>?_) (fun h=>?_)<;>(try simp only[go_sem] at h)<;>(try exact g_f))|(with_reducible refine And.intro ?_ ?_;· exact g_x)|(with_reducible intro h;(try simp only[go_sem] at h);(try exact g_f))))
                              · refine hL2 [X] (τ3 ++ [.dead]) _ _ (by simpa using h6) (ALe_of ?_) ?_
                                · simp -implicitDefEqProofs only [go_sem, accV]
                                · simp [accO, intC, intA1, hXv]
                              · refine hL2 (u :: row ++ [X]) (τ3 ++ [.dead]) _ _ (by simpa using h6) (ALe_of ?_) ?_
                                · simp -implicitDefEqProofs only [go_sem, accV]
                                · simp [accO, intC, intA1, hXv]
                            · have hXv : X = j + v := by omega
                              rcases row with _ | ⟨u, row⟩ <;> simp only [List.length_cons, List.length_nil] at hrl <;> simp -implicitDefEqProofs only [go_sem, accV, accO]
                              all_goals (repeat' (first|(refine g_s fun K hK=>?_)|(refine g_b ?_)|(refine g_r ?_)|(refine g_k ?_;simp only[thenQ,blockQ])|(refine g_e ?_;simp only[thenQ,blockQ,↓reduceIte,Nat.reduceEqDiff])|(refine g_c (fun h=>?_) (fun h=>?_)<;>(try simp only[go_sem] at h)<;>(try exact g_f))|((first|refine g_t ?_|refine g_G ?_|refine g_U ?_|refine g_A ?_|refine g_W ?_);(try simp -implicitDefEqProofs only[go_sem,hv, hs1, i1, i3]))|(with_reducible refine hK _ _ ?_;clear hK K)|(clear hK K;first|(with_reducible refine hK _ _ ?_;clear hK K)|(clear hK K;with_reducible refine hK _ _ ?_;clear hK K)|(clear hK K;clear hK K;with_reducible refine hK _ _ ?_;clear hK K))|(with_reducible refine splitB_intro (fun h=>?_) (fun h=>?_)<;>(try simp only[go_sem] at h)<;>(try exact g_f)<;>(try simp -implicitDefEqProofs only[go_sem,hv, hs1, i1, i3]))|(with_reducible refine And.intro (fun h=>?_) (fun h=>?_)<;>(try simp only[go_sem] at h)<;>(try exact g_f))|(with_reducible refine And.intro ?_ ?_;· exact g_x)|(with_reducible intro h;(try simp only[go_sem] at h);(try exact g_f))))
                              · refine hL2 [X] (τ3 ++ [.dead]) _ _ (by simpa using h6) (ALe_of ?_) ?_
                                · simp -implicitDefEqProofs only [go_sem, accV]
                                · simp [accO, intC, intA1, hXv]
                              · refine hL2 (u :: row ++ [X]) (τ3 ++ [.dead]) _ _ (by simpa using h6) (ALe_of ?_) ?_
                                · simp -implicitDefEqProofs only [go_sem, accV]
                                · simp [accO, intC, intA1, hXv]
                        · simp only at hFv
                          by_cases c1 : j = n + 1
                          · have hXv : X = n + 1 := by rw [hFv, if_pos c1]; exact c1
                            rcases row with _ | ⟨u, row⟩ <;> simp only [List.length_cons, List.length_nil] at hrl <;> simp -implicitDefEqProofs only [go_sem, accV, accO]
                            all_goals (repeat' (first|(refine g_s fun K hK=>?_)|(refine g_b ?_)|(refine g_r ?_)|(refine g_k ?_;simp only[thenQ,blockQ])|(refine g_e ?_;simp only[thenQ,blockQ,↓reduceIte,Nat.reduceEqDiff])|(refine g_c (fun h=>?_) (fun h=>?_)<;>(try simp only[go_sem] at h)<;>(try exact g_f))|((first|refine g_t ?_|refine g_G ?_|refine g_U ?_|refine g_A ?_|refine g_W ?_);(try simp -implicitDefEqProofs only[go_sem,hv, hs1, i1, i3]))|(with_reducible refine hK _ _ ?_;clear hK K)|(clear hK K;first|(with_reducible refine hK _ _ ?_;clear hK K)|(clear hK K;with_reducible refine hK _ _ ?_;clear hK K)|(clear hK K;clear hK K;with_reducible refine hK _ _ ?_;clear hK K))|(with_reducible refine splitB_intro (fun h=>?_) (fun h=>?_)<;>(try simp only[go_sem] at h)<;>(try exact g_f)<;>(try simp -implicitDefEqProofs only[go_sem,hv, hs1, i1, i3]))|(with_reducible refine And.intro (fun h=>?_) (fun h=>?_)<;>(try simp only[go_sem] at h)<;>(try exact g_f))|(with_reducible refine And.intro ?_ ?_;· exact g_x)|(with_reducible intro h;(try simp only[go_sem] at h);(try exact g_f))))
                            · refine hL2 [X] (τ3 ++ [.dead]) _ _ (by simpa using h6) (ALe_of ?_) ?_
                              · simp -implicitDefEqProofs only [go_sem, accV]
                              · simp [accO, intC, intA1, hXv]
                            · refine hL2 (u :: row ++ [X]) (τ3 ++ [.dead]) _ _ (by simpa using h6) (ALe_of ?_) ?_
                              · simp -implicitDefEqProofs only [go_sem, accV]
                              · simp [accO, intC, intA1, hXv]
                          · rw [if_neg c1] at hFv
                            by_cases c2 : j < v
                            · have hXv : X = v := by omega
                              rcases row with _ | ⟨u, row⟩ <;> simp only [List.length_cons, List.length_nil] at hrl <;> simp -implicitDefEqProofs only [go_sem, accV, accO]
                              all_goals (repeat' (first|(refine g_s fun K hK=>?_)|(refine g_b ?_)|(refine g_r ?_)|(refine g_k ?_;simp only[thenQ,blockQ])|(refine g_e ?_;simp only[thenQ,blockQ,↓reduceIte,Nat.reduceEqDiff])|(refine g_c (fun h=>?_) (fun h=>?_)<;>(try simp only[go_sem] at h)<;>(try exact g_f))|((first|refine g_t ?_|refine g_G ?_|refine g_U ?_|refine g_A ?_|refine g_W ?_);(try simp -implicitDefEqProofs only[go_sem,hv, hs1, i1, i3]))|(with_reducible refine hK _ _ ?_;clear hK K)|(clear hK K;first|(with_reducible refine hK _ _ ?_;clear hK K)|(clear hK K;with_reducible refine hK _ _ ?_;clear hK K)|(clear hK K;clear hK K;with_reducible refine hK _ _ ?_;clear hK K))|(with_reducible refine splitB_intro (fun h=>?_) (fun h=>?_)<;>(try simp only[go_sem] at h)<;>(try exact g_f)<;>(try simp -implicitDefEqProofs only[go_sem,hv, hs1, i1, i3]))|(with_reducible refine And.intro (fun h=>?_) (fun h=>?_)<;>(try simp only[go_sem] at h)<;>(try exact g_f))|(with_reducible refine And.intro ?_ ?_;· exact g_x)|(with_reducible intro h;(try simp only[go_sem] at h);(try exact g_f))))
                              · refine hL2 [X] (τ3 ++ [.dead]) _ _ (by simpa using h6) (ALe_of ?_) ?_
                                · simp -implicitDefEqProofs only [go_sem, accV]
                                · simp [accO, intC, intA1, hXv]
                              · refine hL2 (u :: row ++ [X]) (τ3 ++ [.dead]) _ _ (by simpa using h6) (ALe_of ?_) ?_
                                · simp -implicitDefEqProofs only [go_sem, accV]
                                · simp [accO, intC, intA1, hXv]
                            · have hXv : X = j := by omega
                              rcases row with _ | ⟨u, row⟩ <;> simp only [List.length_cons, List.length_nil] at hrl <;> simp -implicitDefEqProofs only [go_sem, accV, accO]
                              all_goals (repeat' (first|(refine g_s fun K hK=>?_)|(refine g_b ?_)|(refine g_r ?_)|(refine g_k ?_;simp only[thenQ,blockQ])|(refine g_e ?_;simp only[thenQ,blockQ,↓reduceIte,Nat.reduceEqDiff])|(refine g_c (fun h=>?_) (fun h=>?_)<;>(try simp only[go_sem] at h)<;>(try exact g_f))|((first|refine g_t ?_|refine g_G ?_|refine g_U ?_|refine g_A ?_|refine g_W ?_);(try simp -implicitDefEqProofs only[go_sem,hv, hs1, i1, i3]))|(with_reducible refine hK _ _ ?_;clear hK K)|(clear hK K;first|(with_reducible refine hK _ _ ?_;clear hK K)|(clear hK K;with_reducible refine hK _ _ ?_;clear hK K)|(clear hK K;clear hK K;with_reducible refine hK _ _ ?_;clear hK K))|(with_reducible refine splitB_intro (fun h=>?_) (fun h=>?_)<;>(try simp only[go_sem] at h)<;>(try exact g_f)<;>(try simp -implicitDefEqProofs only[go_sem,hv, hs1, i1, i3]))|(with_reducible refine And.intro (fun h=>?_) (fun h=>?_)<;>(try simp only[go_sem] at h)<;>(try exact g_f))|(with_reducible refine And.intro ?_ ?_;· exact g_x)|(with_reducible intro h;(try simp only[go_sem] at h);(try exact g_f))))
                              · refine hL2 [X] (τ3 ++ [.dead]) _ _ (by simpa using h6) (ALe_of ?_) ?_
                                · simp -implicitDefEqProofs only [go_sem, accV]
                                · simp [accO, intC, intA1, hXv]
                              · refine hL2 (u :: row ++ [X]) (τ3 ++ [.dead]) _ _ (by simpa using h6) (ALe_of ?_) ?_
                                · simp -implicitDefEqProofs only [go_sem, accV]
                                · simp [accO, intC, intA1, hXv]
                      · rintro j row τ3 hj h6 L2
                        rw [ints_length] at hj
                        rw [List.map_nil, List.append_nil] at h6
                        have hrl : row.length = s.toNat := by rw [h6, List.length_map, ints_length]
                        rcases row with _ | ⟨u, row⟩
                        · simp at hrl; omega
                        simp only [List.length_cons] at hrl
                        rw [← hca, ← hoa]
                        simp -implicitDefEqProofs only [go_sem, accV, accO]
                        (repeat' (first|(refine g_s fun K hK=>?_)|(refine g_b ?_)|(refine g_r ?_)|(refine g_k ?_;simp only[thenQ,blockQ])|(refine g_e ?_;simp only[thenQ,blockQ,↓reduceIte,Nat.reduceEqDiff])|(refine g_c (fun h=>?_) (fun h=>?_)<;>(try simp only[go_sem] at h)<;>(try exact g_f))|((first|refine g_g ?_|refine g_U ?_|refine g_A ?_|refine g_W ?_);(try simp -implicitDefEqProofs only[go_sem]))|(with_reducible refine hK _ _ ?_;clear hK K)|(clear hK K;first|(with_reducible refine hK _ _ ?_;clear hK K)|(clear hK K;with_reducible refine hK _ _ ?_;clear hK K)|(clear hK K;clear hK K;with_reducible refine hK _ _ ?_;clear hK K))|(with_reducible refine splitB_intro (fun h=>?_) (fun h=>?_)<;>(try simp only[go_sem] at h)<;>(try exact g_f)<;>(try simp -implicitDefEqProofs only[go_sem]))|(with_reducible refine And.intro (fun h=>?_) (fun h=>?_)<;>(try simp only[go_sem] at h)<;>(try exact g_f))|(with_reducible refine And.intro ?_ ?_;· exact g_x)|(with_reducible intro h;(try simp only[go_sem] at h);(try exact g_f))))
                        refine hJ2 _ _ ?_
                        clear hJ2
                        have hgr := rowsGrow0 (τ3 := τ3) h4 h5n (by simp) .dead (u :: row)
                        rw [← h6] at h3
                        have hwr : row.length + 1 = w := by omega
                        have hpl : (ρ ++ [Ob.dead]).length + (Te.length + (τ3.length + 1)) = ρ.length + (Te.length + (τ3.length + 2)) := by simp; omega
                        rw [hpl] at hgr
                        rcases q with _ | ⟨y0, q⟩ <;> simp only [List.length_cons, List.length_nil] at hql <;> simp -implicitDefEqProofs only [go_sem, accV, accO]
                        all_goals (repeat' (first|(refine g_s fun K hK=>?_)|(refine g_b ?_)|(refine g_r ?_)|(refine g_k ?_;simp only[thenQ,blockQ])|(refine g_e ?_;simp only[thenQ,blockQ,↓reduceIte,Nat.reduceEqDiff])|(refine g_c (fun h=>?_) (fun h=>?_)<;>(try simp only[go_sem] at h)<;>(try exact g_f))|((first|refine g_t ?_|refine g_G ?_|refine g_U ?_|refine g_A ?_|refine g_W ?_);(try simp -implicitDefEqProofs only[go_sem]))|(with_reducible refine hK _ _ ?_;clear hK K)|(clear hK K;first|(with_reducible refine hK _ _ ?_;clear hK K)|(clear hK K;with_reducible refine hK _ _ ?_;clear hK K)|(clear hK K;clear hK K;with_reducible refine hK _ _ ?_;clear hK K))|(with_reducible refine splitB_intro (fun h=>?_) (fun h=>?_)<;>(try simp only[go_sem] at h)<;>(try exact g_f)<;>(try simp -implicitDefEqProofs only[go_sem]))|(with_reducible refine And.intro (fun h=>?_) (fun h=>?_)<;>(try simp only[go_sem] at h)<;>(try exact g_f))|(with_reducible refine And.intro ?_ ?_;· exact g_x)|(with_reducible intro h;(try simp only[go_sem] at h);(try exact g_f))))
                        · refine hL4 ([] ++ [ρ.length + (Te.length + (τ3.length + 2))], Te ++ .dead :: (τ3 ++ [.cells 1 ((u :: row).map intC)])) τ9 _ _ ⟨M' ++ [u :: row], by simpa using h3, hgr.1, hgr.2⟩ (ALe_of ?_) ?_
                          · simp -implicitDefEqProofs only [go_sem, accV, rowV]
                          · simp [accO, accV, rowV, intC, intA1, hwr]
                            omega
                        · refine hL4 ((y0 :: q) ++ [ρ.length + (Te.length + (τ3.length + 2))], Te ++ .dead :: (τ3 ++ [.cells 1 ((u :: row).map intC)])) τ9 _ _ ⟨M' ++ [u :: row], by simpa using h3, hgr.1, hgr.2⟩ (ALe_of ?_) ?_
                          · simp -implicitDefEqProofs only [go_sem, accV, rowV]
                          · simp [accO, accV, rowV, intC, intA1, hwr]
                            omega
                    · rintro q9 ⟨q, Te⟩ τ9 hq9 ⟨M', h3, h4, h5n⟩ L4
                      have h4 : RowsAt ((ρ ++ [.dead]) ++ Te) (ρ.length + 1) q M' := h4
                      have h3 : M' = Est := by simpa using h3
                      subst h3
                      have hwd : ∀ r ∈ M', r.length = w := fun r hr => by
                        rw [hEs] at hr
                        obtain ⟨x, _, rfl⟩ := List.mem_map.1 hr
                        rw [List.length_map, ints_length, hw]
                      have hLd : ∀ L : Store, (ρ ++ L)[σ.length + 1]? = some (.cells 3 [[intA1 0, .c (.slice none 0 0), .c (.slice none 0 0)]]) := fun L => by
                        rw [← hρ, List.append_assoc, List.getElem?_append_right (by omega)]
                        have e : σ.length + 1 - σ.length = 1 := by omega
                        rw [e]
                        rfl
                      have hSt : ∀ (L : Store) (o : Ob), (ρ ++ L).set (σ.length + 1) o = σ ++ (.dead :: o :: (T ++ L)) := fun L o => by
                        rw [← hρ, List.append_assoc, List.set_append_right _ _ (by omega)]
                        have e : σ.length + 1 - σ.length = 1 := by omega
                        rw [e]
                        simp
                      have hO := fun v1 v2 => ownM_end (lo := σ.length) (w := w) (A' := σ ++ (.dead :: v1 :: (T ++ [v2]))) (A := ρ ++ [.dead]) (by simp [← hlen]; omega) (by simpa using h4) h5n hwd (by simp [← hlen]; omega)
                      subst hE2
                      simp -implicitDefEqProofs only [go_sem]
                      (repeat' (first|(refine g_s fun K hK=>?_)|(refine g_b ?_)|(refine g_r ?_)|(refine g_k ?_;simp only[thenQ,blockQ])|(refine g_e ?_;simp only[thenQ,blockQ,↓reduceIte,Nat.reduceEqDiff])|(refine g_c (fun h=>?_) (fun h=>?_)<;>(try simp only[go_sem] at h)<;>(try exact g_f))|((first|refine g_g ?_|refine g_U ?_|refine g_A ?_|refine g_W ?_);(try simp -implicitDefEqProofs only[go_sem]))|(with_reducible refine hK _ _ ?_;clear hK K)|(clear hK K;first|(with_reducible refine hK _ _ ?_;clear hK K)|(clear hK K;with_reducible refine hK _ _ ?_;clear hK K)|(clear hK K;clear hK K;with_reducible refine hK _ _ ?_;clear hK K))|(with_reducible refine splitB_intro (fun h=>?_) (fun h=>?_)<;>(try simp only[go_sem] at h)<;>(try exact g_f)<;>(try simp -implicitDefEqProofs only[go_sem]))|(with_reducible refine And.intro (fun h=>?_) (fun h=>?_)<;>(try simp only[go_sem] at h)<;>(try exact g_f))|(with_reducible refine And.intro ?_ ?_;· exact g_x)|(with_reducible intro h;(try simp only[go_sem] at h);(try exact g_f))))
                      refine hJ _ _ ?_
                      clear hJ
                      rcases q with _ | ⟨y0, q⟩ <;> simp -implicitDefEqProofs only [go_sem, accV, accO]
                      all_goals (repeat' (first|(refine g_s fun K hK=>?_)|(refine g_b ?_)|(refine g_r ?_)|(refine g_k ?_;simp only[thenQ,blockQ])|(refine g_e ?_;simp only[thenQ,blockQ,↓reduceIte,Nat.reduceEqDiff])|(refine g_c (fun h=>?_) (fun h=>?_)<;>(try simp only[go_sem] at h)<;>(try exact g_f))|((first|refine g_t ?_|refine g_g ?_|refine g_U ?_|refine g_A ?_|refine g_W ?_);(try simp -implicitDefEqProofs only[go_sem,hLd, hSt]))|(with_reducible refine hK _ _ ?_;clear hK K)|(clear hK K;first|(with_reducible refine hK _ _ ?_;clear hK K)|(clear hK K;with_reducible refine hK _ _ ?_;clear hK K)|(clear hK K;clear hK K;with_reducible refine hK _ _ ?_;clear hK K))|(with_reducible refine splitB_intro (fun h=>?_) (fun h=>?_)<;>(try simp only[go_sem] at h)<;>(try exact g_f)<;>(try simp -implicitDefEqProofs only[go_sem,hLd, hSt]))|(with_reducible refine And.intro (fun h=>?_) (fun h=>?_)<;>(try simp only[go_sem] at h)<;>(try exact g_f))|(with_reducible refine And.intro ?_ ?_;· exact g_x)|(with_reducible intro h;(try simp only[go_sem] at h);(try exact g_f))))
                      · obtain ⟨ids, hOM⟩ := hO (.cells 3 [[.c (.int .i64 s), .sl (Bst.map rowC), .c (.slice none 0 0)]]) (.cells 3 [[.c (.int .i64 s), .sl (Bst.map rowC), .c (.slice none 0 0)]])
                        refine ⟨_, rfl, _, by rw [hE]; rfl, ?_⟩
                        rw [hE, if_pos rfl, hB]
                        refine ⟨ids, _, by rw [hSz, hBst]; rfl, ?_⟩
                        rw [hSz, hw, hEst]
                        simp only [accV, accO] at hOM
                        simpa using hOM
                      · obtain ⟨ids, hOM⟩ := hO (.cells 3 [[.c (.int .i64 s), .sl (Bst.map rowC), .own (ρ.length + (Te.length + 1)) 1 0 (q.length + 1) (q.length + 1)]]) (.cells 3 [[.c (.int .i64 s), .sl (Bst.map rowC), .own (ρ.length + (Te.length + 1)) 1 0 (q.length + 1) (q.length + 1)]])
                        refine ⟨_, rfl, _, by rw [hE]; rfl, ?_⟩
                        rw [hE, if_pos rfl, hB]
                        refine ⟨ids, _, by rw [hSz, hBst]; rfl, ?_⟩
                        have ep : (ρ ++ [Ob.dead]).length + Te.length = ρ.length + (Te.length + 1) := by simp; omega
                        rw [hSz, hw, hEst]
                        rw [ep] at hOM
                        simp only [accV, accO] at hOM
                        simpa using hOM
              · have hBv : (decide (1 ≤ n) && decide (n ≤ 22)) = false := by simp; omega
                have hBn := fun S => between_calls n 1 22 S
                rw [hBv] at hBn
                have hnr : inR n 1 22 = false := by rw [← Bool.not_eq_true, inR_iff]; exact hn22
                rw [hnr, if_pos (by rfl)] at hE2
                simp -implicitDefEqProofs only [go_sem]
                (repeat' (first|(refine g_s fun K hK=>?_)|(refine g_b ?_)|(refine g_r ?_)|(refine g_k ?_;simp only[thenQ,blockQ])|(refine g_e ?_;simp only[thenQ,blockQ,↓reduceIte,Nat.reduceEqDiff])|(refine g_c (fun h=>?_) (fun h=>?_)<;>(try simp only[go_sem] at h)<;>(try exact g_f))|((first|refine g_t ?_|refine g_g ?_|refine g_U ?_|refine g_A ?_|refine (hBn _).use ?_|refine g_q (fun τ=>hBn _) ?_|refine g_W ?_);(try simp -implicitDefEqProofs only[go_sem]))|(with_reducible refine hK _ _ ?_;clear hK K)|(clear hK K;first|(with_reducible refine hK _ _ ?_;clear hK K)|(clear hK K;with_reducible refine hK _ _ ?_;clear hK K)|(clear hK K;clear hK K;with_reducible refine hK _ _ ?_;clear hK K))|(with_reducible refine splitB_intro (fun h=>?_) (fun h=>?_)<;>(try simp only[go_sem] at h)<;>(try exact g_f)<;>(try simp -implicitDefEqProofs only[go_sem]))|(with_reducible refine And.intro (fun h=>?_) (fun h=>?_)<;>(try simp only[go_sem] at h)<;>(try exact g_f))|(with_reducible refine And.intro ?_ ?_;· exact g_x)|(with_reducible intro h;(try simp only[go_sem] at h);(try exact g_f))))
                subst hE2
                exact bad (by decide) rfl
            clear hK
            rcases hk12 with rfl | rfl
            · (repeat' (first|(refine g_s fun K hK=>?_)|(refine g_b ?_)|(refine g_r ?_)|(refine g_k ?_;simp only[thenQ,blockQ])|(refine g_e ?_;simp only[thenQ,blockQ,↓reduceIte,Nat.reduceEqDiff])|(refine g_c (fun h=>?_) (fun h=>?_)<;>(try simp only[go_sem] at h)<;>(try exact g_f))|((first|refine g_t ?_|refine g_g ?_|refine g_U ?_|refine g_A ?_|refine g_W ?_);(try simp -implicitDefEqProofs only[go_sem]))|(with_reducible refine hK _ _ ?_;clear hK K)|(clear hK K;first|(with_reducible refine hK _ _ ?_;clear hK K)|(clear hK K;with_reducible refine hK _ _ ?_;clear hK K)|(clear hK K;clear hK K;with_reducible refine hK _ _ ?_;clear hK K))|(with_reducible refine splitB_intro (fun h=>?_) (fun h=>?_)<;>(try simp only[go_sem] at h)<;>(try exact g_f)<;>(try simp -implicitDefEqProofs only[go_sem]))|(with_reducible refine And.intro (fun h=>?_) (fun h=>?_)<;>(try simp only[go_sem] at h)<;>(try exact g_f))|(with_reducible refine And.intro ?_ ?_;· exact g_x)|(with_reducible intro h;(try simp only[go_sem] at h);(try exact g_f))))
              refine hR _ (ALe_of ?_)
              simp -implicitDefEqProofs only [go_sem, List.map_nil]
            · (repeat' (first|(refine g_s fun K hK=>?_)|(refine g_b ?_)|(refine g_r ?_)|(refine g_k ?_;simp only[thenQ,blockQ])|(refine g_e ?_;simp only[thenQ,blockQ,↓reduceIte,Nat.reduceEqDiff])|(refine g_c (fun h=>?_) (fun h=>?_)<;>(try simp only[go_sem] at h)<;>(try exact g_f))|((first|refine g_t ?_|refine g_g ?_|refine g_U ?_|refine g_A ?_|refine g_W ?_);(try simp -implicitDefEqProofs only[go_sem]))|(with_reducible refine hK _ _ ?_;clear hK K)|(clear hK K;first|(with_reducible refine hK _ _ ?_;clear hK K)|(clear hK K;with_reducible refine hK _ _ ?_;clear hK K)|(clear hK K;clear hK K;with_reducible refine hK _ _ ?_;clear hK K))|(with_reducible refine splitB_intro (fun h=>?_) (fun h=>?_)<;>(try simp only[go_sem] at h)<;>(try exact g_f)<;>(try simp -implicitDefEqProofs only[go_sem]))|(with_reducible refine And.intro (fun h=>?_) (fun h=>?_)<;>(try simp only[go_sem] at h)<;>(try exact g_f))|(with_reducible refine And.intro ?_ ?_;· exact g_x)|(with_reducible intro h;(try simp only[go_sem] at h);(try exact g_f))))
              refine hR _ (ALe_of ?_)
              simp -implicitDefEqProofs only [go_sem, List.map_nil]
        · rw [if_pos hpn] at hE2
          have h7 : k = 1 ∨ k = 2 ∨ k = 3 ∨ k = 4 := by omega
          rcases h7 with rfl | rfl | rfl | rfl
          all_goals (unfold partsN at hpn; simp only [↓reduceIte, Int.reduceEq] at hpn)
          all_goals (repeat' (first|(refine g_s fun K hK=>?_)|(refine g_b ?_)|(refine g_r ?_)|(refine g_k ?_;simp only[thenQ,blockQ])|(refine g_e ?_;simp only[thenQ,blockQ,↓reduceIte,Nat.reduceEqDiff])|(refine g_c (fun h=>?_) (fun h=>?_)<;>(try simp only[go_sem] at h)<;>(try exact g_f))|((first|refine g_t ?_|refine g_g ?_|refine g_U ?_|refine g_A ?_|refine g_W ?_);(try simp -implicitDefEqProofs only[go_sem,hIB]))|(with_reducible refine hK _ _ ?_;clear hK K)|(clear hK K;first|(with_reducible refine hK _ _ ?_;clear hK K)|(clear hK K;with_reducible refine hK _ _ ?_;clear hK K)|(clear hK K;clear hK K;with_reducible refine hK _ _ ?_;clear hK K))|(with_reducible refine splitB_intro (fun h=>?_) (fun h=>?_)<;>(try simp only[go_sem] at h)<;>(try exact g_f)<;>(try simp -implicitDefEqProofs only[go_sem,hIB]))|(with_reducible refine And.intro (fun h=>?_) (fun h=>?_)<;>(try simp only[go_sem] at h)<;>(try exact g_f))|(with_reducible refine And.intro ?_ ?_;· exact g_x)|(with_reducible intro h;(try simp only[go_sem] at h);(try exact g_f))))
          all_goals subst hE2
          all_goals exact bad (by decide) rfl
      · have hk2 : inR k 1 4 = false := by simpa using hk4
        rw [hk2, if_pos (by decide)] at hE2
        have hkr : ¬ (1 ≤ k ∧ k ≤ 4) := fun h => hk4 (inR_iff.2 h)
        subst hE2
        (repeat' (first|(refine g_s fun K hK=>?_)|(refine g_b ?_)|(refine g_r ?_)|(refine g_k ?_;simp only[thenQ,blockQ])|(refine g_e ?_;simp only[thenQ,blockQ,↓reduceIte,Nat.reduceEqDiff])|(refine g_c (fun h=>?_) (fun h=>?_)<;>(try simp only[go_sem] at h)<;>(try exact g_f))|((first|refine g_t ?_|refine g_g ?_|refine g_U ?_|refine g_A ?_|refine g_W ?_);(try simp -implicitDefEqProofs only[go_sem]))|(with_reducible refine hK _ _ ?_;clear hK K)|(clear hK K;first|(with_reducible refine hK _ _ ?_;clear hK K)|(clear hK K;with_reducible refine hK _ _ ?_;clear hK K)|(clear hK K;clear hK K;with_reducible refine hK _ _ ?_;clear hK K))|(with_reducible refine splitB_intro (fun h=>?_) (fun h=>?_)<;>(try simp only[go_sem] at h)<;>(try exact g_f)<;>(try simp -implicitDefEqProofs only[go_sem]))|(with_reducible refine And.intro (fun h=>?_) (fun h=>?_)<;>(try simp only[go_sem] at h)<;>(try exact g_f))|(with_reducible refine And.intro ?_ ?_;· exact g_x)|(with_reducible intro h;(try simp only[go_sem] at h);(try exact g_f))))
        all_goals exact bad (by decide) rfl
end Go.Proofs.Ytephecognbbaoaa
