/- The law TableLeads, walked. -/
import Derived.Test.YtephecognbbaoabTk
import Derived.Test.YtephecognbbaoabAq
import Derived.Test.YtephecognbbaoabPy
import Derived.Test.YtephecognbbaoabCh
namespace Go.Proofs.Ytephecognbbaoab
open Go
set_option linter.all false
set_option maxRecDepth 100000
set_option maxHeartbeats 4000000

theorem cut_ints (p : List Int) (k : Nat) : List.take (k - 0) (p.map intC) = (p.take k).map intC := by rw [Nat.sub_zero, List.map_take]

theorem choose_rng {c n : Int} (hn : 0 < n) : 0 ≤ (if c < 0 then -(c + 1) else c) % n ∧ (if c < 0 then -(c + 1) else c) % n < n := ⟨Int.emod_nonneg _ (by omega), Int.emod_lt_of_pos _ hn⟩

theorem toR_rng (n : Net) (i j : Int) (has : Int → Int) : toR n i j has = -1 ∨ (0 ≤ toR n i j has ∧ toR n i j has < n.nodes) := by
  have key : ∀ (K : List Int) (b : Int × Int), (∀ k ∈ K, 0 ≤ k ∧ k < n.nodes) → (b.2 = -1 ∨ (0 ≤ b.2 ∧ b.2 < n.nodes)) → (K.foldl (toStep n i has) b).2 = -1 ∨ (0 ≤ (K.foldl (toStep n i has) b).2 ∧ (K.foldl (toStep n i has) b).2 < n.nodes) := by
    intro K
    induction K with
    | nil => intro b _ h; exact h
    | cons k K ih =>
      intro b hK hb
      rw [List.foldl_cons]
      refine ih _ (fun q hq => hK q (by simp [hq])) ?_
      unfold toStep
      split
      · split
        · exact .inr (hK k (by simp))
        · exact hb
      · exact hb
  unfold toR
  split
  · exact .inl rfl
  · exact key _ _ (fun k hk => mem_ints.1 hk) (.inl rfl)

theorem table_right {n : Net} (hc : checkN n = 0) (y : List (List Int)) : tabErr n (tableA n y) = 0 := by
  have hn := netIn_of hc
  have n1 := hn.n1
  have hlen : ((tableA n y).length : Int) = n.nodes := by rw [tableA, List.length_map, ints_length]; omega
  rw [tabErr, if_neg (not_not_intro hc), if_neg, if_neg]
  · rw [Bool.not_eq_true, List.any_eq_false]
    intro r hr
    rw [Bool.not_eq_true, List.any_eq_false]
    intro v hv
    obtain ⟨i, hi, rfl⟩ := List.mem_map.1 hr
    obtain ⟨j, hj, rfl⟩ := List.mem_map.1 hv
    rcases toR_rng n i j fun k => at2 y k j with h | h
    · simp [h]
    · have : inR (toR n i j fun k => at2 y k j) 0 (n.nodes - 1) = true := inR_iff.2 (by omega)
      simp [this]
  · rw [not_or]
    refine ⟨not_not_intro hlen, ?_⟩
    rw [Bool.not_eq_true, List.any_eq_false]
    intro r hr
    obtain ⟨i, hi, rfl⟩ := List.mem_map.1 hr
    rw [List.length_map, ints_length, decide_eq_true_eq]
    omega

theorem tableLeads_calls (n : Net) (x : List (List Int)) (fr to : Int) (okn : NetOk n) (okx : StOk x) (hfi : I64 fr) (hti : I64 to) (σ : Store) : ACalls Try.prog 11 [.agg (netC n), rowsC x, intA1 fr, intA1 to] σ fun r σ' => σ' = σ ∧ r = .c (.bool true) := by
  have hP := strict_calls n.alg okn.alg
  have hD := distributive_calls n.alg okn.alg
  have hS := settle_calls n x 100 okn okx (by unfold I64; decide)
  unfold settleC at hS
  refine ACalls.cutX ?_
  by_cases h2 : (lawsA n.alg [8]).2 = 0
  · by_cases h1 : (lawsA n.alg [8]).1.law = 0
    · rw [h2] at hP
      by_cases hx0 : fitA n x = 0
      · obtain ⟨hc, hx⟩ := fit_zero hx0
        have hn := netIn_of hc
        have n1 := hn.n1
        have n6 := hn.n6
        have ha : checkA n.alg = 0 := by
          apply Classical.byContradiction
          intro h
          rw [lawsA, if_pos h] at h2
          exact h h2
        have hs : StrictA n := by
          rw [lawsA, if_neg (by simpa using ha)] at h1
          exact h1
        have e1 : settleA n x 100 = (settleF n 100 0 x, 0) := by simp [settleA, hx0, inR]
        rw [e1] at hS
        obtain ⟨a1, _, _, _⟩ := always hc hs hx hx
        have hp := settle_in hn (f := 100) (k := 0) hx
        obtain ⟨⟨y, k⟩, hyk⟩ : ∃ q, settleF n 100 0 x = q := ⟨_, rfl⟩
        rw [hyk] at hS a1 hp
        have a1 : y = roundA n y := a1
        have hp : RowsIn n y := hp
        have hpo := hp.stOk hn
        have hfix : Fixed n y := ⟨hc, hp, a1⟩
        have hfy : fitA n y = 0 := fit_ok hc hp
        have hT := table_calls n y okn hpo
        rw [tableC, hfy, if_pos rfl] at hT
        have hCf := choose_calls fr n.nodes hfi (by omega)
        have hCt := choose_calls to n.nodes hti (by omega)
        have hfr := choose_rng (c := fr) (n := n.nodes) (by omega)
        have hto := choose_rng (c := to) (n := n.nodes) (by omega)
        obtain ⟨f, hf⟩ : ∃ f, (if fr < 0 then -(fr + 1) else fr) % n.nodes = f := ⟨_, rfl⟩
        obtain ⟨t, ht⟩ : ∃ t, (if to < 0 then -(to + 1) else to) % n.nodes = t := ⟨_, rfl⟩
        rw [hf] at hCf hfr
        rw [ht] at hCt hto
        obtain ⟨l1, l2, l3, l4⟩ := leads hfix hs hfr hto
        have hto2 := table_stOk hn y
        have hfrB : inR f 0 (n.nodes - 1) = true := inR_iff.2 (by omega)
        have htoB : inR t 0 (n.nodes - 1) = true := inR_iff.2 (by omega)
        have htab : tabErr n (tableA n y) = 0 := table_right hc y
        have hW := walk_calls n (tableA n y) okn hto2 f t
        have hwe : walkErr n (tableA n y) f t = 0 := by rw [walkErr, htab, if_neg (by decide), hfrB, htoB]; rfl
        rw [walkC, walkA, hwe, if_pos rfl] at hW
        obtain ⟨⟨w, wo⟩, hw⟩ : ∃ q, walkF (tableA n y) t 7 f [f] = q := ⟨_, rfl⟩
        rw [hw] at hW l1 l2 l3 l4
        have l1 : wo = decide (at2 y f t ≠ n.alg.size - 1) := l1
        have l2 : w.Nodup := l2
        have l3 : w.head? = some f := l3
        have l4 : w.length ≤ 6 := l4
        obtain ⟨hw0, hwl⟩ : at0 w 0 = f ∧ 0 < w.length := by
          cases w with
          | nil => cases l3
          | cons a r => simp at l3; exact ⟨l3, by simp⟩
        clear l3
        obtain ⟨B8, hB8⟩ : ∃ B, (lawsA n.alg [8]).1 = B := ⟨_, rfl⟩
        have h18 : B8.law = 0 := by rw [← hB8]; exact h1
        rw [hB8] at hP
        obtain ⟨l8, a8, b8, c8, e8⟩ := B8
        have h18 : l8 = 0 := h18
        subst h18
        clear hB8
        have hPa := paths_calls n okn f t
        have hpe : pathsErr n f t = 0 := by rw [pathsErr, if_neg (not_not_intro hc), hfrB, htoB]; rfl
        rw [pathsC, pathsV, hpe, if_pos rfl] at hPa
        have hL9 : (lawsA n.alg [9]).2 = 0 := by rw [lawsA, if_neg (by simpa using ha)]
        have hB9 : (lawsA n.alg [9]).1 = brokenA n.alg [9] := by rw [lawsA, if_neg (by simpa using ha)]
        rw [hL9, hB9] at hD
        have hbest : (brokenA n.alg [9]).law = 0 → pathsF n t 6 [f] = at2 y f t := fun h => best_paths hfix hs h hfr hto
        obtain ⟨b9, hb9⟩ : ∃ b, brokenA n.alg [9] = b := ⟨_, rfl⟩
        rw [hb9] at hD hbest
        obtain ⟨pv, hpv⟩ : ∃ v, pathsF n t 6 [f] = v := ⟨_, rfl⟩
        rw [hpv] at hPa hbest
        obtain ⟨yv, hyv⟩ : ∃ v, at2 y f t = v := ⟨_, rfl⟩
        rw [hyv] at hbest l1
        have hyv2 : at0 (at0 y f) t = yv := hyv
        have hyl := hp.len
        have hyr := hp.row _ (at0_mem y hfr.1 (by omega))
        have hbe : (yv != n.alg.size - 1) = wo := by
          rw [l1]
          by_cases hq : yv = n.alg.size - 1 <;> simp [hq]
        clear l1 hw
        have s2 := hn.alg.s2
        have s24 := hn.alg.s24
        refine ACalls_of_awp Try.func11 rfl Try.results11 ?_
        simp only [List.length_cons, List.length_nil, Try.ntmps11, Nat.reduceAdd, Nat.reduceSub, enterA]
        (repeat' (first|(refine g_s fun K hK=>?_)|(refine g_b ?_)|(refine g_r ?_)|(refine g_k ?_;simp only[thenQ,blockQ])|(refine g_e ?_;simp only[thenQ,blockQ,↓reduceIte,Nat.reduceEqDiff])|(refine g_c (fun h=>?_) (fun h=>?_)<;>(try simp only[go_sem] at h)<;>(try exact g_f))|((first|refine g_t ?_|refine g_g ?_|refine g_U ?_|refine g_A ?_|refine (netBegun_calls _).use ?_|refine g_q (fun τ=>netBegun_calls _) ?_|refine (algebraBegun_calls _).use ?_|refine g_q (fun τ=>algebraBegun_calls _) ?_|refine (tableBegun_calls _).use ?_|refine g_q (fun τ=>tableBegun_calls _) ?_|refine (hP _).use ?_|refine g_q (fun τ=>hP _) ?_|refine (hS _).use ?_|refine g_q (fun τ=>hS _) ?_|refine (hT _).use ?_|refine g_q (fun τ=>hT _) ?_|refine (hW _).use ?_|refine g_q (fun τ=>hW _) ?_|refine (hD _).use ?_|refine g_q (fun τ=>hD _) ?_|refine (hPa _).use ?_|refine g_q (fun τ=>hPa _) ?_|refine (hCf _).use ?_|refine g_q (fun τ=>hCf _) ?_|refine (hCt _).use ?_|refine g_q (fun τ=>hCt _) ?_|refine g_W ?_);(try simp -implicitDefEqProofs only[go_sem,hyv2, hw0, hbe, bne_self_eq_false]))|(with_reducible refine hK _ _ ?_;clear hK K)|(clear hK K;first|(with_reducible refine hK _ _ ?_;clear hK K)|(clear hK K;with_reducible refine hK _ _ ?_;clear hK K)|(clear hK K;clear hK K;with_reducible refine hK _ _ ?_;clear hK K))|(with_reducible refine splitB_intro (fun h=>?_) (fun h=>?_)<;>(try simp only[go_sem] at h)<;>(try exact g_f)<;>(try simp -implicitDefEqProofs only[go_sem,hyv2, hw0, hbe, bne_self_eq_false]))|(with_reducible refine And.intro (fun h=>?_) (fun h=>?_)<;>(try simp only[go_sem] at h)<;>(try exact g_f))|(with_reducible refine And.intro ?_ ?_;· exact g_x)|(with_reducible intro h;(try simp only[go_sem] at h);(try exact g_f))))
        have hJ := hK
        clear hK
        refine AWP_each w (fun k r pre => w = pre ++ r ∧ (pre.length : Int) = k) (fun k _ _ => [(18, intA1 k)]) (fun _ _ _ => σ ++ [.cells 5 [netC n], .cells 5 [brkC ⟨0, a8, b8, c8, e8⟩]]) [] [] ⟨rfl, rfl⟩ rfl (ALe_of ?_) ?_ ?_
        · simp -implicitDefEqProofs only [go_sem]
        · rintro i r pre τ hi0 hi1 ⟨h5, h6⟩ L hL
          obtain ⟨v, hv⟩ : ∃ v, at0 w i = v := ⟨_, rfl⟩
          rw [hv] at h5
          have htk : w.take i.toNat = pre := by rw [h5, ← h6]; simp
          have hcut := cut_ints w i.toNat
          rw [htk] at hcut
          have hH := has_calls pre v (by have := congrArg List.length h5; simp at this; omega)
          have hni : ¬ v ∈ pre := fun hm => by
            rw [h5] at l2
            exact (List.nodup_append.1 l2).2.2 v hm v (by simp) rfl
          rw [decide_eq_false hni] at hH
          simp -implicitDefEqProofs only [go_sem]
          (repeat' (first|(refine g_s fun K hK=>?_)|(refine g_b ?_)|(refine g_r ?_)|(refine g_k ?_;simp only[thenQ,blockQ])|(refine g_e ?_;simp only[thenQ,blockQ,↓reduceIte,Nat.reduceEqDiff])|(refine g_c (fun h=>?_) (fun h=>?_)<;>(try simp only[go_sem] at h)<;>(try exact g_f))|((first|refine g_t ?_|refine g_g ?_|refine g_U ?_|refine g_A ?_|refine (hH _).use ?_|refine g_q (fun τ=>hH _) ?_|refine g_W ?_);(try simp -implicitDefEqProofs only[go_sem,hv, hcut]))|(with_reducible refine hK _ _ ?_;clear hK K)|(clear hK K;first|(with_reducible refine hK _ _ ?_;clear hK K)|(clear hK K;with_reducible refine hK _ _ ?_;clear hK K)|(clear hK K;clear hK K;with_reducible refine hK _ _ ?_;clear hK K))|(with_reducible refine splitB_intro (fun h=>?_) (fun h=>?_)<;>(try simp only[go_sem] at h)<;>(try exact g_f)<;>(try simp -implicitDefEqProofs only[go_sem,hv, hcut]))|(with_reducible refine And.intro (fun h=>?_) (fun h=>?_)<;>(try simp only[go_sem] at h)<;>(try exact g_f))|(with_reducible refine And.intro ?_ ?_;· exact g_x)|(with_reducible intro h;(try simp only[go_sem] at h);(try exact g_f))))
          refine hL (pre ++ [v]) [] _ _ ⟨by rw [h5]; simp, by simp; omega⟩ (ALe_of ?_) rfl
          simp -implicitDefEqProofs only [go_sem]
        · rintro i pre τ hi _ L
          simp -implicitDefEqProofs only [go_sem]
          (repeat' (first|(refine g_s fun K hK=>?_)|(refine g_b ?_)|(refine g_r ?_)|(refine g_k ?_;simp only[thenQ,blockQ])|(refine g_e ?_;simp only[thenQ,blockQ,↓reduceIte,Nat.reduceEqDiff])|(refine g_c (fun h=>?_) (fun h=>?_)<;>(try simp only[go_sem] at h)<;>(try exact g_f))|((first|refine g_t ?_|refine g_g ?_|refine g_U ?_|refine g_A ?_|refine g_W ?_);(try simp -implicitDefEqProofs only[go_sem]))|(with_reducible refine hK _ _ ?_;clear hK K)|(clear hK K;first|(with_reducible refine hK _ _ ?_;clear hK K)|(clear hK K;with_reducible refine hK _ _ ?_;clear hK K)|(clear hK K;clear hK K;with_reducible refine hK _ _ ?_;clear hK K))|(with_reducible refine splitB_intro (fun h=>?_) (fun h=>?_)<;>(try simp only[go_sem] at h)<;>(try exact g_f)<;>(try simp -implicitDefEqProofs only[go_sem]))|(with_reducible refine And.intro (fun h=>?_) (fun h=>?_)<;>(try simp only[go_sem] at h)<;>(try exact g_f))|(with_reducible refine And.intro ?_ ?_;· exact g_x)|(with_reducible intro h;(try simp only[go_sem] at h);(try exact g_f))))
          refine hJ _ _ ?_
          clear hJ
          by_cases h9 : b9.law = 0
          · have hpy := hbest h9
            subst hpy
            (repeat' (first|(refine g_s fun K hK=>?_)|(refine g_b ?_)|(refine g_r ?_)|(refine g_k ?_;simp only[thenQ,blockQ])|(refine g_e ?_;simp only[thenQ,blockQ,↓reduceIte,Nat.reduceEqDiff])|(refine g_c (fun h=>?_) (fun h=>?_)<;>(try simp only[go_sem] at h)<;>(try exact g_f))|((first|refine g_t ?_|refine g_g ?_|refine g_U ?_|refine g_A ?_|refine (hD _).use ?_|refine g_q (fun τ=>hD _) ?_|refine (hPa _).use ?_|refine g_q (fun τ=>hPa _) ?_|refine g_W ?_);(try simp -implicitDefEqProofs only[go_sem,hyv2, h9]))|(with_reducible refine hK _ _ ?_;clear hK K)|(clear hK K;first|(with_reducible refine hK _ _ ?_;clear hK K)|(clear hK K;with_reducible refine hK _ _ ?_;clear hK K)|(clear hK K;clear hK K;with_reducible refine hK _ _ ?_;clear hK K))|(with_reducible refine splitB_intro (fun h=>?_) (fun h=>?_)<;>(try simp only[go_sem] at h)<;>(try exact g_f)<;>(try simp -implicitDefEqProofs only[go_sem,hyv2, h9]))|(with_reducible refine And.intro (fun h=>?_) (fun h=>?_)<;>(try simp only[go_sem] at h)<;>(try exact g_f))|(with_reducible refine And.intro ?_ ?_;· exact g_x)|(with_reducible intro h;(try simp only[go_sem] at h);(try exact g_f))))
            all_goals (refine CutQ_c (τ := [.cells 5 [netC n], .cells 5 [brkC ⟨0, a8, b8, c8, e8⟩], .cells 5 [brkC b9]]) (by simp [netC, brkC, intA1, h9, rowsC, linksV]) ?_; simp [h9])
          · (repeat' (first|(refine g_s fun K hK=>?_)|(refine g_b ?_)|(refine g_r ?_)|(refine g_k ?_;simp only[thenQ,blockQ])|(refine g_e ?_;simp only[thenQ,blockQ,↓reduceIte,Nat.reduceEqDiff])|(refine g_c (fun h=>?_) (fun h=>?_)<;>(try simp only[go_sem] at h)<;>(try exact g_f))|((first|refine g_t ?_|refine g_g ?_|refine g_U ?_|refine g_A ?_|refine (hD _).use ?_|refine g_q (fun τ=>hD _) ?_|refine (hPa _).use ?_|refine g_q (fun τ=>hPa _) ?_|refine g_W ?_);(try simp -implicitDefEqProofs only[go_sem,hyv2, h9]))|(with_reducible refine hK _ _ ?_;clear hK K)|(clear hK K;first|(with_reducible refine hK _ _ ?_;clear hK K)|(clear hK K;with_reducible refine hK _ _ ?_;clear hK K)|(clear hK K;clear hK K;with_reducible refine hK _ _ ?_;clear hK K))|(with_reducible refine splitB_intro (fun h=>?_) (fun h=>?_)<;>(try simp only[go_sem] at h)<;>(try exact g_f)<;>(try simp -implicitDefEqProofs only[go_sem,hyv2, h9]))|(with_reducible refine And.intro (fun h=>?_) (fun h=>?_)<;>(try simp only[go_sem] at h)<;>(try exact g_f))|(with_reducible refine And.intro ?_ ?_;· exact g_x)|(with_reducible intro h;(try simp only[go_sem] at h);(try exact g_f))))
            all_goals (refine CutQ_c (τ := [.cells 5 [netC n], .cells 5 [brkC ⟨0, a8, b8, c8, e8⟩], .cells 5 [brkC b9]]) (by simp [netC, brkC, intA1, rowsC, linksV]) ?_; simp [h9])
      · have e1 : settleA n x 100 = (([], 0), fitA n x) := by simp [settleA, hx0]
        rw [e1] at hS
        refine ACalls_of_awp Try.func11 rfl Try.results11 ?_
        simp only [List.length_cons, List.length_nil, Try.ntmps11, Nat.reduceAdd, Nat.reduceSub, enterA]
        (repeat' (first|(refine g_s fun K hK=>?_)|(refine g_b ?_)|(refine g_r ?_)|(refine g_k ?_;simp only[thenQ,blockQ])|(refine g_e ?_;simp only[thenQ,blockQ,↓reduceIte,Nat.reduceEqDiff])|(refine g_c (fun h=>?_) (fun h=>?_)<;>(try simp only[go_sem] at h)<;>(try exact g_f))|((first|refine g_t ?_|refine g_g ?_|refine g_U ?_|refine g_A ?_|refine (netBegun_calls _).use ?_|refine g_q (fun τ=>netBegun_calls _) ?_|refine (algebraBegun_calls _).use ?_|refine g_q (fun τ=>algebraBegun_calls _) ?_|refine (tableBegun_calls _).use ?_|refine g_q (fun τ=>tableBegun_calls _) ?_|refine (hP _).use ?_|refine g_q (fun τ=>hP _) ?_|refine (hS _).use ?_|refine g_q (fun τ=>hS _) ?_|refine g_W ?_);(try simp -implicitDefEqProofs only[go_sem,h1]))|(with_reducible refine hK _ _ ?_;clear hK K)|(clear hK K;first|(with_reducible refine hK _ _ ?_;clear hK K)|(clear hK K;with_reducible refine hK _ _ ?_;clear hK K)|(clear hK K;clear hK K;with_reducible refine hK _ _ ?_;clear hK K))|(with_reducible refine splitB_intro (fun h=>?_) (fun h=>?_)<;>(try simp only[go_sem] at h)<;>(try exact g_f)<;>(try simp -implicitDefEqProofs only[go_sem,h1]))|(with_reducible refine And.intro (fun h=>?_) (fun h=>?_)<;>(try simp only[go_sem] at h)<;>(try exact g_f))|(with_reducible refine And.intro ?_ ?_;· exact g_x)|(with_reducible intro h;(try simp only[go_sem] at h);(try exact g_f))))
        all_goals (refine CutQ_c rfl ?_; simp)
    · generalize settleA n x 100 = q at hS
      refine ACalls_of_awp Try.func11 rfl Try.results11 ?_
      simp only [List.length_cons, List.length_nil, Try.ntmps11, Nat.reduceAdd, Nat.reduceSub, enterA]
      (repeat' (first|(refine g_s fun K hK=>?_)|(refine g_b ?_)|(refine g_r ?_)|(refine g_k ?_;simp only[thenQ,blockQ])|(refine g_e ?_;simp only[thenQ,blockQ,↓reduceIte,Nat.reduceEqDiff])|(refine g_c (fun h=>?_) (fun h=>?_)<;>(try simp only[go_sem] at h)<;>(try exact g_f))|((first|refine g_t ?_|refine g_g ?_|refine g_U ?_|refine g_A ?_|refine (netBegun_calls _).use ?_|refine g_q (fun τ=>netBegun_calls _) ?_|refine (algebraBegun_calls _).use ?_|refine g_q (fun τ=>algebraBegun_calls _) ?_|refine (tableBegun_calls _).use ?_|refine g_q (fun τ=>tableBegun_calls _) ?_|refine (hP _).use ?_|refine g_q (fun τ=>hP _) ?_|refine (hS _).use ?_|refine g_q (fun τ=>hS _) ?_|refine g_W ?_);(try simp -implicitDefEqProofs only[go_sem]))|(with_reducible refine hK _ _ ?_;clear hK K)|(clear hK K;first|(with_reducible refine hK _ _ ?_;clear hK K)|(clear hK K;with_reducible refine hK _ _ ?_;clear hK K)|(clear hK K;clear hK K;with_reducible refine hK _ _ ?_;clear hK K))|(with_reducible refine splitB_intro (fun h=>?_) (fun h=>?_)<;>(try simp only[go_sem] at h)<;>(try exact g_f)<;>(try simp -implicitDefEqProofs only[go_sem]))|(with_reducible refine And.intro (fun h=>?_) (fun h=>?_)<;>(try simp only[go_sem] at h)<;>(try exact g_f))|(with_reducible refine And.intro ?_ ?_;· exact g_x)|(with_reducible intro h;(try simp only[go_sem] at h);(try exact g_f))))
      all_goals (refine CutQ_c rfl ?_; simp)
  · generalize settleA n x 100 = q at hS
    refine ACalls_of_awp Try.func11 rfl Try.results11 ?_
    simp only [List.length_cons, List.length_nil, Try.ntmps11, Nat.reduceAdd, Nat.reduceSub, enterA]
    (repeat' (first|(refine g_s fun K hK=>?_)|(refine g_b ?_)|(refine g_r ?_)|(refine g_k ?_;simp only[thenQ,blockQ])|(refine g_e ?_;simp only[thenQ,blockQ,↓reduceIte,Nat.reduceEqDiff])|(refine g_c (fun h=>?_) (fun h=>?_)<;>(try simp only[go_sem] at h)<;>(try exact g_f))|((first|refine g_t ?_|refine g_g ?_|refine g_U ?_|refine g_A ?_|refine (netBegun_calls _).use ?_|refine g_q (fun τ=>netBegun_calls _) ?_|refine (algebraBegun_calls _).use ?_|refine g_q (fun τ=>algebraBegun_calls _) ?_|refine (tableBegun_calls _).use ?_|refine g_q (fun τ=>tableBegun_calls _) ?_|refine (hP _).use ?_|refine g_q (fun τ=>hP _) ?_|refine (hS _).use ?_|refine g_q (fun τ=>hS _) ?_|refine g_W ?_);(try simp -implicitDefEqProofs only[go_sem]))|(with_reducible refine hK _ _ ?_;clear hK K)|(clear hK K;first|(with_reducible refine hK _ _ ?_;clear hK K)|(clear hK K;with_reducible refine hK _ _ ?_;clear hK K)|(clear hK K;clear hK K;with_reducible refine hK _ _ ?_;clear hK K))|(with_reducible refine splitB_intro (fun h=>?_) (fun h=>?_)<;>(try simp only[go_sem] at h)<;>(try exact g_f)<;>(try simp -implicitDefEqProofs only[go_sem]))|(with_reducible refine And.intro (fun h=>?_) (fun h=>?_)<;>(try simp only[go_sem] at h)<;>(try exact g_f))|(with_reducible refine And.intro ?_ ?_;· exact g_x)|(with_reducible intro h;(try simp only[go_sem] at h);(try exact g_f))))
    all_goals (refine CutQ_c rfl ?_; simp)
end Go.Proofs.Ytephecognbbaoab
