/- PlayOf and CalmOf, as the document plays and calms. -/
import Derived.Test.YtephecognbbaoacGreatZFp
import Derived.Test.YtephecognbbaoacGreatZFv
import Derived.Test.YtephecognbbaoacGreatZFj
import Derived.Test.YtephecognbbaoacGreatZCo
open Go
set_option linter.all false
set_option maxRecDepth 100000
set_option maxHeartbeats 4000000
namespace Go.Proofs.YtephecognbbaoacGreat
open Go
set_option linter.all false
set_option maxRecDepth 100000
set_option maxHeartbeats 4000000
theorem playOf_calls (n : Net) (e : Eng) (hc : checkN n = 0) (hl : n.links.length ≤ 5864062014634) (he : EngIn n e) (hby : EngB e) (l : List Evt) (hll : l.length ≤ 3000000000000) (hlv : ∀ v ∈ l, EvtOk v) (σ : Store) :
    ACalls Tryz.prog 7 [.agg (netC n), .agg (engC e), .sl (l.map evtC)] σ fun r σ' => σ' = σ ∧ r = .tup [.agg (engC (playF n l 0 e).1), intA1 (playF n l 0 e).2] := by
  have hn := netIn_of hc
  obtain ⟨X, hX⟩ : ∃ X, playF n l 0 e = X := ⟨_, rfl⟩
  rw [hX]
  refine ACalls.cutX ?_
  refine ACalls_of_awp Tryz.func7 rfl Tryz.results7 ?_
  simp only [List.length_cons, List.length_nil, Tryz.ntmps7, Nat.reduceAdd, Nat.reduceSub, enterA]
  refine AWP_seq_k fun K hK => ?_
  (refine AWP_region ?_; simp -implicitDefEqProofs only [go_sem])
  refine hK _ _ ?_; clear hK K
  refine AWP_freezeP 3 rfl (by first | rfl | (simp -implicitDefEqProofs only [go_sem]; done) | (simp -implicitDefEqProofs only [go_sem]; rfl)) ?_
  simp only [ss0, List.set_cons_zero]
  (repeat' (first|(refine g_s fun K hK=>?_)|(refine g_b ?_)|(refine g_g ?_;(try simp -implicitDefEqProofs only[go_sem]))|(with_reducible refine hK _ _ ?_;clear hK K)|fail))
  have hJ := hK
  clear hK
  refine AWP_each l (fun k r (e2 : Eng) => EngIn n e2 ∧ EngB e2 ∧ playF n r k e2 = X) (fun k _ _ => [(8, intA1 k), (4, .ptr (σ.length + 1) 2 0 0)]) (fun _ e2 τ => σ ++ (.dead :: .cells 2 [engC e2] :: .cells 2 [[.c (.slice none 0 0), .c (.slice none 0 0)]] :: τ)) e [] ⟨he, hby, hX⟩ rfl (ALe_of ?_) ?_ ?_
  · simp -implicitDefEqProofs only [go_sem]
  · rintro k r e2 τ hk0 hk1 ⟨h5, h6, h7⟩ L hL
    obtain ⟨w, hw⟩ : ∃ w, at0 l k = w := ⟨_, rfl⟩
    have hwm := at0_mem l hk0 hk1
    rw [hw] at h7 hwm
    have hst := fun S => stepOf_calls n e2 hc hl h5 h6 (engOk_of hn h5 h6) w (hlv w hwm) S
    have h8 := step_in hc h5 w
    have h9 := stepB hc h5 h6 w
    rw [playF] at h7
    simp -implicitDefEqProofs only [go_sem]
    by_cases hr : (stepE n e2 w).2 = 0
    · rw [if_neg (not_not_intro hr)] at h7
      have ho : stepO n e2 w = stepE n e2 w := by rw [stepO, if_neg (not_not_intro hr)]
      rw [ho, hr] at hst
      (repeat' (first|(refine g_s fun K hK=>?_)|(refine g_b ?_)|(refine g_k ?_;simp only[thenQ,blockQ])|(refine g_c (fun h=>?_) (fun h=>?_)<;>(try simp only[go_sem] at h)<;>(try exact g_f))|((first|refine g_g ?_|refine g_q (fun τ=>hst _) ?_|refine AWP_drawZ tab_mixed (by decide +kernel) ?_);(try simp -implicitDefEqProofs only[go_sem,hw]))|(with_reducible refine hK _ _ ?_;clear hK K)|(with_reducible refine And.intro ?_ ?_;· exact g_x)|fail))
      refine hL (stepE n e2 w).1 (τ ++ [.cells 2 [engC (stepE n e2 w).1]]) _ _ ⟨h8, h9, h7⟩ (ALe_of ?_) ?_
      · simp -implicitDefEqProofs only [go_sem]
      · simp [engC]
    · rw [if_pos hr] at h7
      have ho : stepO n e2 w = (noE, (stepE n e2 w).2) := by rw [stepO, if_pos hr]
      rw [ho] at hst
      subst h7
      (repeat' (first|(refine g_s fun K hK=>?_)|(refine g_b ?_)|(refine g_k ?_;simp only[thenQ,blockQ])|(refine g_c (fun h=>?_) (fun h=>?_)<;>(try simp only[go_sem] at h)<;>(try exact g_f))|((first|refine g_t ?_|refine g_g ?_|refine g_q (fun τ=>hst _) ?_|refine AWP_drawZ tab_mixed (by decide +kernel) ?_);(try simp -implicitDefEqProofs only[go_sem,hw, hr]))|(with_reducible refine hK _ _ ?_;clear hK K)|(with_reducible refine And.intro ?_ ?_;· exact g_x)|fail))
      exact CutQ_w rfl (.tupL (.cons (.eng _) (.cons (.c _) .nil))) (.eq rfl)
  · rintro k e2 τ hk ⟨h5, h6, h7⟩ L
    rw [playF] at h7
    subst h7
    simp -implicitDefEqProofs only [go_sem]
    (repeat' (first|(refine g_s fun K hK=>?_)|(refine g_e ?_;simp only[thenQ,blockQ,↓reduceIte,Nat.reduceEqDiff])|(refine g_c (fun h=>?_) (fun h=>?_)<;>(try simp only[go_sem] at h)<;>(try exact g_f))|(refine g_g ?_;(try simp -implicitDefEqProofs only[go_sem]))|(with_reducible refine hK _ _ ?_;clear hK K)|fail))
    refine hJ _ _ ?_
    clear hJ
    (repeat' (first|(refine g_s fun K hK=>?_)|((first|refine g_t ?_|refine g_g ?_);(try simp -implicitDefEqProofs only[go_sem]))|(with_reducible refine hK _ _ ?_;clear hK K)|fail))
    rw [hk]
    exact CutQ_w rfl (.tupL (.cons (.eng _) (.cons (.c _) .nil))) (.eq rfl)
theorem ticks_fold {n : Net} (r : List Int) (k : Int) (e : Eng) : (k :: r).foldl (fun e i => (tickE n e i).1) e = r.foldl (fun e i => (tickE n e i).1) (tickE n e k).1 := rfl
theorem come_last {n : Net} {e : Eng} (h : e.bag = []) : comeE n e = e := by
  unfold comeE
  rw [h]
  rfl
theorem calmOf_calls (n : Net) (e : Eng) (hc : checkN n = 0) (hl : n.links.length ≤ 5864062014634) (he : EngIn n e) (hby : EngB e) (rounds : Int) (hr0 : 0 ≤ rounds) (hr1 : rounds ≤ 100) (σ : Store) :
    ACalls Tryz.prog 8 [.agg (netC n), .agg (engC e), intA1 rounds] σ fun r σ' => σ' = σ ∧ r = .agg (engC (calmE n e rounds)) := by
  have hn := netIn_of hc
  have n1 := hn.n1
  have n6 := hn.n6
  obtain ⟨X, hX⟩ : ∃ X, calmE n e rounds = X := ⟨_, rfl⟩
  rw [hX]
  have hI0 : ∀ q, 0 ≤ q → q ≤ 100 → I64 q := fun q a b => by unfold I64; omega
  refine ACalls.cutX ?_
  refine ACalls_of_awp Tryz.func8 rfl Tryz.results8 ?_
  simp only [List.length_cons, List.length_nil, Tryz.ntmps8, Nat.reduceAdd, Nat.reduceSub, enterA]
  refine AWP_seq_k fun K hK => ?_
  (refine AWP_region ?_; simp -implicitDefEqProofs only [go_sem])
  refine hK _ _ ?_; clear hK K
  refine AWP_freezeP 3 rfl (by first | rfl | (simp -implicitDefEqProofs only [go_sem]; done) | (simp -implicitDefEqProofs only [go_sem]; rfl)) ?_
  simp only [ss0, List.set_cons_zero]
  (repeat' (first|(refine g_s fun K hK=>?_)|(refine g_b ?_)|(refine g_g ?_;(try simp -implicitDefEqProofs only[go_sem]))|(with_reducible refine hK _ _ ?_;clear hK K)|fail))
  have hJ := hK
  clear hK
  refine AWP_for (rounds + 1) (fun k (e2 : Eng) => EngIn n e2 ∧ EngB e2 ∧ (if k = 0 then calmE n e2 rounds = X else (e2.bag = [] ∧ calmF n (rounds + 1 - k).toNat e2 = X))) (fun k _ _ => [(7, intA1 k), (4, .ptr (σ.length + 1) 2 0 0)]) (fun _ e2 τ => σ ++ (.dead :: .cells 2 [engC e2] :: .cells 2 [[.c (.slice none 0 0), .c (.slice none 0 0)]] :: τ)) e [] (by omega) ⟨he, hby, by rw [if_pos rfl]; exact hX⟩ rfl (ALe_of ?_) ?_
  · simp -implicitDefEqProofs only [go_sem]
  · rintro k e2 τ hk0 hk1 ⟨h5, h6, h7⟩ L hL
    have h7 : if k = 0 then calmE n e2 rounds = X else (e2.bag = [] ∧ calmF n (rounds + 1 - k).toNat e2 = X) := h7
    by_cases hk : k < rounds + 1
    · have hle : k ≤ rounds := by omega
      have ik : I64 (k + 1) := by unfold I64; omega
      simp -implicitDefEqProofs only [go_sem]
      (repeat' (first|(refine g_s fun K hK=>?_)|(refine g_b ?_)|(refine g_k ?_;simp only[thenQ,blockQ])|(refine g_c (fun h=>?_) (fun h=>?_)<;>(try simp only[go_sem] at h)<;>(try exact g_f))|(refine g_g ?_;(try simp -implicitDefEqProofs only[go_sem,hle]))|(with_reducible refine hK _ _ ?_;clear hK K)|fail))
      have hJ2 := hK
      clear hK
      have hJR := hK
      clear hK
      -- all tell, but not ahead of the first coming
      obtain ⟨m, hm⟩ : ∃ m, (if k = 0 then (0 : Int) else n.nodes) = m := ⟨_, rfl⟩
      obtain ⟨Y, hY⟩ : ∃ Y, (if k = 0 then e2 else ticksE n e2) = Y := ⟨_, rfl⟩
      have hm0 : 0 ≤ m := by rw [← hm]; split <;> omega
      have hm6 : m ≤ 6 := by rw [← hm]; split <;> omega
      refine AWP_each (ints m) (fun _ r (e3 : Eng) => EngIn n e3 ∧ EngB e3 ∧ (k = 0 ∨ e3.bag.length + 6 * r.length ≤ 36) ∧ r.foldl (fun e i => (tickE n e i).1) e3 = Y) (fun q _ _ => [(8, intA1 q), (4, .ptr (σ.length + 1) 2 0 0)]) (fun _ e3 τ => σ ++ (.dead :: .cells 2 [engC e3] :: .cells 2 [[.c (.slice none 0 0), .c (.slice none 0 0)]] :: τ)) e2 τ ⟨h5, h6, ?_, ?_⟩ rfl (ALe_of ?_) ?_ ?_
      · by_cases hz : k = 0
        · exact .inl hz
        · rw [if_neg hz] at h7
          refine .inr ?_
          rw [h7.1, ints_length]
          simp only [List.length_nil]
          omega
      · rw [← hm, ← hY]
        split
        · rfl
        · rfl
      · simp -implicitDefEqProofs only [go_sem]
      · rintro q r e3 τ2 hq0 hq1 ⟨g5, g6, gb, g7⟩ L2 hL2
        rw [ints_length] at hq1
        have hkn : k ≠ 0 := fun h => by rw [if_pos h] at hm; omega
        have hk3 : (0 : Int) < k := by omega
        rw [if_neg hkn] at hm
        subst hm
        have gb : e3.bag.length + 6 * (r.length + 1) ≤ 36 := by
          rcases gb with h | h
          · exact absurd h hkn
          · simpa using h
        rw [at0_ints hq0 (by omega), ticks_fold] at g7
        have hqn : q < n.nodes := by omega
        have iq : I64 (q + 1) := by unfold I64; omega
        have hT : inR q 0 (n.nodes - 1) = true := inR_iff.2 (by omega)
        have hhl := hears_len hn q
        have hte : tickE n e3 q = (⟨(lookedE n e3 q).routers, e3.bag ++ (hearsA n q).map (mailA (lookE n (at0 e3.routers q) q) q)⟩, 0) := by rw [tickE, if_neg (by omega)]
        have hts : stepE n e3 ⟨1, q, 0, 0, []⟩ = tickE n e3 q := by
          unfold stepE
          simp only
          rw [hT]
          rfl
        have hev : EvtOk ⟨1, q, 0, 0, []⟩ := ⟨by show I64 1; unfold I64; omega, by show I64 q; unfold I64; omega, by show I64 0; unfold I64; omega, by show I64 0; unfold I64; omega, by simp⟩
        have hst := fun S => stepOf_calls n e3 hc hl g5 g6 (engOk_of hn g5 g6) ⟨1, q, 0, 0, []⟩ hev S
        have g8 := step_in hc g5 ⟨1, q, 0, 0, []⟩
        have g9 := stepB hc g5 g6 ⟨1, q, 0, 0, []⟩
        have ho : stepO n e3 ⟨1, q, 0, 0, []⟩ = tickE n e3 q := by rw [stepO, hts, hte, if_neg (not_not_intro rfl)]
        rw [hts] at g8 g9
        rw [ho] at hst
        have g10 : (tickE n e3 q).1.bag.length ≤ e3.bag.length + 6 := by
          rw [hte]
          simp only [List.length_append, List.length_map]
          omega
        obtain ⟨Tk, hTk⟩ : ∃ Tk, tickE n e3 q = Tk := ⟨_, rfl⟩
        rw [hTk] at g7 g8 g9 g10 hst
        simp -implicitDefEqProofs only [go_sem]
        have hst2 : ∀ S, ACalls Tryz.prog 19 [.agg (netC n), .agg (engC e3), .agg [intA1 1, intA1 q, intA1 0, intA1 0, .c (.slice none 0 0)]] S fun r σ' => σ' = S ∧ r = .tup [.agg (engC Tk.1), intA1 Tk.2] := fun S => ((hst S).argW (by (repeat' (first | exact Wk.nil | exact Wk.emp | exact WkL.nil | (with_reducible exact Wk.refl _) | refine Wk.agg ?_ | refine Wk.tup ?_ | refine WkL.cons ?_ ?_ | (refine Wk.eq ?_; rfl)))) )
        (repeat' (first|(refine g_s fun K hK=>?_)|(refine g_b ?_)|(refine g_k ?_;simp only[thenQ,blockQ])|(refine g_c (fun h=>?_) (fun h=>?_)<;>(try simp only[go_sem] at h)<;>(try exact g_f))|((first|refine g_g ?_|refine (hst2 _).use ?_);(try simp -implicitDefEqProofs only[go_sem,hqn, hk3, iq]))|(with_reducible refine hK _ _ ?_;clear hK K)|fail))
        refine hL2 Tk.1 τ2 _ _ ⟨g8, g9, .inr (by omega), g7⟩ (ALe_of ?_) ?_
        · simp -implicitDefEqProofs only [go_sem]
        · rfl
      · rintro q e3 τ2 hq ⟨g5, g6, gb, g7⟩ L2
        rw [ints_length] at hq
        have g7 : e3 = Y := g7
        obtain ⟨Z, hZ⟩ : ∃ Z, comeE n Y = Z := ⟨_, rfl⟩
        have hend : (q < n.nodes ∧ 0 < k) = False := eq_false (by
          rintro ⟨a, b⟩
          rw [if_neg (by omega)] at hm
          omega)
        by_cases hz : k = 0
        · have hk3 : ¬ (0 : Int) < k := by omega
          have hm9 : m = 0 := by rw [← hm, if_pos hz]
          have hqn : q < n.nodes := by omega
          simp -implicitDefEqProofs only [go_sem]
          (repeat' (first|(refine g_s fun K hK=>?_)|(refine g_e ?_;simp only[thenQ,blockQ,↓reduceIte,Nat.reduceEqDiff])|(refine g_c (fun h=>?_) (fun h=>?_)<;>(try simp only[go_sem] at h)<;>(try exact g_f))|(refine g_g ?_;(try simp -implicitDefEqProofs only[go_sem,hqn, hk3]))|(with_reducible refine hK _ _ ?_;clear hK K)|fail))
          refine hJ2 _ _ ?_
          clear hJ2
          (repeat' (first|(refine g_b ?_)|fail))
          try have hJ3 := hK
          refine AWP_each e3.bag (fun _ r (e4 : Eng) => EngIn n e4 ∧ EngB e4 ∧ e4.bag = r ∧ comeE n e4 = Z) (fun _ _ _ => [(4, .ptr (σ.length + 1) 2 0 0)]) (fun _ e4 τ => σ ++ (.dead :: .cells 2 [engC e4] :: .cells 2 [[.c (.slice none 0 0), .c (.slice none 0 0)]] :: τ)) e3 τ2 ⟨g5, g6, rfl, by rw [g7]; exact hZ⟩ rfl (ALe_of ?_) ?_ ?_
          · simp -implicitDefEqProofs only [go_sem]
          · rintro j r e4 τ3 hj0 hj1 ⟨f5, f6, f7, f8⟩ L3 hL3
            have f7 : e4.bag = at0 e3.bag j :: r := f7
            have hlr : e4.bag.length = r.length + 1 := by rw [f7]; rfl
            have hT : inR 0 0 ((e4.bag.length : Int) - 1) = true := inR_iff.2 (by omega)
            have hts : stepE n e4 ⟨2, 0, 0, 0, []⟩ = (deliverE n e4 0, 0) := by
              unfold stepE
              simp only
              rw [hT]
              rfl
            have hev : EvtOk ⟨2, 0, 0, 0, []⟩ := ⟨by show I64 2; unfold I64; omega, by show I64 0; unfold I64; omega, by show I64 0; unfold I64; omega, by show I64 0; unfold I64; omega, by simp⟩
            have hst := fun S => stepOf_calls n e4 hc hl f5 f6 (engOk_of hn f5 f6) ⟨2, 0, 0, 0, []⟩ hev S
            have f9 := step_in hc f5 ⟨2, 0, 0, 0, []⟩
            have f10 := stepB hc f5 f6 ⟨2, 0, 0, 0, []⟩
            rw [hts] at f9 f10
            rw [stepO_of hts] at hst
            have hdg : (deliverE n e4 0).bag = r := by
              show (takeE n (dropE e4 0) (at0 e4.bag 0)).bag = r
              rw [takeE_bag]
              show e4.bag.eraseIdx 0 = r
              rw [f7]
              rfl
            rw [come_step f7] at f8
            obtain ⟨e5, he5⟩ : ∃ e5, deliverE n e4 0 = e5 := ⟨_, rfl⟩
            rw [he5] at f8 f9 f10 hdg hst
            simp -implicitDefEqProofs only [go_sem]
            have hst2 : ∀ S, ACalls Tryz.prog 19 [.agg (netC n), .agg (engC e4), .agg [intA1 2, intA1 0, intA1 0, intA1 0, .c (.slice none 0 0)]] S fun r σ' => σ' = S ∧ r = .tup [.agg (engC e5), intA1 0] := fun S => ((hst S).argW (by (repeat' (first | exact Wk.nil | exact Wk.emp | exact WkL.nil | (with_reducible exact Wk.refl _) | refine Wk.agg ?_ | refine Wk.tup ?_ | refine WkL.cons ?_ ?_ | (refine Wk.eq ?_; rfl)))) )
            (repeat' (first|(refine g_s fun K hK=>?_)|(refine g_b ?_)|(refine g_k ?_;simp only[thenQ,blockQ])|(refine g_c (fun h=>?_) (fun h=>?_)<;>(try simp only[go_sem] at h)<;>(try exact g_f))|((first|refine g_g ?_|refine (hst2 _).use ?_);(try simp -implicitDefEqProofs only[go_sem,hlr]))|(with_reducible refine hK _ _ ?_;clear hK K)|fail))
            refine hL3 e5 τ3 _ _ ⟨f9, f10, hdg, f8⟩ (ALe_of ?_) ?_
            · simp -implicitDefEqProofs only [go_sem]
            · rfl
          · rintro j e4 τ3 hj ⟨f5, f6, f7, f8⟩ L3
            have f7 : e4.bag = [] := f7
            have hl0 : e4.bag.length = 0 := by rw [f7]; rfl
            rw [come_last f7] at f8
            subst f8
            simp -implicitDefEqProofs only [go_sem]
            (repeat' (first|(refine g_s fun K hK=>?_)|(refine g_e ?_;simp only[thenQ,blockQ,↓reduceIte,Nat.reduceEqDiff])|(refine g_c (fun h=>?_) (fun h=>?_)<;>(try simp only[go_sem] at h)<;>(try exact g_f))|(refine g_g ?_;(try simp -implicitDefEqProofs only[go_sem,hl0]))|(with_reducible refine hK _ _ ?_;clear hK K)|fail))
            first | refine hJR _ _ ?_ | refine hJ3 _ _ ?_
            clear hJR
            (repeat' (first|(refine g_g ?_;(try simp -implicitDefEqProofs only[go_sem,ik]))|fail))
            refine hL hk e4 τ3 _ _ ⟨f5, f6, ?_⟩ (ALe_of ?_) ?_
            · show if k + 1 = 0 then _ else _
              rw [if_neg (by omega)]
              refine ⟨f7, ?_⟩
              rw [if_pos hz] at h7 hY
              subst hY
              rw [calmE, hZ] at h7
              have en : (rounds + 1 - (k + 1)).toNat = rounds.toNat := by omega
              rw [en]
              exact h7
            · simp -implicitDefEqProofs only [go_sem]
            · rfl
        · have hm9 : m = n.nodes := by rw [← hm, if_neg hz]
          have hqn : ¬ q < n.nodes := by omega
          simp -implicitDefEqProofs only [go_sem]
          (repeat' (first|(refine g_s fun K hK=>?_)|(refine g_e ?_;simp only[thenQ,blockQ,↓reduceIte,Nat.reduceEqDiff])|(refine g_c (fun h=>?_) (fun h=>?_)<;>(try simp only[go_sem] at h)<;>(try exact g_f))|(refine g_g ?_;(try simp -implicitDefEqProofs only[go_sem,hqn]))|(with_reducible refine hK _ _ ?_;clear hK K)|fail))
          refine hJ2 _ _ ?_
          clear hJ2
          (repeat' (first|(refine g_b ?_)|fail))
          try have hJ3 := hK
          refine AWP_each e3.bag (fun _ r (e4 : Eng) => EngIn n e4 ∧ EngB e4 ∧ e4.bag = r ∧ comeE n e4 = Z) (fun _ _ _ => [(4, .ptr (σ.length + 1) 2 0 0)]) (fun _ e4 τ => σ ++ (.dead :: .cells 2 [engC e4] :: .cells 2 [[.c (.slice none 0 0), .c (.slice none 0 0)]] :: τ)) e3 τ2 ⟨g5, g6, rfl, by rw [g7]; exact hZ⟩ rfl (ALe_of ?_) ?_ ?_
          · simp -implicitDefEqProofs only [go_sem]
          · rintro j r e4 τ3 hj0 hj1 ⟨f5, f6, f7, f8⟩ L3 hL3
            have f7 : e4.bag = at0 e3.bag j :: r := f7
            have hlr : e4.bag.length = r.length + 1 := by rw [f7]; rfl
            have hT : inR 0 0 ((e4.bag.length : Int) - 1) = true := inR_iff.2 (by omega)
            have hts : stepE n e4 ⟨2, 0, 0, 0, []⟩ = (deliverE n e4 0, 0) := by
              unfold stepE
              simp only
              rw [hT]
              rfl
            have hev : EvtOk ⟨2, 0, 0, 0, []⟩ := ⟨by show I64 2; unfold I64; omega, by show I64 0; unfold I64; omega, by show I64 0; unfold I64; omega, by show I64 0; unfold I64; omega, by simp⟩
            have hst := fun S => stepOf_calls n e4 hc hl f5 f6 (engOk_of hn f5 f6) ⟨2, 0, 0, 0, []⟩ hev S
            have f9 := step_in hc f5 ⟨2, 0, 0, 0, []⟩
            have f10 := stepB hc f5 f6 ⟨2, 0, 0, 0, []⟩
            rw [hts] at f9 f10
            rw [stepO_of hts] at hst
            have hdg : (deliverE n e4 0).bag = r := by
              show (takeE n (dropE e4 0) (at0 e4.bag 0)).bag = r
              rw [takeE_bag]
              show e4.bag.eraseIdx 0 = r
              rw [f7]
              rfl
            rw [come_step f7] at f8
            obtain ⟨e5, he5⟩ : ∃ e5, deliverE n e4 0 = e5 := ⟨_, rfl⟩
            rw [he5] at f8 f9 f10 hdg hst
            simp -implicitDefEqProofs only [go_sem]
            have hst2 : ∀ S, ACalls Tryz.prog 19 [.agg (netC n), .agg (engC e4), .agg [intA1 2, intA1 0, intA1 0, intA1 0, .c (.slice none 0 0)]] S fun r σ' => σ' = S ∧ r = .tup [.agg (engC e5), intA1 0] := fun S => ((hst S).argW (by (repeat' (first | exact Wk.nil | exact Wk.emp | exact WkL.nil | (with_reducible exact Wk.refl _) | refine Wk.agg ?_ | refine Wk.tup ?_ | refine WkL.cons ?_ ?_ | (refine Wk.eq ?_; rfl)))) )
            (repeat' (first|(refine g_s fun K hK=>?_)|(refine g_b ?_)|(refine g_k ?_;simp only[thenQ,blockQ])|(refine g_c (fun h=>?_) (fun h=>?_)<;>(try simp only[go_sem] at h)<;>(try exact g_f))|((first|refine g_g ?_|refine (hst2 _).use ?_);(try simp -implicitDefEqProofs only[go_sem,hlr]))|(with_reducible refine hK _ _ ?_;clear hK K)|fail))
            refine hL3 e5 τ3 _ _ ⟨f9, f10, hdg, f8⟩ (ALe_of ?_) ?_
            · simp -implicitDefEqProofs only [go_sem]
            · rfl
          · rintro j e4 τ3 hj ⟨f5, f6, f7, f8⟩ L3
            have f7 : e4.bag = [] := f7
            have hl0 : e4.bag.length = 0 := by rw [f7]; rfl
            rw [come_last f7] at f8
            subst f8
            simp -implicitDefEqProofs only [go_sem]
            (repeat' (first|(refine g_s fun K hK=>?_)|(refine g_e ?_;simp only[thenQ,blockQ,↓reduceIte,Nat.reduceEqDiff])|(refine g_c (fun h=>?_) (fun h=>?_)<;>(try simp only[go_sem] at h)<;>(try exact g_f))|(refine g_g ?_;(try simp -implicitDefEqProofs only[go_sem,hl0]))|(with_reducible refine hK _ _ ?_;clear hK K)|fail))
            first | refine hJR _ _ ?_ | refine hJ3 _ _ ?_
            clear hJR
            (repeat' (first|(refine g_g ?_;(try simp -implicitDefEqProofs only[go_sem,ik]))|fail))
            refine hL hk e4 τ3 _ _ ⟨f5, f6, ?_⟩ (ALe_of ?_) ?_
            · show if k + 1 = 0 then _ else _
              rw [if_neg (by omega)]
              refine ⟨f7, ?_⟩
              rw [if_neg hz] at h7 hY
              have en : (rounds + 1 - k).toNat = (rounds + 1 - (k + 1)).toNat + 1 := by omega
              have h8 := h7.2
              rw [en, calmF, hY, hZ] at h8
              exact h8
            · simp -implicitDefEqProofs only [go_sem]
            · rfl
    · have hke : k = rounds + 1 := by omega
      have hle : ¬ k ≤ rounds := by omega
      rw [if_neg (by omega)] at h7
      have e0 : (rounds + 1 - k).toNat = 0 := by omega
      rw [e0, calmF] at h7
      have h8 := h7.2
      subst h8
      simp -implicitDefEqProofs only [go_sem]
      (repeat' (first|(refine g_s fun K hK=>?_)|(refine g_e ?_;simp only[thenQ,blockQ,↓reduceIte,Nat.reduceEqDiff])|(refine g_c (fun h=>?_) (fun h=>?_)<;>(try simp only[go_sem] at h)<;>(try exact g_f))|(refine g_g ?_;(try simp -implicitDefEqProofs only[go_sem,hle]))|(with_reducible refine hK _ _ ?_;clear hK K)|fail))
      refine hJ _ _ ?_
      clear hJ
      (repeat' (first|(refine g_s fun K hK=>?_)|((first|refine g_t ?_|refine g_g ?_);(try simp -implicitDefEqProofs only[go_sem]))|(with_reducible refine hK _ _ ?_;clear hK K)|fail))
      exact CutQ_w rfl (.eng _) (.eq rfl)
end Go.Proofs.YtephecognbbaoacGreat
namespace Go.Proofs.YtephecognbbaoacGreat
def playR (n : Net) (e : Eng) (l : List Evt) : Eng × Int × Int :=
  if checkE n e ≠ 0 then (noE, 0, checkE n e) else if 300 < l.length then (noE, 0, 2) else ((playF n l 0 e).1, (playF n l 0 e).2, 0)
theorem evtC_len (l : List Evt) : (∀ e', e' ∈ l.map evtC → e'.length = 5) = True := len_map (f := evtC) (fun _ => rfl) l
theorem evtC_one (l : List Evt) : (∀ e', e' ∈ l.map evtC → e'.all oneA = true) = True := one_map (f := evtC) (fun _ => rfl) l
attribute [go_sem] evtC_len evtC_one
theorem eplay_calls (n : Net) (e : Eng) (okn : NetOk n) (ok : EngOk e) (l : List Evt) (hll : l.length ≤ 3000000000000) (hlv : ∀ v ∈ l, v.routes.length ≤ 17592186044000) (σ : Store) : ACalls Tryz.prog 4 [.agg (netC n), .agg (engC e), .sl (l.map evtC)] σ fun r σ' => σ' = σ ∧ r = .tup [.agg (engC (playR n e l).1), intA1 (playR n e l).2.1, intA1 (playR n e l).2.2] := by
  have hC := checkE_calls n e okn ok
  unfold playR
  refine ACalls.deep ?_
  by_cases h0 : checkE n e = 0
  · rw [if_neg (not_not_intro h0)]
    rw [h0] at hC
    obtain ⟨hc, he⟩ := engIn_of h0
    have hn := netIn_of hc
    have hby : EngB e := fun m hm => (ok.mail m hm).rng
    by_cases h3 : 300 < l.length
    · rw [if_pos h3]
      refine ACalls_of_awp Tryz.func4 rfl Tryz.results4 ?_
      simp only [List.length_cons, List.length_nil, Tryz.ntmps4, Nat.reduceAdd, Nat.reduceSub, enterA]
      refine AWP_seq_k fun K hK => ?_
      (refine AWP_region ?_; simp -implicitDefEqProofs only [go_sem])
      refine hK _ _ ?_; clear hK K
      refine AWP_freezeP 3 rfl (by simp only [st0]; rfl) ?_
      simp only [ss0, List.set_cons_zero]
      refine AWP_freezeP 4 rfl (by simp only [st1]; rfl) ?_
      simp only [ss1, List.set_cons_zero, List.set_cons_succ]
      (repeat' (first|(refine g_s fun K hK=>?_)|(refine g_c (fun h=>?_) (fun h=>?_)<;>(try simp only[go_sem] at h)<;>(try exact g_f))|((first|refine g_t ?_|refine g_g ?_|refine (hC _).use ?_);(try simp -implicitDefEqProofs only[go_sem]))|(with_reducible refine hK _ _ ?_;clear hK K)|(with_reducible refine splitB_intro (fun h=>?_) (fun h=>?_)<;>(try simp only[go_sem] at h)<;>(try exact g_f)<;>(try simp -implicitDefEqProofs only[go_sem]))|fail))
      exact DeepQ_of rfl (.tupL (.cons (.eng _) (.cons (.c _) (.cons (.c _) .nil)))) (.tupL (.cons (.aggL (.cons .nil (.cons .nil .nil))) (.cons (.same _) (.cons (.same _) .nil))))
    · rw [if_neg h3]
      have hk := fun ρ S b e he hb hS v hv => step_calls n e hc okn.len he hb ρ S b hS v hv trivial
      obtain ⟨X, hX⟩ : ∃ X, playF n l 0 e = X := ⟨_, rfl⟩
      rw [hX]
      refine ACalls_of_awp Tryz.func4 rfl Tryz.results4 ?_
      simp only [List.length_cons, List.length_nil, Tryz.ntmps4, Nat.reduceAdd, Nat.reduceSub, enterA]
      refine AWP_seq_k fun K hK => ?_
      (refine AWP_region ?_; simp -implicitDefEqProofs only [go_sem])
      refine hK _ _ ?_; clear hK K
      refine AWP_freezeP 3 rfl (by simp only [st0]; rfl) ?_
      simp only [ss0, List.set_cons_zero]
      refine AWP_freezeP 4 rfl (by simp only [st1]; rfl) ?_
      simp only [ss1, List.set_cons_zero, List.set_cons_succ]
      (repeat' (first|(refine g_s fun K hK=>?_)|(refine g_k ?_;simp only[thenQ,blockQ])|(refine g_c (fun h=>?_) (fun h=>?_)<;>(try simp only[go_sem] at h)<;>(try exact g_f))|((first|refine g_g ?_|refine (hC _).use ?_);(try simp -implicitDefEqProofs only[go_sem]))|(with_reducible refine hK _ _ ?_;clear hK K)|(with_reducible refine splitB_intro (fun h=>?_) (fun h=>?_)<;>(try simp only[go_sem] at h)<;>(try exact g_f)<;>(try simp -implicitDefEqProofs only[go_sem]))|fail))
      obtain ⟨ρ, hρ⟩ : ∃ ρ : Store, σ ++ [.dead, .dead, .cells 2 [[.c (.slice none 0 0), .c (.slice none 0 0)]]] = ρ := ⟨_, rfl⟩
      have hlen : ρ.length = σ.length + 3 := by rw [← hρ]; simp
      have hcL : ∀ τ, (ρ ++ τ)[σ.length + 2]? = some (.cells 2 [[.c (.slice none 0 0), .c (.slice none 0 0)]]) := fun τ => by rw [← hρ]; exact st_app (by simp)
      have hcS : ∀ τ o, (ρ ++ τ).set (σ.length + 2) o = σ ++ ([.dead, .dead, o] ++ τ) := fun τ o => by
        rw [← hρ, List.append_assoc, List.set_append_right _ _ (by omega), Nat.add_sub_cancel_left]
        rfl
      rw [hρ]
      refine (eown_calls n e hn he ok ρ).mono ?_
      rintro r S' ⟨τ, rfl, b, rfl, hM⟩
      (repeat' (first|(refine g_s fun K hK=>?_)|(refine g_b ?_)|(refine g_g ?_;(try simp -implicitDefEqProofs only[go_sem]))|(with_reducible refine hK _ _ ?_;clear hK K)|fail))
      have hJ := hK
      clear hK
      refine AWP_each l (fun k r (s : Store × Eng) => MachK ρ s.1 b n s.2 ∧ EngIn n s.2 ∧ EngB s.2 ∧ playF n r k s.2 = X) (fun k _ _ => [(32, intA1 k)]) (fun _ s _ => s.1) (ρ ++ τ, e) [] ⟨⟨⟨τ, rfl⟩, hM⟩, he, hby, hX⟩ rfl (ALe_of ?_) ?_ ?_
      · simp -implicitDefEqProofs only [go_sem]
      · rintro k r ⟨S2, e2⟩ τ9 hk0 hk1 ⟨h4, h5, h6, h7⟩ L hL
        simp only at h4 h5 h6 h7
        obtain ⟨w, hw⟩ : ∃ w, at0 l k = w := ⟨_, rfl⟩
        have hwm := at0_mem l hk0 hk1
        rw [hw] at h7 hwm
        have hst := hk ρ (S2 ++ [.cells 5 [evtC w]]) b e2 h5 h6 h4.app w (hlv w hwm)
        have h8 := step_in hc h5 w
        have h9 := stepB hc h5 h6 w
        rw [playF] at h7
        simp -implicitDefEqProofs only [go_sem]
        (repeat' (first|(refine g_s fun K hK=>?_)|(refine g_b ?_)|(refine g_k ?_;simp only[thenQ,blockQ])|(refine g_c (fun h=>?_) (fun h=>?_)<;>(try simp only[go_sem] at h)<;>(try exact g_f))|(refine g_g ?_;(try simp -implicitDefEqProofs only[go_sem,hw]))|(with_reducible refine hK _ _ ?_;clear hK K)|(with_reducible refine And.intro ?_ ?_;· exact g_x)|fail))
        refine hst.mono ?_
        rintro r3 S3 ⟨h10, rfl⟩
        by_cases hr : (stepE n e2 w).2 = 0
        · rw [if_neg (not_not_intro hr)] at h7
          simp -implicitDefEqProofs only [go_sem, hr]
          (repeat' (first|(refine g_k ?_;simp only[thenQ,blockQ])|(refine g_c (fun h=>?_) (fun h=>?_)<;>(try simp only[go_sem] at h)<;>(try exact g_f))|(refine g_g ?_;(try simp -implicitDefEqProofs only[go_sem,hr]))|(with_reducible refine hK _ _ ?_;clear hK K)|(with_reducible refine And.intro ?_ ?_;· exact g_x)|fail))
          refine hL (S3, (stepE n e2 w).1) [] _ _ ⟨h10, h8, h9, h7⟩ (ALe_of ?_) rfl
          simp -implicitDefEqProofs only [go_sem]
        · rw [if_pos hr] at h7
          subst h7
          have hse : (stepE n e2 w).1 = e2 := step_err hr
          rw [hse] at h10
          obtain ⟨⟨τ2, rfl⟩, rb, tb, gv, gi, M⟩ := h10
          have hb := M.hb
          have hM3 : ∀ o, MachW (σ ++ ([.dead, .dead, o] ++ τ2)) ρ.length b n e2 rb tb gv gi := fun o => by
            rw [← hcS τ2 o]
            exact M.set_lo (by omega)
          rcases M.bag with ⟨h1, h2, rfl⟩ | ⟨gb, rest, h1, rfl, h3, h4, h5⟩
          all_goals
            simp -implicitDefEqProofs only [go_sem, hr]
            (repeat' (first|(refine g_s fun K hK=>?_)|(refine g_c (fun h=>?_) (fun h=>?_)<;>(try simp only[go_sem] at h)<;>(try exact g_f))|((first|refine g_t ?_|refine g_g ?_);(try simp -implicitDefEqProofs only[go_sem,hcL, hcS, hb, hr]))|(with_reducible refine hK _ _ ?_;clear hK K)|fail))
            exact DeepQ_of rfl (.tupL (.cons (.eng _) (.cons (.c _) (.cons (.c _) .nil)))) (.tupL (.cons (.aggL ((hM3 _).deep fun x hx => by omega)) (.cons (.same _) (.cons (.same _) .nil))))
      · rintro k ⟨S2, e2⟩ τ9 hk9 ⟨h4, h5, h6, h7⟩ L
        simp only at h4 h5 h6 h7
        rw [playF] at h7
        subst h7
        obtain ⟨⟨τ2, rfl⟩, rb, tb, gv, gi, M⟩ := h4
        have hb := M.hb
        have hM3 : ∀ o, MachW (σ ++ ([.dead, .dead, o] ++ τ2)) ρ.length b n e2 rb tb gv gi := fun o => by
          rw [← hcS τ2 o]
          exact M.set_lo (by omega)
        rcases M.bag with ⟨h1, h2, rfl⟩ | ⟨gb, rest, h1, rfl, h3, h4, h5⟩
        all_goals
          simp -implicitDefEqProofs only [go_sem]
          (repeat' (first|(refine g_s fun K hK=>?_)|(refine g_e ?_;simp only[thenQ,blockQ,↓reduceIte,Nat.reduceEqDiff])|(refine g_c (fun h=>?_) (fun h=>?_)<;>(try simp only[go_sem] at h)<;>(try exact g_f))|(refine g_g ?_;(try simp -implicitDefEqProofs only[go_sem]))|(with_reducible refine hK _ _ ?_;clear hK K)|fail))
          refine hJ _ _ ?_
          clear hJ
          (repeat' (first|(refine g_s fun K hK=>?_)|((first|refine g_t ?_|refine g_g ?_);(try simp -implicitDefEqProofs only[go_sem,hcL, hcS, hb]))|(with_reducible refine hK _ _ ?_;clear hK K)|fail))
          rw [hk9]
          exact DeepQ_of rfl (.tupL (.cons (.eng _) (.cons (.c _) (.cons (.c _) .nil)))) (.tupL (.cons (.aggL ((hM3 _).deep fun x hx => by omega)) (.cons (.same _) (.cons (.same _) .nil))))
  · rw [if_pos h0]
    refine ACalls_of_awp Tryz.func4 rfl Tryz.results4 ?_
    simp only [List.length_cons, List.length_nil, Tryz.ntmps4, Nat.reduceAdd, Nat.reduceSub, enterA]
    refine AWP_seq_k fun K hK => ?_
    (refine AWP_region ?_; simp -implicitDefEqProofs only [go_sem])
    refine hK _ _ ?_; clear hK K
    refine AWP_freezeP 3 rfl (by simp only [st0]; rfl) ?_
    simp only [ss0, List.set_cons_zero]
    refine AWP_freezeP 4 rfl (by simp only [st1]; rfl) ?_
    simp only [ss1, List.set_cons_zero, List.set_cons_succ]
    (repeat' (first|(refine g_s fun K hK=>?_)|(refine g_k ?_;simp only[thenQ,blockQ])|(refine g_c (fun h=>?_) (fun h=>?_)<;>(try simp only[go_sem] at h)<;>(try exact g_f))|((first|refine g_t ?_|refine g_g ?_|refine (hC _).use ?_);(try simp -implicitDefEqProofs only[go_sem,h0]))|(with_reducible refine hK _ _ ?_;clear hK K)|(with_reducible refine splitB_intro (fun h=>?_) (fun h=>?_)<;>(try simp only[go_sem] at h)<;>(try exact g_f)<;>(try simp -implicitDefEqProofs only[go_sem,h0]))|fail))
    exact DeepQ_of rfl (.tupL (.cons (.eng _) (.cons (.c _) (.cons (.c _) .nil)))) (.tupL (.cons (.aggL (.cons .nil (.cons .nil .nil))) (.cons (.same _) (.cons (.same _) .nil))))
end Go.Proofs.YtephecognbbaoacGreat
namespace Go.Proofs.YtephecognbbaoacGreat
def calmR (n : Net) (e : Eng) (rounds : Int) : Eng × Int :=
  if checkE n e ≠ 0 then (noE, checkE n e) else if rounds < 0 ∨ 100 < rounds then (noE, 3) else (calmE n e rounds, 0)
theorem ok_come : callOk Tryz.prog 14 = true := by kernel_rfl
attribute [go_sem] ok_come
theorem come_calls (n : Net) (e : Eng) (hc : checkN n = 0) (hl : n.links.length ≤ 5864062014634) (he : EngIn n e) (hby : EngB e) (ρ S : Store) (b : Nat) (hS : MachK ρ S b n e) :
    ACalls Tryz.prog 14 [.ptr b 7 0 0] S fun r S' => MachK ρ S' b n (comeE n e) ∧ r = .tup [] := by
  refine ACalls_of_awp Tryz.func14 rfl Tryz.results14 ?_
  simp only [List.length_cons, List.length_nil, Tryz.ntmps14, Nat.reduceAdd, Nat.reduceSub, enterA]
  (repeat' (first|(refine g_b ?_)|fail))
  refine AWP_each e.bag (fun k r (s : Store × Eng) => MachK ρ s.1 b n s.2 ∧ EngIn n s.2 ∧ EngB s.2 ∧ s.2.bag = r ∧ comeE n s.2 = comeE n e) (fun k _ _ => []) (fun _ s _ => s.1) (S, e) [] ⟨hS, he, hby, rfl, rfl⟩ rfl (ALe_of ?_) ?_ ?_
  · simp -implicitDefEqProofs only [go_sem]
  · rintro k r ⟨S2, e2⟩ τ9 hk0 hk1 ⟨h4, h5, h6, h7, h8⟩ L hL
    simp only at h4 h5 h6 h7 h8
    have hde := deliver_calls n e2 hc hl h5 h6 ρ S2 b h4 0 (by omega) (by rw [h7]; simp)
    have hdi : EngIn n (deliverE n e2 0) := takeE_in hc (dropE_in h5 0) (h5.mail _ (at0_mem e2.bag (Int.le_refl _) (by rw [h7, List.length_cons]; omega)))
    have hdb : EngB (deliverE n e2 0) := takeB (e := dropE e2 0) (fun m hm => h6 m (List.mem_of_mem_eraseIdx hm)) _
    have hdg : (deliverE n e2 0).bag = r := by
      show (takeE n (dropE e2 0) (at0 e2.bag 0)).bag = r
      rw [takeE_bag]
      show e2.bag.eraseIdx 0 = r
      rw [h7]
      rfl
    obtain ⟨hK0, rb, tb, gv, gi, M⟩ := h4
    have hb := M.hb
    have hlr : e2.bag.length = r.length + 1 := by rw [h7]; rfl
    rcases M.bag with ⟨h9, _, _⟩ | ⟨gb, rest, rfl, rfl, hb3, hb4, hb5⟩
    · rw [h9] at h7
      cases h7
    simp -implicitDefEqProofs only [go_sem]
    (repeat' (first|(refine g_s fun K hK=>?_)|(refine g_b ?_)|(refine g_k ?_;simp only[thenQ,blockQ])|(refine g_c (fun h=>?_) (fun h=>?_)<;>(try simp only[go_sem] at h)<;>(try exact g_f))|(refine g_g ?_;(try simp -implicitDefEqProofs only[go_sem,hb]))|(with_reducible refine hK _ _ ?_;clear hK K)|fail))
    refine hde.mono ?_
    rintro r3 S3 ⟨h10, rfl⟩
    skip
    refine hL (S3, deliverE n e2 0) [] _ _ ⟨h10, hdi, hdb, hdg, by rw [← h8]; exact (come_step h7).symm⟩ (ALe_of ?_) rfl
    · simp -implicitDefEqProofs only [go_sem]
  · rintro k ⟨S2, e2⟩ τ9 hk9 ⟨h4, h5, h6, h7, h8⟩ L
    simp only at h4 h5 h6 h7 h8
    have hfin : comeE n e2 = e2 := by unfold comeE; rw [h7]; rfl
    rw [hfin] at h8
    have h40 := h4
    obtain ⟨hK0, rb, tb, gv, gi, M⟩ := h4
    have hb := M.hb
    have hl0 : e2.bag.length = 0 := by rw [h7]; rfl
    rcases M.bag with ⟨h9, _, rfl⟩ | ⟨gb, rest, rfl, rfl, hb3, hb4, hb5⟩
    all_goals
      simp -implicitDefEqProofs only [go_sem]
      (repeat' (first|(refine g_s fun K hK=>?_)|(refine g_e ?_;simp only[thenQ,blockQ,↓reduceIte,Nat.reduceEqDiff])|(refine g_c (fun h=>?_) (fun h=>?_)<;>(try simp only[go_sem] at h)<;>(try exact g_f))|(refine g_g ?_;(try simp -implicitDefEqProofs only[go_sem,hb, hl0]))|(with_reducible refine hK _ _ ?_;clear hK K)|fail))
      have h88 : comeE n e = e2 := h8.symm
      rw [h88]
      exact ⟨h40, rfl⟩
theorem ticks_step {n : Net} (r : List Int) (k : Int) (e : Eng) : (k :: r).foldl (fun e i => (tickE n e i).1) e = r.foldl (fun e i => (tickE n e i).1) (tickE n e k).1 := rfl
theorem come_all {n : Net} (hc : checkN n = 0) {e : Eng} (he : EngIn n e) (hb : EngB e) : EngIn n (comeE n e) ∧ EngB (comeE n e) := by
  refine ⟨come_in hc e.bag he rfl, fun m hm => ?_⟩
  have : (comeE n e).bag = [] := come_bag _ _ rfl
  rw [this] at hm
  cases hm
theorem ecalm_calls (n : Net) (e : Eng) (okn : NetOk n) (ok : EngOk e) (rounds : Int) (hrI : I64 rounds) (σ : Store) : ACalls Tryz.prog 5 [.agg (netC n), .agg (engC e), intA1 rounds] σ fun r σ' => σ' = σ ∧ r = .tup [.agg (engC (calmR n e rounds).1), intA1 (calmR n e rounds).2] := by
  have hC := checkE_calls n e okn ok
  unfold calmR
  refine ACalls.deep ?_
  by_cases h0 : checkE n e = 0
  · rw [if_neg (not_not_intro h0)]
    rw [h0] at hC
    obtain ⟨hc, he⟩ := engIn_of h0
    have hn := netIn_of hc
    have n1 := hn.n1
    have n6 := hn.n6
    have hby : EngB e := fun m hm => (ok.mail m hm).rng
    by_cases h3 : rounds < 0 ∨ 100 < rounds
    · rw [if_pos h3]
      refine ACalls_of_awp Tryz.func5 rfl Tryz.results5 ?_
      simp only [List.length_cons, List.length_nil, Tryz.ntmps5, Nat.reduceAdd, Nat.reduceSub, enterA]
      refine AWP_seq_k fun K hK => ?_
      (refine AWP_region ?_; simp -implicitDefEqProofs only [go_sem])
      refine hK _ _ ?_; clear hK K
      refine AWP_freezeP 3 rfl (by simp only [st0]; rfl) ?_
      simp only [ss0, List.set_cons_zero]
      refine AWP_freezeP 4 rfl (by simp only [st1]; rfl) ?_
      simp only [ss1, List.set_cons_zero, List.set_cons_succ]
      (repeat' (first|(refine g_s fun K hK=>?_)|(refine g_c (fun h=>?_) (fun h=>?_)<;>(try simp only[go_sem] at h)<;>(try exact g_f))|((first|refine g_t ?_|refine g_g ?_|refine (hC _).use ?_);(try simp -implicitDefEqProofs only[go_sem]))|(with_reducible refine hK _ _ ?_;clear hK K)|(with_reducible refine splitB_intro (fun h=>?_) (fun h=>?_)<;>(try simp only[go_sem] at h)<;>(try exact g_f)<;>(try simp -implicitDefEqProofs only[go_sem]))|fail))
      all_goals exact DeepQ_of rfl (.tupL (.cons (.eng _) (.cons (.c _) .nil))) (.tupL (.cons (.aggL (.cons .nil (.cons .nil .nil))) (.cons (.same _) .nil)))
    · rw [if_neg h3]
      obtain ⟨X, hX⟩ : ∃ X, calmE n e rounds = X := ⟨_, rfl⟩
      rw [hX]
      refine ACalls_of_awp Tryz.func5 rfl Tryz.results5 ?_
      simp only [List.length_cons, List.length_nil, Tryz.ntmps5, Nat.reduceAdd, Nat.reduceSub, enterA]
      refine AWP_seq_k fun K hK => ?_
      (refine AWP_region ?_; simp -implicitDefEqProofs only [go_sem])
      refine hK _ _ ?_; clear hK K
      refine AWP_freezeP 3 rfl (by simp only [st0]; rfl) ?_
      simp only [ss0, List.set_cons_zero]
      refine AWP_freezeP 4 rfl (by simp only [st1]; rfl) ?_
      simp only [ss1, List.set_cons_zero, List.set_cons_succ]
      (repeat' (first|(refine g_s fun K hK=>?_)|(refine g_k ?_;simp only[thenQ,blockQ])|(refine g_c (fun h=>?_) (fun h=>?_)<;>(try simp only[go_sem] at h)<;>(try exact g_f))|((first|refine g_g ?_|refine (hC _).use ?_);(try simp -implicitDefEqProofs only[go_sem]))|(with_reducible refine hK _ _ ?_;clear hK K)|(with_reducible refine splitB_intro (fun h=>?_) (fun h=>?_)<;>(try simp only[go_sem] at h)<;>(try exact g_f)<;>(try simp -implicitDefEqProofs only[go_sem]))|fail))
      obtain ⟨ρ, hρ⟩ : ∃ ρ : Store, σ ++ [.dead, .dead, .cells 2 [[.c (.slice none 0 0), .c (.slice none 0 0)]]] = ρ := ⟨_, rfl⟩
      have hlen : ρ.length = σ.length + 3 := by rw [← hρ]; simp
      have hcL : ∀ τ, (ρ ++ τ)[σ.length + 2]? = some (.cells 2 [[.c (.slice none 0 0), .c (.slice none 0 0)]]) := fun τ => by rw [← hρ]; exact st_app (by simp)
      have hcS : ∀ τ o, (ρ ++ τ).set (σ.length + 2) o = σ ++ ([.dead, .dead, o] ++ τ) := fun τ o => by
        rw [← hρ, List.append_assoc, List.set_append_right _ _ (by omega), Nat.add_sub_cancel_left]
        rfl
      rw [hρ]
      refine (eown_calls n e hn he ok ρ).mono ?_
      rintro r S' ⟨τ, rfl, b, rfl, hM⟩
      (repeat' (first|(refine g_s fun K hK=>?_)|(refine g_g ?_;(try simp -implicitDefEqProofs only[go_sem]))|(with_reducible refine hK _ _ ?_;clear hK K)|fail))
      refine (come_calls n e hc okn.len he hby ρ _ b ⟨⟨τ, rfl⟩, hM⟩).mono ?_
      rintro r S1 ⟨hM1, rfl⟩
      obtain ⟨hi1, hb1⟩ := come_all hc he hby
      (repeat' (first|(refine g_s fun K hK=>?_)|(refine g_b ?_)|(refine g_g ?_;(try simp -implicitDefEqProofs only[go_sem]))|(with_reducible refine hK _ _ ?_;clear hK K)|fail))
      have hJ := hK
      clear hK
      refine AWP_for rounds (fun k (s : Store × Eng) => MachK ρ s.1 b n s.2 ∧ EngIn n s.2 ∧ EngB s.2 ∧ calmF n (rounds - k).toNat s.2 = X) (fun k _ _ => [(34, intA1 k)]) (fun _ s _ => s.1) (S1, comeE n e) [] (by omega) ⟨hM1, hi1, hb1, by rw [Int.sub_zero]; exact hX⟩ rfl (ALe_of ?_) ?_
      · simp -implicitDefEqProofs only [go_sem]
      · rintro k ⟨S2, e2⟩ τ9 hk0 hk1 ⟨h4, h5, h6, h7⟩ L hL
        simp only at h4 h5 h6 h7
        by_cases hk2 : k < rounds
        · have ef : (rounds - k).toNat = (rounds - (k + 1)).toNat + 1 := by omega
          rw [ef, calmF] at h7
          have ik : I64 (k + 1) := by unfold I64 at *; omega
          simp -implicitDefEqProofs only [go_sem]
          (repeat' (first|(refine g_s fun K hK=>?_)|(refine g_b ?_)|(refine g_k ?_;simp only[thenQ,blockQ])|(refine g_c (fun h=>?_) (fun h=>?_)<;>(try simp only[go_sem] at h)<;>(try exact g_f))|(refine g_g ?_;(try simp -implicitDefEqProofs only[go_sem]))|(with_reducible refine hK _ _ ?_;clear hK K)|fail))
          have hJ2 := hK
          clear hK
          refine AWP_each (ints n.nodes) (fun _ r (s : Store × Eng) => MachK ρ s.1 b n s.2 ∧ EngIn n s.2 ∧ EngB s.2 ∧ r.foldl (fun e i => (tickE n e i).1) s.2 = ticksE n e2) (fun k _ _ => [(38, intA1 k)]) (fun _ s _ => s.1) (S2, e2) [] ⟨h4, h5, h6, rfl⟩ rfl (ALe_of ?_) ?_ ?_
          · simp -implicitDefEqProofs only [go_sem]
          · rintro q r ⟨S3, e3⟩ τ8 hq0 hq1 ⟨g4, g5, g6, g7⟩ L2 hL2
            simp only at g4 g5 g6 g7
            rw [ints_length] at hq1
            rw [at0_ints hq0 (by omega), ticks_step] at g7
            have hti := tick_calls n e3 hc okn.len g5 ρ S3 b g4 q hq0 (by omega)
            have iq : I64 (q + 1) := by unfold I64; omega
            have hts : (stepE n e3 ⟨1, q, 0, 0, []⟩).1 = (tickE n e3 q).1 := by
              have hT : inR q 0 (n.nodes - 1) = true := inR_iff.2 (by omega)
              unfold stepE
              simp only
              rw [hT]
              rfl
            have g8 := step_in hc g5 ⟨1, q, 0, 0, []⟩
            have g9 := stepB hc g5 g6 ⟨1, q, 0, 0, []⟩
            rw [hts] at g8 g9
            simp -implicitDefEqProofs only [go_sem]
            (repeat' (first|(refine g_s fun K hK=>?_)|(refine g_b ?_)|(refine g_k ?_;simp only[thenQ,blockQ])|(refine g_c (fun h=>?_) (fun h=>?_)<;>(try simp only[go_sem] at h)<;>(try exact g_f))|(refine g_g ?_;(try simp -implicitDefEqProofs only[go_sem]))|(with_reducible refine hK _ _ ?_;clear hK K)|fail))
            refine hti.mono ?_
            rintro r3 S4 ⟨h10, rfl⟩
            simp -implicitDefEqProofs only [go_sem]
            (repeat' (first|(refine g_g ?_;(try simp -implicitDefEqProofs only[go_sem,iq]))|(with_reducible refine hK _ _ ?_;clear hK K)|fail))
            refine hL2 (S4, (tickE n e3 q).1) [] _ _ ⟨h10, g8, g9, g7⟩ (ALe_of ?_) rfl
            simp -implicitDefEqProofs only [go_sem]
          · rintro q ⟨S3, e3⟩ τ8 hq9 ⟨g4, g5, g6, g7⟩ L2
            rw [ints_length] at hq9
            simp only [List.foldl_nil] at g4 g5 g6 g7
            subst g7
            simp -implicitDefEqProofs only [go_sem]
            (repeat' (first|(refine g_s fun K hK=>?_)|(refine g_e ?_;simp only[thenQ,blockQ,↓reduceIte,Nat.reduceEqDiff])|(refine g_c (fun h=>?_) (fun h=>?_)<;>(try simp only[go_sem] at h)<;>(try exact g_f))|(refine g_g ?_;(try simp -implicitDefEqProofs only[go_sem]))|(with_reducible refine hK _ _ ?_;clear hK K)|fail))
            refine hJ2 _ _ ?_
            clear hJ2
            (repeat' (first|(refine g_g ?_;(try simp -implicitDefEqProofs only[go_sem]))|fail))
            refine (come_calls n _ hc okn.len g5 g6 ρ S3 b g4).mono ?_
            rintro r3 S4 ⟨h10, rfl⟩
            obtain ⟨hi2, hb2⟩ := come_all hc g5 g6
            (repeat' (first|(refine g_g ?_;(try simp -implicitDefEqProofs only[go_sem,ik]))|(clear hK K;first|(with_reducible refine hK _ _ ?_;clear hK K)|(clear hK K;with_reducible refine hK _ _ ?_;clear hK K)|(clear hK K;clear hK K;with_reducible refine hK _ _ ?_;clear hK K))|fail))
            refine hL hk2 (S4, _) [] _ _ ⟨h10, hi2, hb2, h7⟩ (ALe_of ?_) rfl
            simp -implicitDefEqProofs only [go_sem]
        · have ef : (rounds - k).toNat = 0 := by omega
          rw [ef, calmF] at h7
          subst h7
          obtain ⟨⟨τ2, rfl⟩, rb, tb, gv, gi, M⟩ := h4
          have hb := M.hb
          have hM3 : ∀ o, MachW (σ ++ ([.dead, .dead, o] ++ τ2)) ρ.length b n e2 rb tb gv gi := fun o => by
            rw [← hcS τ2 o]
            exact M.set_lo (by omega)
          rcases M.bag with ⟨h1, h2, rfl⟩ | ⟨gb, rest, h1, rfl, h3, h4, h5⟩
          all_goals
            simp -implicitDefEqProofs only [go_sem]
            (repeat' (first|(refine g_s fun K hK=>?_)|(refine g_e ?_;simp only[thenQ,blockQ,↓reduceIte,Nat.reduceEqDiff])|(refine g_c (fun h=>?_) (fun h=>?_)<;>(try simp only[go_sem] at h)<;>(try exact g_f))|(refine g_g ?_;(try simp -implicitDefEqProofs only[go_sem]))|(with_reducible refine hK _ _ ?_;clear hK K)|fail))
            refine hJ _ _ ?_
            clear hJ
            (repeat' (first|(refine g_s fun K hK=>?_)|((first|refine g_t ?_|refine g_g ?_);(try simp -implicitDefEqProofs only[go_sem,hcL, hcS, hb]))|(with_reducible refine hK _ _ ?_;clear hK K)|fail))
            exact DeepQ_of rfl (.tupL (.cons (.eng _) (.cons (.c _) .nil))) (.tupL (.cons (.aggL ((hM3 _).deep fun x hx => by omega)) (.cons (.same _) .nil)))
  · rw [if_pos h0]
    refine ACalls_of_awp Tryz.func5 rfl Tryz.results5 ?_
    simp only [List.length_cons, List.length_nil, Tryz.ntmps5, Nat.reduceAdd, Nat.reduceSub, enterA]
    refine AWP_seq_k fun K hK => ?_
    (refine AWP_region ?_; simp -implicitDefEqProofs only [go_sem])
    refine hK _ _ ?_; clear hK K
    refine AWP_freezeP 3 rfl (by simp only [st0]; rfl) ?_
    simp only [ss0, List.set_cons_zero]
    refine AWP_freezeP 4 rfl (by simp only [st1]; rfl) ?_
    simp only [ss1, List.set_cons_zero, List.set_cons_succ]
    (repeat' (first|(refine g_s fun K hK=>?_)|(refine g_k ?_;simp only[thenQ,blockQ])|(refine g_c (fun h=>?_) (fun h=>?_)<;>(try simp only[go_sem] at h)<;>(try exact g_f))|((first|refine g_t ?_|refine g_g ?_|refine (hC _).use ?_);(try simp -implicitDefEqProofs only[go_sem,h0]))|(with_reducible refine hK _ _ ?_;clear hK K)|(with_reducible refine splitB_intro (fun h=>?_) (fun h=>?_)<;>(try simp only[go_sem] at h)<;>(try exact g_f)<;>(try simp -implicitDefEqProofs only[go_sem,h0]))|fail))
    exact DeepQ_of rfl (.tupL (.cons (.eng _) (.cons (.c _) .nil))) (.tupL (.cons (.aggL (.cons .nil (.cons .nil .nil))) (.cons (.same _) .nil)))
end Go.Proofs.YtephecognbbaoacGreat
namespace Go.Proofs.YtephecognbbaoacGreat
theorem play_all {n : Net} (hc : checkN n = 0) : ∀ (l : List Evt) (k : Int) {e : Eng}, EngIn n e → EngB e → EngB (playF n l k e).1
  | [], _, _, _, h => h
  | v :: r, k, e, hi, h => by
    rw [playF]
    split
    · exact h
    · exact play_all hc r (k + 1) (step_in hc hi v) (stepB hc hi h v)
theorem ticks_all {n : Net} (hc : checkN n = 0) : ∀ (l : List Int) {e : Eng}, (∀ i ∈ l, 0 ≤ i ∧ i < n.nodes) → EngIn n e → EngB e → EngIn n (l.foldl (fun e i => (tickE n e i).1) e) ∧ EngB (l.foldl (fun e i => (tickE n e i).1) e)
  | [], _, _, h1, h2 => ⟨h1, h2⟩
  | i :: r, e, hl, h1, h2 => by
    rw [List.foldl_cons]
    have hi := hl i (by simp)
    exact ticks_all hc r (fun j hj => hl j (by simp [hj])) (tickE_in hc h1 hi) (tickB hc h1 h2 hi)
theorem calm_all {n : Net} (hc : checkN n = 0) : ∀ (f : Nat) {e : Eng}, EngIn n e → EngB e → EngIn n (calmF n f e) ∧ EngB (calmF n f e)
  | 0, _, h1, h2 => ⟨h1, h2⟩
  | f + 1, e, h1, h2 => by
    rw [calmF]
    obtain ⟨a, b⟩ := ticks_all hc (ints n.nodes) (fun i hi => mem_ints.1 hi) h1 h2
    obtain ⟨c, d⟩ := come_all hc a b
    exact calm_all hc f c d
theorem enginePlays_calls (n : Net) (x : Eng) (l : List Evt) (rounds : Int) (okn : NetOk n) (ok : EngOk x) (hll : l.length ≤ 3000000000000) (hlv : ∀ v ∈ l, EvtOk v) (hrI : I64 rounds) (σ : Store) : ACalls Tryz.prog 3 [.agg (netC n), .agg (engC x), .sl (l.map evtC), intA1 rounds] σ fun r σ' => σ' = σ ∧ r = .c (.bool true) := by
  have hEB := engineBegun_calls
  have hPl := fun S => eplay_calls n x okn ok l hll (fun v hv => (hlv v hv).rl) S
  have hCa := fun S => ecalm_calls n x okn ok rounds hrI S
  have hCk := fun S => checkEngine_calls n x okn ok S
  have hNo := fun (w : Int) (hw : w ≠ 0) S => engineIs_no w hw (.c (.slice none 0 0)) (.c (.slice none 0 0)) rfl rfl S
  refine ACalls.cutX ?_
  by_cases h0 : checkE n x = 0
  · obtain ⟨hc, he⟩ := engIn_of h0
    have hn := netIn_of hc
    have hby : EngB x := fun m hm => (ok.mail m hm).rng
    rw [h0] at hCk
    have hPO := fun S => playOf_calls n x hc okn.len he hby l hll hlv S
    have hpi := play_in hc l 0 he
    have hpb := play_all hc l 0 he hby
    obtain ⟨PE, hPE⟩ : ∃ P, (playF n l 0 x).1 = P := ⟨_, rfl⟩
    obtain ⟨PK, hPK⟩ : ∃ P, (playF n l 0 x).2 = P := ⟨_, rfl⟩
    rw [hPE] at hpi hpb
    have hI1 := fun S => engineIs_ok PE (engOk_of hn hpi hpb) S
    simp only [hPE, hPK] at hPO
    by_cases h3 : 300 < l.length
    · have e1 : playR n x l = (noE, 0, 2) := by rw [playR, if_neg (not_not_intro h0), if_pos h3]
      simp only [e1] at hPl
      have hN1 := hNo 2 (by decide)
      by_cases h4 : rounds < 0 ∨ 100 < rounds
      · have e2 : calmR n x rounds = (noE, 3) := by rw [calmR, if_neg (not_not_intro h0), if_pos h4]
        simp only [e2] at hCa
        have hN2 := hNo 3 (by decide)
        rcases h4 with h4 | h4
        all_goals
          refine ACalls_of_awp Tryz.func3 rfl Tryz.results3 ?_
          simp only [List.length_cons, List.length_nil, Tryz.ntmps3, Nat.reduceAdd, Nat.reduceSub, enterA]
          (repeat' (first|(refine g_s fun K hK=>?_)|(refine g_k ?_;simp only[thenQ,blockQ])|(refine g_c (fun h=>?_) (fun h=>?_)<;>(try simp only[go_sem] at h)<;>(try exact g_f))|((first|refine g_t ?_|refine g_G ?_|refine (hPl _).use ?_|refine (hCa _).use ?_|refine (hCk _).use ?_|refine (hEB _).use ?_|refine (hN1 _).use ?_|refine (hN2 _).use ?_);(try simp -implicitDefEqProofs only[go_sem,h3, h4]))|(with_reducible refine hK _ _ ?_;clear hK K)|(with_reducible refine splitB_intro (fun h=>?_) (fun h=>?_)<;>(try simp only[go_sem] at h)<;>(try exact g_f)<;>(try simp -implicitDefEqProofs only[go_sem,h3, h4]))|fail))
          all_goals exact CutQ_c rfl rfl
      · have e2 : calmR n x rounds = (calmE n x rounds, 0) := by rw [calmR, if_neg (not_not_intro h0), if_neg h4]
        simp only [e2] at hCa
        have hCO := fun S => calmOf_calls n x hc okn.len he hby rounds (by omega) (by omega) S
        obtain ⟨ci, cb⟩ := come_all hc he hby
        obtain ⟨ca1, ca2⟩ := calm_all hc rounds.toNat ci cb
        have hI2 := fun S => engineIs_ok (calmE n x rounds) (engOk_of hn ca1 ca2) S
        obtain ⟨Z, hZ⟩ : ∃ Z, calmE n x rounds = Z := ⟨_, rfl⟩
        simp only [hZ] at hCa hCO hI2
        have h5 : ¬ rounds < 0 := by omega
        have h6 : ¬ 100 < rounds := by omega
        refine ACalls_of_awp Tryz.func3 rfl Tryz.results3 ?_
        simp only [List.length_cons, List.length_nil, Tryz.ntmps3, Nat.reduceAdd, Nat.reduceSub, enterA]
        (repeat' (first|(refine g_s fun K hK=>?_)|(refine g_k ?_;simp only[thenQ,blockQ])|(refine g_c (fun h=>?_) (fun h=>?_)<;>(try simp only[go_sem] at h)<;>(try exact g_f))|((first|refine g_t ?_|refine g_G ?_|refine (hPl _).use ?_|refine (hCa _).use ?_|refine (hCk _).use ?_|refine (hEB _).use ?_|refine (hN1 _).use ?_|refine (hCO _).use ?_|refine (hI2 _).use ?_);(try simp -implicitDefEqProofs only[go_sem,h3, h5, h6]))|(with_reducible refine hK _ _ ?_;clear hK K)|(with_reducible refine splitB_intro (fun h=>?_) (fun h=>?_)<;>(try simp only[go_sem] at h)<;>(try exact g_f)<;>(try simp -implicitDefEqProofs only[go_sem,h3, h5, h6]))|fail))
        all_goals exact CutQ_c rfl rfl
    · have e1 : playR n x l = (PE, PK, 0) := by rw [playR, if_neg (not_not_intro h0), if_neg h3, hPE, hPK]
      simp only [e1] at hPl
      by_cases h4 : rounds < 0 ∨ 100 < rounds
      · have e2 : calmR n x rounds = (noE, 3) := by rw [calmR, if_neg (not_not_intro h0), if_pos h4]
        simp only [e2] at hCa
        have hN2 := hNo 3 (by decide)
        rcases h4 with h4 | h4
        all_goals
          refine ACalls_of_awp Tryz.func3 rfl Tryz.results3 ?_
          simp only [List.length_cons, List.length_nil, Tryz.ntmps3, Nat.reduceAdd, Nat.reduceSub, enterA]
          (repeat' (first|(refine g_s fun K hK=>?_)|(refine g_k ?_;simp only[thenQ,blockQ])|(refine g_c (fun h=>?_) (fun h=>?_)<;>(try simp only[go_sem] at h)<;>(try exact g_f))|((first|refine g_t ?_|refine g_G ?_|refine (hPl _).use ?_|refine (hCa _).use ?_|refine (hCk _).use ?_|refine (hEB _).use ?_|refine (hPO _).use ?_|refine (hI1 _).use ?_|refine (hN2 _).use ?_);(try simp -implicitDefEqProofs only[go_sem,h3, h4]))|(with_reducible refine hK _ _ ?_;clear hK K)|(with_reducible refine splitB_intro (fun h=>?_) (fun h=>?_)<;>(try simp only[go_sem] at h)<;>(try exact g_f)<;>(try simp -implicitDefEqProofs only[go_sem,h3, h4]))|fail))
          all_goals exact CutQ_c rfl rfl
      · have e2 : calmR n x rounds = (calmE n x rounds, 0) := by rw [calmR, if_neg (not_not_intro h0), if_neg h4]
        simp only [e2] at hCa
        have hCO := fun S => calmOf_calls n x hc okn.len he hby rounds (by omega) (by omega) S
        obtain ⟨ci, cb⟩ := come_all hc he hby
        obtain ⟨ca1, ca2⟩ := calm_all hc rounds.toNat ci cb
        have hI2 := fun S => engineIs_ok (calmE n x rounds) (engOk_of hn ca1 ca2) S
        obtain ⟨Z, hZ⟩ : ∃ Z, calmE n x rounds = Z := ⟨_, rfl⟩
        simp only [hZ] at hCa hCO hI2
        have h5 : ¬ rounds < 0 := by omega
        have h6 : ¬ 100 < rounds := by omega
        refine ACalls_of_awp Tryz.func3 rfl Tryz.results3 ?_
        simp only [List.length_cons, List.length_nil, Tryz.ntmps3, Nat.reduceAdd, Nat.reduceSub, enterA]
        (repeat' (first|(refine g_s fun K hK=>?_)|(refine g_k ?_;simp only[thenQ,blockQ])|(refine g_c (fun h=>?_) (fun h=>?_)<;>(try simp only[go_sem] at h)<;>(try exact g_f))|((first|refine g_t ?_|refine g_G ?_|refine (hPl _).use ?_|refine (hCa _).use ?_|refine (hCk _).use ?_|refine (hEB _).use ?_|refine (hPO _).use ?_|refine (hI1 _).use ?_|refine (hCO _).use ?_|refine (hI2 _).use ?_);(try simp -implicitDefEqProofs only[go_sem,h3, h5, h6]))|(with_reducible refine hK _ _ ?_;clear hK K)|(with_reducible refine splitB_intro (fun h=>?_) (fun h=>?_)<;>(try simp only[go_sem] at h)<;>(try exact g_f)<;>(try simp -implicitDefEqProofs only[go_sem,h3, h5, h6]))|fail))
        all_goals exact CutQ_c rfl rfl
  · have e1 : playR n x l = (noE, 0, checkE n x) := by rw [playR, if_pos h0]
    have e2 : calmR n x rounds = (noE, checkE n x) := by rw [calmR, if_pos h0]
    simp only [e1] at hPl
    simp only [e2] at hCa
    obtain ⟨w, hw⟩ : ∃ w, checkE n x = w := ⟨_, rfl⟩
    rw [hw] at hPl hCa hCk h0
    have hN1 := hNo w h0
    refine ACalls_of_awp Tryz.func3 rfl Tryz.results3 ?_
    simp only [List.length_cons, List.length_nil, Tryz.ntmps3, Nat.reduceAdd, Nat.reduceSub, enterA]
    (repeat' (first|(refine g_s fun K hK=>?_)|(refine g_k ?_;simp only[thenQ,blockQ])|(refine g_c (fun h=>?_) (fun h=>?_)<;>(try simp only[go_sem] at h)<;>(try exact g_f))|((first|refine g_t ?_|refine g_G ?_|refine (hPl _).use ?_|refine (hCa _).use ?_|refine (hCk _).use ?_|refine (hEB _).use ?_|refine (hN1 _).use ?_);(try simp -implicitDefEqProofs only[go_sem,h0]))|(with_reducible refine hK _ _ ?_;clear hK K)|(with_reducible refine splitB_intro (fun h=>?_) (fun h=>?_)<;>(try simp only[go_sem] at h)<;>(try exact g_f)<;>(try simp -implicitDefEqProofs only[go_sem,h0]))|fail))
    all_goals exact CutQ_c rfl rfl
end Go.Proofs.YtephecognbbaoacGreat
namespace Go.Proofs.YtephecognbbaoacGreat
theorem readsRtr {W : World} : Reads Tryz.prog W 56 rtrC RtrOk := by
  have h0 := Reads.struct (P := Tryz.prog) (W := W) (t := 56) (n := 1 + (1 + 0)) Tryz.underlying56 (by kernel_rfl) (ReadsF.cons (k := 1) rfl (by kernel_rfl) readsInts (ReadsF.cons (k := 1) rfl (by kernel_rfl) readsState ReadsF.nil))
  refine Reads.map (X := List Int × List (List Int) × Unit) (fun x => (⟨x.1, x.2.1⟩ : Rtr)) (fun _ => rfl) (fun x h => ?_) h0
  obtain ⟨h1, h2, _⟩ := h
  exact ⟨h1, h2.len, h2.row⟩
theorem readsMail {W : World} : Reads Tryz.prog W 60 mailC MailOk := by
  have h0 := Reads.struct (P := Tryz.prog) (W := W) (t := 60) (n := 1 + (1 + (1 + 0))) Tryz.underlying60 (by kernel_rfl) (ReadsF.cons (k := 1) rfl (by kernel_rfl) (Reads.int Tryz.underlying3) (ReadsF.cons (k := 1) rfl (by kernel_rfl) (Reads.int Tryz.underlying3) (ReadsF.cons (k := 1) rfl (by kernel_rfl) (Reads.string Tryz.underlying9) ReadsF.nil)))
  refine Reads.map (X := Int × Int × ByteArray × Unit) (fun x => (⟨x.1, x.2.1, numsS x.2.2.1⟩ : Mail)) (fun x => by rw [mailC, str_numsS]; rfl) (fun x h => ?_) h0
  obtain ⟨h1, h2, h3, _⟩ := h
  exact ⟨h1, h2, (by show (numsS x.2.2.1).length ≤ 140737488351232; rw [← numsS_size]; exact h3), numsS_range _⟩
theorem readsEng {W : World} : Reads Tryz.prog W 31 engC EngOk := by
  have h1 := Reads.slice (P := Tryz.prog) (W := W) (t := 28) (k := 2) Tryz.underlying28 (by kernel_rfl) (by omega) (fun _ => rfl) readsRtr
  have h2 := Reads.slice (P := Tryz.prog) (W := W) (t := 29) (k := 3) Tryz.underlying29 (by kernel_rfl) (by omega) (fun _ => rfl) readsMail
  have h0 := Reads.struct (P := Tryz.prog) (W := W) (t := 31) (n := 1 + (1 + 0)) Tryz.underlying31 (by kernel_rfl) (ReadsF.cons (k := 1) rfl (by kernel_rfl) h1 (ReadsF.cons (k := 1) rfl (by kernel_rfl) h2 ReadsF.nil))
  refine Reads.map (X := List Rtr × List Mail × Unit) (fun x => (⟨x.1, x.2.1⟩ : Eng)) (fun _ => rfl) (fun x h => ?_) h0
  obtain ⟨⟨h3, h4⟩, ⟨h5, h6⟩, _⟩ := h
  have e1 : Tryz.prog.bytesOf 56 = 48 := by kernel_rfl
  have e2 : Tryz.prog.bytesOf 60 = 32 := by kernel_rfl
  have e3 : reachBytes = 140737488351232 := rfl
  rw [e1, e3] at h4
  rw [e2, e3] at h6
  exact ⟨by simp only; omega, h3, by simp only; omega, h5⟩
end Go.Proofs.YtephecognbbaoacGreat
namespace Go.Proofs.YtephecognbbaoacGreat
structure EvtsOk (l : List Evt) : Prop where
  len : l.length ≤ 3000000000000
  ok : ∀ v ∈ l, EvtOk v
theorem readsEvts {W : World} : Reads Tryz.prog W 32 (fun l : List Evt => [.sl (l.map evtC)]) EvtsOk := by
  have h2 := Reads.slice (P := Tryz.prog) (W := W) (t := 32) (k := 5) Tryz.underlying32 (by kernel_rfl) (by omega) (fun _ => rfl) readsEvt
  refine Reads.map (X := List Evt) (fun x => x) (fun _ => rfl) (fun x h => ⟨?_, h.1⟩) h2
  have h1 : x.length * Tryz.prog.bytesOf 49 ≤ reachBytes := h.2
  have h3 : Tryz.prog.bytesOf 49 = 56 := by kernel_rfl
  have h4 : reachBytes = 140737488351232 := rfl
  rw [h3, h4] at h1
  omega
end Go.Proofs.YtephecognbbaoacGreat
