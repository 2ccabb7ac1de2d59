/- All paths: as the program goes them, from the end on. -/
import Derived.Test.YtephecognbbaoabTf
import Derived.Test.YtephecognbbaoabMt
namespace Go.Proofs.Ytephecognbbaoab
open Go
set_option linter.all false
set_option maxRecDepth 100000
set_option maxHeartbeats 4000000

/-- A callee that changes the store in a known way, and makes what it likes. -/
theorem ACalls.useV {P : Program} {f : FuncId} {args : List AV} {σ : Store} {X : AV} {S : Store → Store} {R : AV → Store → Prop} (h : ACalls P f args σ fun r σ' => ∃ τ, σ' = S τ ∧ r = X) (hr : ∀ τ : Store, R X (S τ)) : ACalls P f args σ R :=
  h.mono fun _ _ ⟨τ, h1, h2⟩ => by subst h1; subst h2; exact hr τ

def walkO (n : Net) (fr : Int) (c : Nat) (b : Int) : Ob := .cells 8 [netC n ++ [intA1 fr, .own c 1 0 n.nodes.toNat n.nodes.toNat, intA1 b]]

theorem visit_calls {n : Net} (hc : checkN n = 0) (hl : n.links.length ≤ 5864062014634) (fr : Int) : ∀ (f : Nat) (s : List Int) (at' b : Int), Path n (at' :: s) → n.nodes ≤ s.length + f → InV n b → ∀ (p ρ : Store),
    ACalls Try.prog 119 [.ptr (p.length + 1) 8 0 0, intA1 at', intA1 (weighA n (at' :: s)).1] (p ++ metO n s :: walkO n fr p.length b :: ρ)
      fun r σ' => ∃ τ, σ' = p ++ metO n s :: walkO n fr p.length (visitF n fr f s at' (weighA n (at' :: s)).1 b) :: (ρ ++ τ) ∧ r = .tup []
  | 0, s, at', b, hp, hf, hb, p, ρ => by
    have hn := netIn_of hc
    have h1 := nodup_len (by have := hn.n1; omega) hp.one hp.rng
    simp only [List.length_cons] at h1
    omega
  | f + 1, s, at', b, hp, hf, hb, p, ρ => by
    have hn := netIn_of hc
    have n1 := hn.n1
    have n6 := hn.n6
    have s2 := hn.alg.s2
    have s24 := hn.alg.s24
    have hbl := hn.alg.bl
    have hb0 := hb.1
    have hb1 := hb.2
    have hw := weigh_in hn (at' :: s)
    have har := hp.rng at' (by simp)
    have ha0 := har.1
    have ha1 := har.2
    have hats : at' ∉ s := (List.nodup_cons.1 hp.one).1
    have hih := fun l b => visit_calls hc hl fr f (at' :: s) l b
    have hvg := fun l b => visit_good hc fr f (at' :: s) l b
    have hwm := fun e (h : 0 ≤ edgeOf n e at') => weigh_more hp.ok h
    obtain ⟨w, hwe⟩ : ∃ w, (weighA n (at' :: s)).1 = w := ⟨_, rfl⟩
    rw [hwe] at hw ⊢
    have hw0 := hw.1
    have hw1 := hw.2
    rw [visitF]
    by_cases hat : at' = fr
    · rw [if_pos hat]
      have hbr := hn.alg.best_len hb0 hb1
      have hbw : at0 (at0 n.alg.best b) w = bestA n b w := rfl
      unfold metO walkO
      refine ACalls_of_awp Try.func119 rfl Try.results119 ?_
      simp only [List.length_cons, List.length_nil, Try.ntmps119, Nat.reduceAdd, Nat.reduceSub, enterA]
      (repeat' (first|(refine g_s fun K hK=>?_)|(refine g_b ?_)|(refine g_r ?_)|(refine g_k ?_;simp only[thenQ,blockQ])|(refine g_e ?_;simp only[thenQ,blockQ,↓reduceIte,Nat.reduceEqDiff])|(refine g_c (fun h=>?_) (fun h=>?_)<;>(try simp only[go_sem] at h)<;>(try exact g_f))|((first|refine g_t ?_|refine g_g ?_|refine g_U ?_|refine g_A ?_|refine g_W ?_);(try simp -implicitDefEqProofs only[go_sem,hat, hbw]))|(with_reducible refine hK _ _ ?_;clear hK K)|(clear hK K;first|(with_reducible refine hK _ _ ?_;clear hK K)|(clear hK K;with_reducible refine hK _ _ ?_;clear hK K)|(clear hK K;clear hK K;with_reducible refine hK _ _ ?_;clear hK K))|(with_reducible refine splitB_intro (fun h=>?_) (fun h=>?_)<;>(try simp only[go_sem] at h)<;>(try exact g_f)<;>(try simp -implicitDefEqProofs only[go_sem,hat, hbw]))|(with_reducible refine And.intro (fun h=>?_) (fun h=>?_)<;>(try simp only[go_sem] at h)<;>(try exact g_f))|(with_reducible refine And.intro ?_ ?_;· exact g_x)|(with_reducible intro h;(try simp only[go_sem] at h);(try exact g_f))))
      exact ⟨[], by simp⟩
    · rw [if_neg hat]
      have hset := met_set n s ha0 ha1
      have hclr := met_clr n s ha0 ha1 hats
      have hml := metL_len n s
      have hml2 := metL_len n (at' :: s)
      have hset1 := congrArg (Ob.cells 1) hset
      obtain ⟨B, hB⟩ : ∃ B, n.links.foldl (fun b l => if (decide (l.dst = at') && !decide (l.fr ∈ at' :: s)) = true then visitF n fr f (at' :: s) l.fr (overA n l.edge w) b else b) b = B := ⟨_, rfl⟩
      rw [hB]
      have hg : ∀ l ∈ n.links, l.dst = at' → l.fr ∉ at' :: s → Path n (l.fr :: at' :: s) ∧ overA n l.edge w = (weighA n (l.fr :: at' :: s)).1 := by
        intro l hlm h1 h2
        have hk := hn.lnk l hlm
        have he := edge_link (apart_of hc) hlm
        rw [h1] at he
        have h0 : 0 ≤ edgeOf n l.fr at' := by rw [he]; exact hk.e0
        have hm := hwm _ h0
        refine ⟨⟨fun k hkm => ?_, List.nodup_cons.2 ⟨h2, hp.one⟩, by rw [hm]⟩, by rw [hm, he, hwe]⟩
        rcases List.mem_cons.1 hkm with rfl | hkm
        · exact ⟨hk.f0, hk.f1⟩
        · exact hp.rng k hkm
      unfold metO walkO at hih ⊢
      refine ACalls_of_awp Try.func119 rfl Try.results119 ?_
      simp only [List.length_cons, List.length_nil, Try.ntmps119, Nat.reduceAdd, Nat.reduceSub, enterA]
      (repeat' (first|(refine g_s fun K hK=>?_)|(refine g_b ?_)|(refine g_r ?_)|(refine g_k ?_;simp only[thenQ,blockQ])|(refine g_e ?_;simp only[thenQ,blockQ,↓reduceIte,Nat.reduceEqDiff])|(refine g_c (fun h=>?_) (fun h=>?_)<;>(try simp only[go_sem] at h)<;>(try exact g_f))|((first|refine g_t ?_|refine g_g ?_|refine g_U ?_|refine g_A ?_|refine g_W ?_);(try simp -implicitDefEqProofs only[go_sem,hat, met_get n s ha0 ha1, hset]))|(with_reducible refine hK _ _ ?_;clear hK K)|(clear hK K;first|(with_reducible refine hK _ _ ?_;clear hK K)|(clear hK K;with_reducible refine hK _ _ ?_;clear hK K)|(clear hK K;clear hK K;with_reducible refine hK _ _ ?_;clear hK K))|(with_reducible refine splitB_intro (fun h=>?_) (fun h=>?_)<;>(try simp only[go_sem] at h)<;>(try exact g_f)<;>(try simp -implicitDefEqProofs only[go_sem,hat, met_get n s ha0 ha1, hset]))|(with_reducible refine And.intro (fun h=>?_) (fun h=>?_)<;>(try simp only[go_sem] at h)<;>(try exact g_f))|(with_reducible refine And.intro ?_ ?_;· exact g_x)|(with_reducible intro h;(try simp only[go_sem] at h);(try exact g_f))))
      have hJ := hK
      clear hK
      refine AWP_each n.links (fun _ r b => r.foldl (fun b l => if (decide (l.dst = at') && !decide (l.fr ∈ at' :: s)) = true then visitF n fr f (at' :: s) l.fr (overA n l.edge w) b else b) b = B ∧ InV n b) (fun k _ _ => [(44, intA1 k)])
        (fun _ b τ => p ++ Ob.cells 1 ((metL n (at' :: s)).map boolC) :: Ob.cells 8 [netC n ++ [intA1 fr, .own p.length 1 0 n.nodes.toNat n.nodes.toNat, intA1 b]] :: (ρ ++ τ)) b [] ⟨hB, hb⟩ ?_ (ALe_of ?_) ?_ ?_
      · simp
        rfl
      · simp -implicitDefEqProofs only [go_sem]
      · rintro k r b τ hk0 hk1 ⟨h3, hb⟩ L hL
        have hmem := at0_mem n.links hk0 hk1
        obtain ⟨l, hla⟩ : ∃ l, at0 n.links k = l := ⟨_, rfl⟩
        rw [hla] at h3 hmem
        rw [List.foldl_cons] at h3
        have hlk := hn.lnk l hmem
        have hf0 := hlk.f0
        have hf1 := hlk.f1
        have he0 := hlk.e0
        have he1 := hlk.e1
        have hgl := hg l hmem
        have hmg := met_get n (at' :: s) hf0 hf1
        have her := hn.alg.edge_len he0 he1
        by_cases hd : l.dst = at'
        · by_cases hm : l.fr ∈ at' :: s
          · rw [if_neg (by simp only [hd, hm, decide_true, Bool.not_true, Bool.and_false]; decide)] at h3
            rw [decide_eq_true hm] at hmg
            simp -implicitDefEqProofs only [go_sem]
            (repeat' (first|(refine g_s fun K hK=>?_)|(refine g_b ?_)|(refine g_r ?_)|(refine g_k ?_;simp only[thenQ,blockQ])|(refine g_e ?_;simp only[thenQ,blockQ,↓reduceIte,Nat.reduceEqDiff])|(refine g_c (fun h=>?_) (fun h=>?_)<;>(try simp only[go_sem] at h)<;>(try exact g_f))|((first|refine g_t ?_|refine g_g ?_|refine g_U ?_|refine g_A ?_|refine g_W ?_);(try simp -implicitDefEqProofs only[go_sem,hla, hd, hmg]))|(with_reducible refine hK _ _ ?_;clear hK K)|(clear hK K;first|(with_reducible refine hK _ _ ?_;clear hK K)|(clear hK K;with_reducible refine hK _ _ ?_;clear hK K)|(clear hK K;clear hK K;with_reducible refine hK _ _ ?_;clear hK K))|(with_reducible refine splitB_intro (fun h=>?_) (fun h=>?_)<;>(try simp only[go_sem] at h)<;>(try exact g_f)<;>(try simp -implicitDefEqProofs only[go_sem,hla, hd, hmg]))|(with_reducible refine And.intro (fun h=>?_) (fun h=>?_)<;>(try simp only[go_sem] at h)<;>(try exact g_f))|(with_reducible refine And.intro ?_ ?_;· exact g_x)|(with_reducible intro h;(try simp only[go_sem] at h);(try exact g_f))))
            refine hL b (τ ++ [.cells 3 [lnkC l]]) _ _ ⟨h3, hb⟩ (ALe_of ?_) ?_
            · simp -implicitDefEqProofs only [go_sem]
            · simp [lnkC, intA1]
              exact ⟨rfl, hd⟩
          · rw [if_pos (by simp only [hd, hm, decide_true, decide_false, Bool.not_false, Bool.and_true])] at h3
            rw [decide_eq_false hm] at hmg
            have hgl := hgl hd hm
            have hih := hih l.fr b hgl.1 (by simp only [List.length_cons]; omega) hb p (ρ ++ (τ ++ [.cells 3 [lnkC l]]))
            have hvg := hvg l.fr b hgl.1 (by simp only [List.length_cons]; omega) hb
            rw [← hgl.2] at hih hvg
            obtain ⟨b2, hb2⟩ : ∃ b2, visitF n fr f (at' :: s) l.fr (overA n l.edge w) b = b2 := ⟨_, rfl⟩
            rw [hb2] at h3 hih hvg
            have hov : at0 (at0 n.alg.edges l.edge) w = overA n l.edge w := rfl
            simp -implicitDefEqProofs only [go_sem]
            have hlc : lnkC l = [intA1 l.fr, intA1 at', intA1 l.edge] := by rw [← hd]; rfl
            rw [hlc] at hih
            (repeat' (first|(refine g_s fun K hK=>?_)|(refine g_b ?_)|(refine g_r ?_)|(refine g_k ?_;simp only[thenQ,blockQ])|(refine g_e ?_;simp only[thenQ,blockQ,↓reduceIte,Nat.reduceEqDiff])|(refine g_c (fun h=>?_) (fun h=>?_)<;>(try simp only[go_sem] at h)<;>(try exact g_f))|((first|refine g_t ?_|refine g_G ?_|refine AWP_drawK 15 tab_mixed (by decide +kernel) ?_|refine AWP_drawK 16 tab_mixed (by decide +kernel) ?_|refine ACalls.useV hih ?_);(try simp -implicitDefEqProofs only[go_sem,hla, hd, hmg, hov]))|(with_reducible refine hK _ _ ?_;clear hK K)|(clear hK K;first|(with_reducible refine hK _ _ ?_;clear hK K)|(clear hK K;with_reducible refine hK _ _ ?_;clear hK K)|(clear hK K;clear hK K;with_reducible refine hK _ _ ?_;clear hK K))|(with_reducible refine splitB_intro (fun h=>?_) (fun h=>?_)<;>(try simp only[go_sem] at h)<;>(try exact g_f)<;>(try simp -implicitDefEqProofs only[go_sem,hla, hd, hmg, hov]))|(with_reducible refine And.intro (fun h=>?_) (fun h=>?_)<;>(try simp only[go_sem] at h)<;>(try exact g_f))|(with_reducible refine And.intro ?_ ?_;· exact g_x)|(with_reducible intro h;(try simp only[go_sem] at h);(try exact g_f))))
            refine hL b2 (τ ++ .cells 3 [lnkC l] :: h) _ _ ⟨h3, hvg.1⟩ (ALe_of ?_) ?_
            · simp -implicitDefEqProofs only [go_sem]
            · rw [hlc]
              simp
              exact ⟨rfl, rfl, rfl, rfl⟩
        · rw [if_neg (by simp only [hd, decide_false, Bool.false_and]; decide)] at h3
          simp -implicitDefEqProofs only [go_sem]
          (repeat' (first|(refine g_s fun K hK=>?_)|(refine g_b ?_)|(refine g_r ?_)|(refine g_k ?_;simp only[thenQ,blockQ])|(refine g_e ?_;simp only[thenQ,blockQ,↓reduceIte,Nat.reduceEqDiff])|(refine g_c (fun h=>?_) (fun h=>?_)<;>(try simp only[go_sem] at h)<;>(try exact g_f))|((first|refine g_t ?_|refine g_g ?_|refine g_U ?_|refine g_A ?_|refine g_W ?_);(try simp -implicitDefEqProofs only[go_sem,hla, hd]))|(with_reducible refine hK _ _ ?_;clear hK K)|(clear hK K;first|(with_reducible refine hK _ _ ?_;clear hK K)|(clear hK K;with_reducible refine hK _ _ ?_;clear hK K)|(clear hK K;clear hK K;with_reducible refine hK _ _ ?_;clear hK K))|(with_reducible refine splitB_intro (fun h=>?_) (fun h=>?_)<;>(try simp only[go_sem] at h)<;>(try exact g_f)<;>(try simp -implicitDefEqProofs only[go_sem,hla, hd]))|(with_reducible refine And.intro (fun h=>?_) (fun h=>?_)<;>(try simp only[go_sem] at h)<;>(try exact g_f))|(with_reducible refine And.intro ?_ ?_;· exact g_x)|(with_reducible intro h;(try simp only[go_sem] at h);(try exact g_f))))
          refine hL b (τ ++ [.cells 3 [lnkC l]]) _ _ ⟨h3, hb⟩ (ALe_of ?_) ?_
          · simp -implicitDefEqProofs only [go_sem]
          · simp [lnkC, intA1]
            rfl
      · rintro k b τ hk ⟨h3, hb⟩ L
        have h3 : b = B := h3
        subst h3
        simp -implicitDefEqProofs only [go_sem]
        (repeat' (first|(refine g_s fun K hK=>?_)|(refine g_b ?_)|(refine g_r ?_)|(refine g_k ?_;simp only[thenQ,blockQ])|(refine g_e ?_;simp only[thenQ,blockQ,↓reduceIte,Nat.reduceEqDiff])|(refine g_c (fun h=>?_) (fun h=>?_)<;>(try simp only[go_sem] at h)<;>(try exact g_f))|((first|refine g_t ?_|refine g_g ?_|refine g_U ?_|refine g_A ?_|refine g_W ?_);(try simp -implicitDefEqProofs only[go_sem]))|(with_reducible refine hK _ _ ?_;clear hK K)|(clear hK K;first|(with_reducible refine hK _ _ ?_;clear hK K)|(clear hK K;with_reducible refine hK _ _ ?_;clear hK K)|(clear hK K;clear hK K;with_reducible refine hK _ _ ?_;clear hK K))|(with_reducible refine splitB_intro (fun h=>?_) (fun h=>?_)<;>(try simp only[go_sem] at h)<;>(try exact g_f)<;>(try simp -implicitDefEqProofs only[go_sem]))|(with_reducible refine And.intro (fun h=>?_) (fun h=>?_)<;>(try simp only[go_sem] at h)<;>(try exact g_f))|(with_reducible refine And.intro ?_ ?_;· exact g_x)|(with_reducible intro h;(try simp only[go_sem] at h);(try exact g_f))))
        refine hJ _ _ ?_
        clear hJ
        (repeat' (first|(refine g_s fun K hK=>?_)|(refine g_b ?_)|(refine g_r ?_)|(refine g_k ?_;simp only[thenQ,blockQ])|(refine g_e ?_;simp only[thenQ,blockQ,↓reduceIte,Nat.reduceEqDiff])|(refine g_c (fun h=>?_) (fun h=>?_)<;>(try simp only[go_sem] at h)<;>(try exact g_f))|((first|refine g_t ?_|refine g_g ?_|refine g_U ?_|refine g_A ?_|refine g_W ?_);(try simp -implicitDefEqProofs only[go_sem,met_get n (at' :: s) ha0 ha1, hclr]))|(with_reducible refine hK _ _ ?_;clear hK K)|(clear hK K;first|(with_reducible refine hK _ _ ?_;clear hK K)|(clear hK K;with_reducible refine hK _ _ ?_;clear hK K)|(clear hK K;clear hK K;with_reducible refine hK _ _ ?_;clear hK K))|(with_reducible refine splitB_intro (fun h=>?_) (fun h=>?_)<;>(try simp only[go_sem] at h)<;>(try exact g_f)<;>(try simp -implicitDefEqProofs only[go_sem,met_get n (at' :: s) ha0 ha1, hclr]))|(with_reducible refine And.intro (fun h=>?_) (fun h=>?_)<;>(try simp only[go_sem] at h)<;>(try exact g_f))|(with_reducible refine And.intro ?_ ?_;· exact g_x)|(with_reducible intro h;(try simp only[go_sem] at h);(try exact g_f))))
        exact ⟨τ, rfl⟩
end Go.Proofs.Ytephecognbbaoab
