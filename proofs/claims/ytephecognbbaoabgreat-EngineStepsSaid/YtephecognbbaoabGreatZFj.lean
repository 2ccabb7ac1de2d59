/- A router looks, in a copy, as the document does it. -/
import Derived.Test.YtephecognbbaoabGreatZFf
import Derived.Test.YtephecognbbaoabGreatZEq
import Derived.Test.YtephecognbbaoabGreatZEj
import Derived.Test.YtephecognbbaoabGreatZCo
import Derived.Test.YtephecognbbaoabGreatZSy
open Go
set_option linter.all false
set_option maxRecDepth 100000
set_option maxHeartbeats 4000000
namespace Go.Proofs.YtephecognbbaoabGreat
open Go
set_option linter.all false
set_option maxRecDepth 100000
set_option maxHeartbeats 4000000
theorem setR_setR (e : Eng) (i : Int) (r r' : Rtr) : setR (setR e i r) i r' = setR e i r' := by simp [setR]
theorem setR_at {e : Eng} {i : Int} (h0 : 0 ≤ i) (h1 : i < e.routers.length) (r : Rtr) : at0 (setR e i r).routers i = r := by
  have hi : i.toNat < e.routers.length := by omega
  simp [setR, at0, List.getD_eq_getElem?_getD, hi]
theorem setR_same {e : Eng} {i : Int} (h0 : 0 ≤ i) (h1 : i < e.routers.length) : setR e i (at0 e.routers i) = e := by
  have hi : i.toNat < e.routers.length := by omega
  have : at0 e.routers i = e.routers[i.toNat] := by simp [at0, List.getD_eq_getElem?_getD, hi]
  rw [setR, this, List.set_getElem_self]
theorem routeR_cg {n : Net} {i j : Int} {f g : Int → Int} (h : ∀ k, 0 ≤ k → k < n.nodes → f k = g k) : routeR n i j f = routeR n i j g := by
  unfold routeR
  have key : ∀ (K : List Int) (out : Int), (∀ k ∈ K, 0 ≤ k ∧ k < n.nodes) → K.foldl (fun out k => if 0 ≤ edgeOf n i k then bestA n out (overA n (edgeOf n i k) (f k)) else out) out = K.foldl (fun out k => if 0 ≤ edgeOf n i k then bestA n out (overA n (edgeOf n i k) (g k)) else out) out := by
    intro K
    induction K with
    | nil => intro out _; rfl
    | cons k K ih =>
      intro out hK
      simp only [List.foldl_cons]
      rw [h k (hK k (by simp)).1 (hK k (by simp)).2]
      exact ih _ fun q hq => hK q (by simp [hq])
  exact key _ _ fun k hk => mem_ints.1 hk
theorem looked_calls (n : Net) (e : Eng) (hc : checkN n = 0) (hl : n.links.length ≤ 5864062014634) (he : EngIn n e) (ok : EngOk e) (i : Int) (h0 : 0 ≤ i) (h1 : i < n.nodes) (σ : Store) :
    ACalls Tryz.prog 28 [.agg (netC n), .agg (engC e), intA1 i] σ fun r σ' => ∃ τ, σ' = σ ++ τ ∧ ∃ rb acc gv gi, r = .agg [.own rb 2 0 e.routers.length e.routers.length, gv] ∧ CpyE (σ ++ τ) σ.length (lookedE n e i) rb acc gv gi := by
  have hn := netIn_of hc
  have n1 := hn.n1
  have n6 := hn.n6
  have s2 := hn.alg.s2
  have s24 := hn.alg.s24
  have hel := he.len
  have hir : i < e.routers.length := by omega
  have hR := rtr_at he ⟨h0, h1⟩
  obtain ⟨R, hRe⟩ : ∃ R, at0 e.routers i = R := ⟨_, rfl⟩
  rw [hRe] at hR
  have hrl := hR.rl
  have htl := hR.tl
  refine ACalls_of_awp Tryz.func28 rfl Tryz.results28 ?_
  simp only [List.length_cons, List.length_nil, Tryz.ntmps28, Nat.reduceAdd, Nat.reduceSub, enterA]
  refine AWP_seq_k fun K hK => ?_
  (refine AWP_region ?_; simp -implicitDefEqProofs only [go_sem])
  refine hK _ _ ?_; clear hK K
  refine AWP_freezeP 3 rfl (by simp only [st0]; rfl) ?_
  simp only [ss0, List.set_cons_zero]
  refine AWP_freezeP 4 rfl (by simp only [st1]; rfl) ?_
  simp only [ss1, List.set_cons_zero, List.set_cons_succ]
  (repeat' (first|(refine g_s fun K hK=>?_)|(refine g_g ?_;(try simp -implicitDefEqProofs only[go_sem]))|fail))
  obtain ⟨ρ, hρ⟩ : ∃ ρ : Store, σ ++ [.dead, .dead, .cells 2 [[.c (.slice none 0 0), .c (.slice none 0 0)]]] = ρ := ⟨_, rfl⟩
  have hlen : ρ.length = σ.length + 3 := by rw [← hρ]; simp
  have hcL : ∀ X, (ρ ++ X)[σ.length + 2]? = some (.cells 2 [[.c (.slice none 0 0), .c (.slice none 0 0)]]) := fun X => by rw [← hρ]; exact st_app (by simp)
  have hcS : ∀ X o, (ρ ++ X).set (σ.length + 2) o = σ ++ ([.dead, .dead, o] ++ X) := fun X o => by
    rw [← hρ, List.append_assoc, List.set_append_right _ _ (by omega), Nat.add_sub_cancel_left]
    rfl
  rw [hρ]
  refine (copied_calls n e hn he ok ρ).mono ?_
  rintro r S' ⟨τ, rfl, rb, acc, gv, gi, rfl, hM⟩
  obtain ⟨gb, rfl, rfl, hgb⟩ := hM.bag
  obtain ⟨ro, to, hp, hpV, hp1, hp2⟩ := hM.at h0 hir
  rw [hRe] at hp hpV hp1 hp2
  simp -implicitDefEqProofs only [go_sem]
  (repeat' (first|(refine g_s fun K hK=>?_)|(refine g_b ?_)|(refine g_g ?_;(try simp -implicitDefEqProofs only[go_sem]))|(with_reducible refine hK _ _ ?_;clear hK K)|fail))
  have hJ := hK
  clear hK
  obtain ⟨bx, hbx⟩ : ∃ bx, ρ.length + τ.length = bx := ⟨_, rfl⟩
  rw [hbx]
  have hrob : ro < bx := by
    have := (List.getElem?_eq_some_iff.1 hp1).1
    simp at this
    omega
  obtain ⟨V, hV⟩ : ∃ V : Int → Int, (fun q => routeL n i q (fun k => toldAt n R k q) n.links) = V := ⟨_, rfl⟩
  have hVq : ∀ q, 0 ≤ q → q < n.nodes → routeR n i q (fun k => toldAt n R k q) = V q := fun q a b => by
    rw [← hV]
    exact (route_eq hc i q _ fun k c d => toldAt_in hn hR ⟨c, d⟩ ⟨a, b⟩).symm
  have hacS : ∀ (l : List Int), (acc.set i.toNat (⟨l, R.told⟩, ro, to))[i.toNat]? = some (⟨l, R.told⟩, ro, to) := fun l => List.getElem?_set_self (List.getElem?_eq_some_iff.1 hp).1
  have hM0 : CpyE (ρ ++ τ) ρ.length (setR e i ⟨R.routes, R.told⟩) rb (acc.set i.toNat (⟨R.routes, R.told⟩, ro, to)) (.own gb 3 0 e.bag.length e.bag.length) [gb] := by
    have e1 : setR e i ⟨R.routes, R.told⟩ = e := by rw [← hRe]; exact setR_same h0 hir
    have e2 : acc.set i.toNat (⟨R.routes, R.told⟩, ro, to) = acc := by
      have := (List.getElem?_eq_some_iff.1 hp).2
      rw [show ((⟨R.routes, R.told⟩ : Rtr), ro, to) = (R, ro, to) from rfl, ← this, List.set_getElem_self]
    rw [e1, e2]
    exact hM
  refine AWP_each (ints n.nodes) (fun k _ (s : Store × List Int) => Keeps ρ s.1 ∧ s.1[bx]? = some (.cells 2 [[.own rb 2 0 e.routers.length e.routers.length, .own gb 3 0 e.bag.length e.bag.length]]) ∧ CpyE s.1 ρ.length (setR e i ⟨s.2, R.told⟩) rb (acc.set i.toNat (⟨s.2, R.told⟩, ro, to)) (.own gb 3 0 e.bag.length e.bag.length) [gb] ∧ (s.2.length : Int) = n.nodes ∧ ∀ q, 0 ≤ q → q < n.nodes → at0 s.2 q = if q < k then V q else at0 R.routes q)
    (fun k _ _ => [(8, intA1 k), (7, .ptr bx 2 0 0)]) (fun _ s _ => s.1) (ρ ++ (τ ++ [.cells 2 [[.own rb 2 0 e.routers.length e.routers.length, .own gb 3 0 e.bag.length e.bag.length]]]), R.routes) [] ⟨⟨_, rfl⟩, ?_, ?_, hrl, fun q a _ => by rw [if_neg (by omega)]⟩ rfl (ALe_of ?_) ?_ ?_
  · rw [← hbx, ← List.append_assoc, List.getElem?_append_right (by simp)]
    simp
  · rw [← List.append_assoc]
    exact hM0.app
  · simp -implicitDefEqProofs only [go_sem]
  · rintro j rj ⟨S2, l⟩ τ9 hj0 hj1 ⟨g1, g2, g3, g4, g5⟩ L hL
    simp only at g1 g2 g3 g4 g5
    rw [ints_length] at hj1
    have ij : I64 (j + 1) := by unfold I64; omega
    obtain ⟨ro', to', q1, q2, q3, q4⟩ := g3.at h0 (by simp only [setR, List.length_set]; omega)
    rw [setR_at h0 hir] at q1 q2 q3 q4
    rw [hacS l] at q1
    cases q1
    have hmapV : (acc.set i.toNat (⟨l, R.told⟩, ro, to)).map cpyV = acc.map cpyV := map_setV cpyV acc i.toNat _ _ hp (by have e9 : l.length = R.routes.length := (by omega); simp only [cpyV, e9])
    have hbL : ∀ τ, (S2 ++ τ)[bx]? = some (.cells 2 [[.own rb 2 0 e.routers.length e.routers.length, .own gb 3 0 e.bag.length e.bag.length]]) := fun τ => st_app g2
    have hrL : ∀ τ, (S2 ++ τ)[rb]? = some (.cells 2 (acc.map cpyV)) := fun τ => by rw [← hmapV]; exact st_app g3.hrb
    rw [hmapV] at q2
    simp only [cpyV] at q2
    have hal : (acc.map cpyV).length = e.routers.length := by rw [List.length_map, hM.len]
    have hoL : ∀ τ, (S2 ++ τ)[ro]? = some (.cells 1 (l.map intC)) := fun τ => st_app q3
    have hoS : ∀ τ o, (S2 ++ τ).set ro o = S2.set ro o ++ τ := fun τ o => st_setApp q3
    have hgl := get_map l hj0 (by omega : j < l.length)
    have hsl := set_map l j.toNat
    simp -implicitDefEqProofs only [go_sem]
    (repeat' (first|(refine g_s fun K hK=>?_)|(refine g_b ?_)|(refine g_k ?_;simp only[thenQ,blockQ])|(refine g_c (fun h=>?_) (fun h=>?_)<;>(try simp only[go_sem] at h)<;>(try exact g_f))|(refine g_g ?_;(try simp -implicitDefEqProofs only[go_sem]))|(with_reducible refine hK _ _ ?_;clear hK K)|fail))
    refine AWP_pad ?_
    have hJ2 := hK
    clear hK
    refine AWP_each (ints n.nodes) (fun _ r9 has => has ++ r9.map (fun k => toldAt n R k j) = (ints n.nodes).map (fun k => toldAt n R k j)) (fun k9 has τ8 => [(10, intA1 k9), (9, accV 1 (S2.length + τ8.length) has)]) (fun _ has τ8 => S2 ++ (τ8 ++ [accO intC 1 has])) [] [] rfl (by simp [accO]) (ALe_of ?_) ?_ ?_
    · simp -implicitDefEqProofs only [go_sem, accV]
    · rintro k9 r9 has τ8 hk90 hk91 hH L2 hL2
      rw [ints_length] at hk91
      rw [at0_ints hk90 (by omega), List.map_cons] at hH
      have hhl : has.length + 1 ≤ 6 := by have := congrArg List.length hH; simp [ints_length] at this; omega
      obtain ⟨w, hw⟩ : ∃ w, at0 R.told k9 = w := ⟨_, rfl⟩
      have hwm := hR.tr w (by rw [← hw]; exact at0_mem _ hk90 (by omega))
      by_cases c1 : w = []
      · have ht : toldAt n R k9 j = n.alg.size - 1 := by rw [toldAt, hw, if_pos c1]
        rw [ht] at hH
        subst c1
        have is1 : I64 (n.alg.size - 1) := by unfold I64; omega
        rcases has with _ | ⟨y, has⟩ <;> simp only [List.length_cons, List.length_nil] at hhl <;> simp -implicitDefEqProofs only [go_sem, accV, accO]
        all_goals (repeat' (first|(refine g_s fun K hK=>?_)|(refine g_b ?_)|(refine g_k ?_;simp only[thenQ,blockQ])|(refine g_c (fun h=>?_) (fun h=>?_)<;>(try simp only[go_sem] at h)<;>(try exact g_f))|(refine g_g ?_;(try simp -implicitDefEqProofs only[go_sem,hRe, hw, is1]))|(with_reducible refine hK _ _ ?_;clear hK K)|(with_reducible refine And.intro ?_ ?_;· exact g_x)|fail))
        · refine hL2 [n.alg.size - 1] (τ8 ++ [.dead, .cells 1 [[intA1 (n.alg.size - 1)]]]) _ _ (by simpa using hH) (ALe_of ?_) ?_
          · simp -implicitDefEqProofs only [go_sem, accV]
          · simp [accO, intC, intA1]
        · refine hL2 (y :: has ++ [n.alg.size - 1]) (τ8 ++ [.dead, .cells 1 [[intA1 (n.alg.size - 1)]]]) _ _ (by simpa using hH) (ALe_of ?_) ?_
          · simp -implicitDefEqProofs only [go_sem, accV]
          · simp [accO, intC, intA1]
      · have ht : toldAt n R k9 j = at0 w j := by rw [toldAt, hw, if_neg c1, at2, hw]
        rw [ht] at hH
        have hwl : (w.length : Int) = n.nodes := by
          rcases hwm with h | h
          · exact absurd h c1
          · exact h.1
        have c0 : w.length ≠ 0 := by omega
        rcases has with _ | ⟨y, has⟩ <;> simp only [List.length_cons, List.length_nil] at hhl <;> simp -implicitDefEqProofs only [go_sem, accV, accO]
        all_goals (repeat' (first|(refine g_s fun K hK=>?_)|(refine g_b ?_)|(refine g_k ?_;simp only[thenQ,blockQ])|(refine g_c (fun h=>?_) (fun h=>?_)<;>(try simp only[go_sem] at h)<;>(try exact g_f))|(refine g_g ?_;(try simp -implicitDefEqProofs only[go_sem,hRe, hw, c0, hwl]))|(with_reducible refine hK _ _ ?_;clear hK K)|(with_reducible refine And.intro ?_ ?_;· exact g_x)|fail))
        · refine hL2 [at0 w j] (τ8 ++ [.dead, .cells 1 [[intA1 (at0 w j)]]]) _ _ (by simpa using hH) (ALe_of ?_) ?_
          · simp -implicitDefEqProofs only [go_sem, accV]
          · simp [accO, intC, intA1]
        · refine hL2 (y :: has ++ [at0 w j]) (τ8 ++ [.dead, .cells 1 [[intA1 (at0 w j)]]]) _ _ (by simpa using hH) (ALe_of ?_) ?_
          · simp -implicitDefEqProofs only [go_sem, accV]
          · simp [accO, intC, intA1]
    · rintro k9 has τ8 hk9 hH L2
      rw [ints_length] at hk9
      rw [List.map_nil, List.append_nil] at hH
      subst hH
      simp -implicitDefEqProofs only [go_sem]
      (repeat' (first|(refine g_s fun K hK=>?_)|(refine g_e ?_;simp only[thenQ,blockQ,↓reduceIte,Nat.reduceEqDiff])|(refine g_c (fun h=>?_) (fun h=>?_)<;>(try simp only[go_sem] at h)<;>(try exact g_f))|(refine g_g ?_;(try simp -implicitDefEqProofs only[go_sem]))|(with_reducible refine hK _ _ ?_;clear hK K)|fail))
      refine hJ2 _ _ ?_
      clear hJ2
      refine AWP_freezeAcc 9 intC 1 _ S2 τ8 [] rfl ?_
      have hro := routeOf_calls n i j ((ints n.nodes).map (fun k => toldAt n R k j)) hn hl (by simp [ints_length]; omega) (fun v hv => by
        obtain ⟨k, hk, rfl⟩ := List.mem_map.1 hv
        exact toldAt_in hn hR (mem_ints.1 hk) ⟨hj0, by omega⟩)
      have hre : routeR n i j (fun k => at0 ((ints n.nodes).map (fun k => toldAt n R k j)) k) = V j := by
        rw [← hVq j hj0 (by omega)]
        exact routeR_cg fun k a b => at0_ints_map _ ⟨a, b⟩
      rw [hre] at hro
      (repeat' (first|((first|refine g_g ?_|refine g_U ?_|refine g_q (fun τ=>hro _) ?_);(try simp -implicitDefEqProofs only[go_sem,hbL, hrL, q2, hal, hoL, hoS, hgl, hsl]))|(clear hK K;first|(with_reducible refine hK _ _ ?_;clear hK K)|(clear hK K;with_reducible refine hK _ _ ?_;clear hK K)|(clear hK K;clear hK K;with_reducible refine hK _ _ ?_;clear hK K))|(with_reducible refine And.intro ?_ ?_;· exact g_x)|fail))
      have hl9 : (l.set j.toNat (V j)).length = (at0 (setR e i ⟨l, R.told⟩).routers i).routes.length := by rw [setR_at h0 hir, List.length_set]
      have hp9 : (acc.set i.toNat (⟨l, R.told⟩, ro, to))[i.toNat]? = some (at0 (setR e i ⟨l, R.told⟩).routers i, ro, to) := by rw [setR_at h0 hir]; exact hacS l
      have hM9 := g3.routes h0 hp9 (l.set j.toNat (V j)) hl9
      rw [setR_at h0 hir, setR_setR, List.set_set] at hM9
      have hro9 := g3.lo ro (by
        refine List.mem_cons_of_mem _ (List.mem_append_left _ (List.mem_map.2 ⟨(⟨l, R.told⟩, ro, to), List.mem_of_getElem? (hacS l), rfl⟩)))
      refine hL (_, l.set j.toNat (V j)) [] _ _ ⟨(g1.set hro9).app, st_app (st_set g2 (by omega)), hM9.app, by rw [List.length_set]; exact g4, fun q a b => ?_⟩ (ALe_of ?_) rfl
      · rw [at0_setG l (V j) hj0 a (by omega), g5 q a b]
        by_cases hqj : q = j
        · rw [if_pos hqj, if_pos (by omega), hqj]
        · rw [if_neg hqj]
          by_cases hq2 : q < j
          · rw [if_pos hq2, if_pos (by omega)]
          · rw [if_neg hq2, if_neg (by omega)]
      · simp -implicitDefEqProofs only [go_sem]
  · rintro j ⟨S2, l⟩ τ9 hj ⟨g1, g2, g3, g4, g5⟩ L
    simp only at g1 g2 g3 g4 g5
    rw [ints_length] at hj
    have hlk : l = lookE n R i := by
      refine at0_ext (by rw [lookE_len]; omega) fun q a b => ?_
      rw [g5 q a (by omega), if_pos (by omega), lookE, at0_ints_map _ ⟨a, by omega⟩, ← hV]
    have hle : lookedE n e i = setR e i ⟨l, R.told⟩ := by rw [lookedE, hRe, lookedR, hlk]
    obtain ⟨T2, rfl⟩ := g1
    simp -implicitDefEqProofs only [go_sem]
    (repeat' (first|(refine g_s fun K hK=>?_)|(refine g_e ?_;simp only[thenQ,blockQ,↓reduceIte,Nat.reduceEqDiff])|(refine g_c (fun h=>?_) (fun h=>?_)<;>(try simp only[go_sem] at h)<;>(try exact g_f))|(refine g_g ?_;(try simp -implicitDefEqProofs only[go_sem]))|(with_reducible refine hK _ _ ?_;clear hK K)|fail))
    refine hJ _ _ ?_
    clear hJ
    (repeat' (first|(refine g_s fun K hK=>?_)|((first|refine g_t ?_|refine g_g ?_);(try simp -implicitDefEqProofs only[go_sem,g2, hcL, hcS]))|(with_reducible refine hK _ _ ?_;clear hK K)|fail))
    rw [hle]
    refine ⟨_, rfl, rb, acc.set i.toNat (⟨l, R.told⟩, ro, to), .own gb 3 0 e.bag.length e.bag.length, [gb], rfl, ?_⟩
    have hf := (g3.setLo (x := σ.length + 2) (o := .cells 2 [[.own rb 2 0 e.routers.length e.routers.length, .own gb 3 0 e.bag.length e.bag.length]]) (by omega)).less (by omega : σ.length ≤ ρ.length)
    rw [hcS] at hf
    exact hf
end Go.Proofs.YtephecognbbaoabGreat
namespace Go.Proofs.YtephecognbbaoabGreat
def stepO (n : Net) (e : Eng) (v : Evt) : Eng × Int := if (stepE n e v).2 ≠ 0 then (noE, (stepE n e v).2) else stepE n e v
theorem bet_is (n a b : Int) (v : Bool) (h : inR n a b = v) (S : Store) : ACalls Tryz.prog 19 [intA1 n, intA1 a, intA1 b] S fun r S' => S' = S ∧ r = .c (.bool v) := by
  subst h
  exact between_calls n a b S
theorem node_is (n : Net) (i : Int) (v : Bool) (hn : I64 (n.nodes - 1)) (h : inR i 0 (n.nodes - 1) = v) (S : Store) : ACalls Tryz.prog 20 [.agg (netC n), intA1 i] S fun r S' => S' = S ∧ r = .c (.bool v) := by
  subst h
  exact isNode_calls n i hn S
theorem stepOf_kind (n : Net) (e : Eng) (hc : checkN n = 0) (hl : n.links.length ≤ 5864062014634) (he : EngIn n e) (hby : EngB e) (ok : EngOk e) (K1 at' b c : Int) (rts : List Int) (hat : I64 at') (hb : I64 b) (hcc : I64 c) (hrts : rts.length ≤ 17592186044000) (hK1 : I64 K1) (hx : inR K1 1 7 = false) (σ : Store) :
    ACalls Tryz.prog 9 [.agg (netC n), .agg (engC e), .agg (evtC ⟨K1, at', b, c, rts⟩)] σ fun r σ' => σ' = σ ∧ r = .tup [.agg (engC noE), intA1 7] := by
  have hn := netIn_of hc
  have n1 := hn.n1
  have n6 := hn.n6
  have hel := he.len
  have hbag := he.bag
  have hB := bet_is K1 1 7 _ hx
  refine ACalls.deep ?_
  refine ACalls_of_awp Tryz.func9 rfl Tryz.results9 ?_
  simp only [List.length_cons, List.length_nil, Tryz.ntmps9, Nat.reduceAdd, Nat.reduceSub, enterA]
  refine AWP_seq_k fun K hK => ?_
  (refine AWP_region ?_; simp -implicitDefEqProofs only [go_sem])
  refine hK _ _ ?_; clear hK K
  refine AWP_freezeP 3 rfl (by first | rfl | (simp -implicitDefEqProofs only [go_sem]; done) | (simp -implicitDefEqProofs only [go_sem]; rfl)) ?_
  simp only [ss0, List.set_cons_zero]
  refine AWP_freezeP 4 rfl (by first | rfl | (simp -implicitDefEqProofs only [go_sem]; done) | (simp -implicitDefEqProofs only [go_sem]; rfl)) ?_
  simp only [ss1, List.set_cons_zero, List.set_cons_succ]
  refine AWP_freezeP 5 rfl (by first | rfl | (simp -implicitDefEqProofs only [go_sem]; done) | (simp -implicitDefEqProofs only [go_sem]; rfl)) ?_
  simp only [ss1, List.set_cons_zero, List.set_cons_succ]
  (repeat' (first|(refine g_s fun K hK=>?_)|(refine g_c (fun h=>?_) (fun h=>?_)<;>(try simp only[go_sem] at h)<;>(try exact g_f))|((first|refine g_t ?_|refine g_g ?_|refine (hB _).use ?_);(try simp -implicitDefEqProofs only[go_sem]))|(with_reducible refine hK _ _ ?_;clear hK K)|fail))
  exact DeepQ_of rfl (.tupL (.cons (.eng _) (.cons (.c _) .nil))) (.tupL (.cons (.aggL (.cons .nil (.cons .nil .nil))) (.cons (.same _) .nil)))
theorem stepOf_mail (n : Net) (e : Eng) (hc : checkN n = 0) (hl : n.links.length ≤ 5864062014634) (he : EngIn n e) (hby : EngB e) (ok : EngOk e) (K1 at' b c : Int) (rts : List Int) (hat : I64 at') (hb : I64 b) (hcc : I64 c) (hrts : rts.length ≤ 17592186044000) (hK1 : I64 K1) (hx : inR K1 1 7 = true) (hy : inR K1 2 5 = true) (hz : inR at' 0 (e.bag.length - 1) = false) (σ : Store) :
    ACalls Tryz.prog 9 [.agg (netC n), .agg (engC e), .agg (evtC ⟨K1, at', b, c, rts⟩)] σ fun r σ' => σ' = σ ∧ r = .tup [.agg (engC noE), intA1 5] := by
  have hn := netIn_of hc
  have n1 := hn.n1
  have n6 := hn.n6
  have hel := he.len
  have hbag := he.bag
  have hB := bet_is K1 1 7 _ hx
  have hB2 := bet_is K1 2 5 _ hy
  have hB3 := bet_is at' 0 (e.bag.length - 1) _ hz
  refine ACalls.deep ?_
  refine ACalls_of_awp Tryz.func9 rfl Tryz.results9 ?_
  simp only [List.length_cons, List.length_nil, Tryz.ntmps9, Nat.reduceAdd, Nat.reduceSub, enterA]
  refine AWP_seq_k fun K hK => ?_
  (refine AWP_region ?_; simp -implicitDefEqProofs only [go_sem])
  refine hK _ _ ?_; clear hK K
  refine AWP_freezeP 3 rfl (by first | rfl | (simp -implicitDefEqProofs only [go_sem]; done) | (simp -implicitDefEqProofs only [go_sem]; rfl)) ?_
  simp only [ss0, List.set_cons_zero]
  refine AWP_freezeP 4 rfl (by first | rfl | (simp -implicitDefEqProofs only [go_sem]; done) | (simp -implicitDefEqProofs only [go_sem]; rfl)) ?_
  simp only [ss1, List.set_cons_zero, List.set_cons_succ]
  refine AWP_freezeP 5 rfl (by first | rfl | (simp -implicitDefEqProofs only [go_sem]; done) | (simp -implicitDefEqProofs only [go_sem]; rfl)) ?_
  simp only [ss1, List.set_cons_zero, List.set_cons_succ]
  (repeat' (first|(refine g_s fun K hK=>?_)|(refine g_k ?_;simp only[thenQ,blockQ])|(refine g_c (fun h=>?_) (fun h=>?_)<;>(try simp only[go_sem] at h)<;>(try exact g_f))|((first|refine g_t ?_|refine g_g ?_|refine (hB _).use ?_|refine (hB2 _).use ?_|refine (hB3 _).use ?_);(try simp -implicitDefEqProofs only[go_sem]))|(with_reducible refine hK _ _ ?_;clear hK K)|(with_reducible refine And.intro ?_ ?_;· exact g_x)|fail))
  exact DeepQ_of rfl (.tupL (.cons (.eng _) (.cons (.c _) .nil))) (.tupL (.cons (.aggL (.cons .nil (.cons .nil .nil))) (.cons (.same _) .nil)))
theorem stepOf_node (n : Net) (e : Eng) (hc : checkN n = 0) (hl : n.links.length ≤ 5864062014634) (he : EngIn n e) (hby : EngB e) (ok : EngOk e) (K1 at' b c : Int) (rts : List Int) (hat : I64 at') (hb : I64 b) (hcc : I64 c) (hrts : rts.length ≤ 17592186044000) (hK1 : I64 K1) (hx : inR K1 1 7 = true) (hy : inR K1 2 5 = false) (hz : inR at' 0 (n.nodes - 1) = false) (σ : Store) :
    ACalls Tryz.prog 9 [.agg (netC n), .agg (engC e), .agg (evtC ⟨K1, at', b, c, rts⟩)] σ fun r σ' => σ' = σ ∧ r = .tup [.agg (engC noE), intA1 5] := by
  have hn := netIn_of hc
  have n1 := hn.n1
  have n6 := hn.n6
  have hel := he.len
  have hbag := he.bag
  have hB := bet_is K1 1 7 _ hx
  have hB2 := bet_is K1 2 5 _ hy
  have hB3 := node_is n at' _ (by unfold I64; omega) hz
  refine ACalls.deep ?_
  refine ACalls_of_awp Tryz.func9 rfl Tryz.results9 ?_
  simp only [List.length_cons, List.length_nil, Tryz.ntmps9, Nat.reduceAdd, Nat.reduceSub, enterA]
  refine AWP_seq_k fun K hK => ?_
  (refine AWP_region ?_; simp -implicitDefEqProofs only [go_sem])
  refine hK _ _ ?_; clear hK K
  refine AWP_freezeP 3 rfl (by first | rfl | (simp -implicitDefEqProofs only [go_sem]; done) | (simp -implicitDefEqProofs only [go_sem]; rfl)) ?_
  simp only [ss0, List.set_cons_zero]
  refine AWP_freezeP 4 rfl (by first | rfl | (simp -implicitDefEqProofs only [go_sem]; done) | (simp -implicitDefEqProofs only [go_sem]; rfl)) ?_
  simp only [ss1, List.set_cons_zero, List.set_cons_succ]
  refine AWP_freezeP 5 rfl (by first | rfl | (simp -implicitDefEqProofs only [go_sem]; done) | (simp -implicitDefEqProofs only [go_sem]; rfl)) ?_
  simp only [ss1, List.set_cons_zero, List.set_cons_succ]
  (repeat' (first|(refine g_s fun K hK=>?_)|(refine g_k ?_;simp only[thenQ,blockQ])|(refine g_c (fun h=>?_) (fun h=>?_)<;>(try simp only[go_sem] at h)<;>(try exact g_f))|((first|refine g_t ?_|refine g_g ?_|refine (hB _).use ?_|refine (hB2 _).use ?_|refine (hB3 _).use ?_);(try simp -implicitDefEqProofs only[go_sem]))|(with_reducible refine hK _ _ ?_;clear hK K)|fail))
  exact DeepQ_of rfl (.tupL (.cons (.eng _) (.cons (.c _) .nil))) (.tupL (.cons (.aggL (.cons .nil (.cons .nil .nil))) (.cons (.same _) .nil)))
theorem stepOf_gone (n : Net) (e : Eng) (hc : checkN n = 0) (hl : n.links.length ≤ 5864062014634) (he : EngIn n e) (hby : EngB e) (ok : EngOk e) (K1 at' b c : Int) (rts : List Int) (hat : I64 at') (hb : I64 b) (hcc : I64 c) (hrts : rts.length ≤ 17592186044000) (hz : inR at' 0 (n.nodes - 1) = true) (hw : inR b 0 (n.nodes - 1) = false) (σ : Store) :
    ACalls Tryz.prog 9 [.agg (netC n), .agg (engC e), .agg (evtC ⟨6, at', b, c, rts⟩)] σ fun r σ' => σ' = σ ∧ r = .tup [.agg (engC noE), intA1 5] := by
  have hn := netIn_of hc
  have n1 := hn.n1
  have n6 := hn.n6
  have hel := he.len
  have hbag := he.bag
  have hB := bet_is 6 1 7 true (by decide)
  have hB2 := bet_is 6 2 5 false (by decide)
  have hB3 := node_is n at' _ (by unfold I64; omega) hz
  have hB4 := node_is n b _ (by unfold I64; omega) hw
  refine ACalls.deep ?_
  refine ACalls_of_awp Tryz.func9 rfl Tryz.results9 ?_
  simp only [List.length_cons, List.length_nil, Tryz.ntmps9, Nat.reduceAdd, Nat.reduceSub, enterA]
  refine AWP_seq_k fun K hK => ?_
  (refine AWP_region ?_; simp -implicitDefEqProofs only [go_sem])
  refine hK _ _ ?_; clear hK K
  refine AWP_freezeP 3 rfl (by first | rfl | (simp -implicitDefEqProofs only [go_sem]; done) | (simp -implicitDefEqProofs only [go_sem]; rfl)) ?_
  simp only [ss0, List.set_cons_zero]
  refine AWP_freezeP 4 rfl (by first | rfl | (simp -implicitDefEqProofs only [go_sem]; done) | (simp -implicitDefEqProofs only [go_sem]; rfl)) ?_
  simp only [ss1, List.set_cons_zero, List.set_cons_succ]
  refine AWP_freezeP 5 rfl (by first | rfl | (simp -implicitDefEqProofs only [go_sem]; done) | (simp -implicitDefEqProofs only [go_sem]; rfl)) ?_
  simp only [ss1, List.set_cons_zero, List.set_cons_succ]
  (repeat' (first|(refine g_s fun K hK=>?_)|(refine g_k ?_;simp only[thenQ,blockQ])|(refine g_c (fun h=>?_) (fun h=>?_)<;>(try simp only[go_sem] at h)<;>(try exact g_f))|((first|refine g_t ?_|refine g_g ?_|refine (hB _).use ?_|refine (hB2 _).use ?_|refine (hB3 _).use ?_|refine (hB4 _).use ?_);(try simp -implicitDefEqProofs only[go_sem]))|(with_reducible refine hK _ _ ?_;clear hK K)|(with_reducible refine splitB_intro (fun h=>?_) (fun h=>?_)<;>(try simp only[go_sem] at h)<;>(try exact g_f)<;>(try simp -implicitDefEqProofs only[go_sem]))|fail))
  exact DeepQ_of rfl (.tupL (.cons (.eng _) (.cons (.c _) .nil))) (.tupL (.cons (.aggL (.cons .nil (.cons .nil .nil))) (.cons (.same _) .nil)))
end Go.Proofs.YtephecognbbaoabGreat
namespace Go.Proofs.YtephecognbbaoabGreat
theorem stepOf_full (n : Net) (e : Eng) (hc : checkN n = 0) (hl : n.links.length ≤ 5864062014634) (he : EngIn n e) (hby : EngB e) (ok : EngOk e) (K1 at' b c : Int) (rts : List Int) (hat : I64 at') (hb : I64 b) (hcc : I64 c) (hrts : rts.length ≤ 17592186044000) (h0 : 0 ≤ at') (h1 : at' < e.bag.length) (hz : e.bag.length = 120) (σ : Store) :
    ACalls Tryz.prog 9 [.agg (netC n), .agg (engC e), .agg (evtC ⟨3, at', b, c, rts⟩)] σ fun r σ' => σ' = σ ∧ r = .tup [.agg (engC noE), intA1 2] := by
  have hn := netIn_of hc
  have n1 := hn.n1
  have n6 := hn.n6
  have hel := he.len
  have hbag := he.bag
  have hB := bet_is 3 1 7 true (by decide)
  have hB2 := bet_is 3 2 5 true (by decide)
  have hB3 := bet_is at' 0 (e.bag.length - 1) true (inR_iff.2 (by omega))
  have hz2 : (120 : Int) ≤ e.bag.length := by omega
  refine ACalls.deep ?_
  refine ACalls_of_awp Tryz.func9 rfl Tryz.results9 ?_
  simp only [List.length_cons, List.length_nil, Tryz.ntmps9, Nat.reduceAdd, Nat.reduceSub, enterA]
  refine AWP_seq_k fun K hK => ?_
  (refine AWP_region ?_; simp -implicitDefEqProofs only [go_sem])
  refine hK _ _ ?_; clear hK K
  refine AWP_freezeP 3 rfl (by first | rfl | (simp -implicitDefEqProofs only [go_sem]; done) | (simp -implicitDefEqProofs only [go_sem]; rfl)) ?_
  simp only [ss0, List.set_cons_zero]
  refine AWP_freezeP 4 rfl (by first | rfl | (simp -implicitDefEqProofs only [go_sem]; done) | (simp -implicitDefEqProofs only [go_sem]; rfl)) ?_
  simp only [ss1, List.set_cons_zero, List.set_cons_succ]
  refine AWP_freezeP 5 rfl (by first | rfl | (simp -implicitDefEqProofs only [go_sem]; done) | (simp -implicitDefEqProofs only [go_sem]; rfl)) ?_
  simp only [ss1, List.set_cons_zero, List.set_cons_succ]
  (repeat' (first|(refine g_s fun K hK=>?_)|(refine g_b ?_)|(refine g_k ?_;simp only[thenQ,blockQ])|(refine g_c (fun h=>?_) (fun h=>?_)<;>(try simp only[go_sem] at h)<;>(try exact g_f))|((first|refine g_t ?_|refine g_g ?_|refine (hB _).use ?_|refine (hB2 _).use ?_|refine (hB3 _).use ?_);(try simp -implicitDefEqProofs only[go_sem,hz2]))|(with_reducible refine hK _ _ ?_;clear hK K)|(with_reducible refine And.intro ?_ ?_;· exact g_x)|fail))
  exact DeepQ_of rfl (.tupL (.cons (.eng _) (.cons (.c _) .nil))) (.tupL (.cons (.aggL (.cons .nil (.cons .nil .nil))) (.cons (.same _) .nil)))
theorem stepOf_lose (n : Net) (e : Eng) (hc : checkN n = 0) (hl : n.links.length ≤ 5864062014634) (he : EngIn n e) (hby : EngB e) (ok : EngOk e) (K1 at' b c : Int) (rts : List Int) (hat : I64 at') (hb : I64 b) (hcc : I64 c) (hrts : rts.length ≤ 17592186044000) (h0 : 0 ≤ at') (h1 : at' < e.bag.length) (σ : Store) :
    ACalls Tryz.prog 9 [.agg (netC n), .agg (engC e), .agg (evtC ⟨4, at', b, c, rts⟩)] σ fun r σ' => σ' = σ ∧ r = .tup [.agg (engC (dropE e at')), intA1 0] := by
  have hn := netIn_of hc
  have n1 := hn.n1
  have n6 := hn.n6
  have hel := he.len
  have hbag := he.bag
  have hB := bet_is 4 1 7 true (by decide)
  have hB2 := bet_is 4 2 5 true (by decide)
  have hB3 := bet_is at' 0 (e.bag.length - 1) true (inR_iff.2 (by omega))
  refine ACalls.deep ?_
  refine ACalls_of_awp Tryz.func9 rfl Tryz.results9 ?_
  simp only [List.length_cons, List.length_nil, Tryz.ntmps9, Nat.reduceAdd, Nat.reduceSub, enterA]
  refine AWP_seq_k fun K hK => ?_
  (refine AWP_region ?_; simp -implicitDefEqProofs only [go_sem])
  refine hK _ _ ?_; clear hK K
  refine AWP_freezeP 3 rfl (by first | rfl | (simp -implicitDefEqProofs only [go_sem]; done) | (simp -implicitDefEqProofs only [go_sem]; rfl)) ?_
  simp only [ss0, List.set_cons_zero]
  refine AWP_freezeP 4 rfl (by first | rfl | (simp -implicitDefEqProofs only [go_sem]; done) | (simp -implicitDefEqProofs only [go_sem]; rfl)) ?_
  simp only [ss1, List.set_cons_zero, List.set_cons_succ]
  refine AWP_freezeP 5 rfl (by first | rfl | (simp -implicitDefEqProofs only [go_sem]; done) | (simp -implicitDefEqProofs only [go_sem]; rfl)) ?_
  simp only [ss1, List.set_cons_zero, List.set_cons_succ]
  (repeat' (first|(refine g_s fun K hK=>?_)|(refine g_b ?_)|(refine g_k ?_;simp only[thenQ,blockQ])|(refine g_c (fun h=>?_) (fun h=>?_)<;>(try simp only[go_sem] at h)<;>(try exact g_f))|((first|refine g_g ?_|refine (hB _).use ?_|refine (hB2 _).use ?_|refine (hB3 _).use ?_);(try simp -implicitDefEqProofs only[go_sem]))|(with_reducible refine hK _ _ ?_;clear hK K)|(with_reducible refine And.intro ?_ ?_;· exact g_x)|fail))
  obtain ⟨ρ, hρ⟩ : ∃ ρ : Store, σ ++ [.dead, .dead, .dead, .cells 2 [[.c (.slice none 0 0), .c (.slice none 0 0)]]] = ρ := ⟨_, rfl⟩
  have hlen : ρ.length = σ.length + 4 := by rw [← hρ]; simp
  have hcL : ∀ X, (ρ ++ X)[σ.length + 3]? = some (.cells 2 [[.c (.slice none 0 0), .c (.slice none 0 0)]]) := fun X => by rw [← hρ]; exact st_app (by simp)
  have hcS : ∀ X o, (ρ ++ X).set (σ.length + 3) o = σ ++ ([.dead, .dead, .dead, o] ++ X) := fun X o => by
    rw [← hρ, List.append_assoc, List.set_append_right _ _ (by omega), Nat.add_sub_cancel_left]
    rfl
  rw [hρ]
  refine (without_calls n e hn he ok at' h0 h1 ρ).mono ?_
  rintro r S' ⟨τ, rfl, rb, acc, gv, gi, rfl, hM⟩
  obtain ⟨gb, rfl, rfl, hgb⟩ := hM.bag
  simp -implicitDefEqProofs only [go_sem, hcL, hcS]
  (repeat' (first|(refine g_t ?_;(try simp -implicitDefEqProofs only[go_sem,hcL, hcS]))|(with_reducible refine hK _ _ ?_;clear hK K)|fail))
  have hf := (hM.setLo (x := σ.length + 3) (o := .cells 2 [[.own rb 2 0 e.routers.length e.routers.length, .own gb 3 0 (dropE e at').bag.length (dropE e at').bag.length]]) (by omega)).less (by omega : σ.length ≤ ρ.length)
  rw [hcS] at hf
  exact DeepQ_of rfl (.tupL (.cons (.eng _) (.cons (.c _) .nil))) (.tupL (.cons (.aggL (hf.deep fun x hx => hx)) (.cons (.same _) .nil)))
theorem stepOf_twice (n : Net) (e : Eng) (hc : checkN n = 0) (hl : n.links.length ≤ 5864062014634) (he : EngIn n e) (hby : EngB e) (ok : EngOk e) (K1 at' b c : Int) (rts : List Int) (hat : I64 at') (hb : I64 b) (hcc : I64 c) (hrts : rts.length ≤ 17592186044000) (h0 : 0 ≤ at') (h1 : at' < e.bag.length) (hz : e.bag.length ≠ 120) (σ : Store) :
    ACalls Tryz.prog 9 [.agg (netC n), .agg (engC e), .agg (evtC ⟨3, at', b, c, rts⟩)] σ fun r σ' => σ' = σ ∧ r = .tup [.agg (engC ⟨e.routers, e.bag ++ [at0 e.bag at']⟩), intA1 0] := by
  have hn := netIn_of hc
  have n1 := hn.n1
  have n6 := hn.n6
  have hel := he.len
  have hbag := he.bag
  have hB := bet_is 3 1 7 true (by decide)
  have hB2 := bet_is 3 2 5 true (by decide)
  have hB3 := bet_is at' 0 (e.bag.length - 1) true (inR_iff.2 (by omega))
  have hz2 : ¬ (120 : Int) ≤ e.bag.length := by omega
  refine ACalls.deep ?_
  refine ACalls_of_awp Tryz.func9 rfl Tryz.results9 ?_
  simp only [List.length_cons, List.length_nil, Tryz.ntmps9, Nat.reduceAdd, Nat.reduceSub, enterA]
  refine AWP_seq_k fun K hK => ?_
  (refine AWP_region ?_; simp -implicitDefEqProofs only [go_sem])
  refine hK _ _ ?_; clear hK K
  refine AWP_freezeP 3 rfl (by first | rfl | (simp -implicitDefEqProofs only [go_sem]; done) | (simp -implicitDefEqProofs only [go_sem]; rfl)) ?_
  simp only [ss0, List.set_cons_zero]
  refine AWP_freezeP 4 rfl (by first | rfl | (simp -implicitDefEqProofs only [go_sem]; done) | (simp -implicitDefEqProofs only [go_sem]; rfl)) ?_
  simp only [ss1, List.set_cons_zero, List.set_cons_succ]
  refine AWP_freezeP 5 rfl (by first | rfl | (simp -implicitDefEqProofs only [go_sem]; done) | (simp -implicitDefEqProofs only [go_sem]; rfl)) ?_
  simp only [ss1, List.set_cons_zero, List.set_cons_succ]
  (repeat' (first|(refine g_s fun K hK=>?_)|(refine g_b ?_)|(refine g_k ?_;simp only[thenQ,blockQ])|(refine g_c (fun h=>?_) (fun h=>?_)<;>(try simp only[go_sem] at h)<;>(try exact g_f))|((first|refine g_g ?_|refine (hB _).use ?_|refine (hB2 _).use ?_|refine (hB3 _).use ?_);(try simp -implicitDefEqProofs only[go_sem,hz2]))|(with_reducible refine hK _ _ ?_;clear hK K)|(with_reducible refine And.intro ?_ ?_;· exact g_x)|fail))
  obtain ⟨ρ, hρ⟩ : ∃ ρ : Store, σ ++ [.dead, .dead, .dead, .cells 2 [[.c (.slice none 0 0), .c (.slice none 0 0)]]] = ρ := ⟨_, rfl⟩
  have hlen : ρ.length = σ.length + 4 := by rw [← hρ]; simp
  have hcL : ∀ X, (ρ ++ X)[σ.length + 3]? = some (.cells 2 [[.c (.slice none 0 0), .c (.slice none 0 0)]]) := fun X => by rw [← hρ]; exact st_app (by simp)
  have hcS : ∀ X o, (ρ ++ X).set (σ.length + 3) o = σ ++ ([.dead, .dead, .dead, o] ++ X) := fun X o => by
    rw [← hρ, List.append_assoc, List.set_append_right _ _ (by omega), Nat.add_sub_cancel_left]
    rfl
  rw [hρ]
  refine (copied_calls n e hn he ok ρ).mono ?_
  rintro r S' ⟨τ, rfl, rb, acc, gv, gi, rfl, hM⟩
  obtain ⟨gb, rfl, rfl, hgb⟩ := hM.bag
  obtain ⟨w, hw⟩ : ∃ w, at0 e.bag at' = w := ⟨_, rfl⟩
  rw [hw]
  have hcL0 : (ρ ++ τ)[σ.length + 3]? = some (.cells 2 [[.c (.slice none 0 0), .c (.slice none 0 0)]]) := hcL τ
  have hKe : Keeps σ (ρ ++ τ) := ⟨[.dead, .dead, .dead, .cells 2 [[.c (.slice none 0 0), .c (.slice none 0 0)]]] ++ τ, by rw [← hρ, List.append_assoc]⟩
  have hlo : ρ.length ≤ (ρ ++ τ).length := by simp
  clear hcL hcS
  obtain ⟨γ, hγ⟩ : ∃ γ, ρ ++ τ = γ := ⟨_, rfl⟩
  rw [hγ] at hM hgb hcL0 hKe hlo ⊢
  have hgl := (List.getElem?_eq_some_iff.1 hgb).1
  have hglo := hM.lo gb (by simp [cpyO])
  have hcl := (List.getElem?_eq_some_iff.1 hcL0).1
  have hgL : ∀ X, (γ ++ X)[gb]? = some (.cells 3 (e.bag.map mailC)) := fun X => st_app hgb
  have hgS : ∀ X o, (γ ++ X).set gb o = γ.set gb o ++ X := fun X o => st_setApp hgb
  have hbD : ∀ o X, (γ.set gb .dead ++ o :: X)[γ.length]? = some o := fun o X => by
    rw [List.getElem?_append_right (by simp), List.length_set, Nat.sub_self]
    rfl
  have hbE : ∀ o X o', (γ.set gb .dead ++ o :: X).set γ.length o' = γ.set gb .dead ++ o' :: X := fun o X o' => by
    rw [List.set_append_right _ _ (by simp), List.length_set, Nat.sub_self]
    rfl
  have hcD0 : (γ.set gb .dead)[σ.length + 3]? = some (.cells 2 [[.c (.slice none 0 0), .c (.slice none 0 0)]]) := st_set hcL0 (by omega)
  have hcD : ∀ X, (γ.set gb .dead ++ X)[σ.length + 3]? = some (.cells 2 [[.c (.slice none 0 0), .c (.slice none 0 0)]]) := fun X => st_app hcD0
  have hcE : ∀ X o, (γ.set gb .dead ++ X).set (σ.length + 3) o = (γ.set gb .dead).set (σ.length + 3) o ++ X := fun X o => st_setApp hcD0
  have hlg : (γ.set gb .dead).length = γ.length := List.length_set
  simp -implicitDefEqProofs only [go_sem, hw, hgL, hgS, hbD, hbE, hcD, hcE, hlg]
  (repeat' (first|(refine g_s fun K hK=>?_)|((first|refine g_t ?_|refine g_g ?_|refine g_U ?_);(try simp -implicitDefEqProofs only[go_sem,hw, hgL, hgS, hbD, hbE, hcD, hcE, hlg]))|(with_reducible refine hK _ _ ?_;clear hK K)|(with_reducible refine And.intro ?_ ?_;· exact g_x)|fail))
  have hcF : ∀ o X, ((γ.set gb .dead).set (σ.length + 3) o ++ X)[σ.length + 3]? = some o := fun o X => st_app (st_self hcD0)
  simp -implicitDefEqProofs only [go_sem, hcF]
  skip
  have hl3 : ∀ o X, ((γ.set gb .dead).set (σ.length + 3) o ++ X)[γ.length + 1]? = X[1]? := fun o X => by
    rw [List.getElem?_append_right (by simp), List.length_set, List.length_set, Nat.add_sub_cancel_left]
  have hf := (hM.rebag (y := σ.length + 3) (by omega) (o := .dead) (o' := .cells 2 [[.own rb 2 0 e.routers.length e.routers.length, .own (γ.length + 1) 3 0 (e.bag.length + 1) (e.bag.length + 1)]]) (X := [.cells 2 [[.own rb 2 0 e.routers.length e.routers.length, .own (γ.length + 1) 3 0 (e.bag.length + 1) (e.bag.length + 1)]], .cells 3 ((e.bag ++ [w]).map mailC)]) (bag := e.bag ++ [w]) (g := γ.length + 1) (by rw [hl3]; rfl) (by omega) hlo).less (by omega : σ.length ≤ ρ.length)
  have hel2 : (e.bag ++ [w]).length = e.bag.length + 1 := by simp
  rw [hel2] at hf
  obtain ⟨T, hT⟩ : Keeps σ (((γ.set gb .dead).set (σ.length + 3) (.cells 2 [[.own rb 2 0 e.routers.length e.routers.length, .own (γ.length + 1) 3 0 (e.bag.length + 1) (e.bag.length + 1)]])) ++ [.cells 2 [[.own rb 2 0 e.routers.length e.routers.length, .own (γ.length + 1) 3 0 (e.bag.length + 1) (e.bag.length + 1)]], .cells 3 ((e.bag ++ [w]).map mailC)]) := ((hKe.set (by omega)).set (by omega)).app
  have hf2 := hf.deep (D := (σ.length ≤ ·)) fun x hx => hx
  rw [List.map_append] at hT hf2
  rw [hw]
  show DeepQ σ (.tup [.agg (engC ⟨e.routers, e.bag ++ [w]⟩), intA1 0]) _ _
  exact DeepQ_of hT (.tupL (.cons (.eng _) (.cons (.c _) .nil))) (.tupL (.cons (.aggL hf2) (.cons (.same _) .nil)))
end Go.Proofs.YtephecognbbaoabGreat
namespace Go.Proofs.YtephecognbbaoabGreat
theorem engOk_of {n : Net} (hn : NetIn n) {e : Eng} (he : EngIn n e) (hb : EngB e) : EngOk e := by
  have n6 := hn.n6
  have h1 := he.len
  have h2 := he.bag
  refine ⟨by omega, fun r hr => ?_, by omega, fun m hm => ?_⟩
  · have h := he.rtr r hr
    have h3 := h.rl
    have h4 := h.tl
    refine ⟨by omega, by omega, fun l hl => ?_⟩
    rcases h.tr l hl with rfl | ⟨h5, _⟩
    · exact Nat.zero_le _
    · omega
  · have h := he.mail m hm
    have h3 := h.fr
    have h4 := h.dst
    have h5 := h.len
    exact ⟨by unfold I64; omega, by unfold I64; omega, by omega, hb m hm⟩
theorem tickB {n : Net} (hc : checkN n = 0) {e : Eng} (he : EngIn n e) (hb : EngB e) {a : Int} (ha : 0 ≤ a ∧ a < n.nodes) : EngB (tickE n e a).1 := by
  have hn := netIn_of hc
  have n1 := hn.n1
  unfold tickE
  split
  · exact hb
  · intro m hm
    rcases List.mem_append.1 hm with hm | hm
    · exact hb m hm
    · obtain ⟨k, hk, rfl⟩ := List.mem_map.1 hm
      exact writeL_bytes (mail_ok hn (by rw [lookE_len]; omega) (lookE_in hc (rtr_at he ha) a) ha (hears_mem.1 hk).1)
theorem spoilB {n : Net} {e : Eng} (hb : EngB e) {v : Evt} (h0 : 0 ≤ v.at') (h1 : v.at' < e.bag.length) : EngB (spoilE e v).1 := by
  unfold spoilE
  split
  · exact hb
  · intro m hm
    rcases mem_setG hm with hm | rfl
    · exact hb m hm
    · intro c hcm
      rcases mem_setG hcm with hcm | rfl
      · exact hb _ (at0_mem e.bag h0 h1) c hcm
      · exact xorB_rng _ _
theorem takeB {n : Net} {e : Eng} (hb : EngB e) (m : Mail) : EngB (takeE n e m) := by
  unfold takeE
  split
  · exact hb
  · exact hb
theorem stepB {n : Net} (hc : checkN n = 0) {e : Eng} (he : EngIn n e) (hb : EngB e) (v : Evt) : EngB (stepE n e v).1 := by
  unfold stepE
  split
  · exact hb
  · split
    · split
      · exact hb
      · rename_i h1
        rw [not_inR] at h1
        split
        · exact takeB (fun m hm => hb m (List.mem_of_mem_eraseIdx hm)) _
        · split
          · split
            · exact hb
            · intro m hm
              rcases List.mem_append.1 hm with hm | hm
              · exact hb m hm
              · rw [List.mem_singleton.1 hm]
                exact hb _ (at0_mem e.bag (by omega) (by omega))
          · split
            · exact fun m hm => hb m (List.mem_of_mem_eraseIdx hm)
            · exact spoilB (n := n) hb (by omega) (by omega)
    · split
      · exact hb
      · rename_i h1
        rw [not_inR] at h1
        split
        · exact tickB hc he hb (by omega)
        · split
          · split <;> exact hb
          · split <;> exact hb
end Go.Proofs.YtephecognbbaoabGreat
namespace Go.Proofs.YtephecognbbaoabGreat
def loudM (op : Op) : Bool := match op with
  | .makeSlice .. => false
  | op => loudG (false, false) op
theorem loudM_G {op : Op} (h : loudM op = true) : loudG (false, false) op = true := by
  unfold loudM at h
  split at h
  · cases h
  · exact h
def AOpZ (P : Program) (op : Op) (ev : Operand → Option AV) (σ : Store) (K : AV → Prop) : Prop := match op with
  | .makeSlice T l c => on ((ev l).bind intA) fun l => on ((ev c).bind intA) fun c => match P.underlying T with
    | some (.slice e) => on (zeroA P e) fun z => z.length = P.cellsOf e ∧ 0 ≤ l ∧ l = c ∧ (P.bytesOf e : Int) * c ≤ 140737488355328 ∧ c ≤ 9223372036854775807 ∧ K (.sl (List.replicate c.toNat z))
    | _ => False
  | op => AOpK P op ev σ K
theorem AOpZ_ext {P : Program} {ev : Operand → Option AV} {σ : Store} {K : AV → Prop} (op : Op) (h : AOpZ P op ev σ K) : ∃ v, (∀ τ, AOpQ P op ev (σ ++ τ) v) ∧ K v := by
  unfold AOpZ at h
  split at h
  · rename_i T l c
    replace h := on_elim h
    obtain ⟨x, hx, h⟩ := h
    replace h := on_elim h
    obtain ⟨y, hy, h⟩ := h
    split at h
    · rename_i e he
      replace h := on_elim h
      obtain ⟨z, hz, h1, h2, h3, h4, h5, h6⟩ := h
      refine ⟨_, fun τ => ?_, h6⟩
      unfold AOpQ
      simp only [hx, hy, he, hz, on]
      exact ⟨h1, h2, h3, h4, h5, trivial⟩
    · exact h.elim
  · exact AOpK_ext op h
theorem AOpZ_pure {P : Program} {ev : Operand → Option AV} {σ : Store} {K : AV → Prop} (op : Op) (hp : pureOp op = true) (h : AOpZ P op ev σ K) : ∃ v, (∀ σ', AOpQ P op ev σ' v) ∧ K v := by
  unfold AOpZ at h
  split at h
  · cases hp
  · exact AOpK_pure op hp h
def allPureM (ops : List Oper) : Bool := ops.all fun o => loudM o.op || pureOp o.op
def zreg (P : Program) (N : Nat) (ops : List Oper) (pu : Bool) (σ0 : Store) (K : AF → Store → Prop) : List Oper → AF → Store → Prop
  | [], α, σ => K α σ
  | o :: r, α, σ => splitA ops o.guard α fun α => guardA ops o.guard α
      (fun α => match loudM o.op with
        | true => AOpD P o.op (evF α) σ fun v σ' => Grown pu σ0 σ' ∧ putA N o.dst v α fun α' => zreg P N ops pu σ0 K r α' σ'
        | false => AOpZ P o.op (evF α) σ0 fun v => putA N o.dst v α fun α' => zreg P N ops pu σ0 K r α' σ)
      (fun α => putA N o.dst (.c undef) α fun α' => zreg P N ops pu σ0 K r α' σ)
section
variable {rd : Option Nat} {P : Program} {N : Nat} {K0 : World} {ops : List Oper} {pu : Bool} {σ0 : Store} {α0 : AF}
def stepM (P : Program) (N : Nat) (ops : List Oper) (pu : Bool) (σ0 : Store) (α : AF) (σ : Store) (o : Oper) (b : Bool) (v : AV) (σ' : Store) : Prop :=
  (∀ d, o.dst = some d → d < N) ∧
  ((b = true ∧ ((loudM o.op = true ∧ AOp P o.op (evF α) σ (fun v' σ'' => v' = v ∧ σ'' = σ') ∧ Grown pu σ0 σ') ∨ (loudM o.op = false ∧ σ' = σ ∧ ∀ σ1, Grown pu σ0 σ1 → AOpQ P o.op (evF α) σ1 v)) ∧ (∀ g want, o.guard = some (g, want) → ∃ d, (ops[g]?).bind (·.dst) = some d ∧ look α d = some (.c (.bool want)))) ∨
   (b = false ∧ v = .c undef ∧ σ' = σ ∧ ∃ g want d, o.guard = some (g, want) ∧ (ops[g]?).bind (·.dst) = some d ∧ (look α d = some (.c (.bool (!want))) ∨ ∃ t, look α d = some (.c (.tuple t)))))
theorem trace_of_zreg {K : AF → Store → Prop} (hpu : pu = true → allPureM ops = true) : ∀ (l : List Oper) (k : Nat) (vs0 : Nat → AV) (bs0 : Nat → Bool) (ss0 : Nat → Store) (β : AF), (∀ t, look β t = look (frL ops α0 vs0 k) t) → (∀ j, j < l.length → l[j]? = ops[k + j]?) → zreg P N ops pu σ0 K l β (ss0 k) →
    ∃ (vs : Nat → AV) (bl : Nat → Bool) (ss : Nat → Store), (∀ j, j < k → vs j = vs0 j ∧ bl j = bs0 j) ∧ (∀ j, j ≤ k → ss j = ss0 j) ∧ (∀ j (h : j < l.length), stepM P N ops pu σ0 (frL ops α0 vs (k + j)) (ss (k + j)) l[j] (bl (k + j)) (vs (k + j)) (ss (k + j + 1))) ∧ ∃ γ, (∀ t, look γ t = look (frL ops α0 vs (k + l.length)) t) ∧ K γ (ss (k + l.length))
  | [], k, vs0, bs0, ss0, β, hβ, _, h => ⟨vs0, bs0, ss0, fun _ _ => ⟨rfl, rfl⟩, fun _ _ => rfl, fun j h => by simp at h, β, hβ, h⟩
  | o :: r, k, vs0, bs0, ss0, β, hβ, hl, h => by
    have ho : ops[k]? = some o := by have := hl 0 (by simp); simpa using this.symm
    have go : ∀ (b : Bool) (v : AV) (σ' : Store) (β : AF), (∀ t, look β t = look (frL ops α0 vs0 k) t) → stepM P N ops pu σ0 (frL ops α0 vs0 k) (ss0 k) o b v σ' → putA N o.dst v β (fun α' => zreg P N ops pu σ0 K r α' σ') →
        ∃ (vs : Nat → AV) (bl : Nat → Bool) (ss : Nat → Store), (∀ j, j < k → vs j = vs0 j ∧ bl j = bs0 j) ∧ (∀ j, j ≤ k → ss j = ss0 j) ∧ (∀ j (h : j < (o :: r).length), stepM P N ops pu σ0 (frL ops α0 vs (k + j)) (ss (k + j)) (o :: r)[j] (bl (k + j)) (vs (k + j)) (ss (k + j + 1))) ∧ ∃ γ, (∀ t, look γ t = look (frL ops α0 vs (k + (o :: r).length)) t) ∧ K γ (ss (k + (o :: r).length)) := by
      intro b v σ' β hβ hst hput
      let vs1 : Nat → AV := fun j => if j = k then v else vs0 j
      let bs1 : Nat → Bool := fun j => if j = k then b else bs0 j
      let ss1 : Nat → Store := fun j => if j = k + 1 then σ' else ss0 j
      have hfr : frL ops α0 vs1 k = frL ops α0 vs0 k := frL_congr k _ _ fun j hj => by simp only [vs1]; rw [if_neg (by omega)]
      obtain ⟨β', hβ', hq⟩ : ∃ β', (∀ t, look β' t = look (frL ops α0 vs1 (k + 1)) t) ∧ zreg P N ops pu σ0 K r β' σ' := by
        have hd : (ops[k]?).bind (·.dst) = o.dst := by rw [ho]; rfl
        unfold putA at hput
        cases hdst : o.dst with
        | none =>
          rw [hdst] at hput hd
          refine ⟨β, fun t => ?_, hput⟩
          simp only [frL, hd, hfr]
          exact hβ t
        | some d =>
          rw [hdst] at hput hd
          refine ⟨_, fun t => ?_, hput.2⟩
          simp only [frL, hd, hfr, look, vs1, if_true]
          split
          · rfl
          · exact hβ t
      obtain ⟨vs, bl, ss, h1, h1s, h2, γ, h3, h4⟩ := trace_of_zreg hpu r (k + 1) vs1 bs1 ss1 β' hβ' (fun j hj => by
        have := hl (j + 1) (by simp; omega)
        rw [show k + 1 + j = k + (j + 1) by omega, ← this]
        rfl) (by simp only [ss1, if_true]; exact hq)
      refine ⟨vs, bl, ss, fun j hj => ?_, fun j hj => ?_, fun j hj => ?_, γ, by rw [show k + (o :: r).length = k + 1 + r.length by simp; omega]; exact h3, by rw [show k + (o :: r).length = k + 1 + r.length by simp; omega]; exact h4⟩
      · have := h1 j (by omega)
        simp only [vs1, bs1, if_neg (show ¬ j = k by omega)] at this
        exact this
      · have := h1s j (by omega)
        simp only [ss1, if_neg (show ¬ j = k + 1 by omega)] at this
        exact this
      · cases j with
        | zero =>
          have e1 := h1 k (by omega)
          have e2 := h1s k (by omega)
          have e3 := h1s (k + 1) (by omega)
          simp only [vs1, bs1, if_true] at e1
          simp only [ss1, if_true] at e3
          simp only [ss1, if_neg (show ¬ k = k + 1 by omega)] at e2
          simp only [Nat.add_zero, List.getElem_cons_zero, e1.1, e1.2, e2, e3]
          rw [frL_congr k vs vs0 fun j hj => by have := h1 j (by omega); simp only [vs1, if_neg (show ¬ j = k by omega)] at this; exact this.1]
          exact hst
        | succ j =>
          have := h2 j (by simpa using hj)
          rw [show k + 1 + j = k + (j + 1) by omega] at this
          exact this
    simp only [zreg] at h
    obtain ⟨β1, hβ1, h⟩ := splitA_inv h
    have hb : ∀ t, look β1 t = look (frL ops α0 vs0 k) t := fun t => (hβ1 t).trans (hβ t)
    clear hβ1 hβ
    have act : (match loudM o.op with
        | true => AOpD P o.op (evF β1) (ss0 k) fun v σ' => Grown pu σ0 σ' ∧ putA N o.dst v β1 fun α' => zreg P N ops pu σ0 K r α' σ'
        | false => AOpZ P o.op (evF β1) σ0 fun v => putA N o.dst v β1 fun α' => zreg P N ops pu σ0 K r α' (ss0 k)) →
        ∃ v σ', ((loudM o.op = true ∧ AOp P o.op (evF (frL ops α0 vs0 k)) (ss0 k) (fun v' σ'' => v' = v ∧ σ'' = σ') ∧ Grown pu σ0 σ') ∨ (loudM o.op = false ∧ σ' = ss0 k ∧ ∀ σ1, Grown pu σ0 σ1 → AOpQ P o.op (evF (frL ops α0 vs0 k)) σ1 v)) ∧ putA N o.dst v β1 fun α' => zreg P N ops pu σ0 K r α' σ' := by
      intro h
      rw [evF_same hb] at h
      cases hlo : loudM o.op with
      | true =>
        rw [hlo] at h
        obtain ⟨v, σ', h1, h2, h3⟩ := AOp_det (loudM_G hlo) h
        exact ⟨v, σ', .inl ⟨rfl, h1, h2⟩, h3⟩
      | false =>
        rw [hlo] at h
        cases hp : pu with
        | true =>
          have hpo : pureOp o.op = true := by
            have := List.all_eq_true.1 (hpu hp) o (List.mem_of_getElem? ho)
            rw [hlo] at this
            simpa using this
          obtain ⟨v, h1, h2⟩ := AOpZ_pure o.op hpo h
          exact ⟨v, _, .inr ⟨rfl, rfl, fun σ1 _ => h1 σ1⟩, hp ▸ h2⟩
        | false =>
          obtain ⟨v, h1, h2⟩ := AOpZ_ext o.op h
          refine ⟨v, _, .inr ⟨rfl, rfl, fun σ1 hg => ?_⟩, hp ▸ h2⟩
          rcases hg with hg | ⟨τ, rfl⟩
          · cases hg
          · exact h1 τ
    unfold guardA at h
    cases hg : o.guard with
    | none =>
      rw [hg] at h
      obtain ⟨v, σ', hv, hp⟩ := act h
      refine go true v σ' β1 hb ⟨fun d hd => ?_, .inl ⟨rfl, hv, fun g want h => by rw [hg] at h; cases h⟩⟩ hp
      rw [hd] at hp
      exact hp.1
    | some g =>
      obtain ⟨g, want⟩ := g
      rw [hg] at h
      replace h := on_elim h; obtain ⟨d, hd, h⟩ := h
      replace h := on_elim h; obtain ⟨u, hu, h⟩ := h
      rw [hb] at hu
      have skip : (look (frL ops α0 vs0 k) d = some (.c (.bool (!want))) ∨ ∃ t, look (frL ops α0 vs0 k) d = some (.c (.tuple t))) → putA N o.dst (.c undef) β1 (fun α' => zreg P N ops pu σ0 K r α' (ss0 k)) → _ := fun hu hp =>
        go false (.c undef) (ss0 k) β1 hb ⟨fun d hd => by rw [hd] at hp; exact hp.1, .inr ⟨rfl, rfl, rfl, g, want, d, hg, hd, hu⟩⟩ hp
      split at h
      · cases want
        · exact skip (.inl hu) h
        · obtain ⟨v, σ', hv, hp⟩ := act h
          exact go true v σ' β1 hb ⟨fun d hd => by rw [hd] at hp; exact hp.1, .inl ⟨rfl, hv, fun g' want' h' => by
            rw [hg] at h'
            cases h'
            exact ⟨d, hd, hu⟩⟩⟩ hp
      · cases want
        · obtain ⟨v, σ', hv, hp⟩ := act h
          exact go true v σ' β1 hb ⟨fun d hd => by rw [hd] at hp; exact hp.1, .inl ⟨rfl, hv, fun g' want' h' => by
            rw [hg] at h'
            cases h'
            exact ⟨d, hd, hu⟩⟩⟩ hp
        · exact skip (.inl hu) h
      · rename_i t
        exact skip (.inr ⟨t, hu⟩) h
      · exact h.elim
/-- What changes the store comes in the text's order. -/
def loudOrdM (ops : List Oper) (p : Nat) : Bool :=
  let b := befL ops []
  let l := (List.range p).filter fun j => match ops[j]? with | some o => loudM o.op | none => true
  l.all fun j => l.all fun i => !decide (i < j) || (b.getD j 0).testBit i
theorem loudOrdM_spec {p i j : Nat} {x y : Oper} (h : loudOrdM ops p = true) (hij : i < j) (hj : j < p) (hx : ops[i]? = some x) (hy : ops[j]? = some y) (h1 : loudM x.op = true) (h2 : loudM y.op = true) : Anc ops i j := by
  simp only [loudOrdM, List.all_eq_true, List.mem_filter, List.mem_range] at h
  have := h j ⟨hj, by rw [hy]; exact h2⟩ i ⟨by omega, by rw [hx]; exact h1⟩
  simp only [hij, decide_true, Bool.not_true, Bool.false_or] at this
  exact befL_spec ops ops [] (fun j => by simp) (fun j i h => by simp at h) j i this
/-- **A region that draws its order, and makes objects.** -/
theorem AWP_drawM {Q : Post} {id : Nat} {σ : Store} (pu : Bool) (p : Nat) (hm : P.follows .mixedOrders = true) (hB : (drawB ops p && edgesBack ops && noSelect ops && decide (p ≤ ops.length) && loudOrdM ops p && (!pu || allPureM ops)) = true)
    (h : zreg P N ops pu σ (fun α σ => areg P N ops (fun α σ => Q .normal α σ) (ops.drop p) α σ) (ops.take p) α0 σ) : AWPr rd P N (.region id ops.toArray true) Q α0 σ := by
  intro K imm m w a hs hf
  simp only [Bool.and_eq_true, decide_eq_true_eq] at hB
  obtain ⟨⟨⟨⟨⟨hB1, hB2⟩, hB3⟩, hB4⟩, hB5⟩, hB6⟩ := hB
  have hpu : pu = true → allPureM ops = true := fun h => by simpa [h] using hB6
  have hc : Conf ops p := fun i j x y hij hx hy h => drawB_spec hB1 hij hx hy h
  obtain ⟨vs, bl, ss, _, hss0, h2, γ, hγ, h3⟩ := trace_of_zreg (ops := ops) (α0 := α0) hpu (ops.take p) 0 (fun _ => .emp) (fun _ => true) (fun _ => σ) α0 (fun _ => rfl) (fun j hj => by
    simp only [List.length_take] at hj
    rw [List.getElem?_take_of_lt (by omega), Nat.zero_add]) h
  simp only [Nat.zero_add, List.length_take, Nat.min_eq_left hB4] at h2 hγ h3
  have hss0 : ss 0 = σ := hss0 0 (Nat.le_refl _)
  refine wpIn_region_any hm ?_
  have hst : ∀ j, j < p → ∀ o, ops[j]? = some o → stepM P N ops pu σ (frL ops α0 vs j) (ss j) o (bl j) (vs j) (ss (j + 1)) := fun j hj o ho => by
    have := h2 j hj
    rw [List.getElem_take] at this
    obtain ⟨hj', rfl⟩ := List.getElem?_eq_some_iff.1 ho
    exact this
  have hrep : ∀ i, (Array.replicate ops.toArray.size false).getD i true = true → ¬ i < ops.length := fun i h hi => by
    simp [Array.getD_eq_getD_getElem?, hi] at h
  -- which operations change the store
  let lo : Nat → Prop := fun j => ∃ o, ops[j]? = some o ∧ loudM o.op = true
  have same1 : ∀ j, j < p → ¬ lo j → ss (j + 1) = ss j := fun j hj hn => by
    have ho : ops[j]? = some ops[j] := List.getElem?_eq_getElem (by omega)
    rcases (hst j hj _ ho).2 with ⟨_, hk, _⟩ | ⟨_, _, hk, _⟩
    · rcases hk with ⟨hk, _⟩ | ⟨_, hk, _⟩
      · exact absurd ⟨_, ho, hk⟩ hn
      · exact hk
    · exact hk
  have same : ∀ d k, k + d ≤ p → (∀ i, k ≤ i → i < k + d → ¬ lo i) → ss (k + d) = ss k := by
    intro d
    induction d with
    | zero => intro k _ _; rfl
    | succ d ih =>
      intro k hk hn
      rw [← Nat.add_assoc, same1 (k + d) (by omega) (hn _ (by omega) (by omega))]
      exact ih k (by omega) fun i h1 h2 => hn i h1 (by omega)
  have hG : ∀ j, j ≤ p → Grown pu σ (ss j) := by
    intro j
    induction j with
    | zero => intro _; rw [hss0]; exact .inr ⟨[], by simp⟩
    | succ j ih =>
      intro hj
      have ho : ops[j]? = some ops[j] := List.getElem?_eq_getElem (by omega)
      rcases (hst j (by omega) _ ho).2 with ⟨_, hk, _⟩ | ⟨_, _, hk, _⟩
      · rcases hk with ⟨_, _, hk⟩ | ⟨_, hk, _⟩
        · exact hk
        · rw [hk]; exact ih (by omega)
      · rw [hk]; exact ih (by omega)
  obtain ⟨top, htop⟩ : ∃ top : (Nat → Prop) → Nat, ∀ S, (∀ j, j < p → S j → lo j → j < top S) ∧ ∀ k, (∀ j, j < p → S j → lo j → j < k) → top S ≤ k := by
    have hex : ∀ S : Nat → Prop, ∃ n, (∀ j, j < p → S j → lo j → j < n) ∧ ∀ k, (∀ j, j < p → S j → lo j → j < k) → n ≤ k := fun S =>
      least (p := fun n => ∀ j, j < p → S j → lo j → j < n) p fun j hj _ _ => hj
    exact ⟨fun S => Classical.choose (hex S), fun S => Classical.choose_spec (hex S)⟩
  have topP : ∀ S, top S ≤ p := fun S => (htop S).2 p fun j hj _ _ => hj
  refine quiet_any (σ := ss p) (fun S => ss (top S)) hB2 hc hB3 hB4 (fun S h => ?_) (fun j o S imm m a w next Q' hj ho hsl hs hI hcl hnS hanc hn => ?_) hγ h3 _ _ a _ imm m ?_ (by simp) (fun i hi => absurd hi.1 (hrep i hi.2)) (fun i hi h => absurd hi (hrep i h)) ?_
    ⟨hf.defers, hf.size, fun t i h => absurd h.1.1 (hrep i h.1.2), fun t av _ h => hf.slot t av h⟩
  · have := same (p - top S) (top S) (by have := topP S; omega) fun i h1 h2 hl => by
      have := (htop S).1 i (by have := topP S; omega) (h i (by have := topP S; omega)) hl
      omega
    rw [show top S + (p - top S) = p by have := topP S; omega] at this
    exact this.symm
  · -- one operation, at whatever time it comes
    have hf := hI.names hc hcl ho hnS hanc
    have hlk : ∀ d av, d ∈ namesOf ops o → look (frL ops α0 vs j) d = some av → look (restr (namesOf ops o) (frL ops α0 vs j)) d = some av := fun d av hd h => by
      rw [look_restr, if_pos (by simpa using hd)]; exact h
    have hyield : ∀ (g d : Nat) (u : Value), (ops[g]?).bind (·.dst) = some d → look (frL ops α0 vs j) d = some (.c u) → d ∈ namesOf ops o → ((ops.toArray[g]?).bind (·.dst)).bind (a.tmps[·]?) = some u := fun g d u hgd hu hm => by
      obtain ⟨x, hx, r⟩ := hf.slot d _ (hlk d _ hm hu)
      simp only [List.getElem?_toArray, hgd, Option.bind_some, hx, r.c_inv]
    have hoa : ops.toArray[j]? = some o := by simpa using ho
    have hkeep : ¬ lo j → ss (top fun i => S i ∨ i = j) = ss (top S) := fun hn => by
      have h1 : top (fun i => S i ∨ i = j) ≤ top S := (htop _).2 _ fun i hi hS hl => by
        rcases hS with hS | rfl
        · exact (htop S).1 i hi hS hl
        · exact absurd hl hn
      have h2 : top S ≤ top (fun i => S i ∨ i = j) := (htop _).2 _ fun i hi hS hl => (htop _).1 i hi (.inl hS) hl
      rw [Nat.le_antisymm h1 h2]
    have hloud : lo j → ss (top S) = ss j ∧ ss (top fun i => S i ∨ i = j) = ss (j + 1) := fun hl => by
      obtain ⟨o', ho', hl'⟩ := hl
      rw [ho] at ho'
      cases ho'
      have hS : ∀ i, i < p → S i → lo i → i < j := fun i hi hS ⟨x, hx, hxl⟩ => by
        rcases Nat.lt_trichotomy i j with h | h | h
        · exact h
        · subst h; exact absurd hS hnS
        · exact absurd ((hcl i hS).2 j (loudOrdM_spec hB5 h hi ho hx hl' hxl)) hnS
      have h1 : top S ≤ j := (htop S).2 j hS
      have h2 := same (j - top S) (top S) (by omega) fun i h1 h2 ⟨x, hx, hxl⟩ => by
        have hi : S i := hanc i (loudOrdM_spec hB5 (by omega) hj hx ho hxl hl')
        have := (htop S).1 i (by omega) hi ⟨x, hx, hxl⟩
        omega
      rw [show top S + (j - top S) = j by omega] at h2
      refine ⟨h2.symm, ?_⟩
      have h3 : top (fun i => S i ∨ i = j) = j + 1 := Nat.le_antisymm ((htop _).2 _ fun i hi h9 hl => by
        rcases h9 with h9 | rfl
        · have := hS i hi h9 hl; omega
        · omega) ((htop _).1 j hj (.inr rfl) ⟨o, ho, hl'⟩)
      rw [h3]
    have hnolo : loudM o.op = false → ¬ lo j := fun h ⟨o', ho', hl'⟩ => by
      rw [ho] at ho'
      cases ho'
      rw [h] at hl'
      cases hl'
    have hcg : ∀ x ∈ o.op.operands, evF (frL ops α0 vs j) x = evF (restr (namesOf ops o) (frL ops α0 vs j)) x := fun x hx => by
      cases x with
      | tmp t => simp only [evF]; rw [look_restr, if_pos (by simpa using operand_names hx)]
      | _ => rfl
    unfold wpOpIn
    simp only [hoa]
    obtain ⟨hdN, ⟨hbt, hq, hg⟩ | ⟨hbf, hv, hσ, g, want, d, hg, hgd, hu⟩⟩ := hst j hj o ho
    · have hw : Region.wanted o (yielded ops.toArray a.tmps) = true := by
        cases hgo : o.guard with
        | none => simp [Region.wanted, hgo]
        | some gw =>
          obtain ⟨g, want⟩ := gw
          obtain ⟨d, hgd, hu⟩ := hg g want hgo
          have hy : yielded ops.toArray a.tmps g = some want := by simp only [yielded, hyield g d _ hgd hu (guard_names hgo hgd)]
          simp [Region.wanted, hgo, hy]
      rw [if_pos hw]
      rcases hq with ⟨hlo, hq, _⟩ | ⟨hlo, _, hq⟩
      · obtain ⟨e1, e2⟩ := hloud ⟨o, ho, hlo⟩
        rw [e1] at hs
        rw [AOp_congr o.op hsl hcg] at hq
        have hup := AOp_sound (dst := o.dst) (type := o.type) (pos := o.pos) (after := o.after) (guard := o.guard) o.op hs (evF_rep hf) hq
        refine wpIn_of_up (AOp_noDefer hq) hup fun imm' m' v av σ' w' hi hoo hs' hr hk => ?_
        obtain ⟨rfl, rfl⟩ := hk
        exact hn imm' m' v w' hi hoo (by rw [e2]; exact hs') ((hI.mono hi hoo).step hc hcl ho hnS hdN hr)
      · have e2 := hkeep (hnolo hlo)
        have hq' := hq _ (hG _ (topP S))
        rw [AOpQ_congr o.op hsl hcg] at hq'
        have hup := AOpQ_sound (dst := o.dst) (type := o.type) (pos := o.pos) (after := o.after) (guard := o.guard) o.op hs (evF_rep hf) hq'
        refine wpIn_of_up (AOpQ_noDefer hq') hup fun imm' m' v av σ' w' hi hoo hs' hr hk => ?_
        obtain ⟨rfl, rfl⟩ := hk
        exact hn imm' m' v w' hi hoo (by rw [e2]; exact hs') ((hI.mono hi hoo).step hc hcl ho hnS hdN hr)
    · have hw : Region.wanted o (yielded ops.toArray a.tmps) = false := by
        rcases hu with hu | ⟨t, hu⟩
        · have hy : yielded ops.toArray a.tmps g = some (!want) := by simp only [yielded, hyield g d _ hgd hu (guard_names hg hgd)]
          simp [Region.wanted, hg, hy]
        · have hy : yielded ops.toArray a.tmps g = none := by simp only [yielded, hyield g d _ hgd hu (guard_names hg hgd)]
          simp [Region.wanted, hg, hy]
      rw [if_neg (by rw [hw]; simp)]
      refine ⟨fun _ _ => Rnd_fn _ _, hn imm m undef w (.refl _) (.refl _) ?_ (hI.step hc hcl ho hnS hdN (by rw [hv]; exact .c _))⟩
      by_cases hl : lo j
      · obtain ⟨e1, e2⟩ := hloud hl
        rw [e2, hσ, ← e1]
        exact hs
      · rw [hkeep hl]
        exact hs
  · simp [left]
  · have h0 : top (fun i => i < ops.length ∧ (Array.replicate ops.toArray.size false).getD i true = true) = 0 := Nat.le_antisymm ((htop _).2 0 fun j _ h => absurd h.1 (hrep j h.2)) (Nat.zero_le _)
    show Sim K imm m { w with drawn := w.drawn + 1 } (ss (top _))
    rw [h0, hss0]
    exact hs.drew
end
def zop (P : Program) (lo pu : Bool) (op : Op) (ev : Operand → Option AV) (σ0 σ : Store) (K : AV → Store → Prop) : Prop :=
  match lo with
  | true => AOpD P op ev σ fun v σ' => Grown pu σ0 σ' ∧ K v σ'
  | false => AOpZ P op ev σ0 fun v => K v σ
section
variable {P : Program} {N : Nat} {ops : List Oper} {pu : Bool} {σ0 σ : Store} {K : AF → Store → Prop} {α : AF} {r : List Oper} {dst : Option Tmp} {op : Op} {ty : TypeId} {pos : String} {after : Array Edge} {g : Option (Nat × Bool)}
theorem zreg_nil : zreg P N ops pu σ0 K [] α σ = K α σ := rfl
theorem zreg_cons : zreg P N ops pu σ0 K ({ dst := dst, op := op, type := ty, pos := pos, after := after, guard := g } :: r) α σ = gateA ops g α
      (fun α => zop P (loudM op) pu op (evF α) σ0 σ fun av σ' => putA N dst av α fun α' => zreg P N ops pu σ0 K r α' σ')
      (fun α => putA N dst (.c undef) α fun α' => zreg P N ops pu σ0 K r α' σ) := rfl
theorem zop_t {ev : Operand → Option AV} {K : AV → Store → Prop} : zop P true pu op ev σ0 σ K = AOpD P op ev σ fun v σ' => Grown pu σ0 σ' ∧ K v σ' := rfl
theorem zop_f {ev : Operand → Option AV} {K : AV → Store → Prop} : zop P false pu op ev σ0 σ K = AOpZ P op ev σ0 fun v => K v σ := rfl
@[congr] theorem zop_cg {lo lo' : Bool} {ev : Operand → Option AV} {K : AV → Store → Prop} (h : pass lo = lo') : zop P lo pu op ev σ0 σ K = zop P lo' pu op ev σ0 σ K := by rw [← h, pass_eq]
end
attribute [go_sem ↓] zreg_nil zreg_cons
attribute [go_sem] zop_t zop_f loudM AOpZ
/-- One makes objects, and slices that are content at once; from the first writing on all wait for all. -/
theorem AWP_drawN {rd : Option Nat} {P : Program} {N : Nat} {ops : List Oper} {α0 : AF} {σ : Store} {Q : Post} {id : Nat} (hm : P.follows .mixedOrders = true) (hB : (drawB ops (uptoW ops) && edgesBack ops && noSelect ops && decide (uptoW ops ≤ ops.length) && loudOrdM ops (uptoW ops) && (!false || allPureM ops)) = true)
    (h : zreg P N ops false σ (fun α σ => areg P N ops (fun α σ => Q .normal α σ) (ops.drop (uptoW ops)) α σ) (ops.take (uptoW ops)) α0 σ) : AWPr rd P N (.region id ops.toArray true) Q α0 σ :=
  AWP_drawM false _ hm hB h
end Go.Proofs.YtephecognbbaoabGreat
namespace Go.Proofs.YtephecognbbaoabGreat
theorem DeepR.put {S : Store} {D : Nat → Prop} {l l' : List (List AV)} {a c : List AV} (h : DeepR S D l l') (k : Nat) (ha : DeepL S D a c) : DeepR S D (l.set k a) (l'.set k c) :=
  ⟨by simp [h.1], fun i h1 h2 => by
    rw [List.getElem_set, List.getElem_set]
    split
    · exact ha
    · exact h.2 i (by simpa using h1) (by simpa using h2)⟩
theorem stepOf_badRow (n : Net) (e : Eng) (hc : checkN n = 0) (hl : n.links.length ≤ 5864062014634) (he : EngIn n e) (hby : EngB e) (ok : EngOk e) (K1 at' b c : Int) (rts : List Int) (hat : I64 at') (hb : I64 b) (hcc : I64 c) (hrts : rts.length ≤ 17592186044000) (h0 : 0 ≤ at') (h1 : at' < n.nodes) (hr : rowErr n rts ≠ 0) (σ : Store) :
    ACalls Tryz.prog 9 [.agg (netC n), .agg (engC e), .agg (evtC ⟨7, at', b, c, rts⟩)] σ fun r σ' => σ' = σ ∧ r = .tup [.agg (engC noE), intA1 (rowErr n rts)] := by
  have hn := netIn_of hc
  have n1 := hn.n1
  have n6 := hn.n6
  have hel := he.len
  have hbag := he.bag
  have hB := bet_is 7 1 7 true (by decide)
  have hB2 := bet_is 7 2 5 false (by decide)
  have hB3 := node_is n at' true (by unfold I64; omega) (inR_iff.2 (by omega))
  have hx : I64 (n.alg.size - 1) := by have := hn.alg.s2; have := hn.alg.s24; unfold I64; omega
  have hRw := fun S => rowOf_calls n rts hx (by omega) S
  refine ACalls.deep ?_
  refine ACalls_of_awp Tryz.func9 rfl Tryz.results9 ?_
  simp only [List.length_cons, List.length_nil, Tryz.ntmps9, Nat.reduceAdd, Nat.reduceSub, enterA]
  refine AWP_seq_k fun K hK => ?_
  (refine AWP_region ?_; simp -implicitDefEqProofs only [go_sem])
  refine hK _ _ ?_; clear hK K
  refine AWP_freezeP 3 rfl (by first | rfl | (simp -implicitDefEqProofs only [go_sem]; done) | (simp -implicitDefEqProofs only [go_sem]; rfl)) ?_
  simp only [ss0, List.set_cons_zero]
  refine AWP_freezeP 4 rfl (by first | rfl | (simp -implicitDefEqProofs only [go_sem]; done) | (simp -implicitDefEqProofs only [go_sem]; rfl)) ?_
  simp only [ss1, List.set_cons_zero, List.set_cons_succ]
  refine AWP_freezeP 5 rfl (by first | rfl | (simp -implicitDefEqProofs only [go_sem]; done) | (simp -implicitDefEqProofs only [go_sem]; rfl)) ?_
  simp only [ss1, List.set_cons_zero, List.set_cons_succ]
  (repeat' (first|(refine g_s fun K hK=>?_)|(refine g_b ?_)|(refine g_k ?_;simp only[thenQ,blockQ])|(refine g_c (fun h=>?_) (fun h=>?_)<;>(try simp only[go_sem] at h)<;>(try exact g_f))|((first|refine g_t ?_|refine g_g ?_|refine (hB _).use ?_|refine (hB2 _).use ?_|refine (hB3 _).use ?_|refine (hRw _).use ?_);(try simp -implicitDefEqProofs only[go_sem,hr]))|(with_reducible refine hK _ _ ?_;clear hK K)|(with_reducible refine splitB_intro (fun h=>?_) (fun h=>?_)<;>(try simp only[go_sem] at h)<;>(try exact g_f)<;>(try simp -implicitDefEqProofs only[go_sem,hr]))|fail))
  exact DeepQ_of rfl (.tupL (.cons (.eng _) (.cons (.c _) .nil))) (.tupL (.cons (.aggL (.cons .nil (.cons .nil .nil))) (.cons (.same _) .nil)))
theorem stepOf_restart (n : Net) (e : Eng) (hc : checkN n = 0) (hl : n.links.length ≤ 5864062014634) (he : EngIn n e) (hby : EngB e) (ok : EngOk e) (K1 at' b c : Int) (rts : List Int) (hat : I64 at') (hb : I64 b) (hcc : I64 c) (hrts : rts.length ≤ 17592186044000) (h0 : 0 ≤ at') (h1 : at' < n.nodes) (hr : rowErr n rts = 0) (σ : Store) :
    ACalls Tryz.prog 9 [.agg (netC n), .agg (engC e), .agg (evtC ⟨7, at', b, c, rts⟩)] σ fun r σ' => σ' = σ ∧ r = .tup [.agg (engC (setR e at' (freshR n rts))), intA1 0] := by
  have hn := netIn_of hc
  have n1 := hn.n1
  have n6 := hn.n6
  have hel := he.len
  have hbag := he.bag
  have hB := bet_is 7 1 7 true (by decide)
  have hB2 := bet_is 7 2 5 false (by decide)
  have hB3 := node_is n at' true (by unfold I64; omega) (inR_iff.2 (by omega))
  have hx : I64 (n.alg.size - 1) := by have := hn.alg.s2; have := hn.alg.s24; unfold I64; omega
  have hRw := fun S => rowOf_calls n rts hx (by omega) S
  rw [hr] at hRw
  refine ACalls.deep ?_
  refine ACalls_of_awp Tryz.func9 rfl Tryz.results9 ?_
  simp only [List.length_cons, List.length_nil, Tryz.ntmps9, Nat.reduceAdd, Nat.reduceSub, enterA]
  refine AWP_seq_k fun K hK => ?_
  (refine AWP_region ?_; simp -implicitDefEqProofs only [go_sem])
  refine hK _ _ ?_; clear hK K
  refine AWP_freezeP 3 rfl (by first | rfl | (simp -implicitDefEqProofs only [go_sem]; done) | (simp -implicitDefEqProofs only [go_sem]; rfl)) ?_
  simp only [ss0, List.set_cons_zero]
  refine AWP_freezeP 4 rfl (by first | rfl | (simp -implicitDefEqProofs only [go_sem]; done) | (simp -implicitDefEqProofs only [go_sem]; rfl)) ?_
  simp only [ss1, List.set_cons_zero, List.set_cons_succ]
  refine AWP_freezeP 5 rfl (by first | rfl | (simp -implicitDefEqProofs only [go_sem]; done) | (simp -implicitDefEqProofs only [go_sem]; rfl)) ?_
  simp only [ss1, List.set_cons_zero, List.set_cons_succ]
  (repeat' (first|(refine g_s fun K hK=>?_)|(refine g_b ?_)|(refine g_k ?_;simp only[thenQ,blockQ])|(refine g_c (fun h=>?_) (fun h=>?_)<;>(try simp only[go_sem] at h)<;>(try exact g_f))|((first|refine g_g ?_|refine (hB _).use ?_|refine (hB2 _).use ?_|refine (hB3 _).use ?_|refine (hRw _).use ?_);(try simp -implicitDefEqProofs only[go_sem]))|(with_reducible refine hK _ _ ?_;clear hK K)|(with_reducible refine splitB_intro (fun h=>?_) (fun h=>?_)<;>(try simp only[go_sem] at h)<;>(try exact g_f)<;>(try simp -implicitDefEqProofs only[go_sem]))|fail))
  obtain ⟨ρ, hρ⟩ : ∃ ρ : Store, σ ++ [.dead, .dead, .dead, .cells 2 [[.c (.slice none 0 0), .c (.slice none 0 0)]]] = ρ := ⟨_, rfl⟩
  have hlen : ρ.length = σ.length + 4 := by rw [← hρ]; simp
  have hcL : ∀ X, (ρ ++ X)[σ.length + 3]? = some (.cells 2 [[.c (.slice none 0 0), .c (.slice none 0 0)]]) := fun X => by rw [← hρ]; exact st_app (by simp)
  have hcS : ∀ X o, (ρ ++ X).set (σ.length + 3) o = σ ++ ([.dead, .dead, .dead, o] ++ X) := fun X o => by
    rw [← hρ, List.append_assoc, List.set_append_right _ _ (by omega), Nat.add_sub_cancel_left]
    rfl
  rw [hρ]
  refine (copied_calls n e hn he ok ρ).mono ?_
  rintro r S' ⟨τ, rfl, rb, acc, gv, gi, rfl, hM⟩
  obtain ⟨gb, rfl, rfl, hgb⟩ := hM.bag
  have hir : at' < e.routers.length := by omega
  have hrl := (rowErr_zero.1 hr).1
  obtain ⟨ro, to, q1, q2, q3, q4⟩ := hM.at h0 hir
  have hKe : Keeps σ (ρ ++ τ) := ⟨[.dead, .dead, .dead, .cells 2 [[.c (.slice none 0 0), .c (.slice none 0 0)]]] ++ τ, by rw [← hρ, List.append_assoc]⟩
  have hcL0 : (ρ ++ τ)[σ.length + 3]? = some (.cells 2 [[.c (.slice none 0 0), .c (.slice none 0 0)]]) := hcL τ
  have hlo : ρ.length ≤ (ρ ++ τ).length := by simp
  clear hcL hcS
  obtain ⟨γ, hγ⟩ : ∃ γ, ρ ++ τ = γ := ⟨_, rfl⟩
  rw [hγ] at hM hKe hcL0 hlo ⊢
  have hal : (acc.map cpyV).length = e.routers.length := by rw [List.length_map, hM.len]
  have hcl := (List.getElem?_eq_some_iff.1 hcL0).1
  have hrlt := (List.getElem?_eq_some_iff.1 hM.hrb).1
  have hrlo := hM.lo rb (by simp [cpyO])
  have hrL : ∀ X, (γ ++ X)[rb]? = some (.cells 2 (acc.map cpyV)) := fun X => st_app hM.hrb
  have hrS : ∀ X o, (γ ++ X).set rb o = γ.set rb o ++ X := fun X o => st_setApp hM.hrb
  have hbD : ∀ o o' X, (γ.set rb o' ++ o :: X)[γ.length]? = some o := fun o o' X => by
    rw [List.getElem?_append_right (by simp), List.length_set, Nat.sub_self]
    rfl
  have hcD0 : ∀ o, (γ.set rb o)[σ.length + 3]? = some (.cells 2 [[.c (.slice none 0 0), .c (.slice none 0 0)]]) := fun o => st_set hcL0 (by omega)
  have hcD : ∀ o X, (γ.set rb o ++ X)[σ.length + 3]? = some (.cells 2 [[.c (.slice none 0 0), .c (.slice none 0 0)]]) := fun o X => st_app (hcD0 o)
  have hcE : ∀ o X o', (γ.set rb o ++ X).set (σ.length + 3) o' = (γ.set rb o).set (σ.length + 3) o' ++ X := fun o X o' => st_setApp (hcD0 o)
  have hcF : ∀ o o' X, ((γ.set rb o).set (σ.length + 3) o' ++ X)[σ.length + 3]? = some o' := fun o o' X => st_app (st_self (hcD0 o))
  simp only [cpyV] at q2
  simp -implicitDefEqProofs only [go_sem]
  (repeat' (first|(refine g_s fun K hK=>?_)|((first|refine g_t ?_|refine g_g ?_|refine AWP_drawN tab_mixed (by decide +kernel) ?_);(try simp -implicitDefEqProofs only[go_sem,hrL, hrS, hal, hbD, hcD, hcE, hcF, hrl, q2]))|(with_reducible refine hK _ _ ?_;clear hK K)|(with_reducible refine And.intro ?_ ?_;· exact g_x)|fail))
  obtain ⟨o1, ho1⟩ : ∃ o1 : Ob, o1 = .cells 2 ((acc.map cpyV).set at'.toNat [.own (γ.length + 2) 1 0 rts.length rts.length, .sl (List.replicate n.nodes.toNat [.c (.slice none 0 0)])]) := ⟨_, rfl⟩
  obtain ⟨o2, ho2⟩ : ∃ o2 : Ob, o2 = .cells 2 [[.own rb 2 0 e.routers.length e.routers.length, .own gb 3 0 e.bag.length e.bag.length]] := ⟨_, rfl⟩
  rw [← ho1, ← ho2]
  obtain ⟨T, hT⟩ : Keeps σ ((γ.set rb o1).set (σ.length + 3) o2 ++ [o2, .dead, .cells 1 (rts.map intC)]) := ((hKe.set (by omega)).set (by omega)).app
  have hnd := hM.nd
  rw [cpyO, ← List.append_assoc, List.nodup_cons] at hnd
  have hrows : DeepR ((γ.set rb o1).set (σ.length + 3) o2 ++ [o2, .dead, .cells 1 (rts.map intC)]) (σ.length ≤ ·) (acc.map cpyV) (e.routers.map rtrC) := by
    refine (hM.deepRows (D := (· ∈ acc.map (·.2.1) ++ acc.map (·.2.2))) fun x hx => hx).congr fun x hx => ?_
    have hxl := hM.lo x (by rw [cpyO, ← List.append_assoc]; exact List.mem_cons_of_mem _ (List.mem_append_left _ hx))
    have hxr : rb ≠ x := fun e => hnd.1 (List.mem_append_left _ (e ▸ hx))
    exact ⟨by omega, fun o ho => st_app (st_set (st_set ho hxr) (by omega))⟩
  have hro : (setR e at' (freshR n rts)).routers.map rtrC = (e.routers.map rtrC).set at'.toNat (rtrC (freshR n rts)) := by rw [setR, List.map_set]
  have e8 : (freshR n rts).told.map rowC = List.replicate n.nodes.toNat [.sl []] := by simp [freshR, rowC, intsA]
  have hL2 : ((γ.set rb o1).set (σ.length + 3) o2 ++ [o2, .dead, .cells 1 (rts.map intC)])[γ.length + 2]? = some (.cells 1 (rts.map intC)) := by
    rw [List.getElem?_append_right (by simp), List.length_set, List.length_set, Nat.add_sub_cancel_left]
    rfl
  have hput := hrows.put at'.toNat (a := [.own (γ.length + 2) 1 0 rts.length rts.length, .sl (List.replicate n.nodes.toNat [.c (.slice none 0 0)])]) (c := rtrC (freshR n rts)) (.cons (.ownW (by omega) hL2 (by simp) (.same _)) (.cons (by rw [rowsC, e8]; exact .slR (DeepR.repl (.cons .nil .nil) _)) .nil))
  rw [← hro] at hput
  have hrb9 : ((γ.set rb o1).set (σ.length + 3) o2 ++ [o2, .dead, .cells 1 (rts.map intC)])[rb]? = some (.cells 2 ((acc.map cpyV).set at'.toNat [.own (γ.length + 2) 1 0 rts.length rts.length, .sl (List.replicate n.nodes.toNat [.c (.slice none 0 0)])])) := by
    rw [← ho1]
    exact st_app (st_set (st_self hM.hrb) (by omega))
  have hgb9 : ((γ.set rb o1).set (σ.length + 3) o2 ++ [o2, .dead, .cells 1 (rts.map intC)])[gb]? = some (.cells 3 (e.bag.map mailC)) := by
    refine st_app (st_set (st_set (by rw [← hγ]; exact hgb) ?_) ?_)
    · exact fun e => hnd.1 (by rw [e]; simp)
    · have := hM.lo gb (by simp [cpyO]); omega
  have hgl := hM.lo gb (by simp [cpyO])
  show DeepQ σ (.tup [.agg (engC (setR e at' (freshR n rts))), intA1 0]) _ _
  exact DeepQ_of hT (.tupL (.cons (.eng _) (.cons (.c _) .nil))) (.tupL (.cons (.aggL (.cons (.ownW (by omega) hrb9 (by rw [List.length_set]; exact hal.symm) hput) (.cons (.ownW (by omega) hgb9 (by simp) (.same _)) .nil))) (.cons (.same _) .nil)))
end Go.Proofs.YtephecognbbaoabGreat
namespace Go.Proofs.YtephecognbbaoabGreat
theorem Keeps.kill {ρ : Store} : ∀ {S : Store} (ids : List Nat), Keeps ρ S → (∀ x ∈ ids, ρ.length ≤ x) → Keeps ρ (killL ids S)
  | _, [], h, _ => h
  | _, i :: r, h, hi => Keeps.kill r (h.set (hi i (by simp))) fun x hx => hi x (by simp [hx])
theorem killL_ne {S : Store} {ids : List Nat} {x : Nat} (h : x ∉ ids) : (killL ids S)[x]? = S[x]? := by
  rw [killL_get, if_neg fun hc => h hc.1]
/-- A copy is handed to looked, which copies it again. -/
theorem looked_own (n : Net) (e : Eng) (hc : checkN n = 0) (hl : n.links.length ≤ 5864062014634) (he : EngIn n e) (ok : EngOk e) (i : Int) (h0 : 0 ≤ i) (h1 : i < n.nodes) (S ρ : Store) (lo rb : Nat) (acc : List (Rtr × Nat × Nat)) (gv : AV) (gi : List Nat) (O : List Nat)
    (hM : CpyE S lo e rb acc gv gi) (hO : cpyO rb acc gi = O) (hK : Keeps ρ S) (hlo : ρ.length ≤ lo) :
    ACalls Tryz.prog 28 [.agg (netC n), .agg [.own rb 2 0 e.routers.length e.routers.length, gv], intA1 i] S fun r S' => ∃ T, S' = ρ ++ T ∧ ∃ rb acc gv gi, r = .agg [.own rb 2 0 e.routers.length e.routers.length, gv] ∧ CpyE (ρ ++ T) S.length (lookedE n e i) rb acc gv gi ∧ ∀ x, x ∉ O → x < S.length → S'[x]? = S[x]? := by
  subst hO
  refine ACalls.useD (cpyO rb acc gi) _ (StDeep.kill _ S) (.cons (.same _) (.cons (.aggL (hM.deepI fun x hx => hx)) (.cons (.same _) .nil))) ?_
  refine (looked_calls n e hc hl he ok i h0 h1 _).mono ?_
  rintro r S' ⟨τ, rfl, rb', acc', gv', gi', rfl, hM'⟩
  obtain ⟨T, hT⟩ := (hK.kill (cpyO rb acc gi) fun x hx => Nat.le_trans hlo (hM.lo x hx)).app (τ := τ)
  refine ⟨T, hT, rb', acc', gv', gi', rfl, ?_, fun x hx hx2 => ?_⟩
  · rw [← hT]
    rw [killL_length] at hM'
    exact hM'
  · rw [List.getElem?_append_left (by rw [killL_length]; exact hx2), killL_ne hx]
theorem stepOf_expire (n : Net) (e : Eng) (hc : checkN n = 0) (hl : n.links.length ≤ 5864062014634) (he : EngIn n e) (hby : EngB e) (ok : EngOk e) (K1 at' b c : Int) (rts : List Int) (hat : I64 at') (hb : I64 b) (hcc : I64 c) (hrts : rts.length ≤ 17592186044000) (h0 : 0 ≤ at') (h1 : at' < n.nodes) (b0 : 0 ≤ b) (b1 : b < n.nodes) (σ : Store) :
    ACalls Tryz.prog 9 [.agg (netC n), .agg (engC e), .agg (evtC ⟨6, at', b, c, rts⟩)] σ fun r σ' => σ' = σ ∧ r = .tup [.agg (engC (lookedE n (setR e at' (toldR (at0 e.routers at') b [])) at')), intA1 0] := by
  have hn := netIn_of hc
  have n1 := hn.n1
  have n6 := hn.n6
  have hel := he.len
  have hbag := he.bag
  have hB := bet_is 6 1 7 true (by decide)
  have hB2 := bet_is 6 2 5 false (by decide)
  have hB3 := node_is n at' true (by unfold I64; omega) (inR_iff.2 (by omega))
  have hB4 := node_is n b true (by unfold I64; omega) (inR_iff.2 (by omega))
  refine ACalls.deep ?_
  refine ACalls_of_awp Tryz.func9 rfl Tryz.results9 ?_
  simp only [List.length_cons, List.length_nil, Tryz.ntmps9, Nat.reduceAdd, Nat.reduceSub, enterA]
  refine AWP_seq_k fun K hK => ?_
  (refine AWP_region ?_; simp -implicitDefEqProofs only [go_sem])
  refine hK _ _ ?_; clear hK K
  refine AWP_freezeP 3 rfl (by first | rfl | (simp -implicitDefEqProofs only [go_sem]; done) | (simp -implicitDefEqProofs only [go_sem]; rfl)) ?_
  simp only [ss0, List.set_cons_zero]
  refine AWP_freezeP 4 rfl (by first | rfl | (simp -implicitDefEqProofs only [go_sem]; done) | (simp -implicitDefEqProofs only [go_sem]; rfl)) ?_
  simp only [ss1, List.set_cons_zero, List.set_cons_succ]
  refine AWP_freezeP 5 rfl (by first | rfl | (simp -implicitDefEqProofs only [go_sem]; done) | (simp -implicitDefEqProofs only [go_sem]; rfl)) ?_
  simp only [ss1, List.set_cons_zero, List.set_cons_succ]
  (repeat' (first|(refine g_s fun K hK=>?_)|(refine g_b ?_)|(refine g_k ?_;simp only[thenQ,blockQ])|(refine g_c (fun h=>?_) (fun h=>?_)<;>(try simp only[go_sem] at h)<;>(try exact g_f))|((first|refine g_g ?_|refine (hB _).use ?_|refine (hB2 _).use ?_|refine (hB3 _).use ?_|refine (hB4 _).use ?_);(try simp -implicitDefEqProofs only[go_sem]))|(with_reducible refine hK _ _ ?_;clear hK K)|(with_reducible refine splitB_intro (fun h=>?_) (fun h=>?_)<;>(try simp only[go_sem] at h)<;>(try exact g_f)<;>(try simp -implicitDefEqProofs only[go_sem]))|fail))
  obtain ⟨ρ, hρ⟩ : ∃ ρ : Store, σ ++ [.dead, .dead, .dead, .cells 2 [[.c (.slice none 0 0), .c (.slice none 0 0)]]] = ρ := ⟨_, rfl⟩
  have hlen : ρ.length = σ.length + 4 := by rw [← hρ]; simp
  have hcL : ∀ X, (ρ ++ X)[σ.length + 3]? = some (.cells 2 [[.c (.slice none 0 0), .c (.slice none 0 0)]]) := fun X => by rw [← hρ]; exact st_app (by simp)
  have hcS : ∀ X o, (ρ ++ X).set (σ.length + 3) o = σ ++ ([.dead, .dead, .dead, o] ++ X) := fun X o => by
    rw [← hρ, List.append_assoc, List.set_append_right _ _ (by omega), Nat.add_sub_cancel_left]
    rfl
  rw [hρ]
  refine (copied_calls n e hn he ok ρ).mono ?_
  rintro r S' ⟨τ, rfl, rb, acc, gv, gi, rfl, hM⟩
  obtain ⟨gb, rfl, rfl, hgb⟩ := hM.bag
  have hir : at' < e.routers.length := by omega
  obtain ⟨ro, to, q1, q2, q3, q4⟩ := hM.at h0 hir
  obtain ⟨R, hRe⟩ : ∃ R, at0 e.routers at' = R := ⟨_, rfl⟩
  have hR := rtr_at he ⟨h0, h1⟩
  rw [hRe] at q1 q2 q3 q4 hR
  rw [hRe]
  have htl := hR.tl
  have hKe : Keeps ρ (ρ ++ τ) := ⟨τ, rfl⟩
  obtain ⟨γ, hγ⟩ : ∃ γ, ρ ++ τ = γ := ⟨_, rfl⟩
  rw [hγ] at hM q3 q4 hKe hgb ⊢
  simp only [cpyV] at q2
  have hal : (acc.map cpyV).length = e.routers.length := by rw [List.length_map, hM.len]
  have hrL : ∀ X, (γ ++ X)[rb]? = some (.cells 2 (acc.map cpyV)) := fun X => st_app hM.hrb
  have htL : ∀ X, (γ ++ X)[to]? = some (.cells 1 (R.told.map rowC)) := fun X => st_app q4
  have htS : ∀ X o, (γ ++ X).set to o = γ.set to o ++ X := fun X o => st_setApp q4
  have htlt := (List.getElem?_eq_some_iff.1 q4).1
  have hgr := get_mapG rowC R.told b0 (by omega : b < R.told.length)
  have hbD : ∀ o o' X, (γ.set to o' ++ o :: X)[γ.length]? = some o := fun o o' X => by
    rw [List.getElem?_append_right (by simp), List.length_set, Nat.sub_self]
    rfl
  simp -implicitDefEqProofs only [go_sem]
  (repeat' (first|(refine g_s fun K hK=>?_)|((first|refine g_g ?_|refine g_U ?_);(try simp -implicitDefEqProofs only[go_sem,hrL, q2, hal, htL, htS, hgr, hbD]))|(with_reducible refine hK _ _ ?_;clear hK K)|(with_reducible refine And.intro ?_ ?_;· exact g_x)|fail))
  have hst : (γ.set to (.cells 1 ((R.told.map rowC).set b.toNat [.c (.slice none 0 0)])) ++ [Ob.cells 2 [[.own rb 2 0 e.routers.length e.routers.length, .own gb 3 0 e.bag.length e.bag.length]]])[to]? = some (.cells 1 ((R.told.map rowC).set b.toNat [.c (.slice none 0 0)])) := st_app (st_self q4)
  refine ACalls.useD [] _ ((StDeep.kill [] _).cell (b := to) (k := 1) (es' := (R.told.map rowC).set b.toNat [.sl []]) (by simp) hst (DeepR.setL _ _ (.cons .nil .nil))) (DeepL.same _) ?_
  have hkl : (killL [] (γ.set to (.cells 1 ((R.told.map rowC).set b.toNat [.c (.slice none 0 0)])) ++ [Ob.cells 2 [[.own rb 2 0 e.routers.length e.routers.length, .own gb 3 0 e.bag.length e.bag.length]]])).set to (.cells 1 ((R.told.map rowC).set b.toNat [.sl []])) = γ.set to (.cells 1 ((R.told.set b.toNat []).map rowC)) ++ [Ob.cells 2 [[.own rb 2 0 e.routers.length e.routers.length, .own gb 3 0 e.bag.length e.bag.length]]] := by
    have e1 := set_rowC R.told b.toNat []
    rw [List.map_nil] at e1
    rw [e1]
    show (γ.set to _ ++ [Ob.cells 2 _]).set to _ = _
    rw [st_setApp (st_self q4), List.set_set]
  rw [hkl]
  have hin2 : EngIn n (setR e at' (toldR R b [])) := setR_in he (toldR_in hR (.inl rfl) _) _
  have hby2 : EngB (setR e at' (toldR R b [])) := hby
  have hM2 := hM.told h0 (by rw [hRe]; exact q1) (R.told.set b.toNat []) (by rw [hRe]; simp)
  rw [hRe] at hM2
  have hto := hM.lo to (List.mem_cons_of_mem _ (List.mem_append_right _ (List.mem_append_left _ (List.mem_map.2 ⟨(R, ro, to), List.mem_of_getElem? q1, rfl⟩))))
  have hel2 : (setR e at' (toldR R b [])).routers.length = e.routers.length := by simp [setR]
  have hlk := looked_own n _ hc hl hin2 (engOk_of hn hin2 hby2) at' h0 h1 _ ρ ρ.length rb _ _ _ _ (hM2.app (τ := [Ob.cells 2 [[.own rb 2 0 e.routers.length e.routers.length, .own gb 3 0 e.bag.length e.bag.length]]])) rfl ((hKe.set hto).app) (Nat.le_refl _)
  rw [hel2] at hlk
  refine hlk.mono ?_
  rintro r S' ⟨T, rfl, rb', acc', gv', gi', rfl, hM', hS'⟩
  obtain ⟨gb', rfl, rfl, hgb'⟩ := hM'.bag
  simp -implicitDefEqProofs only [go_sem, hcL, hcS]
  (repeat' (first|(refine g_t ?_;(try simp -implicitDefEqProofs only[go_sem,hcL, hcS]))|(with_reducible refine hK _ _ ?_;clear hK K)|fail))
  have hf := (hM'.setLo (x := σ.length + 3) (o := .cells 2 [[.own rb' 2 0 e.routers.length e.routers.length, .own gb' 3 0 (lookedE n (setR e at' (toldR R b [])) at').bag.length (lookedE n (setR e at' (toldR R b [])) at').bag.length]]) (by
    have := congrArg List.length hγ
    simp at this ⊢
    omega)).deep (D := (σ.length ≤ ·)) fun x hx => by
      have := congrArg List.length hγ
      simp at this hx
      omega
  rw [hcS] at hf
  have hel3 : (lookedE n (setR e at' (toldR R b [])) at').routers.length = e.routers.length := by simp [lookedE, setR]
  rw [hel3] at hf
  subst hRe
  exact DeepQ_of rfl (.tupL (.cons (.eng _) (.cons (.c _) .nil))) (.tupL (.cons (.aggL hf) (.cons (.same _) .nil)))
end Go.Proofs.YtephecognbbaoabGreat
