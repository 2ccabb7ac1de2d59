/- A machine over an engine of its own: how it lies in memory; how it is made. -/
import Derived.Test.YtephecognbbaoabGreatZCo
import Derived.Test.YtephecognbbaoabGreatZGr
import Derived.Test.YtephecognbbaoabGreatZEq
import Derived.Test.YtephecognbbaoabGreatZNt
open Go
set_option linter.all false
set_option maxRecDepth 100000
set_option maxHeartbeats 4000000
namespace Go.Proofs.YtephecognbbaoabGreat
open Go
set_option linter.all false
set_option maxRecDepth 100000
set_option maxHeartbeats 4000000
theorem ownW_calls (x : List (List Int)) (ok : StOk x) (hne : x ≠ []) (σ : Store) : ACalls Tryz.prog 38 [rowsC x] σ fun r σ' => σ' = σ ++ [.cells 1 (x.map rowC)] ∧ r = .own σ.length 1 0 x.length x.length := by
  have hlen := ok.len
  refine ACalls.cutO (fun i hi j hj => ?_) ?_
  · simp only [List.getElem_map, rowC, List.length_cons, List.length_nil] at hj ⊢
    obtain rfl : j = 0 := by omega
    exact Bd.ints _
  refine ACalls_of_awp Tryz.func38 rfl Tryz.results38 ?_
  simp only [List.length_cons, List.length_nil, Tryz.ntmps38, Nat.reduceAdd, Nat.reduceSub, enterA]
  (repeat' (first|(refine g_s fun K hK=>?_)|(refine g_b ?_)|(refine g_G ?_;(try simp -implicitDefEqProofs only[go_sem]))|(with_reducible refine hK _ _ ?_;clear hK K)|fail))
  refine AWP_pad ?_
  have hJ := hK
  clear hK
  refine AWP_each x (fun k r acc => acc ++ r = x) (fun k acc τ => [(8, intA1 k), (3, accV 1 (σ.length + τ.length) acc)]) (fun _ acc τ => σ ++ (τ ++ [accO rowC 1 acc])) [] [] rfl ?_ (ALe_of ?_) ?_ ?_
  · simp [accO]
  · simp -implicitDefEqProofs only [go_sem, accV, accO]
  · rintro k r acc τ hk0 hk1 h3 L hL
    have hmem := at0_mem x hk0 hk1
    obtain ⟨w, hw⟩ : ∃ w, at0 x k = w := ⟨_, rfl⟩
    rw [hw] at h3 hmem
    have hwl := ok.row w hmem
    have hal : acc.length + 1 ≤ x.length := by rw [← h3]; simp
    rcases acc with _ | ⟨y, acc⟩ <;> simp only [List.length_cons, List.length_nil] at hal <;> simp -implicitDefEqProofs only [go_sem, accV, accO]
    all_goals (repeat' (first|(refine g_s fun K hK=>?_)|(refine g_b ?_)|(refine g_k ?_;simp only[thenQ,blockQ])|(refine g_c (fun h=>?_) (fun h=>?_)<;>(try simp only[go_sem] at h)<;>(try exact g_f))|((first|refine g_G ?_|refine (clone_calls w hwl _).use ?_);(try simp -implicitDefEqProofs only[go_sem,hw]))|(with_reducible refine hK _ _ ?_;clear hK K)|(with_reducible refine And.intro ?_ ?_;· exact g_x)|fail))
    · refine hL [w] (τ ++ [.dead]) _ _ (by simpa using h3) (ALe_of ?_) ?_
      · simp -implicitDefEqProofs only [go_sem, accV]
      · simp [accO, rowC, intsA]
    · refine hL (y :: acc ++ [w]) (τ ++ [.dead]) _ _ (by simpa using h3) (ALe_of ?_) ?_
      · simp -implicitDefEqProofs only [go_sem, accV]
      · simp [accO, rowC, intsA]
  · rintro k acc τ hk h3 L
    rw [List.append_nil] at h3
    rcases acc with _ | ⟨y, acc⟩
    · exact absurd h3.symm hne
    simp -implicitDefEqProofs only [go_sem, accV, accO]
    (repeat' (first|(refine g_s fun K hK=>?_)|(refine g_e ?_;simp only[thenQ,blockQ,↓reduceIte,Nat.reduceEqDiff])|(refine g_c (fun h=>?_) (fun h=>?_)<;>(try simp only[go_sem] at h)<;>(try exact g_f))|(refine g_g ?_;(try simp -implicitDefEqProofs only[go_sem]))|(with_reducible refine hK _ _ ?_;clear hK K)|fail))
    refine hJ _ _ ?_
    clear hJ
    (repeat' (first|(refine g_s fun K hK=>?_)|((first|refine g_t ?_|refine g_g ?_);(try simp -implicitDefEqProofs only[go_sem]))|(with_reducible refine hK _ _ ?_;clear hK K)|fail))
    subst h3
    refine ⟨σ.length + τ.length, τ ++ [.cells 1 ((y :: acc).map rowC)], by simp, by omega, ?_, by simp⟩
    rw [List.getElem?_append_right (by omega), List.getElem?_append_right (by omega)]
    simp
theorem cloneM_calls (bag : List Mail) (hl : bag.length ≤ 120) (σ : Store) : ACalls Tryz.prog 39 [.sl (bag.map mailC)] σ fun r σ' => (bag = [] ∧ σ' = σ ∧ r = .c (.slice none 0 0)) ∨ (σ' = σ ++ [.dead, .cells 3 (bag.map mailC)] ∧ r = .own (σ.length + 1) 3 0 bag.length bag.length) := by
  refine ACalls_of_awp Tryz.func39 rfl Tryz.results39 ?_
  simp only [List.length_cons, List.length_nil, Tryz.ntmps39, Nat.reduceAdd, Nat.reduceSub, enterA]
  (repeat' (first|(refine g_s fun K hK=>?_)|(refine g_g ?_;(try simp -implicitDefEqProofs only[go_sem]))|(with_reducible refine hK _ _ ?_;clear hK K)|fail))
  refine ⟨fun h => ?_, ?_⟩
  · have e : bag = [] := List.eq_nil_of_length_eq_zero h
    subst e
    refine hK _ _ ?_; clear hK K
    (repeat' (first|(refine g_s fun K hK=>?_)|(refine g_c (fun h=>?_) (fun h=>?_)<;>(try simp only[go_sem] at h)<;>(try exact g_f))|((first|refine g_t ?_|refine g_g ?_);(try simp -implicitDefEqProofs only[go_sem]))|(with_reducible refine hK _ _ ?_;clear hK K)|fail))
  · refine hK _ _ ?_; clear hK K
    (repeat' (first|(refine g_s fun K hK=>?_)|(refine g_k ?_;simp only[thenQ,blockQ])|(refine g_c (fun h=>?_) (fun h=>?_)<;>(try simp only[go_sem] at h)<;>(try exact g_f))|((first|refine g_t ?_|refine g_g ?_);(try simp -implicitDefEqProofs only[go_sem]))|(with_reducible refine hK _ _ ?_;clear hK K)|(with_reducible refine And.intro ?_ ?_;· exact g_x)|fail))
def rtrV (r : Rtr) (t : Nat) : List AV := [intsA r.routes, .own t 1 0 r.told.length r.told.length]
def BagAt (S : Store) (gv : AV) (bag : List Mail) (gi : List Nat) : Prop :=
  (bag = [] ∧ gi = [] ∧ gv = .c (.slice none 0 0)) ∨
  ∃ gb rest, gi = [gb] ∧ gv = .own gb 3 0 bag.length (bag.length + rest.length) ∧ S[gb]? = some (.cells 3 (bag.map mailC ++ rest)) ∧ (∀ e ∈ rest, e.length = 3 ∧ e.all oneA = true) ∧ bag.length + rest.length ≤ 120
structure MachW (S : Store) (lo b : Nat) (n : Net) (e : Eng) (rb : Nat) (tb : List Nat) (gv : AV) (gi : List Nat) : Prop where
  hb : S[b]? = some (.cells 7 [netC n ++ [.own rb 2 0 e.routers.length e.routers.length, gv]])
  hrb : S[rb]? = some (.cells 2 (List.zipWith rtrV e.routers tb))
  tl : tb.length = e.routers.length
  ht : ∀ i (h : i < tb.length) (h2 : i < e.routers.length), S[tb[i]]? = some (.cells 1 (e.routers[i].told.map rowC))
  bag : BagAt S gv e.bag gi
  nd : (b :: rb :: (tb ++ gi)).Nodup
  lo : ∀ i ∈ b :: rb :: (tb ++ gi), lo ≤ i
def Mach (S : Store) (lo b : Nat) (n : Net) (e : Eng) : Prop := ∃ rb tb gv gi, MachW S lo b n e rb tb gv gi
theorem mach_made (n : Net) (e : Eng) (ρ T τ : Store) (acc : List (Rtr × Nat)) (gv : AV) (gi : List Nat) (lo : Nat) (hlo : lo ≤ ρ.length) (h3 : acc.map (·.1) = e.routers) (h4 : ∀ p ∈ acc, ρ.length + 1 ≤ p.2 ∧ ((ρ ++ [.dead]) ++ T)[p.2]? = some (.cells 1 (p.1.told.map rowC))) (h5 : (acc.map (·.2)).Nodup)
    (hbag : BagAt (ρ ++ (.cells 7 [netC n ++ [.own (ρ.length + (T.length + 1)) 2 0 acc.length acc.length, gv]] :: (T ++ (.cells 2 (acc.map fun p => rtrV p.1 p.2) :: τ)))) gv e.bag gi) (hgi : ∀ i ∈ gi, ρ.length + (T.length + 2) ≤ i) (hg1 : gi.Nodup) :
    Mach (ρ ++ (.cells 7 [netC n ++ [.own (ρ.length + (T.length + 1)) 2 0 acc.length acc.length, gv]] :: (T ++ (.cells 2 (acc.map fun p => rtrV p.1 p.2) :: τ)))) lo ρ.length n e := by
  have hel : e.routers.length = acc.length := by rw [← h3, List.length_map]
  have hpl : ∀ p ∈ acc, ρ.length + 1 ≤ p.2 ∧ p.2 < ρ.length + 1 + T.length := fun p hp => ⟨(h4 p hp).1, by have := (List.getElem?_eq_some_iff.1 (h4 p hp).2).1; simp at this; omega⟩
  refine ⟨ρ.length + (T.length + 1), acc.map (·.2), gv, gi, ⟨?_, ?_, ?_, ?_, hbag, ?_, ?_⟩⟩
  · rw [hel]
    simp
  · rw [← h3, List.zipWith_map, List.zipWith_self]
    rw [List.getElem?_append_right (by omega), Nat.add_sub_cancel_left, List.getElem?_cons_succ, List.getElem?_append_right (by omega), Nat.sub_self]
    rfl
  · rw [List.length_map, hel]
  · intro i h h2
    have hi : i < acc.length := by simpa using h
    have h6 := h4 acc[i] (List.getElem_mem hi)
    have h7 := hpl acc[i] (List.getElem_mem hi)
    have er : e.routers[i] = acc[i].1 := by
      have : e.routers[i]? = some acc[i].1 := by rw [← h3]; simp [hi]
      exact (List.getElem?_eq_some_iff.1 this).2
    rw [er, List.getElem_map]
    rw [← h6.2]
    have e1 : (acc[i].2) = ρ.length + (acc[i].2 - ρ.length - 1 + 1) := by omega
    obtain ⟨q, hq⟩ : ∃ q, acc[i].2 = ρ.length + (q + 1) := ⟨acc[i].2 - ρ.length - 1, by omega⟩
    rw [hq, List.getElem?_append_right (by omega), Nat.add_sub_cancel_left, List.getElem?_cons_succ, List.getElem?_append_left (by omega), List.append_assoc, List.getElem?_append_right (by omega), Nat.add_sub_cancel_left, List.singleton_append, List.getElem?_cons_succ]
  · rw [List.nodup_cons, List.nodup_cons, List.nodup_append]
    refine ⟨?_, ?_, h5, hg1, ?_⟩
    · simp only [List.mem_cons, List.mem_append, List.mem_map, not_or]
      refine ⟨by omega, ?_, fun h => ?_⟩
      · rintro ⟨p, hp, h⟩
        have := hpl p hp
        omega
      · have := hgi _ h
        omega
    · simp only [List.mem_append, List.mem_map, not_or]
      refine ⟨?_, fun h => ?_⟩
      · rintro ⟨p, hp, h⟩
        have := hpl p hp
        omega
      · have := hgi _ h
        omega
    · intro x hx y hy hxy
      obtain ⟨p, hp, rfl⟩ := List.mem_map.1 hx
      have := hpl p hp
      have := hgi _ hy
      omega
  · intro i hi
    simp only [List.mem_cons, List.mem_append, List.mem_map] at hi
    rcases hi with rfl | rfl | ⟨p, hp, rfl⟩ | h
    · omega
    · omega
    · have := hpl p hp
      omega
    · have := hgi _ h
      omega
theorem eown_calls (n : Net) (e : Eng) (hn : NetIn n) (he : EngIn n e) (ok : EngOk e) (σ : Store) : ACalls Tryz.prog 13 [.agg (netC n), .agg (engC e)] σ fun r σ' => ∃ τ, σ' = σ ++ τ ∧ ∃ b, r = .ptr b 7 0 0 ∧ Mach (σ ++ τ) σ.length b n e := by
  have n1 := hn.n1
  have n6 := hn.n6
  have hel := he.len
  refine ACalls_of_awp Tryz.func13 rfl Tryz.results13 ?_
  simp only [List.length_cons, List.length_nil, Tryz.ntmps13, Nat.reduceAdd, Nat.reduceSub, enterA]
  refine AWP_seq_k fun K hK => ?_
  (refine AWP_region ?_; simp -implicitDefEqProofs only [go_sem])
  refine hK _ _ ?_; clear hK K
  refine AWP_freezeP 2 rfl (by simp only [st0]; rfl) ?_
  simp only [ss0, List.set_cons_zero]
  refine AWP_freezeP 3 rfl (by simp only [st1]; rfl) ?_
  simp only [ss1, List.set_cons_zero, List.set_cons_succ]
  (repeat' (first|(refine g_s fun K hK=>?_)|(refine g_b ?_)|(refine g_g ?_;(try simp -implicitDefEqProofs only[go_sem]))|(with_reducible refine hK _ _ ?_;clear hK K)|fail))
  refine AWP_pad ?_
  have hJ := hK
  clear hK
  obtain ⟨ρ, hρ⟩ : ∃ ρ : Store, σ ++ [.dead, .dead] = ρ := ⟨_, rfl⟩
  have hlen : σ.length + 2 = ρ.length := by rw [← hρ]; simp
  refine AWP_each e.routers (fun k r (s : List (Rtr × Nat) × Store) => s.1.map (·.1) ++ r = e.routers ∧ (∀ p ∈ s.1, ρ.length + 1 ≤ p.2 ∧ ((ρ ++ [.dead]) ++ s.2)[p.2]? = some (.cells 1 (p.1.told.map rowC))) ∧ (s.1.map (·.2)).Nodup)
    (fun k s _ => [(14, intA1 k), (5, .ptr ρ.length 7 0 0)]) (fun _ s _ => ρ ++ (.cells 7 [netC n ++ [accV 2 (ρ.length + (s.2.length + 1)) s.1, .c (.slice none 0 0)]] :: (s.2 ++ [accO (fun p => rtrV p.1 p.2) 2 s.1]))) ([], []) [] ⟨rfl, fun p hp => (by cases hp), List.nodup_nil⟩ ?_ (ALe_of ?_) ?_ ?_
  · rw [← hρ]
    simp [accV, accO, netC, intA1, rowsC, linksV]
  · simp -implicitDefEqProofs only [go_sem, hlen]
  · rintro k r ⟨acc, T⟩ τ9 hk0 hk1 ⟨h3, h4, h5⟩ L hL
    obtain ⟨w, hw⟩ : ∃ w, at0 e.routers k = w := ⟨_, rfl⟩
    have hwm := at0_mem e.routers hk0 hk1
    rw [hw] at h3 hwm
    have hwi := he.rtr w hwm
    have hwo := ok.rtr w hwm
    have hrl := hwi.rl
    have htl := hwi.tl
    have htne : w.told ≠ [] := fun e => by rw [e] at htl; simp at htl; omega
    have hcl := fun S => clone_calls w.routes (by omega) S
    have hst : StOk w.told := ⟨by omega, fun l hl => hwo.tr l hl⟩
    have how := fun S => ownW_calls w.told hst htne S
    have hal : acc.length + 1 ≤ 6 := by have := congrArg List.length h3; simp at this; omega
    rcases acc with _ | ⟨p0, acc⟩
    · simp -implicitDefEqProofs only [go_sem, accV, accO]
      (repeat' (first|(refine g_s fun K hK=>?_)|(refine g_b ?_)|(refine g_k ?_;simp only[thenQ,blockQ])|(refine g_c (fun h=>?_) (fun h=>?_)<;>(try simp only[go_sem] at h)<;>(try exact g_f))|((first|refine g_G ?_|refine AWP_drawC (ρ ++ (.cells 7 [[.c (.int .i64 n.alg.size), .sl (n.alg.best.map rowC), .sl (n.alg.edges.map rowC), .c (.int .i64 n.nodes), .sl (n.links.map lnkC), .c (.slice none 0 0), .c (.slice none 0 0)]] :: (T ++ [.dead, .cells 2 [[.sl (w.routes.map intC), .sl (w.told.map rowC)]]]))) ⟨_, by simp; rfl⟩ tab_mixed (by decide +kernel) ?_|refine callS_use (hcl _) ?_|refine callS_useO (how _) ?_);(try simp -implicitDefEqProofs only[go_sem,hw]))|(with_reducible refine hK _ _ ?_;clear hK K)|(with_reducible refine And.intro ?_ ?_;· exact g_x)|fail))
      refine hL ([(w, ρ.length + (T.length + 3))], T ++ [.dead, .cells 2 [rtrC w], .cells 1 (w.told.map rowC)]) [] _ _ ⟨by simpa using h3, ?_, by simp⟩ (ALe_of ?_) ?_
      · intro p hp
        rcases List.mem_singleton.1 hp with rfl
        refine ⟨by simp only; omega, ?_⟩
        simp -implicitDefEqProofs only [go_sem]
      · simp -implicitDefEqProofs only [go_sem, hlen]
      · simp [accO, accV, rtrV, rtrC, intsA, rowsC, netC, intA1, linksV]
    · simp only [List.length_cons] at hal
      simp -implicitDefEqProofs only [go_sem, accV, accO]
      (repeat' (first|(refine g_s fun K hK=>?_)|(refine g_b ?_)|(refine g_k ?_;simp only[thenQ,blockQ])|(refine g_c (fun h=>?_) (fun h=>?_)<;>(try simp only[go_sem] at h)<;>(try exact g_f))|(refine g_G ?_;(try simp -implicitDefEqProofs only[go_sem,hw]))|(with_reducible refine hK _ _ ?_;clear hK K)|(with_reducible refine And.intro ?_ ?_;· exact g_x)|fail))
      refine AWP_moveC ρ.length 0 5 (b := ρ.length + (T.length + 1)) (by omega) (by first | rfl | (simp -implicitDefEqProofs only [go_sem]; done) | (simp -implicitDefEqProofs only [go_sem]; rfl)) rfl rfl (by first | rfl | (simp -implicitDefEqProofs only [go_sem]; done) | (simp -implicitDefEqProofs only [go_sem]; rfl)) ?_
      simp -implicitDefEqProofs only [go_sem]
      (repeat' (first|((first|refine g_G ?_|refine AWP_drawC (ρ ++ (.cells 7 [[.c (.int .i64 n.alg.size), .sl (n.alg.best.map rowC), .sl (n.alg.edges.map rowC), .c (.int .i64 n.nodes), .sl (n.links.map lnkC), .own (ρ.length + (T.length + 3)) 2 0 (acc.length + 1) (acc.length + 1), .c (.slice none 0 0)]] :: (T ++ [.dead, .cells 2 [[.sl (w.routes.map intC), .sl (w.told.map rowC)]]]))) ⟨_, by simp; rfl⟩ tab_mixed (by decide +kernel) ?_|refine callS_use (hcl _) ?_|refine callS_useO (how _) ?_);(try simp -implicitDefEqProofs only[go_sem,hw]))|(with_reducible refine hK _ _ ?_;clear hK K)|(with_reducible refine And.intro ?_ ?_;· exact g_x)|fail))
      refine hL (p0 :: (acc ++ [(w, ρ.length + (T.length + 4))]), T ++ [.dead, .cells 2 [rtrC w], .dead, .cells 1 (w.told.map rowC)]) [] _ _ ⟨by simpa using h3, ?_, ?_⟩ (ALe_of ?_) ?_
      · intro p hp
        rw [← List.cons_append] at hp
        rcases List.mem_append.1 hp with hp | hp
        · obtain ⟨h6, h7⟩ := h4 p hp
          refine ⟨h6, ?_⟩
          rw [← List.append_assoc, List.getElem?_append_left (List.getElem?_eq_some_iff.1 h7).1]
          exact h7
        · rcases List.mem_singleton.1 hp with rfl
          refine ⟨by simp only; omega, ?_⟩
          simp -implicitDefEqProofs only [go_sem]
      · rw [← List.cons_append, List.map_append, List.nodup_append]
        refine ⟨h5, by simp, ?_⟩
        intro x hx y hy hxy
        obtain ⟨p, hp, rfl⟩ := List.mem_map.1 hx
        rcases List.mem_singleton.1 hy with rfl
        have h7 := (List.getElem?_eq_some_iff.1 (h4 p hp).2).1
        simp at h7
        simp only at hxy
        omega
      · simp -implicitDefEqProofs only [go_sem, hlen]
      · simp [accO, accV, rtrV, rtrC, intsA, rowsC, netC, intA1, linksV]
  · rintro k ⟨acc, T⟩ τ9 hk ⟨h3, h4, h5⟩ L
    have hacc : 1 ≤ acc.length := by have := congrArg List.length h3; simp at this; omega
    obtain ⟨p0, acc, rfl⟩ : ∃ p l, acc = p :: l := by cases acc with | nil => cases hacc | cons p l => exact ⟨p, l, rfl⟩
    simp -implicitDefEqProofs only [go_sem, accV, accO]
    (repeat' (first|(refine g_s fun K hK=>?_)|(refine g_e ?_;simp only[thenQ,blockQ,↓reduceIte,Nat.reduceEqDiff])|(refine g_c (fun h=>?_) (fun h=>?_)<;>(try simp only[go_sem] at h)<;>(try exact g_f))|(refine g_g ?_;(try simp -implicitDefEqProofs only[go_sem]))|(with_reducible refine hK _ _ ?_;clear hK K)|fail))
    refine hJ _ _ ?_
    clear hJ
    (repeat' (first|(refine g_s fun K hK=>?_)|(refine g_g ?_;(try simp -implicitDefEqProofs only[go_sem]))|fail))
    simp only [List.append_nil] at h3
    have ew : (e.routers.length : Int) = acc.length + 1 := by rw [← h3]; simp
    have fin : ∀ S' X, S' = ρ ++ X → Mach S' σ.length ρ.length n e → ∃ τ, S' = σ ++ τ ∧ ∃ b, AV.ptr ρ.length 7 0 0 = .ptr b 7 0 0 ∧ Mach (σ ++ τ) σ.length b n e := by
      rintro _ X rfl hM
      exact ⟨[.dead, .dead] ++ X, by rw [← hρ, List.append_assoc], ρ.length, rfl, by rw [← List.append_assoc, hρ]; exact hM⟩
    refine (cloneM_calls e.bag he.bag _).mono ?_
    rintro r S' (⟨hb, rfl, rfl⟩ | ⟨rfl, rfl⟩)
    · simp -implicitDefEqProofs only [go_sem]
      (repeat' (first|(refine g_s fun K hK=>?_)|((first|refine g_t ?_|refine g_g ?_);(try simp -implicitDefEqProofs only[go_sem]))|(with_reducible refine hK _ _ ?_;clear hK K)|fail))
      exact fin _ _ rfl <| mach_made n e ρ T [] (p0 :: acc) (.c (.slice none 0 0)) [] σ.length (by omega) h3 h4 h5 (.inl ⟨hb, rfl, rfl⟩) (fun i h => by cases h) List.nodup_nil
    · simp -implicitDefEqProofs only [go_sem]
      (repeat' (first|(refine g_s fun K hK=>?_)|((first|refine g_t ?_|refine g_g ?_);(try simp -implicitDefEqProofs only[go_sem]))|(with_reducible refine hK _ _ ?_;clear hK K)|fail))
      have hg : (ρ ++ (.cells 7 [netC n ++ [.own (ρ.length + (T.length + 1)) 2 0 (p0 :: acc).length (p0 :: acc).length, .own (ρ.length + (T.length + 3)) 3 0 e.bag.length e.bag.length]] :: (T ++ (.cells 2 ((p0 :: acc).map fun p => rtrV p.1 p.2) :: [.dead, .cells 3 (e.bag.map mailC)]))))[ρ.length + (T.length + 3)]? = some (.cells 3 (e.bag.map mailC)) := by
        rw [List.getElem?_append_right (by omega), Nat.add_sub_cancel_left, List.getElem?_cons_succ, List.getElem?_append_right (by omega), Nat.add_sub_cancel_left]
        rfl
      exact fin _ _ rfl <| mach_made n e ρ T [.dead, .cells 3 (e.bag.map mailC)] (p0 :: acc) (.own (ρ.length + (T.length + 3)) 3 0 e.bag.length e.bag.length) [ρ.length + (T.length + 3)] σ.length (by omega) h3 h4 h5 (.inr ⟨ρ.length + (T.length + 3), [], rfl, rfl, by rw [List.append_nil]; exact hg, (fun i h => absurd h List.not_mem_nil), (by have := he.bag; simpa using this)⟩) (fun i h => by rw [List.mem_singleton.1 h]; omega) (by simp)
end Go.Proofs.YtephecognbbaoabGreat
namespace Go.Proofs.YtephecognbbaoabGreat
/-- What reads the store comes ahead of all that changes it. -/
def hybB (bs : Bool × Bool) (ops : List Oper) (p : Nat) : Bool :=
  let b := befL ops []
  (List.range p).all fun j => (List.range p).all fun i => match ops[j]?, ops[i]? with
    | some x, some y => loudG bs x.op || pureOp x.op || !loudG bs y.op || (b.getD i 0).testBit j
    | _, _ => true
theorem hyb_spec {bs : Bool × Bool} {ops : List Oper} {p i j : Nat} {x y : Oper} (h : hybB bs ops p = true) (hj : j < p) (hi : i < p) (hx : ops[j]? = some x) (hy : ops[i]? = some y) (h1 : loudG bs x.op = false) (h2 : ¬ pureOp x.op = true) (h3 : loudG bs y.op = true) : Anc ops j i := by
  simp only [hybB, List.all_eq_true, List.mem_range] at h
  have := h j hj i hi
  rw [hx, hy] at this
  simp only [h1, h3, Bool.false_or, Bool.not_true] at this
  have h2' : pureOp x.op = false := by simpa using h2
  rw [h2', Bool.false_or, Bool.false_or] at this
  exact befL_spec ops ops [] (fun j => by simp) (fun j i h => by simp at h) i j this
section
variable {rd : Option Nat} {P : Program} {N : Nat} {K0 : World} {ops : List Oper} {bs : Bool × Bool} {pu : Bool} {σ0 : Store} {α0 : AF}
def stepH (P : Program) (N : Nat) (ops : List Oper) (bs : Bool × Bool) (pu : Bool) (σ0 : Store) (α : AF) (σ : Store) (o : Oper) (b : Bool) (v : AV) (σ' : Store) : Prop :=
  (∀ d, o.dst = some d → d < N) ∧
  ((b = true ∧ ((loudG bs o.op = true ∧ AOp P o.op (evF α) σ (fun v' σ'' => v' = v ∧ σ'' = σ') ∧ Grown pu σ0 σ') ∨ (loudG bs o.op = false ∧ σ' = σ ∧ (pureOp o.op = true → ∀ σ1, AOpQ P o.op (evF α) σ1 v) ∧ AOpQ P o.op (evF α) σ0 v)) ∧ (∀ g want, o.guard = some (g, want) → ∃ d, (ops[g]?).bind (·.dst) = some d ∧ look α d = some (.c (.bool want)))) ∨
   (b = false ∧ v = .c undef ∧ σ' = σ ∧ ∃ g want d, o.guard = some (g, want) ∧ (ops[g]?).bind (·.dst) = some d ∧ (look α d = some (.c (.bool (!want))) ∨ ∃ t, look α d = some (.c (.tuple t)))))
theorem trace_of_gregH {K : AF → Store → Prop} : ∀ (l : List Oper) (k : Nat) (vs0 : Nat → AV) (bs0 : Nat → Bool) (ss0 : Nat → Store) (β : AF), (∀ t, look β t = look (frL ops α0 vs0 k) t) → (∀ j, j < l.length → l[j]? = ops[k + j]?) → greg P N ops bs pu σ0 K l β (ss0 k) →
    ∃ (vs : Nat → AV) (bl : Nat → Bool) (ss : Nat → Store), (∀ j, j < k → vs j = vs0 j ∧ bl j = bs0 j) ∧ (∀ j, j ≤ k → ss j = ss0 j) ∧ (∀ j (h : j < l.length), stepH P N ops bs pu σ0 (frL ops α0 vs (k + j)) (ss (k + j)) l[j] (bl (k + j)) (vs (k + j)) (ss (k + j + 1))) ∧ ∃ γ, (∀ t, look γ t = look (frL ops α0 vs (k + l.length)) t) ∧ K γ (ss (k + l.length))
  | [], k, vs0, bs0, ss0, β, hβ, _, h => ⟨vs0, bs0, ss0, fun _ _ => ⟨rfl, rfl⟩, fun _ _ => rfl, fun j h => by simp at h, β, hβ, h⟩
  | o :: r, k, vs0, bs0, ss0, β, hβ, hl, h => by
    have ho : ops[k]? = some o := by have := hl 0 (by simp); simpa using this.symm
    have go : ∀ (b : Bool) (v : AV) (σ' : Store) (β : AF), (∀ t, look β t = look (frL ops α0 vs0 k) t) → stepH P N ops bs pu σ0 (frL ops α0 vs0 k) (ss0 k) o b v σ' → putA N o.dst v β (fun α' => greg P N ops bs pu σ0 K r α' σ') →
        ∃ (vs : Nat → AV) (bl : Nat → Bool) (ss : Nat → Store), (∀ j, j < k → vs j = vs0 j ∧ bl j = bs0 j) ∧ (∀ j, j ≤ k → ss j = ss0 j) ∧ (∀ j (h : j < (o :: r).length), stepH P N ops bs pu σ0 (frL ops α0 vs (k + j)) (ss (k + j)) (o :: r)[j] (bl (k + j)) (vs (k + j)) (ss (k + j + 1))) ∧ ∃ γ, (∀ t, look γ t = look (frL ops α0 vs (k + (o :: r).length)) t) ∧ K γ (ss (k + (o :: r).length)) := by
      intro b v σ' β hβ hst hput
      let vs1 : Nat → AV := fun j => if j = k then v else vs0 j
      let bs1 : Nat → Bool := fun j => if j = k then b else bs0 j
      let ss1 : Nat → Store := fun j => if j = k + 1 then σ' else ss0 j
      have hfr : frL ops α0 vs1 k = frL ops α0 vs0 k := frL_congr k _ _ fun j hj => by simp only [vs1]; rw [if_neg (by omega)]
      obtain ⟨β', hβ', hq⟩ : ∃ β', (∀ t, look β' t = look (frL ops α0 vs1 (k + 1)) t) ∧ greg P N ops bs pu σ0 K r β' σ' := by
        have hd : (ops[k]?).bind (·.dst) = o.dst := by rw [ho]; rfl
        unfold putA at hput
        cases hdst : o.dst with
        | none =>
          rw [hdst] at hput hd
          refine ⟨β, fun t => ?_, hput⟩
          simp only [frL, hd, hfr]
          exact hβ t
        | some d =>
          rw [hdst] at hput hd
          refine ⟨_, fun t => ?_, hput.2⟩
          simp only [frL, hd, hfr, look, vs1, if_true]
          split
          · rfl
          · exact hβ t
      obtain ⟨vs, bl, ss, h1, h1s, h2, γ, h3, h4⟩ := trace_of_gregH r (k + 1) vs1 bs1 ss1 β' hβ' (fun j hj => by
        have := hl (j + 1) (by simp; omega)
        rw [show k + 1 + j = k + (j + 1) by omega, ← this]
        rfl) (by simp only [ss1, if_true]; exact hq)
      refine ⟨vs, bl, ss, fun j hj => ?_, fun j hj => ?_, fun j hj => ?_, γ, by rw [show k + (o :: r).length = k + 1 + r.length by simp; omega]; exact h3, by rw [show k + (o :: r).length = k + 1 + r.length by simp; omega]; exact h4⟩
      · have := h1 j (by omega)
        simp only [vs1, bs1, if_neg (show ¬ j = k by omega)] at this
        exact this
      · have := h1s j (by omega)
        simp only [ss1, if_neg (show ¬ j = k + 1 by omega)] at this
        exact this
      · cases j with
        | zero =>
          have e1 := h1 k (by omega)
          have e2 := h1s k (by omega)
          have e3 := h1s (k + 1) (by omega)
          simp only [vs1, bs1, if_true] at e1
          simp only [ss1, if_true] at e3
          simp only [ss1, if_neg (show ¬ k = k + 1 by omega)] at e2
          simp only [Nat.add_zero, List.getElem_cons_zero, e1.1, e1.2, e2, e3]
          rw [frL_congr k vs vs0 fun j hj => by have := h1 j (by omega); simp only [vs1, if_neg (show ¬ j = k by omega)] at this; exact this.1]
          exact hst
        | succ j =>
          have := h2 j (by simpa using hj)
          rw [show k + 1 + j = k + (j + 1) by omega] at this
          exact this
    simp only [greg] at h
    obtain ⟨β1, hβ1, h⟩ := splitA_inv h
    have hb : ∀ t, look β1 t = look (frL ops α0 vs0 k) t := fun t => (hβ1 t).trans (hβ t)
    clear hβ1 hβ
    have act : (match loudG bs o.op with
        | true => AOpD P o.op (evF β1) (ss0 k) fun v σ' => Grown pu σ0 σ' ∧ putA N o.dst v β1 fun α' => greg P N ops bs pu σ0 K r α' σ'
        | false => AOpK P o.op (evF β1) σ0 fun v => putA N o.dst v β1 fun α' => greg P N ops bs pu σ0 K r α' (ss0 k)) →
        ∃ v σ', ((loudG bs o.op = true ∧ AOp P o.op (evF (frL ops α0 vs0 k)) (ss0 k) (fun v' σ'' => v' = v ∧ σ'' = σ') ∧ Grown pu σ0 σ') ∨ (loudG bs o.op = false ∧ σ' = ss0 k ∧ (pureOp o.op = true → ∀ σ1, AOpQ P o.op (evF (frL ops α0 vs0 k)) σ1 v) ∧ AOpQ P o.op (evF (frL ops α0 vs0 k)) σ0 v)) ∧ putA N o.dst v β1 fun α' => greg P N ops bs pu σ0 K r α' σ' := by
      intro h
      rw [evF_same hb] at h
      cases hlo : loudG bs o.op with
      | true =>
        rw [hlo] at h
        obtain ⟨v, σ', h1, h2, h3⟩ := AOp_det hlo h
        exact ⟨v, σ', .inl ⟨rfl, h1, h2⟩, h3⟩
      | false =>
        rw [hlo] at h
        by_cases hp : pureOp o.op = true
        · obtain ⟨v, h1, h2⟩ := AOpK_pure o.op hp h
          exact ⟨v, _, .inr ⟨rfl, rfl, fun _ => h1, h1 σ0⟩, h2⟩
        · obtain ⟨v, h1, h2⟩ := AOpK_ex o.op h
          exact ⟨v, _, .inr ⟨rfl, rfl, fun h => absurd h hp, h1⟩, h2⟩
    unfold guardA at h
    cases hg : o.guard with
    | none =>
      rw [hg] at h
      obtain ⟨v, σ', hv, hp⟩ := act h
      refine go true v σ' β1 hb ⟨fun d hd => ?_, .inl ⟨rfl, hv, fun g want h => by rw [hg] at h; cases h⟩⟩ hp
      rw [hd] at hp
      exact hp.1
    | some g =>
      obtain ⟨g, want⟩ := g
      rw [hg] at h
      replace h := on_elim h; obtain ⟨d, hd, h⟩ := h
      replace h := on_elim h; obtain ⟨u, hu, h⟩ := h
      rw [hb] at hu
      have skip : (look (frL ops α0 vs0 k) d = some (.c (.bool (!want))) ∨ ∃ t, look (frL ops α0 vs0 k) d = some (.c (.tuple t))) → putA N o.dst (.c undef) β1 (fun α' => greg P N ops bs pu σ0 K r α' (ss0 k)) → _ := fun hu hp =>
        go false (.c undef) (ss0 k) β1 hb ⟨fun d hd => by rw [hd] at hp; exact hp.1, .inr ⟨rfl, rfl, rfl, g, want, d, hg, hd, hu⟩⟩ hp
      split at h
      · cases want
        · exact skip (.inl hu) h
        · obtain ⟨v, σ', hv, hp⟩ := act h
          exact go true v σ' β1 hb ⟨fun d hd => by rw [hd] at hp; exact hp.1, .inl ⟨rfl, hv, fun g' want' h' => by
            rw [hg] at h'
            cases h'
            exact ⟨d, hd, hu⟩⟩⟩ hp
      · cases want
        · obtain ⟨v, σ', hv, hp⟩ := act h
          exact go true v σ' β1 hb ⟨fun d hd => by rw [hd] at hp; exact hp.1, .inl ⟨rfl, hv, fun g' want' h' => by
            rw [hg] at h'
            cases h'
            exact ⟨d, hd, hu⟩⟩⟩ hp
        · exact skip (.inl hu) h
      · rename_i t
        exact skip (.inr ⟨t, hu⟩) h
      · exact h.elim
/-- **A region that draws its order, and reads ahead of writing.** -/
theorem AWP_drawH {Q : Post} {id : Nat} {σ : Store} (bs : Bool × Bool) (p : Nat) (hm : P.follows .mixedOrders = true) (hB : (drawB ops p && edgesBack ops && noSelect ops && decide (p ≤ ops.length) && loudOrd bs ops p && hybB bs ops p) = true)
    (h : greg P N ops bs true σ (fun α σ => areg P N ops (fun α σ => Q .normal α σ) (ops.drop p) α σ) (ops.take p) α0 σ) : AWPr rd P N (.region id ops.toArray true) Q α0 σ := by
  intro K imm m w a hs hf
  simp only [Bool.and_eq_true, decide_eq_true_eq] at hB
  obtain ⟨⟨⟨⟨⟨hB1, hB2⟩, hB3⟩, hB4⟩, hB5⟩, hB6⟩ := hB
  have hc : Conf ops p := fun i j x y hij hx hy h => drawB_spec hB1 hij hx hy h
  obtain ⟨vs, bl, ss, _, hss0, h2, γ, hγ, h3⟩ := trace_of_gregH (ops := ops) (α0 := α0) (pu := true) (ops.take p) 0 (fun _ => .emp) (fun _ => true) (fun _ => σ) α0 (fun _ => rfl) (fun j hj => by
    simp only [List.length_take] at hj
    rw [List.getElem?_take_of_lt (by omega), Nat.zero_add]) h
  simp only [Nat.zero_add, List.length_take, Nat.min_eq_left hB4] at h2 hγ h3
  have hss0 : ss 0 = σ := hss0 0 (Nat.le_refl _)
  refine wpIn_region_any hm ?_
  have hst : ∀ j, j < p → ∀ o, ops[j]? = some o → stepH P N ops bs true σ (frL ops α0 vs j) (ss j) o (bl j) (vs j) (ss (j + 1)) := fun j hj o ho => by
    have := h2 j hj
    rw [List.getElem_take] at this
    obtain ⟨hj', rfl⟩ := List.getElem?_eq_some_iff.1 ho
    exact this
  have hrep : ∀ i, (Array.replicate ops.toArray.size false).getD i true = true → ¬ i < ops.length := fun i h hi => by
    simp [Array.getD_eq_getD_getElem?, hi] at h
  -- which operations change the store
  let lo : Nat → Prop := fun j => ∃ o, ops[j]? = some o ∧ loudG bs o.op = true
  have same1 : ∀ j, j < p → ¬ lo j → ss (j + 1) = ss j := fun j hj hn => by
    have ho : ops[j]? = some ops[j] := List.getElem?_eq_getElem (by omega)
    rcases (hst j hj _ ho).2 with ⟨_, hk, _⟩ | ⟨_, _, hk, _⟩
    · rcases hk with ⟨hk, _⟩ | ⟨_, hk, _⟩
      · exact absurd ⟨_, ho, hk⟩ hn
      · exact hk
    · exact hk
  have same : ∀ d k, k + d ≤ p → (∀ i, k ≤ i → i < k + d → ¬ lo i) → ss (k + d) = ss k := by
    intro d
    induction d with
    | zero => intro k _ _; rfl
    | succ d ih =>
      intro k hk hn
      rw [← Nat.add_assoc, same1 (k + d) (by omega) (hn _ (by omega) (by omega))]
      exact ih k (by omega) fun i h1 h2 => hn i h1 (by omega)
  obtain ⟨top, htop⟩ : ∃ top : (Nat → Prop) → Nat, ∀ S, (∀ j, j < p → S j → lo j → j < top S) ∧ ∀ k, (∀ j, j < p → S j → lo j → j < k) → top S ≤ k := by
    have hex : ∀ S : Nat → Prop, ∃ n, (∀ j, j < p → S j → lo j → j < n) ∧ ∀ k, (∀ j, j < p → S j → lo j → j < k) → n ≤ k := fun S =>
      least (p := fun n => ∀ j, j < p → S j → lo j → j < n) p fun j hj _ _ => hj
    exact ⟨fun S => Classical.choose (hex S), fun S => Classical.choose_spec (hex S)⟩
  have topP : ∀ S, top S ≤ p := fun S => (htop S).2 p fun j hj _ _ => hj
  refine quiet_any (σ := ss p) (fun S => ss (top S)) hB2 hc hB3 hB4 (fun S h => ?_) (fun j o S imm m a w next Q' hj ho hsl hs hI hcl hnS hanc hn => ?_) hγ h3 _ _ a _ imm m ?_ (by simp) (fun i hi => absurd hi.1 (hrep i hi.2)) (fun i hi h => absurd hi (hrep i h)) ?_
    ⟨hf.defers, hf.size, fun t i h => absurd h.1.1 (hrep i h.1.2), fun t av _ h => hf.slot t av h⟩
  · have := same (p - top S) (top S) (by have := topP S; omega) fun i h1 h2 hl => by
      have := (htop S).1 i (by have := topP S; omega) (h i (by have := topP S; omega)) hl
      omega
    rw [show top S + (p - top S) = p by have := topP S; omega] at this
    exact this.symm
  · -- one operation, at whatever time it comes
    have hf := hI.names hc hcl ho hnS hanc
    have hlk : ∀ d av, d ∈ namesOf ops o → look (frL ops α0 vs j) d = some av → look (restr (namesOf ops o) (frL ops α0 vs j)) d = some av := fun d av hd h => by
      rw [look_restr, if_pos (by simpa using hd)]; exact h
    have hyield : ∀ (g d : Nat) (u : Value), (ops[g]?).bind (·.dst) = some d → look (frL ops α0 vs j) d = some (.c u) → d ∈ namesOf ops o → ((ops.toArray[g]?).bind (·.dst)).bind (a.tmps[·]?) = some u := fun g d u hgd hu hm => by
      obtain ⟨x, hx, r⟩ := hf.slot d _ (hlk d _ hm hu)
      simp only [List.getElem?_toArray, hgd, Option.bind_some, hx, r.c_inv]
    have hoa : ops.toArray[j]? = some o := by simpa using ho
    have hkeep : ¬ lo j → ss (top fun i => S i ∨ i = j) = ss (top S) := fun hn => by
      have h1 : top (fun i => S i ∨ i = j) ≤ top S := (htop _).2 _ fun i hi hS hl => by
        rcases hS with hS | rfl
        · exact (htop S).1 i hi hS hl
        · exact absurd hl hn
      have h2 : top S ≤ top (fun i => S i ∨ i = j) := (htop _).2 _ fun i hi hS hl => (htop _).1 i hi (.inl hS) hl
      rw [Nat.le_antisymm h1 h2]
    have hloud : lo j → ss (top S) = ss j ∧ ss (top fun i => S i ∨ i = j) = ss (j + 1) := fun hl => by
      obtain ⟨o', ho', hl'⟩ := hl
      rw [ho] at ho'
      cases ho'
      have hS : ∀ i, i < p → S i → lo i → i < j := fun i hi hS ⟨x, hx, hxl⟩ => by
        rcases Nat.lt_trichotomy i j with h | h | h
        · exact h
        · subst h; exact absurd hS hnS
        · exact absurd ((hcl i hS).2 j (loudOrd_spec hB5 h hi ho hx hl' hxl)) hnS
      have h1 : top S ≤ j := (htop S).2 j hS
      have h2 := same (j - top S) (top S) (by omega) fun i h1 h2 ⟨x, hx, hxl⟩ => by
        have hi : S i := hanc i (loudOrd_spec hB5 (by omega) hj hx ho hxl hl')
        have := (htop S).1 i (by omega) hi ⟨x, hx, hxl⟩
        omega
      rw [show top S + (j - top S) = j by omega] at h2
      refine ⟨h2.symm, ?_⟩
      have h3 : top (fun i => S i ∨ i = j) = j + 1 := Nat.le_antisymm ((htop _).2 _ fun i hi h9 hl => by
        rcases h9 with h9 | rfl
        · have := hS i hi h9 hl; omega
        · omega) ((htop _).1 j hj (.inr rfl) ⟨o, ho, hl'⟩)
      rw [h3]
    have hnolo : loudG bs o.op = false → ¬ lo j := fun h ⟨o', ho', hl'⟩ => by
      rw [ho] at ho'
      cases ho'
      rw [h] at hl'
      cases hl'
    have hcg : ∀ x ∈ o.op.operands, evF (frL ops α0 vs j) x = evF (restr (namesOf ops o) (frL ops α0 vs j)) x := fun x hx => by
      cases x with
      | tmp t => simp only [evF]; rw [look_restr, if_pos (by simpa using operand_names hx)]
      | _ => rfl
    unfold wpOpIn
    simp only [hoa]
    obtain ⟨hdN, ⟨hbt, hq, hg⟩ | ⟨hbf, hv, hσ, g, want, d, hg, hgd, hu⟩⟩ := hst j hj o ho
    · have hw : Region.wanted o (yielded ops.toArray a.tmps) = true := by
        cases hgo : o.guard with
        | none => simp [Region.wanted, hgo]
        | some gw =>
          obtain ⟨g, want⟩ := gw
          obtain ⟨d, hgd, hu⟩ := hg g want hgo
          have hy : yielded ops.toArray a.tmps g = some want := by simp only [yielded, hyield g d _ hgd hu (guard_names hgo hgd)]
          simp [Region.wanted, hgo, hy]
      rw [if_pos hw]
      rcases hq with ⟨hlo, hq, _⟩ | ⟨hlo, _, hq⟩
      · obtain ⟨e1, e2⟩ := hloud ⟨o, ho, hlo⟩
        rw [e1] at hs
        rw [AOp_congr o.op hsl hcg] at hq
        have hup := AOp_sound (dst := o.dst) (type := o.type) (pos := o.pos) (after := o.after) (guard := o.guard) o.op hs (evF_rep hf) hq
        refine wpIn_of_up (AOp_noDefer hq) hup fun imm' m' v av σ' w' hi hoo hs' hr hk => ?_
        obtain ⟨rfl, rfl⟩ := hk
        exact hn imm' m' v w' hi hoo (by rw [e2]; exact hs') ((hI.mono hi hoo).step hc hcl ho hnS hdN hr)
      · have e2 := hkeep (hnolo hlo)
        have hq' : AOpQ P o.op (evF (frL ops α0 vs j)) (ss (top S)) (vs j) := by
          by_cases hp : pureOp o.op = true
          · exact hq.1 hp _
          · have h0 : top S = 0 := Nat.le_antisymm ((htop S).2 0 fun i hi hS ⟨x, hx, hxl⟩ => absurd ((hcl i hS).2 j (hyb_spec hB6 hj hi ho hx hlo hp hxl)) hnS) (Nat.zero_le _)
            rw [h0, hss0]
            exact hq.2
        rw [AOpQ_congr o.op hsl hcg] at hq'
        have hup := AOpQ_sound (dst := o.dst) (type := o.type) (pos := o.pos) (after := o.after) (guard := o.guard) o.op hs (evF_rep hf) hq'
        refine wpIn_of_up (AOpQ_noDefer hq') hup fun imm' m' v av σ' w' hi hoo hs' hr hk => ?_
        obtain ⟨rfl, rfl⟩ := hk
        exact hn imm' m' v w' hi hoo (by rw [e2]; exact hs') ((hI.mono hi hoo).step hc hcl ho hnS hdN hr)
    · have hw : Region.wanted o (yielded ops.toArray a.tmps) = false := by
        rcases hu with hu | ⟨t, hu⟩
        · have hy : yielded ops.toArray a.tmps g = some (!want) := by simp only [yielded, hyield g d _ hgd hu (guard_names hg hgd)]
          simp [Region.wanted, hg, hy]
        · have hy : yielded ops.toArray a.tmps g = none := by simp only [yielded, hyield g d _ hgd hu (guard_names hg hgd)]
          simp [Region.wanted, hg, hy]
      rw [if_neg (by rw [hw]; simp)]
      refine ⟨fun _ _ => Rnd_fn _ _, hn imm m undef w (.refl _) (.refl _) ?_ (hI.step hc hcl ho hnS hdN (by rw [hv]; exact .c _))⟩
      by_cases hl : lo j
      · obtain ⟨e1, e2⟩ := hloud hl
        rw [e2, hσ, ← e1]
        exact hs
      · rw [hkeep hl]
        exact hs
  · simp [left]
  · have h0 : top (fun i => i < ops.length ∧ (Array.replicate ops.toArray.size false).getD i true = true) = 0 := Nat.le_antisymm ((htop _).2 0 fun j _ h => absurd h.1 (hrep j h.2)) (Nat.zero_le _)
    show Sim K imm m { w with drawn := w.drawn + 1 } (ss (top _))
    rw [h0, hss0]
    exact hs.drew
end
theorem AWP_drawX {rd : Option Nat} {P : Program} {N : Nat} {ops : List Oper} {α0 : AF} {σ : Store} {Q : Post} {id : Nat} (hm : P.follows .mixedOrders = true) (hB : (drawB ops ops.length && edgesBack ops && noSelect ops && decide (ops.length ≤ ops.length) && loudOrd (false, false) ops ops.length && hybB (false, false) ops ops.length) = true)
    (h : greg P N ops (false, false) true σ (fun α σ => Q .normal α σ) ops α0 σ) : AWPr rd P N (.region id ops.toArray true) Q α0 σ :=
  AWP_drawH (false, false) ops.length hm hB (by rw [List.take_length, List.drop_length]; exact h)
end Go.Proofs.YtephecognbbaoabGreat
namespace Go.Proofs.YtephecognbbaoabGreat
def swp0 (st : List Int) (j : Nat) (v : Int) : List Int := (st.set (j + 1) (st.getD j 0)).set j v
def swp (st : List Int) (j : Nat) : List Int := swp0 st j (st.getD (j + 1) 0)
def insJ : Nat → List Int → List Int
  | 0, st => st
  | j + 1, st => if st.getD (j + 1) 0 < st.getD j 0 then insJ j (swp st j) else st
def insS : Nat → Nat → List Int → List Int
  | 0, _, st => st
  | f + 1, i, st => insS f (i + 1) (insJ i st)
def sortI (l : List Int) : List Int := insS (l.length - 1) 1 l
theorem swp_len (st : List Int) (j : Nat) : (swp st j).length = st.length := by simp [swp, swp0]
theorem insJ_len : ∀ (j : Nat) (st : List Int), (insJ j st).length = st.length
  | 0, _ => rfl
  | j + 1, st => by
    rw [insJ]
    split
    · rw [insJ_len j, swp_len]
    · rfl
theorem insS_len : ∀ (f i : Nat) (st : List Int), (insS f i st).length = st.length
  | 0, _, _ => rfl
  | f + 1, i, st => by rw [insS, insS_len f, insJ_len]
theorem sortI_len (l : List Int) : (sortI l).length = l.length := insS_len _ _ _
/-- A number put into numbers that fall. -/
def insD (x : Int) : List Int → List Int
  | [] => [x]
  | y :: r => if x < y then y :: insD x r else x :: y :: r
theorem insD_len (x : Int) : ∀ r, (insD x r).length = r.length + 1
  | [] => rfl
  | y :: r => by
    rw [insD]
    split
    · rw [List.length_cons, insD_len x r, List.length_cons]
    · rfl
theorem insD_mem (x v : Int) : ∀ r, v ∈ insD x r ↔ v = x ∨ v ∈ r
  | [] => by simp [insD]
  | y :: r => by
    rw [insD]
    split
    · rw [List.mem_cons, insD_mem x v r, List.mem_cons]
      constructor
      · rintro (h | h | h)
        · exact .inr (.inl h)
        · exact .inl h
        · exact .inr (.inr h)
      · rintro (h | h | h)
        · exact .inr (.inl h)
        · exact .inl h
        · exact .inr (.inr h)
    · rw [List.mem_cons]
theorem insD_sorted (x : Int) : ∀ r, x ∉ r → r.Pairwise (fun a b => b < a) → (insD x r).Pairwise (fun a b => b < a)
  | [], _, _ => List.pairwise_singleton _ _
  | y :: r, hx, h => by
    rw [List.pairwise_cons] at h
    rw [List.mem_cons, not_or] at hx
    rw [insD]
    split
    · rename_i hlt
      rw [List.pairwise_cons]
      refine ⟨fun v hv => ?_, insD_sorted x r hx.2 h.2⟩
      rcases (insD_mem x v r).1 hv with rfl | hv
      · exact hlt
      · exact h.1 v hv
    · rename_i hlt
      rw [List.pairwise_cons, List.pairwise_cons]
      refine ⟨fun v hv => ?_, h.1, h.2⟩
      have h1 := hx.1
      rcases List.mem_cons.1 hv with rfl | hv
      · omega
      · have := h.1 v hv
        omega
theorem getD_mid (l r : List Int) (x : Int) : (l ++ x :: r).getD l.length 0 = x := by
  simp [List.getD_eq_getElem?_getD]
theorem insJ_eq (x : Int) : ∀ (r l2 : List Int), insJ r.length (r.reverse ++ x :: l2) = (insD x r).reverse ++ l2
  | [], l2 => by simp [insJ, insD]
  | y :: r, l2 => by
    have e : (y :: r).reverse ++ x :: l2 = r.reverse ++ y :: x :: l2 := by simp
    have e2 : r.reverse ++ y :: x :: l2 = (r.reverse ++ [y]) ++ x :: l2 := by simp
    have hl : (r.reverse ++ [y]).length = r.length + 1 := by simp
    have g1 : ((y :: r).reverse ++ x :: l2).getD (r.length + 1) 0 = x := by
      rw [e, e2, ← hl]
      exact getD_mid _ _ _
    have g2 : ((y :: r).reverse ++ x :: l2).getD r.length 0 = y := by
      rw [e]
      have := getD_mid r.reverse (x :: l2) y
      rw [List.length_reverse] at this
      exact this
    rw [List.length_cons, insJ, g1, g2, insD]
    split
    · have hs : swp ((y :: r).reverse ++ x :: l2) r.length = r.reverse ++ x :: (y :: l2) := by
        rw [swp, swp0, g1, g2, e]
        rw [List.set_append_right _ _ (by simp), List.set_append_right _ _ (by simp)]
        simp
      rw [hs, insJ_eq x r (y :: l2)]
      simp
    · simp
def insF (r : List Int) : List Int → List Int
  | [] => r
  | x :: l => insF (insD x r) l
theorem insS_eq : ∀ (l r : List Int), insS l.length r.length (r.reverse ++ l) = (insF r l).reverse
  | [], r => by simp [insS, insF]
  | x :: l, r => by
    rw [List.length_cons, insS, insJ_eq]
    have := insS_eq l (insD x r)
    rw [insD_len] at this
    rw [this, insF]
theorem insF_mem (v : Int) : ∀ (l r : List Int), v ∈ insF r l ↔ v ∈ r ∨ v ∈ l
  | [], r => by simp [insF]
  | x :: l, r => by
    rw [insF, insF_mem v l, insD_mem, List.mem_cons]
    constructor
    · rintro ((h | h) | h)
      · exact .inr (.inl h)
      · exact .inl h
      · exact .inr (.inr h)
    · rintro (h | h | h)
      · exact .inl (.inr h)
      · exact .inl (.inl h)
      · exact .inr h
theorem insF_sorted : ∀ (l r : List Int), l.Nodup → (∀ v ∈ l, v ∉ r) → r.Pairwise (fun a b => b < a) → (insF r l).Pairwise (fun a b => b < a)
  | [], r, _, _, h => h
  | x :: l, r, hn, hd, h => by
    rw [List.nodup_cons] at hn
    rw [insF]
    refine insF_sorted l _ hn.2 (fun v hv h2 => ?_) (insD_sorted x r (hd x (List.mem_cons_self ..)) h)
    rcases (insD_mem x v r).1 h2 with rfl | h3
    · exact hn.1 hv
    · exact hd v (List.mem_cons_of_mem _ hv) h3
theorem sortI_eq (l : List Int) : sortI l = (insF [] l).reverse := by
  cases l with
  | nil => rfl
  | cons x l =>
    have := insS_eq l [x]
    rw [sortI, List.length_cons, Nat.add_sub_cancel]
    exact this
theorem sortI_mem (l : List Int) (v : Int) : v ∈ sortI l ↔ v ∈ l := by
  rw [sortI_eq, List.mem_reverse, insF_mem]
  simp
theorem sortI_sorted {l : List Int} (h : l.Nodup) : (sortI l).Pairwise (· < ·) := by
  rw [sortI_eq, List.pairwise_reverse]
  exact insF_sorted l [] h (fun v _ h => by cases h) List.Pairwise.nil
theorem sorted_ext : ∀ (l l' : List Int), l.Pairwise (· < ·) → l'.Pairwise (· < ·) → (∀ v, v ∈ l ↔ v ∈ l') → l = l'
  | [], [], _, _, _ => rfl
  | [], y :: _, _, _, h => absurd ((h y).2 (List.mem_cons_self ..)) List.not_mem_nil
  | x :: _, [], _, _, h => absurd ((h x).1 (List.mem_cons_self ..)) List.not_mem_nil
  | x :: l, y :: l', h1, h2, h => by
    rw [List.pairwise_cons] at h1 h2
    have hxy : x = y := by
      rcases List.mem_cons.1 ((h x).1 (List.mem_cons_self ..)) with e | hx
      · exact e
      · rcases List.mem_cons.1 ((h y).2 (List.mem_cons_self ..)) with e | hy
        · exact e.symm
        · have := h1.1 y hy
          have := h2.1 x hx
          omega
    subst hxy
    rw [sorted_ext l l' h1.2 h2.2 fun v => ?_]
    constructor
    · intro hv
      rcases List.mem_cons.1 ((h v).1 (List.mem_cons_of_mem _ hv)) with e | h3
      · have := h1.1 v hv; omega
      · exact h3
    · intro hv
      rcases List.mem_cons.1 ((h v).2 (List.mem_cons_of_mem _ hv)) with e | h3
      · have := h2.1 v hv; omega
      · exact h3
theorem ints_sorted (m : Int) : (ints m).Pairwise (· < ·) := by
  unfold ints
  rw [List.pairwise_map]
  exact List.pairwise_lt_range.imp fun h => by omega
/-- No two links between the same nodes. -/
theorem links_apart {n : Net} : ∀ (r pre : List Lnk), linksErr n pre r = 0 → r.Pairwise (fun a b => ¬ (a.fr = b.fr ∧ a.dst = b.dst)) ∧ ∀ a ∈ pre, ∀ b ∈ r, ¬ (a.fr = b.fr ∧ a.dst = b.dst)
  | [], _, _ => ⟨List.Pairwise.nil, fun _ _ _ h => by cases h⟩
  | x :: r, pre, h => by
    rw [linksErr] at h
    split at h
    · rename_i h1; exact absurd h h1
    · rename_i h1
      obtain ⟨h2, h3⟩ := links_apart r _ h
      have h4 := (lnkIn_of (Decidable.not_not.1 h1)).2
      refine ⟨List.pairwise_cons.2 ⟨fun b hb => h3 x (by simp) b hb, h2⟩, fun a ha b hb => ?_⟩
      rcases List.mem_cons.1 hb with rfl | hb
      · have := List.any_eq_false.1 h4 a ha
        simpa [Lnk.like] using this
      · exact h3 a (List.mem_append_left _ ha) b hb
theorem links_of {n : Net} (hc : checkN n = 0) : n.links.Pairwise (fun a b => ¬ (a.fr = b.fr ∧ a.dst = b.dst)) := by
  unfold checkN at hc
  split at hc
  · rename_i h1; exact absurd hc h1
  · split at hc
    · cases hc
    · split at hc
      · cases hc
      · exact (links_apart _ _ hc).1
theorem linked_any {n : Net} (hn : NetIn n) (x y : Int) : (n.links.any fun k => decide (k.fr = x) && decide (k.dst = y)) = decide (0 ≤ edgeOf n x y) := by
  unfold edgeOf
  cases h : n.links.find? fun l => decide (l.fr = x) && decide (l.dst = y) with
  | none =>
    rw [List.find?_eq_none] at h
    rw [Option.map_none, Option.getD_none, decide_eq_false (by decide), List.any_eq_false]
    exact h
  | some l =>
    have h1 := List.mem_of_find?_eq_some h
    have h2 := List.find?_some h
    rw [Option.map_some, Option.getD_some, decide_eq_true (hn.lnk l h1).e0, List.any_eq_true]
    exact ⟨l, h1, h2⟩
def froms (n : Net) (i : Int) : List Int := (n.links.filter fun k => decide (k.dst = i)).map (·.fr)
theorem froms_nodup {n : Net} (hc : checkN n = 0) (i : Int) : (froms n i).Nodup := by
  unfold froms List.Nodup
  rw [List.pairwise_map]
  have h := (links_of hc).filter fun k => decide (k.dst = i)
  refine List.Pairwise.imp_of_mem ?_ h
  intro a b ha hb h e
  exact h ⟨e, by have := (List.mem_filter.1 ha).2; have h3 := (List.mem_filter.1 hb).2; simp at this h3; rw [this, h3]⟩
theorem froms_mem {n : Net} (hn : NetIn n) {i v : Int} : v ∈ froms n i ↔ v ∈ hearsA n i := by
  rw [hears_mem]
  have hL := linked_any hn v i
  unfold froms
  simp only [List.mem_map, List.mem_filter, decide_eq_true_eq]
  constructor
  · rintro ⟨k, ⟨h1, h2⟩, rfl⟩
    have h3 := hn.lnk k h1
    have : (n.links.any fun l => decide (l.fr = k.fr) && decide (l.dst = i)) = true := List.any_eq_true.2 ⟨k, h1, by simp [h2]⟩
    rw [hL, decide_eq_true_eq] at this
    exact ⟨⟨h3.f0, h3.f1⟩, this⟩
  · rintro ⟨_, h2⟩
    rw [decide_eq_true h2, List.any_eq_true] at hL
    obtain ⟨k, h3, h4⟩ := hL
    simp at h4
    exact ⟨k, ⟨h3, h4.2⟩, h4.1⟩
theorem hears_sorted (n : Net) (i : Int) : (hearsA n i).Pairwise (· < ·) := (ints_sorted _).filter _
theorem sort_hears {n : Net} (hc : checkN n = 0) (i : Int) : sortI (froms n i) = hearsA n i :=
  sorted_ext _ _ (sortI_sorted (froms_nodup hc i)) (hears_sorted n i) fun v => by rw [sortI_mem, froms_mem (netIn_of hc)]
theorem from_len {n : Net} (hc : checkN n = 0) (i : Int) : (froms n i).length ≤ 6 := by
  rw [← sortI_len, sort_hears hc]
  exact hears_len (netIn_of hc) i
end Go.Proofs.YtephecognbbaoabGreat
namespace Go.Proofs.YtephecognbbaoabGreat
theorem isNaN0_calls (x : Int) (σ : Store) : ACalls Tryz.prog 117 [intA1 x] σ fun r' σ' => σ' = σ ∧ r' = .c (.bool false) := by
  refine ACalls_of_awp Tryz.func117 rfl Tryz.results117 ?_
  simp only [List.length_cons, List.length_nil, Tryz.ntmps117, Nat.reduceAdd, Nat.reduceSub, enterA]
  (repeat' (first|(refine g_s fun K hK=>?_)|((first|refine g_t ?_|refine g_g ?_);(try simp -implicitDefEqProofs only[go_sem]))|(with_reducible refine hK _ _ ?_;clear hK K)|fail))
  all_goals simp
theorem ok_less : callOk Tryz.prog 107 = true := by kernel_rfl
theorem ok_nan0 : callOk Tryz.prog 117 = true := by kernel_rfl
theorem ok_ins : callOk Tryz.prog 101 = true := by kernel_rfl
theorem ok_pdq : callOk Tryz.prog 94 = true := by kernel_rfl
theorem ok_len : callOk Tryz.prog 95 = true := by kernel_rfl
theorem ok_len64 : callOk Tryz.prog 111 = true := by kernel_rfl
attribute [go_sem] ok_less ok_nan0 ok_ins ok_pdq ok_len ok_len64
theorem less_calls (a b : Int) (σ : Store) : ACalls Tryz.prog 107 [intA1 a, intA1 b] σ fun r' σ' => σ' = σ ∧ r' = .c (.bool (decide (a < b))) := by
  have h := isNaN0_calls
  refine ACalls_of_awp Tryz.func107 rfl Tryz.results107 ?_
  simp only [List.length_cons, List.length_nil, Tryz.ntmps107, Nat.reduceAdd, Nat.reduceSub, enterA]
  (repeat' (first|(refine g_s fun K hK=>?_)|((first|refine g_t ?_|refine g_g ?_|refine (h _ _).use ?_);(try simp -implicitDefEqProofs only[go_sem]))|(with_reducible refine hK _ _ ?_;clear hK K)|fail))
theorem get_mapN (l : List Int) {k : Nat} (h : k < l.length) : (l.map intC)[k]? = some [.c (.int .i64 (l.getD k 0))] := by
  simp [List.getD_eq_getElem?_getD, h, intC]
theorem insertion_calls (S : Store) (b c : Nat) (l : List Int) (hb : S[b]? = some (.cells 1 (l.map intC))) (hl : l.length ≤ 12) (hl1 : 1 ≤ l.length) :
    ACalls Tryz.prog 101 [.own b 1 0 l.length c, intA1 0, intA1 l.length] S fun r S' => S' = S.set b (.cells 1 ((sortI l).map intC)) ∧ r = .tup [] := by
  have hlt : b < S.length := (List.getElem?_eq_some_iff.1 hb).1
  have hgS : ∀ o, (S.set b o)[b]? = some o := fun o => List.getElem?_set_self hlt
  have hsS : ∀ o o', (S.set b o).set b o' = S.set b o' := fun o o' => List.set_set ..
  have hS0 : S = S.set b (.cells 1 (l.map intC)) := by
    obtain ⟨h1, h2⟩ := List.getElem?_eq_some_iff.1 hb
    rw [← h2, List.set_getElem_self]
  refine ACalls_of_awp Tryz.func101 rfl Tryz.results101 ?_
  simp only [List.length_cons, List.length_nil, Tryz.ntmps101, Nat.reduceAdd, Nat.reduceSub, enterA]
  (repeat' (first|(refine g_s fun K hK=>?_)|(refine g_b ?_)|(refine g_g ?_;(try simp -implicitDefEqProofs only[go_sem]))|(with_reducible refine hK _ _ ?_;clear hK K)|(with_reducible refine And.intro ?_ ?_;· exact g_x)|fail))
  refine AWP_for ((l.length : Int) - 1) (fun k (st : List Int) => st.length = l.length ∧ sortI l = insS (l.length - 1 - k.toNat) (k.toNat + 1) st) (fun k _ _ => [(6, intA1 (k + 1))]) (fun _ st _ => S.set b (.cells 1 (st.map intC))) l [] (by omega) ⟨rfl, rfl⟩ hS0.symm (ALe_of ?_) ?_
  · simp -implicitDefEqProofs only [go_sem]
  · rintro k st τ hk0 hk1 ⟨h3, h4⟩ L hL
    by_cases hk2 : k < (l.length : Int) - 1
    · have ef : l.length - 1 - k.toNat = (l.length - 1 - (k + 1).toNat) + 1 := by omega
      have ek : (k + 1).toNat = k.toNat + 1 := by omega
      rw [ef, insS] at h4
      have i1 : I64 (k + 1) := by unfold I64; omega
      have i2 : I64 (k + 1 + 1) := by unfold I64; omega
      simp -implicitDefEqProofs only [go_sem]
      (repeat' (first|(refine g_s fun K hK=>?_)|(refine g_b ?_)|(refine g_k ?_;simp only[thenQ,blockQ])|(refine g_c (fun h=>?_) (fun h=>?_)<;>(try simp only[go_sem] at h)<;>(try exact g_f))|(refine g_g ?_;(try simp -implicitDefEqProofs only[go_sem,i1, i2]))|(with_reducible refine hK _ _ ?_;clear hK K)|fail))
      have hJ2 := hK
      clear hK
      refine AWP_for (k + 1) (fun q (s2 : List Int) => s2.length = l.length ∧ insJ (k.toNat + 1) st = insJ (k.toNat + 1 - q.toNat) s2) (fun q _ _ => [(7, intA1 (k + 1 - q))]) (fun _ s2 _ => S.set b (.cells 1 (s2.map intC))) st [] (by omega) ⟨h3, rfl⟩ rfl (ALe_of ?_) ?_
      · simp -implicitDefEqProofs only [go_sem]
        simp
      · rintro q s2 τ2 hq0 hq1 ⟨h5, h6⟩ L2 hL2
        by_cases hq2 : q < k + 1
        · obtain ⟨j, hj⟩ : ∃ j : Nat, k + 1 - q = (j : Int) + 1 := ⟨(k - q).toNat, by omega⟩
          have ej : k.toNat + 1 - q.toNat = j + 1 := by omega
          have ej2 : k.toNat + 1 - (q + 1).toNat = j := by omega
          have tj : ((j : Int) + 1).toNat = j + 1 := by omega
          have hjl : j + 1 < s2.length := by omega
          have e1 : (j : Int) + 1 - 1 = j := by omega
          have g1 := get_mapN s2 (k := j + 1) hjl
          have g2 := get_mapN s2 (k := j) (by omega)
          have g3 := get_mapN (s2.set (j + 1) (s2.getD j 0)) (k := j) (by rw [List.length_set]; omega)
          have hc := less_calls (s2.getD (j + 1) 0) (s2.getD j 0)
          have j1 : I64 (j : Int) := by unfold I64; omega
          have m1 : ∀ v, (s2.map intC).set (j + 1) [.c (.int .i64 v)] = (s2.set (j + 1) v).map intC := fun v => set_map s2 (j + 1) v
          have m2 : ∀ v, ((s2.set (j + 1) (s2.getD j 0)).map intC).set j [.c (.int .i64 v)] = (swp0 s2 j v).map intC := fun v => set_map _ j v
          have hins : insJ (j + 1) s2 = if s2.getD (j + 1) 0 < s2.getD j 0 then insJ j (swp s2 j) else s2 := rfl
          have hj' : k + 1 - (q + 1) = j := by omega
          rw [ej, hins] at h6
          simp -implicitDefEqProofs only [go_sem, hj]
          by_cases hlt2 : s2.getD (j + 1) 0 < s2.getD j 0
          · rw [if_pos hlt2] at h6
            rw [decide_eq_true hlt2] at hc
            (repeat' (first|(refine g_s fun K hK=>?_)|(refine g_b ?_)|(refine g_k ?_;simp only[thenQ,blockQ])|(refine g_c (fun h=>?_) (fun h=>?_)<;>(try simp only[go_sem] at h)<;>(try exact g_f))|((first|refine g_G ?_|refine AWP_drawX tab_mixed (by decide +kernel) ?_|refine g_q (fun τ=>hc _) ?_);(try simp -implicitDefEqProofs only[go_sem,hgS, hsS, g1, g2, g3, tj, e1, j1, m1, m2]))|(with_reducible refine hK _ _ ?_;clear hK K)|(with_reducible refine splitB_intro (fun h=>?_) (fun h=>?_)<;>(try simp only[go_sem] at h)<;>(try exact g_f)<;>(try simp -implicitDefEqProofs only[go_sem,hgS, hsS, g1, g2, g3, tj, e1, j1, m1, m2]))|(with_reducible refine And.intro ?_ ?_;· exact g_x)|fail))
            refine hL2 (by omega) (swp s2 j) τ2 _ _ ⟨by rw [swp_len]; exact h5, by rw [h6, ej2]⟩ (ALe_of ?_) rfl
            simp -implicitDefEqProofs only [go_sem, hj']
          · rw [if_neg hlt2] at h6
            rw [decide_eq_false hlt2] at hc
            (repeat' (first|(refine g_s fun K hK=>?_)|(refine g_e ?_;simp only[thenQ,blockQ,↓reduceIte,Nat.reduceEqDiff])|(refine g_c (fun h=>?_) (fun h=>?_)<;>(try simp only[go_sem] at h)<;>(try exact g_f))|((first|refine g_U ?_|refine g_q (fun τ=>hc _) ?_);(try simp -implicitDefEqProofs only[go_sem,hgS, hsS, g1, g2, tj, e1, j1]))|(with_reducible refine hK _ _ ?_;clear hK K)|(with_reducible refine splitB_intro (fun h=>?_) (fun h=>?_)<;>(try simp only[go_sem] at h)<;>(try exact g_f)<;>(try simp -implicitDefEqProofs only[go_sem,hgS, hsS, g1, g2, tj, e1, j1]))|(with_reducible refine And.intro ?_ ?_;· exact g_x)|fail))
            refine hJ2 _ _ ?_
            clear hJ2
            (repeat' (first|(refine g_g ?_;(try simp -implicitDefEqProofs only[go_sem,i2]))|fail))
            refine hL hk2 s2 τ _ _ ⟨h5, by rw [h4, h6, ek]⟩ (ALe_of ?_) rfl
            simp -implicitDefEqProofs only [go_sem]
        · have hqk : q = k + 1 := by omega
          have e0 : k + 1 - q = 0 := by omega
          have ej : k.toNat + 1 - q.toNat = 0 := by omega
          have hins : insJ 0 s2 = s2 := rfl
          rw [ej, hins] at h6
          simp -implicitDefEqProofs only [go_sem, e0]
          (repeat' (first|(refine g_s fun K hK=>?_)|(refine g_e ?_;simp only[thenQ,blockQ,↓reduceIte,Nat.reduceEqDiff])|(refine g_c (fun h=>?_) (fun h=>?_)<;>(try simp only[go_sem] at h)<;>(try exact g_f))|(refine g_U ?_;(try simp -implicitDefEqProofs only[go_sem,hgS]))|(with_reducible refine hK _ _ ?_;clear hK K)|fail))
          refine hJ2 _ _ ?_
          clear hJ2
          (repeat' (first|(refine g_g ?_;(try simp -implicitDefEqProofs only[go_sem,i2]))|fail))
          refine hL hk2 s2 τ _ _ ⟨h5, by rw [h4, h6, ek]⟩ (ALe_of ?_) rfl
          simp -implicitDefEqProofs only [go_sem]
    · have hkl : l.length - 1 - k.toNat = 0 := by omega
      rw [hkl] at h4
      have h4 : sortI l = st := h4
      simp -implicitDefEqProofs only [go_sem]
      (repeat' (first|(refine g_s fun K hK=>?_)|(refine g_e ?_;simp only[thenQ,blockQ,↓reduceIte,Nat.reduceEqDiff])|(refine g_c (fun h=>?_) (fun h=>?_)<;>(try simp only[go_sem] at h)<;>(try exact g_f))|(refine g_g ?_;(try simp -implicitDefEqProofs only[go_sem]))|(with_reducible refine hK _ _ ?_;clear hK K)|fail))
      rw [h4]
      exact ⟨rfl, rfl⟩
theorem pdq_calls (S : Store) (b c : Nat) (l : List Int) (v : Int) (hb : S[b]? = some (.cells 1 (l.map intC))) (hl : l.length ≤ 12) (hl1 : 1 ≤ l.length) :
    ACalls Tryz.prog 94 [.own b 1 0 l.length c, intA1 0, intA1 l.length, intA1 v] S fun r S' => S' = S.set b (.cells 1 ((sortI l).map intC)) ∧ r = .tup [] := by
  have hI := insertion_calls S b c l hb hl hl1
  have i0 : I64 ((l.length : Int) - 0) := by unfold I64; omega
  have e0 : (l.length : Int) - 0 = l.length := Int.sub_zero _
  refine ACalls_of_awp Tryz.func94 rfl Tryz.results94 ?_
  simp only [List.length_cons, List.length_nil, Tryz.ntmps94, Nat.reduceAdd, Nat.reduceSub, enterA]
  (repeat' (first|(refine g_s fun K hK=>?_)|(refine g_b ?_)|(refine g_g ?_;(try simp -implicitDefEqProofs only[go_sem]))|(with_reducible refine hK _ _ ?_;clear hK K)|fail))
  refine AWP_rounds 1 ?_
  (repeat' (first|(refine g_s fun K hK=>?_)|(refine g_b ?_)|(refine g_c (fun h=>?_) (fun h=>?_)<;>(try simp only[go_sem] at h)<;>(try exact g_f))|((first|refine g_t ?_|refine g_g ?_|refine ACalls.useA (hI) ?_);(try simp -implicitDefEqProofs only[go_sem,i0, e0]))|(with_reducible refine hK _ _ ?_;clear hK K)|(with_reducible refine And.intro ?_ ?_;· exact g_x)|fail))
theorem on_at {α : Type} {x : Option α} {Q : α → Prop} (v : α) (h : x = some v) (hq : Q v) : on x Q := by rw [h]; exact hq
theorem blen_calls (n : Int) (h : n = 0 ∨ n = 1 ∨ n = 2 ∨ n = 3 ∨ n = 4 ∨ n = 5 ∨ n = 6) (σ : Store) : ACalls Tryz.prog 111 [.c (.int .u64 n)] σ fun r σ' => σ' = σ ∧ r = intA1 (if n = 0 then 0 else if n < 2 then 1 else if n < 4 then 2 else 3) := by
  rcases h with rfl | rfl | rfl | rfl | rfl | rfl | rfl
  all_goals refine ACalls_of_awp Tryz.func111 rfl Tryz.results111 ?_
            simp only [List.length_cons, List.length_nil, Tryz.ntmps111, Nat.reduceAdd, Nat.reduceSub, enterA]
  all_goals (repeat' (first|(refine g_s fun K hK=>?_)|(refine g_k ?_;simp only[thenQ,blockQ])|(refine g_c (fun h=>?_) (fun h=>?_)<;>(try simp only[go_sem] at h)<;>(try exact g_f))|(refine g_g ?_;(try simp -implicitDefEqProofs only[go_sem]))|(with_reducible refine hK _ _ ?_;clear hK K)|fail))
  · have u : ((UInt8.toNat 0 : Nat) : Int) = 0 := rfl
    refine on_at 0 (by kernel_rfl) ?_
    simp -implicitDefEqProofs only [go_sem, u]
    (repeat' (first|(refine g_t ?_;(try simp -implicitDefEqProofs only[go_sem]))|(with_reducible refine hK _ _ ?_;clear hK K)|(with_reducible refine And.intro ?_ ?_;· exact g_x)|fail))
  · have u : ((UInt8.toNat 1 : Nat) : Int) = 1 := rfl
    refine on_at 1 (by kernel_rfl) ?_
    simp -implicitDefEqProofs only [go_sem, u]
    (repeat' (first|(refine g_t ?_;(try simp -implicitDefEqProofs only[go_sem]))|(with_reducible refine hK _ _ ?_;clear hK K)|(with_reducible refine And.intro ?_ ?_;· exact g_x)|fail))
  · have u : ((UInt8.toNat 2 : Nat) : Int) = 2 := rfl
    refine on_at 2 (by kernel_rfl) ?_
    simp -implicitDefEqProofs only [go_sem, u]
    (repeat' (first|(refine g_t ?_;(try simp -implicitDefEqProofs only[go_sem]))|(with_reducible refine hK _ _ ?_;clear hK K)|(with_reducible refine And.intro ?_ ?_;· exact g_x)|fail))
  · have u : ((UInt8.toNat 2 : Nat) : Int) = 2 := rfl
    refine on_at 2 (by kernel_rfl) ?_
    simp -implicitDefEqProofs only [go_sem, u]
    (repeat' (first|(refine g_t ?_;(try simp -implicitDefEqProofs only[go_sem]))|(with_reducible refine hK _ _ ?_;clear hK K)|(with_reducible refine And.intro ?_ ?_;· exact g_x)|fail))
  · have u : ((UInt8.toNat 3 : Nat) : Int) = 3 := rfl
    refine on_at 3 (by kernel_rfl) ?_
    simp -implicitDefEqProofs only [go_sem, u]
    (repeat' (first|(refine g_t ?_;(try simp -implicitDefEqProofs only[go_sem]))|(with_reducible refine hK _ _ ?_;clear hK K)|(with_reducible refine And.intro ?_ ?_;· exact g_x)|fail))
  · have u : ((UInt8.toNat 3 : Nat) : Int) = 3 := rfl
    refine on_at 3 (by kernel_rfl) ?_
    simp -implicitDefEqProofs only [go_sem, u]
    (repeat' (first|(refine g_t ?_;(try simp -implicitDefEqProofs only[go_sem]))|(with_reducible refine hK _ _ ?_;clear hK K)|(with_reducible refine And.intro ?_ ?_;· exact g_x)|fail))
  · have u : ((UInt8.toNat 3 : Nat) : Int) = 3 := rfl
    refine on_at 3 (by kernel_rfl) ?_
    simp -implicitDefEqProofs only [go_sem, u]
    (repeat' (first|(refine g_t ?_;(try simp -implicitDefEqProofs only[go_sem]))|(with_reducible refine hK _ _ ?_;clear hK K)|(with_reducible refine And.intro ?_ ?_;· exact g_x)|fail))
theorem AWP_condF {rd : Option Nat} {P : Program} {N : Nat} {x y : Code} {Q : Post} {α : AF} {σ : Store} (h : AWPr rd P N y Q α σ) : AWPr rd P N (.cond (.const (.bool false)) x y) Q α σ := by
  intro K imm m w a hs hf
  exact wpIn_cond_split (t := false) rfl (fun h => by cases h) (fun _ => h K imm m w a hs hf)
theorem blen0_calls (n : Int) (h : n = 0 ∨ n = 1 ∨ n = 2 ∨ n = 3 ∨ n = 4 ∨ n = 5 ∨ n = 6) (σ : Store) : ACalls Tryz.prog 95 [.c (.int .u64 n)] σ fun r σ' => σ' = σ ∧ r = intA1 (if n = 0 then 0 else if n < 2 then 1 else if n < 4 then 2 else 3) := by
  have hB := blen_calls n h
  have w : IntKind.u64.wrap n = n := by rcases h with rfl | rfl | rfl | rfl | rfl | rfl | rfl <;> rfl
  refine ACalls_of_awp Tryz.func95 rfl Tryz.results95 ?_
  simp only [List.length_cons, List.length_nil, Tryz.ntmps95, Nat.reduceAdd, Nat.reduceSub, enterA]
  (repeat' (first|(refine g_s fun K hK=>?_)|(refine g_g ?_;(try simp -implicitDefEqProofs only[go_sem,w]))|(with_reducible refine hK _ _ ?_;clear hK K)|fail))
  refine AWP_condF ?_
  (repeat' (first|(refine g_s fun K hK=>?_)|(refine g_k ?_;simp only[thenQ,blockQ])|((first|refine g_t ?_|refine g_g ?_|refine (hB _).use ?_);(try simp -implicitDefEqProofs only[go_sem,w]))|(with_reducible refine hK _ _ ?_;clear hK K)|fail))
theorem ok_sort : callOk Tryz.prog 81 = true := by kernel_rfl
attribute [go_sem] ok_sort
theorem sort_calls (S : Store) (b c : Nat) (l : List Int) (hb : S[b]? = some (.cells 1 (l.map intC))) (hl : l.length ≤ 6) (hl1 : 1 ≤ l.length) :
    ACalls Tryz.prog 81 [.own b 1 0 l.length c] S fun r S' => S' = S.set b (.cells 1 ((sortI l).map intC)) ∧ r = .tup [] := by
  have hB := blen0_calls (l.length : Int) (by omega)
  have hP := fun v => pdq_calls S b c l v hb (by omega) hl1
  have w : IntKind.u64.wrap (l.length : Int) = l.length := by
    have : l.length = 1 ∨ l.length = 2 ∨ l.length = 3 ∨ l.length = 4 ∨ l.length = 5 ∨ l.length = 6 := by omega
    rcases this with h | h | h | h | h | h <;> rw [h] <;> rfl
  refine ACalls_of_awp Tryz.func81 rfl Tryz.results81 ?_
  simp only [List.length_cons, List.length_nil, Tryz.ntmps81, Nat.reduceAdd, Nat.reduceSub, enterA]
  (repeat' (first|(refine g_s fun K hK=>?_)|((first|refine g_g ?_|refine (hB _).use ?_|refine ACalls.useA (hP _) ?_);(try simp -implicitDefEqProofs only[go_sem,w]))|(with_reducible refine hK _ _ ?_;clear hK K)|fail))
theorem insertion0_calls (S : Store) : ACalls Tryz.prog 101 [.c (.slice none 0 0), intA1 0, intA1 0] S fun r S' => S' = S ∧ r = .tup [] := by
  refine ACalls_of_awp Tryz.func101 rfl Tryz.results101 ?_
  simp only [List.length_cons, List.length_nil, Tryz.ntmps101, Nat.reduceAdd, Nat.reduceSub, enterA]
  (repeat' (first|(refine g_s fun K hK=>?_)|(refine g_b ?_)|(refine g_g ?_;(try simp -implicitDefEqProofs only[go_sem]))|(with_reducible refine hK _ _ ?_;clear hK K)|(with_reducible refine And.intro ?_ ?_;· exact g_x)|fail))
  refine AWP_rounds 1 ?_
  (repeat' (first|(refine g_s fun K hK=>?_)|(refine g_e ?_;simp only[thenQ,blockQ,↓reduceIte,Nat.reduceEqDiff])|(refine g_c (fun h=>?_) (fun h=>?_)<;>(try simp only[go_sem] at h)<;>(try exact g_f))|(refine g_g ?_;(try simp -implicitDefEqProofs only[go_sem]))|(with_reducible refine hK _ _ ?_;clear hK K)|fail))
  exact ⟨rfl, rfl⟩
theorem pdq0_calls (S : Store) (v : Int) : ACalls Tryz.prog 94 [.c (.slice none 0 0), intA1 0, intA1 0, intA1 v] S fun r S' => S' = S ∧ r = .tup [] := by
  have hI := insertion0_calls
  refine ACalls_of_awp Tryz.func94 rfl Tryz.results94 ?_
  simp only [List.length_cons, List.length_nil, Tryz.ntmps94, Nat.reduceAdd, Nat.reduceSub, enterA]
  (repeat' (first|(refine g_s fun K hK=>?_)|(refine g_b ?_)|(refine g_g ?_;(try simp -implicitDefEqProofs only[go_sem]))|(with_reducible refine hK _ _ ?_;clear hK K)|fail))
  refine AWP_rounds 1 ?_
  (repeat' (first|(refine g_s fun K hK=>?_)|(refine g_b ?_)|(refine g_c (fun h=>?_) (fun h=>?_)<;>(try simp only[go_sem] at h)<;>(try exact g_f))|((first|refine g_t ?_|refine g_g ?_|refine (hI _).use ?_);(try simp -implicitDefEqProofs only[go_sem]))|(with_reducible refine hK _ _ ?_;clear hK K)|(with_reducible refine And.intro ?_ ?_;· exact g_x)|fail))
theorem sort0_calls (S : Store) : ACalls Tryz.prog 81 [.c (.slice none 0 0)] S fun r S' => S' = S ∧ r = .tup [] := by
  have hB := blen0_calls 0 (by omega)
  have hP := pdq0_calls
  have w : IntKind.u64.wrap 0 = 0 := rfl
  refine ACalls_of_awp Tryz.func81 rfl Tryz.results81 ?_
  simp only [List.length_cons, List.length_nil, Tryz.ntmps81, Nat.reduceAdd, Nat.reduceSub, enterA]
  (repeat' (first|(refine g_s fun K hK=>?_)|((first|refine g_g ?_|refine (hB _).use ?_|refine (hP _ _).use ?_);(try simp -implicitDefEqProofs only[go_sem,w]))|(with_reducible refine hK _ _ ?_;clear hK K)|fail))
end Go.Proofs.YtephecognbbaoabGreat
namespace Go.Proofs.YtephecognbbaoabGreat
theorem get_mapG {X : Type} [Inhabited X] (f : X → List AV) (l : List X) {k : Int} (h0 : 0 ≤ k) (h : k < l.length) : (l.map f)[k.toNat]? = some (f (at0 l k)) := by
  have : k.toNat < l.length := by omega
  simp [at0, List.getD_eq_getElem?_getD, this]
theorem elook1_calls (n : Net) (r : Rtr) (S : Store) (b rb t i : Nat) (rv gv rr : AV) (R : List (List AV)) (hn : NetIn n) (hr : RtrIn n r) (hb : S[b]? = some (.cells 7 [netC n ++ [rv, gv]])) (hrb : S[rb]? = some (.cells 2 R)) (hR : R[i]? = some [rr, .own t 1 0 r.told.length r.told.length]) (ht : S[t]? = some (.cells 1 (r.told.map rowC)))
    (to j : Int) (h0 : 0 ≤ to) (h1 : to < n.nodes) (h2 : 0 ≤ j) (h3 : j < n.nodes) (τ : Store) :
    ACalls Tryz.prog 83 [intA1 to, intA1 j, .cp [.ptr rb 2 i 0] 0, .cp [.ptr b 7 0 0] 0] (S ++ τ) fun r' S' => S' = S ++ τ ∧ r' = intA1 (toldAt n r to j) := by
  have s2 := hn.alg.s2
  have s24 := hn.alg.s24
  have n6 := hn.n6
  have htl := hr.tl
  have hg := get_mapG rowC r.told h0 (by omega)
  have hI := invalid_calls n.alg (by unfold I64; omega)
  have hm := at0_mem r.told h0 (by omega)
  have hbL : ∀ τ, (S ++ τ)[b]? = some (.cells 7 [netC n ++ [rv, gv]]) := fun τ => by rw [List.getElem?_append_left (List.getElem?_eq_some_iff.1 hb).1]; exact hb
  have hrbL : ∀ τ, (S ++ τ)[rb]? = some (.cells 2 R) := fun τ => by rw [List.getElem?_append_left (List.getElem?_eq_some_iff.1 hrb).1]; exact hrb
  have htL : ∀ τ, (S ++ τ)[t]? = some (.cells 1 (r.told.map rowC)) := fun τ => by rw [List.getElem?_append_left (List.getElem?_eq_some_iff.1 ht).1]; exact ht
  obtain ⟨w, hw⟩ : ∃ w, at0 r.told to = w := ⟨_, rfl⟩
  have hv := hr.tr _ hm
  unfold toldAt at2
  rw [hw] at hg hm hv ⊢
  by_cases he : w = []
  · subst he
    rw [if_pos rfl]
    refine ACalls_of_awp Tryz.func83 rfl Tryz.results83 ?_
    simp only [List.length_cons, List.length_nil, Tryz.ntmps83, Nat.reduceAdd, Nat.reduceSub, enterA]
    (repeat' (first|(refine g_s fun K hK=>?_)|(refine g_c (fun h=>?_) (fun h=>?_)<;>(try simp only[go_sem] at h)<;>(try exact g_f))|((first|refine g_t ?_|refine g_g ?_|refine (hI _).use ?_);(try simp -implicitDefEqProofs only[go_sem,hbL, hrbL, htL, hR, hg]))|(with_reducible refine hK _ _ ?_;clear hK K)|(with_reducible refine And.intro ?_ ?_;· exact g_x)|fail))
  · rw [if_neg he]
    obtain ⟨h5, h6⟩ := hv.resolve_left he
    refine ACalls_of_awp Tryz.func83 rfl Tryz.results83 ?_
    simp only [List.length_cons, List.length_nil, Tryz.ntmps83, Nat.reduceAdd, Nat.reduceSub, enterA]
    (repeat' (first|(refine g_s fun K hK=>?_)|(refine g_k ?_;simp only[thenQ,blockQ])|(refine g_c (fun h=>?_) (fun h=>?_)<;>(try simp only[go_sem] at h)<;>(try exact g_f))|((first|refine g_t ?_|refine g_g ?_);(try simp -implicitDefEqProofs only[go_sem,hbL, hrbL, htL, hR, hg]))|(with_reducible refine hK _ _ ?_;clear hK K)|(with_reducible refine And.intro ?_ ?_;· exact g_x)|fail))
theorem linked1_calls (k : Lnk) (x y : Int) (σ : Store) : ACalls Tryz.prog 88 [.agg (lnkC k), .cp [intA1 x] 0, .cp [intA1 y] 0] σ fun r σ' => σ' = σ ∧ r = .c (.bool (decide (k.fr = x) && decide (k.dst = y))) := by
  refine ACalls.cutX ?_
  refine ACalls_of_awp Tryz.func88 rfl Tryz.results88 ?_
  simp only [List.length_cons, List.length_nil, Tryz.ntmps88, Nat.reduceAdd, Nat.reduceSub, enterA]
  refine AWP_seq_k fun K hK => ?_
  (refine AWP_region ?_; simp -implicitDefEqProofs only [go_sem])
  refine hK _ _ ?_; clear hK K
  refine AWP_freezeP 3 rfl (by simp only [st0]; rfl) ?_
  simp only [ss0, List.set_cons_zero]
  (repeat' (first|(refine g_s fun K hK=>?_)|((first|refine g_t ?_|refine g_g ?_);(try simp -implicitDefEqProofs only[go_sem]))|(with_reducible refine hK _ _ ?_;clear hK K)|(with_reducible refine splitB_intro (fun h=>?_) (fun h=>?_)<;>(try simp only[go_sem] at h)<;>(try exact g_f)<;>(try simp -implicitDefEqProofs only[go_sem]))|fail))
  all_goals (refine CutQ_c rfl ?_; simp [*]; try rfl)
theorem indexFunc_lnk (l : List Lnk) (p : Lnk → Bool) (f : FuncId) (first cap : List AV) (σ : Store) (hl : l.length ≤ 1000000000000000000) (hok : callOk Tryz.prog f = true)
    (hf : ∀ x ∈ l, ∀ S, ACalls Tryz.prog f (first ++ .agg (lnkC x) :: cap) S fun r σ' => σ' = S ∧ r = .c (.bool (p x))) :
    ACalls Tryz.prog 96 [.sl (l.map lnkC), .fn f first cap] σ fun r σ' => σ' = σ ∧ r = intA1 (firstI p 0 l) := by
  refine ACalls_of_awp Tryz.func96 rfl Tryz.results96 ?_
  simp only [List.length_cons, List.length_nil, Tryz.ntmps96, Nat.reduceAdd, Nat.reduceSub, enterA]
  (repeat' (first|(refine g_s fun K hK=>?_)|(refine g_b ?_)|(refine g_g ?_;(try simp -implicitDefEqProofs only[go_sem]))|(with_reducible refine hK _ _ ?_;clear hK K)|fail))
  refine AWP_each l (fun k r _ => firstI p 0 l = firstI p k r) (fun k _ _ => [(8, intA1 k)]) (fun _ _ _ => σ) () [] rfl rfl (ALe_of ?_) ?_ ?_
  · simp -implicitDefEqProofs only [go_sem]
  · rintro k r s τ hk0 hk1 h1 L hL
    obtain ⟨u, hu⟩ : ∃ u, at0 l k = u := ⟨_, rfl⟩
    have hm := at0_mem l hk0 hk1
    rw [hu] at h1 hm
    have hc := hf _ hm
    simp -implicitDefEqProofs only [go_sem]
    (repeat' (first|(refine g_s fun K hK=>?_)|(refine g_b ?_)|(refine g_k ?_;simp only[thenQ,blockQ])|(refine g_c (fun h=>?_) (fun h=>?_)<;>(try simp only[go_sem] at h)<;>(try exact g_f))|((first|refine g_t ?_|refine g_g ?_|refine (hc _).use ?_);(try simp -implicitDefEqProofs only[go_sem,hu]))|(with_reducible refine hK _ _ ?_;clear hK K)|(with_reducible refine And.intro ?_ ?_;· exact g_x)|fail))
    · rw [h1, firstI, if_pos (by assumption)]
    · refine hL () [] _ _ ?_ (ALe_of ?_) rfl
      · rw [h1, firstI, if_neg (by simp [*])]
      · simp -implicitDefEqProofs only [go_sem]
  · intro k s τ hk h1 L
    simp -implicitDefEqProofs only [go_sem]
    (repeat' (first|(refine g_s fun K hK=>?_)|(refine g_e ?_;simp only[thenQ,blockQ,↓reduceIte,Nat.reduceEqDiff])|(refine g_c (fun h=>?_) (fun h=>?_)<;>(try simp only[go_sem] at h)<;>(try exact g_f))|((first|refine g_t ?_|refine g_g ?_);(try simp -implicitDefEqProofs only[go_sem]))|(with_reducible refine hK _ _ ?_;clear hK K)|(clear hK K;first|(with_reducible refine hK _ _ ?_;clear hK K)|(clear hK K;with_reducible refine hK _ _ ?_;clear hK K)|(clear hK K;clear hK K;with_reducible refine hK _ _ ?_;clear hK K))|fail))
    rw [h1, firstI]
theorem containsFunc_lnk (l : List Lnk) (p : Lnk → Bool) (f : FuncId) (first cap : List AV) (σ : Store) (hl : l.length ≤ 1000000000000000000) (hok : callOk Tryz.prog f = true)
    (hf : ∀ x ∈ l, ∀ S, ACalls Tryz.prog f (first ++ .agg (lnkC x) :: cap) S fun r σ' => σ' = S ∧ r = .c (.bool (p x))) :
    ACalls Tryz.prog 87 [.sl (l.map lnkC), .fn f first cap] σ fun r σ' => σ' = σ ∧ r = .c (.bool (l.any p)) := by
  have hc := indexFunc_lnk l p f first cap σ hl hok hf
  refine ACalls_of_awp Tryz.func87 rfl Tryz.results87 ?_
  simp only [List.length_cons, List.length_nil, Tryz.ntmps87, Nat.reduceAdd, Nat.reduceSub, enterA]
  (repeat' (first|(refine g_s fun K hK=>?_)|((first|refine g_t ?_|refine g_g ?_|refine (hc).use ?_);(try simp -implicitDefEqProofs only[go_sem]))|(with_reducible refine hK _ _ ?_;clear hK K)|fail))
  rw [← firstI_ge p l 0 (Int.le_refl _)]
theorem linked_calls (n : Net) (hn : NetIn n) (x y : Int) (S : Store) (b : Nat) (rv gv : AV) (hl : n.links.length ≤ 1000000000000000000) (hb : S[b]? = some (.cells 7 [netC n ++ [rv, gv]])) :
    ACalls Tryz.prog 70 [.ptr b 7 0 0, intA1 x, intA1 y] S fun r σ' => σ' = S ∧ r = .c (.bool (decide (0 ≤ edgeOf n x y))) := by
  have hbL : ∀ τ, (S ++ τ)[b]? = some (.cells 7 [netC n ++ [rv, gv]]) := fun τ => by rw [List.getElem?_append_left (List.getElem?_eq_some_iff.1 hb).1]; exact hb
  have hC := fun S => containsFunc_lnk n.links (fun k => decide (k.fr = x) && decide (k.dst = y)) 88 [] [.cp [intA1 x] 0, .cp [intA1 y] 0] S hl (by kernel_rfl) (fun k _ S => linked1_calls k x y S)
  rw [linked_any hn x y] at hC
  refine ACalls.cutX ?_
  refine ACalls_of_awp Tryz.func70 rfl Tryz.results70 ?_
  simp only [List.length_cons, List.length_nil, Tryz.ntmps70, Nat.reduceAdd, Nat.reduceSub, enterA]
  refine AWP_seq_k fun K hK => ?_
  (refine AWP_region ?_; simp -implicitDefEqProofs only [go_sem])
  refine hK _ _ ?_; clear hK K
  refine AWP_freezeP 4 rfl (by simp only [st0]; rfl) ?_
  simp only [ss0, List.set_cons_zero]
  refine AWP_freezeP 5 rfl (by simp only [st1]; rfl) ?_
  simp only [ss1, List.set_cons_zero, List.set_cons_succ]
  (repeat' (first|(refine g_s fun K hK=>?_)|((first|refine g_t ?_|refine g_g ?_|refine (hC _).use ?_);(try simp -implicitDefEqProofs only[go_sem,hbL]))|(with_reducible refine hK _ _ ?_;clear hK K)|fail))
  exact CutQ_c rfl rfl
theorem hears_calls (n : Net) (i : Int) (S : Store) (b : Nat) (rv gv : AV) (hc : checkN n = 0) (hl : n.links.length ≤ 5864062014634) (hb : S[b]? = some (.cells 7 [netC n ++ [rv, gv]])) :
    ACalls Tryz.prog 66 [.ptr b 7 0 0, intA1 i] S fun r σ' => σ' = S ∧ r = intsA (hearsA n i) := by
  have hbL : ∀ τ, (S ++ τ)[b]? = some (.cells 7 [netC n ++ [rv, gv]]) := fun τ => by rw [List.getElem?_append_left (List.getElem?_eq_some_iff.1 hb).1]; exact hb
  obtain ⟨Z, hZ⟩ : ∃ Z, froms n i = Z := ⟨_, rfl⟩
  have hZl : Z.length ≤ 6 := by rw [← hZ]; exact from_len hc i
  have hZs : sortI Z = hearsA n i := by rw [← hZ]; exact sort_hears hc i
  refine ACalls.cutX ?_
  refine ACalls_of_awp Tryz.func66 rfl Tryz.results66 ?_
  simp only [List.length_cons, List.length_nil, Tryz.ntmps66, Nat.reduceAdd, Nat.reduceSub, enterA]
  (repeat' (first|(refine g_s fun K hK=>?_)|(refine g_b ?_)|(refine g_g ?_;(try simp -implicitDefEqProofs only[go_sem,hb]))|(with_reducible refine hK _ _ ?_;clear hK K)|fail))
  refine AWP_pad ?_
  have hJ := hK
  clear hK
  refine AWP_each n.links (fun _ r (s : List Int × Store) => s.1 ++ (r.filter fun k => decide (k.dst = i)).map (·.fr) = Z) (fun k s τ => [(14, intA1 k), (5, accV 1 (S.length + τ.length) s.1)]) (fun _ s τ => S ++ (τ ++ (accO intC 1 s.1 :: s.2))) ([], []) [] hZ ?_ (ALe_of ?_) ?_ ?_
  · simp [accO]
  · simp -implicitDefEqProofs only [go_sem, accV, accO]
  · rintro k r ⟨acc, ζ⟩ τ hk0 hk1 h3 L hL
    obtain ⟨w, hw⟩ : ∃ w, at0 n.links k = w := ⟨_, rfl⟩
    rw [hw] at h3
    simp only at h3
    have hal : acc.length ≤ 6 := by have := congrArg List.length h3; rw [List.length_append] at this; omega
    by_cases he : w.dst = i
    · rw [List.filter_cons_of_pos (by simpa using he), List.map_cons] at h3
      have hal : acc.length + 1 ≤ 6 := by have := congrArg List.length h3; rw [List.length_append, List.length_cons] at this; omega
      rcases acc with _ | ⟨y, acc⟩ <;> simp only [List.length_cons, List.length_nil] at hal <;> simp -implicitDefEqProofs only [go_sem, accV, accO]
      all_goals (repeat' (first|(refine g_s fun K hK=>?_)|(refine g_b ?_)|(refine g_k ?_;simp only[thenQ,blockQ])|(refine g_c (fun h=>?_) (fun h=>?_)<;>(try simp only[go_sem] at h)<;>(try exact g_f))|(refine g_G ?_;(try simp -implicitDefEqProofs only[go_sem,hw, he]))|(with_reducible refine hK _ _ ?_;clear hK K)|(with_reducible refine And.intro ?_ ?_;· exact g_x)|fail))
      · refine hL ([w.fr], []) (τ ++ (.dead :: (ζ ++ [.cells 3 [lnkC w]]))) _ _ (by simpa using h3) (ALe_of ?_) ?_
        · simp -implicitDefEqProofs only [go_sem, accV]
        · simp [accO, intC, lnkC, intA1, he]
      · refine hL (y :: acc ++ [w.fr], []) (τ ++ (.dead :: (ζ ++ [.cells 3 [lnkC w]]))) _ _ (by simpa using h3) (ALe_of ?_) ?_
        · simp -implicitDefEqProofs only [go_sem, accV]
        · simp [accO, intC, lnkC, intA1, he]
    · rw [List.filter_cons_of_neg (by simpa using he)] at h3
      rcases acc with _ | ⟨y, acc⟩ <;> simp -implicitDefEqProofs only [go_sem, accV, accO]
      all_goals (repeat' (first|(refine g_s fun K hK=>?_)|(refine g_b ?_)|(refine g_k ?_;simp only[thenQ,blockQ])|(refine g_c (fun h=>?_) (fun h=>?_)<;>(try simp only[go_sem] at h)<;>(try exact g_f))|(refine g_g ?_;(try simp -implicitDefEqProofs only[go_sem,hw, he]))|(with_reducible refine hK _ _ ?_;clear hK K)|(with_reducible refine And.intro ?_ ?_;· exact g_x)|fail))
      · refine hL ([], ζ ++ [.cells 3 [lnkC w]]) τ _ _ (by simpa using h3) (ALe_of ?_) ?_
        · simp -implicitDefEqProofs only [go_sem, accV]
        · simp [accO, intC, lnkC, intA1, he]
      · refine hL (y :: acc, ζ ++ [.cells 3 [lnkC w]]) τ _ _ (by simpa using h3) (ALe_of ?_) ?_
        · simp -implicitDefEqProofs only [go_sem, accV]
        · simp [accO, intC, lnkC, intA1, he]
  · rintro k ⟨acc, ζ⟩ τ hk h3 L
    simp only [List.filter_nil, List.map_nil, List.append_nil] at h3
    subst h3
    rcases acc with _ | ⟨y, acc⟩ <;> simp -implicitDefEqProofs only [go_sem, accV, accO]
    · (repeat' (first|(refine g_s fun K hK=>?_)|(refine g_e ?_;simp only[thenQ,blockQ,↓reduceIte,Nat.reduceEqDiff])|(refine g_c (fun h=>?_) (fun h=>?_)<;>(try simp only[go_sem] at h)<;>(try exact g_f))|(refine g_g ?_;(try simp -implicitDefEqProofs only[go_sem]))|(with_reducible refine hK _ _ ?_;clear hK K)|fail))
      refine hJ _ _ ?_
      clear hJ
      (repeat' (first|(refine g_s fun K hK=>?_)|((first|refine g_t ?_|refine g_g ?_|refine (sort0_calls _).use ?_);(try simp -implicitDefEqProofs only[go_sem]))|(with_reducible refine hK _ _ ?_;clear hK K)|fail))
      refine CutQ_w (τ := τ ++ (.dead :: ζ)) rfl (.c _) ?_
      rw [← hZs]
      exact .nil
    · (repeat' (first|(refine g_s fun K hK=>?_)|(refine g_e ?_;simp only[thenQ,blockQ,↓reduceIte,Nat.reduceEqDiff])|(refine g_c (fun h=>?_) (fun h=>?_)<;>(try simp only[go_sem] at h)<;>(try exact g_f))|(refine g_g ?_;(try simp -implicitDefEqProofs only[go_sem]))|(with_reducible refine hK _ _ ?_;clear hK K)|fail))
      refine hJ _ _ ?_
      clear hJ
      have hg : (S ++ (τ ++ (.cells 1 ((y :: acc).map intC) :: ζ)))[S.length + τ.length]? = some (.cells 1 ((y :: acc).map intC)) := by
        simp -implicitDefEqProofs only [go_sem]
      have hsl : (sortI (y :: acc)).length = acc.length + 1 := sortI_len _
      (repeat' (first|(refine g_s fun K hK=>?_)|((first|refine g_g ?_|refine ACalls.useA (sort_calls _ (S.length + τ.length) (acc.length + 1) (y :: acc) hg hZl (by simp)) ?_);(try simp -implicitDefEqProofs only[go_sem]))|(with_reducible refine hK _ _ ?_;clear hK K)|fail))
      have hel : elemsA (S ++ (τ ++ (.cells 1 ((sortI (y :: acc)).map intC) :: ζ))) (.own (S.length + τ.length) 1 0 (acc.length + 1) (acc.length + 1)) = some ((sortI (y :: acc)).map intC) := by
        simp [elemsA, hsl, List.take_of_length_le]
      refine AWP_freezeT 4 (a := .own (S.length + τ.length) 1 0 (acc.length + 1) (acc.length + 1)) (es := (sortI (y :: acc)).map intC) (by first | rfl | (simp -implicitDefEqProofs only [go_sem]; done) | (simp -implicitDefEqProofs only [go_sem]; rfl)) hel ?_
      have hkil : killA (S ++ (τ ++ Ob.cells 1 ((sortI (y :: acc)).map intC) :: ζ)) (.own (S.length + τ.length) 1 0 (acc.length + 1) (acc.length + 1)) = S ++ (τ ++ .dead :: ζ) := by simp [killA]
      rw [hkil]
      (repeat' (first|(refine g_t ?_;(try simp -implicitDefEqProofs only[go_sem]))|fail))
      rw [hZs]
      exact CutQ_w rfl (Bd.ints _) (.eq rfl)
end Go.Proofs.YtephecognbbaoabGreat
