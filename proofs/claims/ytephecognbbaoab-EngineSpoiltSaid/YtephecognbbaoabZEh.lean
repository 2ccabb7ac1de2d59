/- A machine's small methods: what a router looks at; who is linked. -/
import Derived.Test.YtephecognbbaoabZEd
import Derived.Test.YtephecognbbaoabZEs
open Go
set_option linter.all false
set_option maxRecDepth 100000
set_option maxHeartbeats 4000000
namespace Go.Proofs.Ytephecognbbaoab
open Go
set_option linter.all false
set_option maxRecDepth 100000
set_option maxHeartbeats 4000000
theorem get_mapG {X : Type} [Inhabited X] (f : X → List AV) (l : List X) {k : Int} (h0 : 0 ≤ k) (h : k < l.length) : (l.map f)[k.toNat]? = some (f (at0 l k)) := by
  have : k.toNat < l.length := by omega
  simp [at0, List.getD_eq_getElem?_getD, this]
theorem elook1_calls (n : Net) (r : Rtr) (S : Store) (b rb t i : Nat) (rv gv rr : AV) (R : List (List AV)) (hn : NetIn n) (hr : RtrIn n r) (hb : S[b]? = some (.cells 7 [netC n ++ [rv, gv]])) (hrb : S[rb]? = some (.cells 2 R)) (hR : R[i]? = some [rr, .own t 1 0 r.told.length r.told.length]) (ht : S[t]? = some (.cells 1 (r.told.map rowC)))
    (to j : Int) (h0 : 0 ≤ to) (h1 : to < n.nodes) (h2 : 0 ≤ j) (h3 : j < n.nodes) (τ : Store) :
    ACalls Try.prog 205 [intA1 to, intA1 j, .cp [.ptr rb 2 i 0] 0, .cp [.ptr b 7 0 0] 0] (S ++ τ) fun r' S' => S' = S ++ τ ∧ r' = intA1 (toldAt n r to j) := by
  have s2 := hn.alg.s2
  have s24 := hn.alg.s24
  have n6 := hn.n6
  have htl := hr.tl
  have hg := get_mapG rowC r.told h0 (by omega)
  have hI := invalid_calls n.alg (by unfold I64; omega)
  have hm := at0_mem r.told h0 (by omega)
  have hbL : ∀ τ, (S ++ τ)[b]? = some (.cells 7 [netC n ++ [rv, gv]]) := fun τ => by rw [List.getElem?_append_left (List.getElem?_eq_some_iff.1 hb).1]; exact hb
  have hrbL : ∀ τ, (S ++ τ)[rb]? = some (.cells 2 R) := fun τ => by rw [List.getElem?_append_left (List.getElem?_eq_some_iff.1 hrb).1]; exact hrb
  have htL : ∀ τ, (S ++ τ)[t]? = some (.cells 1 (r.told.map rowC)) := fun τ => by rw [List.getElem?_append_left (List.getElem?_eq_some_iff.1 ht).1]; exact ht
  obtain ⟨w, hw⟩ : ∃ w, at0 r.told to = w := ⟨_, rfl⟩
  have hv := hr.tr _ hm
  unfold toldAt at2
  rw [hw] at hg hm hv ⊢
  by_cases he : w = []
  · subst he
    rw [if_pos rfl]
    refine ACalls_of_awp Try.func205 rfl Try.results205 ?_
    simp only [List.length_cons, List.length_nil, Try.ntmps205, Nat.reduceAdd, Nat.reduceSub, enterA]
    (repeat' (first|(refine g_s fun K hK=>?_)|(refine g_b ?_)|(refine g_r ?_)|(refine g_k ?_;simp only[thenQ,blockQ])|(refine g_e ?_;simp only[thenQ,blockQ,↓reduceIte,Nat.reduceEqDiff])|(refine g_c (fun h=>?_) (fun h=>?_)<;>(try simp only[go_sem] at h)<;>(try exact g_f))|((first|refine g_t ?_|refine g_g ?_|refine g_U ?_|refine g_A ?_|refine (hI _).use ?_|refine g_q (fun τ=>hI _) ?_|refine g_W ?_);(try simp -implicitDefEqProofs only[go_sem,hbL, hrbL, htL, hR, hg]))|(with_reducible refine hK _ _ ?_;clear hK K)|(clear hK K;first|(with_reducible refine hK _ _ ?_;clear hK K)|(clear hK K;with_reducible refine hK _ _ ?_;clear hK K)|(clear hK K;clear hK K;with_reducible refine hK _ _ ?_;clear hK K))|(with_reducible refine splitB_intro (fun h=>?_) (fun h=>?_)<;>(try simp only[go_sem] at h)<;>(try exact g_f)<;>(try simp -implicitDefEqProofs only[go_sem,hbL, hrbL, htL, hR, hg]))|(with_reducible refine And.intro (fun h=>?_) (fun h=>?_)<;>(try simp only[go_sem] at h)<;>(try exact g_f))|(with_reducible refine And.intro ?_ ?_;· exact g_x)|(with_reducible intro h;(try simp only[go_sem] at h);(try exact g_f))))
  · rw [if_neg he]
    obtain ⟨h5, h6⟩ := hv.resolve_left he
    refine ACalls_of_awp Try.func205 rfl Try.results205 ?_
    simp only [List.length_cons, List.length_nil, Try.ntmps205, Nat.reduceAdd, Nat.reduceSub, enterA]
    (repeat' (first|(refine g_s fun K hK=>?_)|(refine g_b ?_)|(refine g_r ?_)|(refine g_k ?_;simp only[thenQ,blockQ])|(refine g_e ?_;simp only[thenQ,blockQ,↓reduceIte,Nat.reduceEqDiff])|(refine g_c (fun h=>?_) (fun h=>?_)<;>(try simp only[go_sem] at h)<;>(try exact g_f))|((first|refine g_t ?_|refine g_g ?_|refine g_U ?_|refine g_A ?_|refine (hI _).use ?_|refine g_q (fun τ=>hI _) ?_|refine g_W ?_);(try simp -implicitDefEqProofs only[go_sem,hbL, hrbL, htL, hR, hg]))|(with_reducible refine hK _ _ ?_;clear hK K)|(clear hK K;first|(with_reducible refine hK _ _ ?_;clear hK K)|(clear hK K;with_reducible refine hK _ _ ?_;clear hK K)|(clear hK K;clear hK K;with_reducible refine hK _ _ ?_;clear hK K))|(with_reducible refine splitB_intro (fun h=>?_) (fun h=>?_)<;>(try simp only[go_sem] at h)<;>(try exact g_f)<;>(try simp -implicitDefEqProofs only[go_sem,hbL, hrbL, htL, hR, hg]))|(with_reducible refine And.intro (fun h=>?_) (fun h=>?_)<;>(try simp only[go_sem] at h)<;>(try exact g_f))|(with_reducible refine And.intro ?_ ?_;· exact g_x)|(with_reducible intro h;(try simp only[go_sem] at h);(try exact g_f))))
theorem linked1_calls (k : Lnk) (x y : Int) (σ : Store) : ACalls Try.prog 210 [.agg (lnkC k), .cp [intA1 x] 0, .cp [intA1 y] 0] σ fun r σ' => σ' = σ ∧ r = .c (.bool (decide (k.fr = x) && decide (k.dst = y))) := by
  refine ACalls.cutX ?_
  refine ACalls_of_awp Try.func210 rfl Try.results210 ?_
  simp only [List.length_cons, List.length_nil, Try.ntmps210, Nat.reduceAdd, Nat.reduceSub, enterA]
  refine AWP_seq_k fun K hK => ?_
  (refine AWP_region ?_; simp -implicitDefEqProofs only [go_sem])
  refine hK _ _ ?_; clear hK K
  refine AWP_freezeP 3 rfl (by simp only [st0]; rfl) ?_
  simp only [ss0, List.set_cons_zero]
  (repeat' (first|(refine g_s fun K hK=>?_)|(refine g_b ?_)|(refine g_r ?_)|(refine g_k ?_;simp only[thenQ,blockQ])|(refine g_e ?_;simp only[thenQ,blockQ,↓reduceIte,Nat.reduceEqDiff])|(refine g_c (fun h=>?_) (fun h=>?_)<;>(try simp only[go_sem] at h)<;>(try exact g_f))|((first|refine g_t ?_|refine g_g ?_|refine g_U ?_|refine g_A ?_|refine g_W ?_);(try simp -implicitDefEqProofs only[go_sem]))|(with_reducible refine hK _ _ ?_;clear hK K)|(clear hK K;first|(with_reducible refine hK _ _ ?_;clear hK K)|(clear hK K;with_reducible refine hK _ _ ?_;clear hK K)|(clear hK K;clear hK K;with_reducible refine hK _ _ ?_;clear hK K))|(with_reducible refine splitB_intro (fun h=>?_) (fun h=>?_)<;>(try simp only[go_sem] at h)<;>(try exact g_f)<;>(try simp -implicitDefEqProofs only[go_sem]))|(with_reducible refine And.intro (fun h=>?_) (fun h=>?_)<;>(try simp only[go_sem] at h)<;>(try exact g_f))|(with_reducible refine And.intro ?_ ?_;· exact g_x)|(with_reducible intro h;(try simp only[go_sem] at h);(try exact g_f))))
  all_goals (refine CutQ_c rfl ?_; simp [*]; try rfl)
theorem indexFunc_lnk (l : List Lnk) (p : Lnk → Bool) (f : FuncId) (first cap : List AV) (σ : Store) (hl : l.length ≤ 1000000000000000000) (hok : callOk Try.prog f = true)
    (hf : ∀ x ∈ l, ∀ S, ACalls Try.prog f (first ++ .agg (lnkC x) :: cap) S fun r σ' => σ' = S ∧ r = .c (.bool (p x))) :
    ACalls Try.prog 213 [.sl (l.map lnkC), .fn f first cap] σ fun r σ' => σ' = σ ∧ r = intA1 (firstI p 0 l) := by
  refine ACalls_of_awp Try.func213 rfl Try.results213 ?_
  simp only [List.length_cons, List.length_nil, Try.ntmps213, Nat.reduceAdd, Nat.reduceSub, enterA]
  (repeat' (first|(refine g_s fun K hK=>?_)|(refine g_b ?_)|(refine g_r ?_)|(refine g_k ?_;simp only[thenQ,blockQ])|(refine g_e ?_;simp only[thenQ,blockQ,↓reduceIte,Nat.reduceEqDiff])|(refine g_c (fun h=>?_) (fun h=>?_)<;>(try simp only[go_sem] at h)<;>(try exact g_f))|((first|refine g_t ?_|refine g_g ?_|refine g_U ?_|refine g_A ?_|refine g_W ?_);(try simp -implicitDefEqProofs only[go_sem]))|(with_reducible refine hK _ _ ?_;clear hK K)|(clear hK K;first|(with_reducible refine hK _ _ ?_;clear hK K)|(clear hK K;with_reducible refine hK _ _ ?_;clear hK K)|(clear hK K;clear hK K;with_reducible refine hK _ _ ?_;clear hK K))|(with_reducible refine splitB_intro (fun h=>?_) (fun h=>?_)<;>(try simp only[go_sem] at h)<;>(try exact g_f)<;>(try simp -implicitDefEqProofs only[go_sem]))|(with_reducible refine And.intro (fun h=>?_) (fun h=>?_)<;>(try simp only[go_sem] at h)<;>(try exact g_f))|(with_reducible refine And.intro ?_ ?_;· exact g_x)|(with_reducible intro h;(try simp only[go_sem] at h);(try exact g_f))))
  refine AWP_each l (fun k r _ => firstI p 0 l = firstI p k r) (fun k _ _ => [(8, intA1 k)]) (fun _ _ _ => σ) () [] rfl rfl (ALe_of ?_) ?_ ?_
  · simp -implicitDefEqProofs only [go_sem]
  · rintro k r s τ hk0 hk1 h1 L hL
    obtain ⟨u, hu⟩ : ∃ u, at0 l k = u := ⟨_, rfl⟩
    have hm := at0_mem l hk0 hk1
    rw [hu] at h1 hm
    have hc := hf _ hm
    simp -implicitDefEqProofs only [go_sem]
    (repeat' (first|(refine g_s fun K hK=>?_)|(refine g_b ?_)|(refine g_r ?_)|(refine g_k ?_;simp only[thenQ,blockQ])|(refine g_e ?_;simp only[thenQ,blockQ,↓reduceIte,Nat.reduceEqDiff])|(refine g_c (fun h=>?_) (fun h=>?_)<;>(try simp only[go_sem] at h)<;>(try exact g_f))|((first|refine g_t ?_|refine g_g ?_|refine g_U ?_|refine g_A ?_|refine (hc _).use ?_|refine g_q (fun τ=>hc _) ?_|refine g_W ?_);(try simp -implicitDefEqProofs only[go_sem,hu]))|(with_reducible refine hK _ _ ?_;clear hK K)|(clear hK K;first|(with_reducible refine hK _ _ ?_;clear hK K)|(clear hK K;with_reducible refine hK _ _ ?_;clear hK K)|(clear hK K;clear hK K;with_reducible refine hK _ _ ?_;clear hK K))|(with_reducible refine splitB_intro (fun h=>?_) (fun h=>?_)<;>(try simp only[go_sem] at h)<;>(try exact g_f)<;>(try simp -implicitDefEqProofs only[go_sem,hu]))|(with_reducible refine And.intro (fun h=>?_) (fun h=>?_)<;>(try simp only[go_sem] at h)<;>(try exact g_f))|(with_reducible refine And.intro ?_ ?_;· exact g_x)|(with_reducible intro h;(try simp only[go_sem] at h);(try exact g_f))))
    · rw [h1, firstI, if_pos (by assumption)]
    · refine hL () [] _ _ ?_ (ALe_of ?_) rfl
      · rw [h1, firstI, if_neg (by simp [*])]
      · simp -implicitDefEqProofs only [go_sem]
  · intro k s τ hk h1 L
    simp -implicitDefEqProofs only [go_sem]
    (repeat' (first|(refine g_s fun K hK=>?_)|(refine g_b ?_)|(refine g_r ?_)|(refine g_k ?_;simp only[thenQ,blockQ])|(refine g_e ?_;simp only[thenQ,blockQ,↓reduceIte,Nat.reduceEqDiff])|(refine g_c (fun h=>?_) (fun h=>?_)<;>(try simp only[go_sem] at h)<;>(try exact g_f))|((first|refine g_t ?_|refine g_g ?_|refine g_U ?_|refine g_A ?_|refine g_W ?_);(try simp -implicitDefEqProofs only[go_sem]))|(with_reducible refine hK _ _ ?_;clear hK K)|(clear hK K;first|(with_reducible refine hK _ _ ?_;clear hK K)|(clear hK K;with_reducible refine hK _ _ ?_;clear hK K)|(clear hK K;clear hK K;with_reducible refine hK _ _ ?_;clear hK K))|(with_reducible refine splitB_intro (fun h=>?_) (fun h=>?_)<;>(try simp only[go_sem] at h)<;>(try exact g_f)<;>(try simp -implicitDefEqProofs only[go_sem]))|(with_reducible refine And.intro (fun h=>?_) (fun h=>?_)<;>(try simp only[go_sem] at h)<;>(try exact g_f))|(with_reducible refine And.intro ?_ ?_;· exact g_x)|(with_reducible intro h;(try simp only[go_sem] at h);(try exact g_f))))
    rw [h1, firstI]
theorem containsFunc_lnk (l : List Lnk) (p : Lnk → Bool) (f : FuncId) (first cap : List AV) (σ : Store) (hl : l.length ≤ 1000000000000000000) (hok : callOk Try.prog f = true)
    (hf : ∀ x ∈ l, ∀ S, ACalls Try.prog f (first ++ .agg (lnkC x) :: cap) S fun r σ' => σ' = S ∧ r = .c (.bool (p x))) :
    ACalls Try.prog 209 [.sl (l.map lnkC), .fn f first cap] σ fun r σ' => σ' = σ ∧ r = .c (.bool (l.any p)) := by
  have hc := indexFunc_lnk l p f first cap σ hl hok hf
  refine ACalls_of_awp Try.func209 rfl Try.results209 ?_
  simp only [List.length_cons, List.length_nil, Try.ntmps209, Nat.reduceAdd, Nat.reduceSub, enterA]
  (repeat' (first|(refine g_s fun K hK=>?_)|(refine g_b ?_)|(refine g_r ?_)|(refine g_k ?_;simp only[thenQ,blockQ])|(refine g_e ?_;simp only[thenQ,blockQ,↓reduceIte,Nat.reduceEqDiff])|(refine g_c (fun h=>?_) (fun h=>?_)<;>(try simp only[go_sem] at h)<;>(try exact g_f))|((first|refine g_t ?_|refine g_g ?_|refine g_U ?_|refine g_A ?_|refine (hc).use ?_|refine g_q (fun τ=>hc) ?_|refine g_W ?_);(try simp -implicitDefEqProofs only[go_sem]))|(with_reducible refine hK _ _ ?_;clear hK K)|(clear hK K;first|(with_reducible refine hK _ _ ?_;clear hK K)|(clear hK K;with_reducible refine hK _ _ ?_;clear hK K)|(clear hK K;clear hK K;with_reducible refine hK _ _ ?_;clear hK K))|(with_reducible refine splitB_intro (fun h=>?_) (fun h=>?_)<;>(try simp only[go_sem] at h)<;>(try exact g_f)<;>(try simp -implicitDefEqProofs only[go_sem]))|(with_reducible refine And.intro (fun h=>?_) (fun h=>?_)<;>(try simp only[go_sem] at h)<;>(try exact g_f))|(with_reducible refine And.intro ?_ ?_;· exact g_x)|(with_reducible intro h;(try simp only[go_sem] at h);(try exact g_f))))
  rw [← firstI_ge p l 0 (Int.le_refl _)]
theorem linked_calls (n : Net) (hn : NetIn n) (x y : Int) (S : Store) (b : Nat) (rv gv : AV) (hl : n.links.length ≤ 1000000000000000000) (hb : S[b]? = some (.cells 7 [netC n ++ [rv, gv]])) :
    ACalls Try.prog 194 [.ptr b 7 0 0, intA1 x, intA1 y] S fun r σ' => σ' = S ∧ r = .c (.bool (decide (0 ≤ edgeOf n x y))) := by
  have hbL : ∀ τ, (S ++ τ)[b]? = some (.cells 7 [netC n ++ [rv, gv]]) := fun τ => by rw [List.getElem?_append_left (List.getElem?_eq_some_iff.1 hb).1]; exact hb
  have hC := fun S => containsFunc_lnk n.links (fun k => decide (k.fr = x) && decide (k.dst = y)) 210 [] [.cp [intA1 x] 0, .cp [intA1 y] 0] S hl (by kernel_rfl) (fun k _ S => linked1_calls k x y S)
  rw [linked_any hn x y] at hC
  refine ACalls.cutX ?_
  refine ACalls_of_awp Try.func194 rfl Try.results194 ?_
  simp only [List.length_cons, List.length_nil, Try.ntmps194, Nat.reduceAdd, Nat.reduceSub, enterA]
  refine AWP_seq_k fun K hK => ?_
  (refine AWP_region ?_; simp -implicitDefEqProofs only [go_sem])
  refine hK _ _ ?_; clear hK K
  refine AWP_freezeP 4 rfl (by simp only [st0]; rfl) ?_
  simp only [ss0, List.set_cons_zero]
  refine AWP_freezeP 5 rfl (by simp only [st1]; rfl) ?_
  simp only [ss1, List.set_cons_zero, List.set_cons_succ]
  (repeat' (first|(refine g_s fun K hK=>?_)|(refine g_b ?_)|(refine g_r ?_)|(refine g_k ?_;simp only[thenQ,blockQ])|(refine g_e ?_;simp only[thenQ,blockQ,↓reduceIte,Nat.reduceEqDiff])|(refine g_c (fun h=>?_) (fun h=>?_)<;>(try simp only[go_sem] at h)<;>(try exact g_f))|((first|refine g_t ?_|refine g_g ?_|refine g_U ?_|refine g_A ?_|refine (hC _).use ?_|refine g_q (fun τ=>hC _) ?_|refine g_W ?_);(try simp -implicitDefEqProofs only[go_sem,hbL]))|(with_reducible refine hK _ _ ?_;clear hK K)|(clear hK K;first|(with_reducible refine hK _ _ ?_;clear hK K)|(clear hK K;with_reducible refine hK _ _ ?_;clear hK K)|(clear hK K;clear hK K;with_reducible refine hK _ _ ?_;clear hK K))|(with_reducible refine splitB_intro (fun h=>?_) (fun h=>?_)<;>(try simp only[go_sem] at h)<;>(try exact g_f)<;>(try simp -implicitDefEqProofs only[go_sem,hbL]))|(with_reducible refine And.intro (fun h=>?_) (fun h=>?_)<;>(try simp only[go_sem] at h)<;>(try exact g_f))|(with_reducible refine And.intro ?_ ?_;· exact g_x)|(with_reducible intro h;(try simp only[go_sem] at h);(try exact g_f))))
  exact CutQ_c rfl rfl
theorem hears_calls (n : Net) (i : Int) (S : Store) (b : Nat) (rv gv : AV) (hc : checkN n = 0) (hl : n.links.length ≤ 5864062014634) (hb : S[b]? = some (.cells 7 [netC n ++ [rv, gv]])) :
    ACalls Try.prog 190 [.ptr b 7 0 0, intA1 i] S fun r σ' => σ' = S ∧ r = intsA (hearsA n i) := by
  have hbL : ∀ τ, (S ++ τ)[b]? = some (.cells 7 [netC n ++ [rv, gv]]) := fun τ => by rw [List.getElem?_append_left (List.getElem?_eq_some_iff.1 hb).1]; exact hb
  obtain ⟨Z, hZ⟩ : ∃ Z, froms n i = Z := ⟨_, rfl⟩
  have hZl : Z.length ≤ 6 := by rw [← hZ]; exact from_len hc i
  have hZs : sortI Z = hearsA n i := by rw [← hZ]; exact sort_hears hc i
  refine ACalls.cutX ?_
  refine ACalls_of_awp Try.func190 rfl Try.results190 ?_
  simp only [List.length_cons, List.length_nil, Try.ntmps190, Nat.reduceAdd, Nat.reduceSub, enterA]
  (repeat' (first|(refine g_s fun K hK=>?_)|(refine g_b ?_)|(refine g_r ?_)|(refine g_k ?_;simp only[thenQ,blockQ])|(refine g_e ?_;simp only[thenQ,blockQ,↓reduceIte,Nat.reduceEqDiff])|(refine g_c (fun h=>?_) (fun h=>?_)<;>(try simp only[go_sem] at h)<;>(try exact g_f))|((first|refine g_t ?_|refine g_g ?_|refine g_U ?_|refine g_A ?_|refine g_W ?_);(try simp -implicitDefEqProofs only[go_sem,hb]))|(with_reducible refine hK _ _ ?_;clear hK K)|(clear hK K;first|(with_reducible refine hK _ _ ?_;clear hK K)|(clear hK K;with_reducible refine hK _ _ ?_;clear hK K)|(clear hK K;clear hK K;with_reducible refine hK _ _ ?_;clear hK K))|(with_reducible refine splitB_intro (fun h=>?_) (fun h=>?_)<;>(try simp only[go_sem] at h)<;>(try exact g_f)<;>(try simp -implicitDefEqProofs only[go_sem,hb]))|(with_reducible refine And.intro (fun h=>?_) (fun h=>?_)<;>(try simp only[go_sem] at h)<;>(try exact g_f))|(with_reducible refine And.intro ?_ ?_;· exact g_x)|(with_reducible intro h;(try simp only[go_sem] at h);(try exact g_f))))
  refine AWP_pad ?_
  have hJ := hK
  clear hK
  refine AWP_each n.links (fun _ r (s : List Int × Store) => s.1 ++ (r.filter fun k => decide (k.dst = i)).map (·.fr) = Z) (fun k s τ => [(14, intA1 k), (5, accV 1 (S.length + τ.length) s.1)]) (fun _ s τ => S ++ (τ ++ (accO intC 1 s.1 :: s.2))) ([], []) [] hZ ?_ (ALe_of ?_) ?_ ?_
  · simp [accO]
  · simp -implicitDefEqProofs only [go_sem, accV, accO]
  · rintro k r ⟨acc, ζ⟩ τ hk0 hk1 h3 L hL
    obtain ⟨w, hw⟩ : ∃ w, at0 n.links k = w := ⟨_, rfl⟩
    rw [hw] at h3
    simp only at h3
    have hal : acc.length ≤ 6 := by have := congrArg List.length h3; rw [List.length_append] at this; omega
    by_cases he : w.dst = i
    · rw [List.filter_cons_of_pos (by simpa using he), List.map_cons] at h3
      have hal : acc.length + 1 ≤ 6 := by have := congrArg List.length h3; rw [List.length_append, List.length_cons] at this; omega
      rcases acc with _ | ⟨y, acc⟩ <;> simp only [List.length_cons, List.length_nil] at hal <;> simp -implicitDefEqProofs only [go_sem, accV, accO]
      all_goals (repeat' (first|(refine g_s fun K hK=>?_)|(refine g_b ?_)|(refine g_r ?_)|(refine g_k ?_;simp only[thenQ,blockQ])|(refine g_e ?_;simp only[thenQ,blockQ,↓reduceIte,Nat.reduceEqDiff])|(refine g_c (fun h=>?_) (fun h=>?_)<;>(try simp only[go_sem] at h)<;>(try exact g_f))|((first|refine g_t ?_|refine g_G ?_|refine g_U ?_|refine g_A ?_|refine g_W ?_);(try simp -implicitDefEqProofs only[go_sem,hw, he]))|(with_reducible refine hK _ _ ?_;clear hK K)|(clear hK K;first|(with_reducible refine hK _ _ ?_;clear hK K)|(clear hK K;with_reducible refine hK _ _ ?_;clear hK K)|(clear hK K;clear hK K;with_reducible refine hK _ _ ?_;clear hK K))|(with_reducible refine splitB_intro (fun h=>?_) (fun h=>?_)<;>(try simp only[go_sem] at h)<;>(try exact g_f)<;>(try simp -implicitDefEqProofs only[go_sem,hw, he]))|(with_reducible refine And.intro (fun h=>?_) (fun h=>?_)<;>(try simp only[go_sem] at h)<;>(try exact g_f))|(with_reducible refine And.intro ?_ ?_;· exact g_x)|(with_reducible intro h;(try simp only[go_sem] at h);(try exact g_f))))
      · refine hL ([w.fr], []) (τ ++ (.dead :: (ζ ++ [.cells 3 [lnkC w]]))) _ _ (by simpa using h3) (ALe_of ?_) ?_
        · simp -implicitDefEqProofs only [go_sem, accV]
        · simp [accO, intC, lnkC, intA1, he]
      · refine hL (y :: acc ++ [w.fr], []) (τ ++ (.dead :: (ζ ++ [.cells 3 [lnkC w]]))) _ _ (by simpa using h3) (ALe_of ?_) ?_
        · simp -implicitDefEqProofs only [go_sem, accV]
        · simp [accO, intC, lnkC, intA1, he]
    · rw [List.filter_cons_of_neg (by simpa using he)] at h3
      rcases acc with _ | ⟨y, acc⟩ <;> simp -implicitDefEqProofs only [go_sem, accV, accO]
      all_goals (repeat' (first|(refine g_s fun K hK=>?_)|(refine g_b ?_)|(refine g_r ?_)|(refine g_k ?_;simp only[thenQ,blockQ])|(refine g_e ?_;simp only[thenQ,blockQ,↓reduceIte,Nat.reduceEqDiff])|(refine g_c (fun h=>?_) (fun h=>?_)<;>(try simp only[go_sem] at h)<;>(try exact g_f))|((first|refine g_t ?_|refine g_g ?_|refine g_U ?_|refine g_A ?_|refine g_W ?_);(try simp -implicitDefEqProofs only[go_sem,hw, he]))|(with_reducible refine hK _ _ ?_;clear hK K)|(clear hK K;first|(with_reducible refine hK _ _ ?_;clear hK K)|(clear hK K;with_reducible refine hK _ _ ?_;clear hK K)|(clear hK K;clear hK K;with_reducible refine hK _ _ ?_;clear hK K))|(with_reducible refine splitB_intro (fun h=>?_) (fun h=>?_)<;>(try simp only[go_sem] at h)<;>(try exact g_f)<;>(try simp -implicitDefEqProofs only[go_sem,hw, he]))|(with_reducible refine And.intro (fun h=>?_) (fun h=>?_)<;>(try simp only[go_sem] at h)<;>(try exact g_f))|(with_reducible refine And.intro ?_ ?_;· exact g_x)|(with_reducible intro h;(try simp only[go_sem] at h);(try exact g_f))))
      · refine hL ([], ζ ++ [.cells 3 [lnkC w]]) τ _ _ (by simpa using h3) (ALe_of ?_) ?_
        · simp -implicitDefEqProofs only [go_sem, accV]
        · simp [accO, intC, lnkC, intA1, he]
      · refine hL (y :: acc, ζ ++ [.cells 3 [lnkC w]]) τ _ _ (by simpa using h3) (ALe_of ?_) ?_
        · simp -implicitDefEqProofs only [go_sem, accV]
        · simp [accO, intC, lnkC, intA1, he]
  · rintro k ⟨acc, ζ⟩ τ hk h3 L
    simp only [List.filter_nil, List.map_nil, List.append_nil] at h3
    subst h3
    rcases acc with _ | ⟨y, acc⟩ <;> simp -implicitDefEqProofs only [go_sem, accV, accO]
    · (repeat' (first|(refine g_s fun K hK=>?_)|(refine g_b ?_)|(refine g_r ?_)|(refine g_k ?_;simp only[thenQ,blockQ])|(refine g_e ?_;simp only[thenQ,blockQ,↓reduceIte,Nat.reduceEqDiff])|(refine g_c (fun h=>?_) (fun h=>?_)<;>(try simp only[go_sem] at h)<;>(try exact g_f))|((first|refine g_t ?_|refine g_g ?_|refine g_U ?_|refine g_A ?_|refine g_W ?_);(try simp -implicitDefEqProofs only[go_sem]))|(with_reducible refine hK _ _ ?_;clear hK K)|(clear hK K;first|(with_reducible refine hK _ _ ?_;clear hK K)|(clear hK K;with_reducible refine hK _ _ ?_;clear hK K)|(clear hK K;clear hK K;with_reducible refine hK _ _ ?_;clear hK K))|(with_reducible refine splitB_intro (fun h=>?_) (fun h=>?_)<;>(try simp only[go_sem] at h)<;>(try exact g_f)<;>(try simp -implicitDefEqProofs only[go_sem]))|(with_reducible refine And.intro (fun h=>?_) (fun h=>?_)<;>(try simp only[go_sem] at h)<;>(try exact g_f))|(with_reducible refine And.intro ?_ ?_;· exact g_x)|(with_reducible intro h;(try simp only[go_sem] at h);(try exact g_f))))
      refine hJ _ _ ?_
      clear hJ
      (repeat' (first|(refine g_s fun K hK=>?_)|(refine g_b ?_)|(refine g_r ?_)|(refine g_k ?_;simp only[thenQ,blockQ])|(refine g_e ?_;simp only[thenQ,blockQ,↓reduceIte,Nat.reduceEqDiff])|(refine g_c (fun h=>?_) (fun h=>?_)<;>(try simp only[go_sem] at h)<;>(try exact g_f))|((first|refine g_t ?_|refine g_g ?_|refine g_U ?_|refine g_A ?_|refine (sort0_calls _).use ?_|refine g_q (fun τ=>sort0_calls _) ?_|refine g_W ?_);(try simp -implicitDefEqProofs only[go_sem]))|(with_reducible refine hK _ _ ?_;clear hK K)|(clear hK K;first|(with_reducible refine hK _ _ ?_;clear hK K)|(clear hK K;with_reducible refine hK _ _ ?_;clear hK K)|(clear hK K;clear hK K;with_reducible refine hK _ _ ?_;clear hK K))|(with_reducible refine splitB_intro (fun h=>?_) (fun h=>?_)<;>(try simp only[go_sem] at h)<;>(try exact g_f)<;>(try simp -implicitDefEqProofs only[go_sem]))|(with_reducible refine And.intro (fun h=>?_) (fun h=>?_)<;>(try simp only[go_sem] at h)<;>(try exact g_f))|(with_reducible refine And.intro ?_ ?_;· exact g_x)|(with_reducible intro h;(try simp only[go_sem] at h);(try exact g_f))))
      refine CutQ_w (τ := τ ++ (.dead :: ζ)) rfl (.c _) ?_
      rw [← hZs]
      exact .nil
    · (repeat' (first|(refine g_s fun K hK=>?_)|(refine g_b ?_)|(refine g_r ?_)|(refine g_k ?_;simp only[thenQ,blockQ])|(refine g_e ?_;simp only[thenQ,blockQ,↓reduceIte,Nat.reduceEqDiff])|(refine g_c (fun h=>?_) (fun h=>?_)<;>(try simp only[go_sem] at h)<;>(try exact g_f))|((first|refine g_t ?_|refine g_g ?_|refine g_U ?_|refine g_A ?_|refine g_W ?_);(try simp -implicitDefEqProofs only[go_sem]))|(with_reducible refine hK _ _ ?_;clear hK K)|(clear hK K;first|(with_reducible refine hK _ _ ?_;clear hK K)|(clear hK K;with_reducible refine hK _ _ ?_;clear hK K)|(clear hK K;clear hK K;with_reducible refine hK _ _ ?_;clear hK K))|(with_reducible refine splitB_intro (fun h=>?_) (fun h=>?_)<;>(try simp only[go_sem] at h)<;>(try exact g_f)<;>(try simp -implicitDefEqProofs only[go_sem]))|(with_reducible refine And.intro (fun h=>?_) (fun h=>?_)<;>(try simp only[go_sem] at h)<;>(try exact g_f))|(with_reducible refine And.intro ?_ ?_;· exact g_x)|(with_reducible intro h;(try simp only[go_sem] at h);(try exact g_f))))
      refine hJ _ _ ?_
      clear hJ
      have hg : (S ++ (τ ++ (.cells 1 ((y :: acc).map intC) :: ζ)))[S.length + τ.length]? = some (.cells 1 ((y :: acc).map intC)) := by
        simp -implicitDefEqProofs only [go_sem]
      have hsl : (sortI (y :: acc)).length = acc.length + 1 := sortI_len _
      (repeat' (first|(refine g_s fun K hK=>?_)|(refine g_b ?_)|(refine g_r ?_)|(refine g_k ?_;simp only[thenQ,blockQ])|(refine g_e ?_;simp only[thenQ,blockQ,↓reduceIte,Nat.reduceEqDiff])|(refine g_c (fun h=>?_) (fun h=>?_)<;>(try simp only[go_sem] at h)<;>(try exact g_f))|((first|refine g_g ?_|refine g_U ?_|refine g_A ?_|refine ACalls.useA (sort_calls _ (S.length + τ.length) (acc.length + 1) (y :: acc) hg hZl (by simp)) ?_|refine g_W ?_);(try simp -implicitDefEqProofs only[go_sem]))|(with_reducible refine hK _ _ ?_;clear hK K)|(clear hK K;first|(with_reducible refine hK _ _ ?_;clear hK K)|(clear hK K;with_reducible refine hK _ _ ?_;clear hK K)|(clear hK K;clear hK K;with_reducible refine hK _ _ ?_;clear hK K))|(with_reducible refine splitB_intro (fun h=>?_) (fun h=>?_)<;>(try simp only[go_sem] at h)<;>(try exact g_f)<;>(try simp -implicitDefEqProofs only[go_sem]))|(with_reducible refine And.intro (fun h=>?_) (fun h=>?_)<;>(try simp only[go_sem] at h)<;>(try exact g_f))|(with_reducible refine And.intro ?_ ?_;· exact g_x)|(with_reducible intro h;(try simp only[go_sem] at h);(try exact g_f))))
      have hel : elemsA (S ++ (τ ++ (.cells 1 ((sortI (y :: acc)).map intC) :: ζ))) (.own (S.length + τ.length) 1 0 (acc.length + 1) (acc.length + 1)) = some ((sortI (y :: acc)).map intC) := by
        simp [elemsA, hsl, List.take_of_length_le]
      refine AWP_freezeT 4 (a := .own (S.length + τ.length) 1 0 (acc.length + 1) (acc.length + 1)) (es := (sortI (y :: acc)).map intC) (by first | rfl | (simp -implicitDefEqProofs only [go_sem]; done) | (simp -implicitDefEqProofs only [go_sem]; rfl)) hel ?_
      have hkil : killA (S ++ (τ ++ Ob.cells 1 ((sortI (y :: acc)).map intC) :: ζ)) (.own (S.length + τ.length) 1 0 (acc.length + 1) (acc.length + 1)) = S ++ (τ ++ .dead :: ζ) := by simp [killA]
      rw [hkil]
      (repeat' (first|(refine g_s fun K hK=>?_)|(refine g_b ?_)|(refine g_r ?_)|(refine g_k ?_;simp only[thenQ,blockQ])|(refine g_e ?_;simp only[thenQ,blockQ,↓reduceIte,Nat.reduceEqDiff])|(refine g_c (fun h=>?_) (fun h=>?_)<;>(try simp only[go_sem] at h)<;>(try exact g_f))|((first|refine g_t ?_|refine g_g ?_|refine g_U ?_|refine g_A ?_|refine g_W ?_);(try simp -implicitDefEqProofs only[go_sem]))|(with_reducible refine hK _ _ ?_;clear hK K)|(clear hK K;first|(with_reducible refine hK _ _ ?_;clear hK K)|(clear hK K;with_reducible refine hK _ _ ?_;clear hK K)|(clear hK K;clear hK K;with_reducible refine hK _ _ ?_;clear hK K))|(with_reducible refine splitB_intro (fun h=>?_) (fun h=>?_)<;>(try simp only[go_sem] at h)<;>(try exact g_f)<;>(try simp -implicitDefEqProofs only[go_sem]))|(with_reducible refine And.intro (fun h=>?_) (fun h=>?_)<;>(try simp only[go_sem] at h)<;>(try exact g_f))|(with_reducible refine And.intro ?_ ?_;· exact g_x)|(with_reducible intro h;(try simp only[go_sem] at h);(try exact g_f))))
      rw [hZs]
      exact CutQ_w rfl (Bd.ints _) (.eq rfl)
end Go.Proofs.Ytephecognbbaoab
namespace Go.Proofs.Ytephecognbbaoab
def Keeps (ρ S : Store) : Prop := ∃ T, S = ρ ++ T
theorem Keeps.app {ρ S τ : Store} (h : Keeps ρ S) : Keeps ρ (S ++ τ) := by
  obtain ⟨T, rfl⟩ := h
  exact ⟨T ++ τ, List.append_assoc ..⟩
theorem Keeps.set {ρ S : Store} {x : Nat} {o : Ob} (h : Keeps ρ S) (hx : ρ.length ≤ x) : Keeps ρ (S.set x o) := by
  obtain ⟨T, rfl⟩ := h
  exact ⟨T.set (x - ρ.length) o, List.set_append_right _ _ hx⟩
theorem Keeps.len {ρ S : Store} (h : Keeps ρ S) : ρ.length ≤ S.length := by
  obtain ⟨T, rfl⟩ := h
  simp
theorem st_app {S τ : Store} {x : Nat} {o : Ob} (h : S[x]? = some o) : (S ++ τ)[x]? = some o := by
  rw [List.getElem?_append_left (List.getElem?_eq_some_iff.1 h).1]
  exact h
theorem st_set {S : Store} {x y : Nat} {o o' : Ob} (h : S[x]? = some o) (hne : y ≠ x) : (S.set y o')[x]? = some o := by
  rw [List.getElem?_set_ne hne]
  exact h
theorem st_setApp {S τ : Store} {x : Nat} {o o' : Ob} (h : S[x]? = some o) : (S ++ τ).set x o' = S.set x o' ++ τ :=
  List.set_append_left _ _ (List.getElem?_eq_some_iff.1 h).1
theorem st_self {S : Store} {x : Nat} {o o' : Ob} (h : S[x]? = some o) : (S.set x o')[x]? = some o' :=
  List.getElem?_set_self (List.getElem?_eq_some_iff.1 h).1
theorem zipW_set {X Y Z : Type} (f : X → Y → Z) : ∀ (i : Nat) (x : X) (y : Y) (l : List X) (l' : List Y), List.zipWith f (l.set i x) (l'.set i y) = (List.zipWith f l l').set i (f x y)
  | _, _, _, [], _ => by simp
  | _, _, _, _ :: _, [] => by simp
  | 0, _, _, _ :: _, _ :: _ => rfl
  | i + 1, x, y, _ :: l, _ :: l' => by simp [zipW_set f i x y l l']
theorem nodup_inj {X : Type} : ∀ {l : List X}, l.Nodup → ∀ (i j : Nat) (hi : i < l.length) (hj : j < l.length), l[i] = l[j] → i = j
  | [], _, i, _, hi, _, _ => absurd hi (Nat.not_lt_zero i)
  | x :: l, h, 0, 0, _, _, _ => rfl
  | x :: l, h, 0, j + 1, hi, hj, e => absurd ((show x = l[j]'(Nat.lt_of_succ_lt_succ hj) from e).symm ▸ List.getElem_mem (Nat.lt_of_succ_lt_succ hj) : x ∈ l) (List.nodup_cons.1 h).1
  | x :: l, h, i + 1, 0, hi, hj, e => absurd ((show l[i]'(Nat.lt_of_succ_lt_succ hi) = x from e) ▸ List.getElem_mem (Nat.lt_of_succ_lt_succ hi) : x ∈ l) (List.nodup_cons.1 h).1
  | x :: l, h, i + 1, j + 1, hi, hj, e => by
    rw [nodup_inj (List.nodup_cons.1 h).2 i j (Nat.lt_of_succ_lt_succ hi) (Nat.lt_of_succ_lt_succ hj) e]
theorem tabR_known : knownT Try.prog 234 = true := by kernel_rfl
theorem tabR_agg : aggSize Try.prog 234 = none := by kernel_rfl
theorem tabR_info : (Try.prog.info? 234).isSome = true := by kernel_rfl
theorem tabR_cells : Try.prog.cellsOf 234 = 1 := by kernel_rfl
theorem tabR_bytes : Try.prog.bytesOf 234 = 8 := by kernel_rfl
theorem tabR_zero : zeroA Try.prog 234 = some [.c (.pointer none)] := by kernel_rfl
attribute [go_sem] Try.underlying234 tabR_known tabR_agg tabR_info tabR_cells tabR_bytes tabR_zero
section
variable {S : Store} {lo b : Nat} {n : Net} {e : Eng} {rb : Nat} {tb : List Nat} {gv : AV} {gi : List Nat}
theorem BagAt.app {bag : List Mail} {τ : Store} (h : BagAt S gv bag gi) : BagAt (S ++ τ) gv bag gi := by
  rcases h with ⟨h1, h2, h3⟩ | ⟨gb, rest, h1, h2, h3, h4, h5⟩
  · exact .inl ⟨h1, h2, h3⟩
  · exact .inr ⟨gb, rest, h1, h2, st_app h3, h4, h5⟩
theorem BagAt.set {bag : List Mail} {x : Nat} {o : Ob} (h : BagAt S gv bag gi) (hx : x ∉ gi) : BagAt (S.set x o) gv bag gi := by
  rcases h with ⟨h1, h2, h3⟩ | ⟨gb, rest, h1, h2, h3, h4, h5⟩
  · exact .inl ⟨h1, h2, h3⟩
  · exact .inr ⟨gb, rest, h1, h2, st_set h3 (fun e => hx (by rw [h1, e]; simp)), h4, h5⟩
theorem MachW.app {τ : Store} (h : MachW S lo b n e rb tb gv gi) : MachW (S ++ τ) lo b n e rb tb gv gi :=
  ⟨st_app h.hb, st_app h.hrb, h.tl, fun i h1 h2 => st_app (h.ht i h1 h2), h.bag.app, h.nd, h.lo⟩
theorem MachW.ne (h : MachW S lo b n e rb tb gv gi) : b ≠ rb ∧ b ∉ tb ∧ b ∉ gi ∧ rb ∉ tb ∧ rb ∉ gi ∧ tb.Nodup ∧ gi.Nodup ∧ ∀ x ∈ tb, x ∉ gi := by
  have := h.nd
  rw [List.nodup_cons, List.nodup_cons, List.nodup_append] at this
  simp only [List.mem_cons, List.mem_append, not_or] at this
  obtain ⟨⟨h1, h2, h3⟩, ⟨h4, h5⟩, h6, h7, h8⟩ := this
  exact ⟨h1, h2, h3, h4, h5, h6, h7, fun x hx hg => h8 x hx x hg rfl⟩
theorem MachW.row (h : MachW S lo b n e rb tb gv gi) {i : Int} (h0 : 0 ≤ i) (h1 : i < e.routers.length) : ∃ t, tb[i.toNat]? = some t ∧ t ∈ tb ∧ (List.zipWith rtrV e.routers tb)[i.toNat]? = some (rtrV (at0 e.routers i) t) ∧ S[t]? = some (.cells 1 ((at0 e.routers i).told.map rowC)) := by
  have hi : i.toNat < e.routers.length := by omega
  have hi2 : i.toNat < tb.length := by rw [h.tl]; exact hi
  have e1 : at0 e.routers i = e.routers[i.toNat] := by simp [at0, List.getD_eq_getElem?_getD, hi]
  refine ⟨tb[i.toNat], List.getElem?_eq_getElem hi2, List.getElem_mem hi2, ?_, ?_⟩
  · rw [List.getElem?_zipWith, List.getElem?_eq_getElem hi, List.getElem?_eq_getElem hi2, e1]
  · rw [e1]
    exact h.ht _ hi2 hi
/-- A router's routes are changed. -/
theorem MachW.routes (h : MachW S lo b n e rb tb gv gi) {i : Int} {t : Nat} (h0 : 0 ≤ i) (h1 : i < e.routers.length) (ht : tb[i.toNat]? = some t) (r' : Rtr) (hr : r'.told = (at0 e.routers i).told) :
    MachW (S.set rb (.cells 2 ((List.zipWith rtrV e.routers tb).set i.toNat (rtrV r' t)))) lo b n (setR e i r') rb tb gv gi := by
  obtain ⟨n1, n2, n3, n4, n5, n6, n7, n8⟩ := h.ne
  have hi : i.toNat < e.routers.length := by omega
  have hi2 : i.toNat < tb.length := by rw [h.tl]; exact hi
  have e1 : at0 e.routers i = e.routers[i.toNat] := by simp [at0, List.getD_eq_getElem?_getD, hi]
  refine ⟨?_, ?_, ?_, fun k h2 h3 => ?_, h.bag.set n5, h.nd, h.lo⟩
  · rw [setR, List.length_set]
    exact st_set h.hb n1.symm
  · rw [st_self h.hrb, setR]
    congr 2
    have : tb = tb.set i.toNat t := by
      have := (List.getElem?_eq_some_iff.1 ht).2
      rw [← this, List.set_getElem_self]
    conv => rhs; rw [this]
    exact (zipW_set rtrV i.toNat r' t e.routers tb).symm
  · rw [setR, List.length_set]
    exact h.tl
  · have h3' : k < e.routers.length := by simpa [setR] using h3
    have := h.ht k h2 h3'
    have e2 : (setR e i r').routers[k].told = e.routers[k].told := by
      simp only [setR, List.getElem_set]
      split
      · rename_i e; subst e; rw [hr, e1]
      · rfl
    rw [e2]
    exact st_set this (fun e => n4 (by rw [e]; exact List.getElem_mem h2))
/-- A router's told rows are changed. -/
theorem MachW.told (h : MachW S lo b n e rb tb gv gi) {i : Int} {t : Nat} (h0 : 0 ≤ i) (h1 : i < e.routers.length) (ht : tb[i.toNat]? = some t) (told : List (List Int)) (hl : told.length = (at0 e.routers i).told.length) :
    MachW (S.set t (.cells 1 (told.map rowC))) lo b n (setR e i ⟨(at0 e.routers i).routes, told⟩) rb tb gv gi := by
  obtain ⟨n1, n2, n3, n4, n5, n6, n7, n8⟩ := h.ne
  have hi : i.toNat < e.routers.length := by omega
  have hi2 : i.toNat < tb.length := by rw [h.tl]; exact hi
  have htm : t ∈ tb := List.mem_of_getElem? ht
  have e1 : at0 e.routers i = e.routers[i.toNat] := by simp [at0, List.getD_eq_getElem?_getD, hi]
  refine ⟨?_, ?_, ?_, fun k h2 h3 => ?_, h.bag.set (n8 t htm), h.nd, h.lo⟩
  · rw [setR, List.length_set]
    exact st_set h.hb (fun e => n2 (e ▸ htm))
  · rw [st_set h.hrb (fun e => n4 (e ▸ htm)), setR]
    congr 2
    have : tb = tb.set i.toNat t := by
      have := (List.getElem?_eq_some_iff.1 ht).2
      rw [← this, List.set_getElem_self]
    conv => rhs; rw [this]
    rw [zipW_set]
    refine (List.ext_getElem? fun k => ?_).symm
    rw [List.getElem?_set]
    split
    · rename_i hk
      subst hk
      obtain ⟨t', h5, _, h6, _⟩ := h.row h0 h1
      rw [ht] at h5
      cases h5
      rw [h6]
      split
      · rw [rtrV, rtrV, hl]
      · rename_i h7
        rw [List.length_zipWith] at h7
        omega
    · rfl
  · rw [setR, List.length_set]
    exact h.tl
  · have h3' : k < e.routers.length := by simpa [setR] using h3
    have := h.ht k h2 h3'
    by_cases hk : i.toNat = k
    · subst hk
      have e2 : (setR e i ⟨(at0 e.routers i).routes, told⟩).routers[i.toNat].told = told := by simp [setR]
      have e3 : tb[i.toNat] = t := (List.getElem?_eq_some_iff.1 ht).2
      rw [e2, e3]
      rw [e3] at this
      exact st_self this
    · have e2 : (setR e i ⟨(at0 e.routers i).routes, told⟩).routers[k].told = e.routers[k].told := by
        simp only [setR, List.getElem_set]
        rw [if_neg hk]
      rw [e2]
      refine st_set this fun e => hk ?_
      have h4 := (List.getElem?_eq_some_iff.1 ht).2
      rw [← h4] at e
      exact nodup_inj n6 _ _ _ _ e
/-- Another bag. -/
theorem MachW.bagged (h : MachW S lo b n e rb tb gv gi) {gv' : AV} {gi' : List Nat} {bag : List Mail} {S' : Store} (hb : S'[b]? = some (.cells 7 [netC n ++ [.own rb 2 0 e.routers.length e.routers.length, gv']]))
    (hs : ∀ x ∈ rb :: tb, S'[x]? = S[x]?) (hbag : BagAt S' gv' bag gi') (hn : gi'.Nodup) (hg : ∀ x ∈ gi', x ∉ b :: rb :: tb ∧ lo ≤ x) : MachW S' lo b n ⟨e.routers, bag⟩ rb tb gv' gi' := by
  obtain ⟨n1, n2, n3, n4, n5, n6, n7, n8⟩ := h.ne
  refine ⟨hb, ?_, h.tl, fun k h2 h3 => ?_, hbag, ?_, ?_⟩
  · rw [hs rb (by simp)]
    exact h.hrb
  · rw [hs _ (List.mem_cons_of_mem _ (List.getElem_mem h2))]
    exact h.ht k h2 h3
  · rw [List.nodup_cons, List.nodup_cons, List.nodup_append]
    simp only [List.mem_cons, List.mem_append, not_or]
    have hg' : ∀ x ∈ gi', x ≠ b ∧ x ≠ rb ∧ x ∉ tb := fun x hx => by
      have := (hg x hx).1
      simpa [not_or] using this
    exact ⟨⟨n1, n2, fun hc => (hg' b hc).1 rfl⟩, ⟨n4, fun hc => (hg' rb hc).2.1 rfl⟩, n6, hn, fun x hx y hy e => (hg' y hy).2.2 (e ▸ hx)⟩
  · intro x hx
    simp only [List.mem_cons, List.mem_append] at hx
    rcases hx with rfl | rfl | hx | hx
    · exact h.lo _ (by simp)
    · exact h.lo _ (by simp)
    · exact h.lo _ (by simp [hx])
    · exact (hg x hx).2
end
def MachK (ρ S : Store) (b : Nat) (n : Net) (e : Eng) : Prop := Keeps ρ S ∧ Mach S ρ.length b n e
theorem elook_calls (n : Net) (e : Eng) (hc : checkN n = 0) (hl : n.links.length ≤ 5864062014634) (he : EngIn n e) (ρ S : Store) (b : Nat) (hS : MachK ρ S b n e) (i : Int) (h0 : 0 ≤ i) (h1 : i < n.nodes) :
    ACalls Try.prog 191 [.ptr b 7 0 0, intA1 i] S fun r S' => MachK ρ S' b n (lookedE n e i) ∧ r = .tup [] := by
  obtain ⟨hK0, rb, tb, gv, gi, M⟩ := hS
  have hn := netIn_of hc
  have n6 := hn.n6
  have hel := he.len
  have hir : i < e.routers.length := by omega
  obtain ⟨t, ht1, ht2, hR, ht3⟩ := M.row h0 hir
  have hr := rtr_at he ⟨h0, h1⟩
  have hHH : ∀ k j, 0 ≤ k → k < n.nodes → 0 ≤ j → j < n.nodes → 0 ≤ toldAt n (at0 e.routers i) k j ∧ toldAt n (at0 e.routers i) k j < n.alg.size := fun k j a b c d => toldAt_in hn hr ⟨a, b⟩ ⟨c, d⟩
  have hlk := fun τ => look_calls n i (fun k j => toldAt n (at0 e.routers i) k j) 205 [.cp [.ptr rb 2 i.toNat 0] 0, .cp [.ptr b 7 0 0] 0] ((S ++ [.dead, .dead]) ++ τ) hn hl h0 h1 (by kernel_rfl) hHH (fun k j a b c d S' hS' => by
    obtain ⟨τ', rfl⟩ := hS'
    rw [List.append_assoc, List.append_assoc]
    exact elook1_calls n (at0 e.routers i) S _ rb t i.toNat _ gv _ _ hn hr M.hb M.hrb hR ht3 k j a b c d ([.dead, .dead] ++ (τ ++ τ')))
  have hbL : ∀ τ, (S ++ τ)[b]? = some (.cells 7 [netC n ++ [.own rb 2 0 e.routers.length e.routers.length, gv]]) := fun τ => st_app M.hb
  have hrL : ∀ τ, (S ++ τ)[rb]? = some (.cells 2 (List.zipWith rtrV e.routers tb)) := fun τ => st_app M.hrb
  have hrS : ∀ τ o, (S ++ τ).set rb o = S.set rb o ++ τ := fun τ o => st_setApp M.hrb
  have hzl : (List.zipWith rtrV e.routers tb).length = e.routers.length := by rw [List.length_zipWith, M.tl, Nat.min_self]
  refine ACalls_of_awp Try.func191 rfl Try.results191 ?_
  simp only [List.length_cons, List.length_nil, Try.ntmps191, Nat.reduceAdd, Nat.reduceSub, enterA]
  refine AWP_seq_k fun K hK => ?_
  (refine AWP_region ?_; simp -implicitDefEqProofs only [go_sem])
  refine hK _ _ ?_; clear hK K
  refine AWP_freezeP 2 rfl (by simp only [st0]; rfl) ?_
  simp only [ss0, List.set_cons_zero]
  refine AWP_seq_k fun K hK => ?_
  (refine AWP_region ?_; simp -implicitDefEqProofs only [go_sem, hbL, hrL])
  refine ⟨h0, hir, ?_⟩
  refine hK _ _ ?_; clear hK K
  refine AWP_freezeP 4 rfl (by simp only [st1]; rfl) ?_
  simp only [ss1, List.set_cons_zero, List.set_cons_succ]
  (repeat' (first|(refine g_s fun K hK=>?_)|(refine g_b ?_)|(refine g_r ?_)|(refine g_k ?_;simp only[thenQ,blockQ])|(refine g_e ?_;simp only[thenQ,blockQ,↓reduceIte,Nat.reduceEqDiff])|(refine g_c (fun h=>?_) (fun h=>?_)<;>(try simp only[go_sem] at h)<;>(try exact g_f))|((first|refine g_t ?_|refine g_g ?_|refine g_U ?_|refine g_A ?_|refine g_q hlk ?_|refine g_W ?_);(try simp -implicitDefEqProofs only[go_sem,hbL, hrL, hrS, hR, hzl]))|(with_reducible refine hK _ _ ?_;clear hK K)|(clear hK K;first|(with_reducible refine hK _ _ ?_;clear hK K)|(clear hK K;with_reducible refine hK _ _ ?_;clear hK K)|(clear hK K;clear hK K;with_reducible refine hK _ _ ?_;clear hK K))|(with_reducible refine splitB_intro (fun h=>?_) (fun h=>?_)<;>(try simp only[go_sem] at h)<;>(try exact g_f)<;>(try simp -implicitDefEqProofs only[go_sem,hbL, hrL, hrS, hR, hzl]))|(with_reducible refine And.intro (fun h=>?_) (fun h=>?_)<;>(try simp only[go_sem] at h)<;>(try exact g_f))|(with_reducible refine And.intro ?_ ?_;· exact g_x)|(with_reducible intro h;(try simp only[go_sem] at h);(try exact g_f))))
  exact ⟨(hK0.set (M.lo rb (by simp))).app, rb, tb, gv, gi, (M.routes h0 hir ht1 (lookedR n (at0 e.routers i) i) rfl).app⟩
end Go.Proofs.Ytephecognbbaoab
namespace Go.Proofs.Ytephecognbbaoab
theorem BagAt.len {S : Store} {gv : AV} {bag : List Mail} {gi : List Nat} (h : BagAt S gv bag gi) : lenA gv = some bag.length := by
  rcases h with ⟨h1, h2, h3⟩ | ⟨gb, rest, h1, h2, h3, h4, h5⟩
  · subst h3; subst h1; rfl
  · subst h2; rfl
theorem MachW.lt {S : Store} {lo b : Nat} {n : Net} {e : Eng} {rb : Nat} {tb : List Nat} {gv : AV} {gi : List Nat} (h : MachW S lo b n e rb tb gv gi) : ∀ x ∈ b :: rb :: tb, x < S.length := fun x hx => by
  rcases List.mem_cons.1 hx with rfl | hx
  · exact (List.getElem?_eq_some_iff.1 h.hb).1
  · rcases List.mem_cons.1 hx with rfl | hx
    · exact (List.getElem?_eq_some_iff.1 h.hrb).1
    · obtain ⟨k, hk, rfl⟩ := List.mem_iff_getElem.1 hx
      exact (List.getElem?_eq_some_iff.1 (h.ht k hk (by have := h.tl; omega))).1
theorem MachW.push_nil {S : Store} {lo b : Nat} {n : Net} {R : List Rtr} {bag : List Mail} {rb : Nat} {tb : List Nat} {gv : AV} {gi : List Nat} (h : MachW S lo b n ⟨R, bag⟩ rb tb gv gi) (hlo : lo ≤ S.length) (hb : bag = []) (m : Mail) :
    MachW (S.set b (.cells 7 [netC n ++ [.own rb 2 0 R.length R.length, .own S.length 3 0 1 1]]) ++ [.cells 3 [mailC m]]) lo b n ⟨R, [m]⟩ rb tb (.own S.length 3 0 1 1) [S.length] := by
  obtain ⟨n1, n2, n3, n4, n5, n6, n7, n8⟩ := h.ne
  have hlt := h.lt
  refine h.bagged (st_app (st_self h.hb)) (fun x hx => ?_) (.inr ⟨S.length, [], rfl, rfl, ?_, fun _ h => absurd h List.not_mem_nil, by simp⟩) (by simp) (fun x hx => ?_)
  · rw [List.getElem?_append_left (by rw [List.length_set]; exact hlt x (List.mem_cons_of_mem _ hx)), List.getElem?_set_ne]
    rcases List.mem_cons.1 hx with rfl | hx
    · exact n1
    · exact fun e => n2 (e ▸ hx)
  · rw [List.getElem?_append_right (by simp)]
    simp
  · rw [List.mem_singleton.1 hx]
    exact ⟨fun hc => absurd (hlt _ hc) (Nat.lt_irrefl _), hlo⟩
theorem MachW.push_own {S : Store} {lo b : Nat} {n : Net} {R : List Rtr} {bag : List Mail} {rb : Nat} {tb : List Nat} {gb c : Nat} (h : MachW S lo b n ⟨R, bag⟩ rb tb (.own gb 3 0 bag.length c) [gb]) (hlo : lo ≤ S.length) (m : Mail) (hl : bag.length + 1 ≤ 120) :
    MachW ((S.set gb .dead).set b (.cells 7 [netC n ++ [.own rb 2 0 R.length R.length, .own S.length 3 0 (bag.length + 1) (bag.length + 1)]]) ++ [.cells 3 (bag.map mailC ++ [mailC m])]) lo b n ⟨R, bag ++ [m]⟩ rb tb (.own S.length 3 0 (bag.length + 1) (bag.length + 1)) [S.length] := by
  obtain ⟨n1, n2, n3, n4, n5, n6, n7, n8⟩ := h.ne
  have hlt := h.lt
  have hgb : gb ≠ b := fun e => n3 (by rw [e]; simp)
  refine h.bagged (st_app (st_self (st_set h.hb hgb))) (fun x hx => ?_) (.inr ⟨S.length, [], rfl, by simp, ?_, fun _ h => absurd h List.not_mem_nil, by simpa using hl⟩) (by simp) (fun x hx => ?_)
  · rw [List.getElem?_append_left (by simp only [List.length_set]; exact hlt x (List.mem_cons_of_mem _ hx)), List.getElem?_set_ne, List.getElem?_set_ne]
    · rcases List.mem_cons.1 hx with rfl | hx
      · exact fun e => n5 (by rw [e]; simp)
      · exact fun e => n8 x hx (by rw [e]; simp)
    · rcases List.mem_cons.1 hx with rfl | hx
      · exact n1
      · exact fun e => n2 (e ▸ hx)
  · rw [List.getElem?_append_right (by simp)]
    simp
  · rw [List.mem_singleton.1 hx]
    exact ⟨fun hc => absurd (hlt _ hc) (Nat.lt_irrefl _), hlo⟩
theorem MachW.bag_in {S : Store} {lo b : Nat} {n : Net} {R : List Rtr} {bag : List Mail} {rb : Nat} {tb : List Nat} {gv : AV} {gb : Nat} (h : MachW S lo b n ⟨R, bag⟩ rb tb gv [gb]) (bag' : List Mail) (rest : List (List AV)) (hl : bag'.length + rest.length ≤ 120) (hr : ∀ e ∈ rest, e.length = 3 ∧ e.all oneA = true) (hg : ∃ o, S[gb]? = some o) :
    MachW ((S.set gb (.cells 3 (bag'.map mailC ++ rest))).set b (.cells 7 [netC n ++ [.own rb 2 0 R.length R.length, .own gb 3 0 bag'.length (bag'.length + rest.length)]])) lo b n ⟨R, bag'⟩ rb tb (.own gb 3 0 bag'.length (bag'.length + rest.length)) [gb] := by
  obtain ⟨n1, n2, n3, n4, n5, n6, n7, n8⟩ := h.ne
  have hgb : gb ≠ b := fun e => n3 (by rw [e]; simp)
  obtain ⟨o, hg⟩ := hg
  refine h.bagged (st_self (st_set h.hb hgb)) (fun x hx => ?_) (.inr ⟨gb, rest, rfl, rfl, st_set (st_self hg) (Ne.symm hgb), hr, hl⟩) (by simp) (fun x hx => ?_)
  · rw [List.getElem?_set_ne, List.getElem?_set_ne]
    · rcases List.mem_cons.1 hx with rfl | hx
      · exact fun e => n5 (by rw [e]; simp)
      · exact fun e => n8 x hx (by rw [e]; simp)
    · rcases List.mem_cons.1 hx with rfl | hx
      · exact n1
      · exact fun e => n2 (e ▸ hx)
  · rw [List.mem_singleton.1 hx]
    refine ⟨?_, h.lo _ (by simp)⟩
    simp only [List.mem_cons, not_or]
    exact ⟨hgb, fun e => n5 (by rw [e]; simp), fun e => n8 _ e (by simp)⟩
theorem MachW.push_in {S : Store} {lo b : Nat} {n : Net} {R : List Rtr} {bag : List Mail} {rb : Nat} {tb : List Nat} {gv : AV} {gb : Nat} (h : MachW S lo b n ⟨R, bag⟩ rb tb gv [gb]) (m : Mail) (rest : List (List AV)) (hl : bag.length + (rest.length + 1) ≤ 120) (hr : ∀ e ∈ rest, e.length = 3 ∧ e.all oneA = true) (hg : ∃ o, S[gb]? = some o) :
    MachW ((S.set gb (.cells 3 (bag.map mailC ++ mailC m :: rest))).set b (.cells 7 [netC n ++ [.own rb 2 0 R.length R.length, .own gb 3 0 (bag.length + 1) (bag.length + (rest.length + 1))]])) lo b n ⟨R, bag ++ [m]⟩ rb tb (.own gb 3 0 (bag.length + 1) (bag.length + (rest.length + 1))) [gb] := by
  have e1 : (bag ++ [m]).length = bag.length + 1 := by simp
  have := h.bag_in (bag ++ [m]) rest (by rw [e1]; omega) hr hg
  rw [e1, List.map_append, List.append_assoc, show bag.length + 1 + rest.length = bag.length + (rest.length + 1) by omega] at this
  exact this
theorem tick_calls (n : Net) (e : Eng) (hc : checkN n = 0) (hl : n.links.length ≤ 5864062014634) (he : EngIn n e) (ρ S : Store) (b : Nat) (hS : MachK ρ S b n e) (i : Int) (h0 : 0 ≤ i) (h1 : i < n.nodes) :
    ACalls Try.prog 168 [.ptr b 7 0 0, intA1 i] S fun r S' => MachK ρ S' b n (tickE n e i).1 ∧ r = intA1 (tickE n e i).2 := by
  have hn := netIn_of hc
  have n1 := hn.n1
  have n6 := hn.n6
  have hel := he.len
  have hir : i < e.routers.length := by omega
  have hbag := he.bag
  have hHl := hears_len hn i
  have hLK := elook_calls n e hc hl he ρ S b hS i h0 h1
  have hS0 := hS
  obtain ⟨hK0, rb, tb, gv, gi, M⟩ := hS
  have hH := hears_calls n i S b _ gv hc hl M.hb
  have hb := M.hb
  have hlen := M.bag.len
  unfold tickE
  obtain ⟨H, hHe⟩ : ∃ H, hearsA n i = H := ⟨_, rfl⟩
  have hHin : ∀ k ∈ H, 0 ≤ k ∧ k < n.nodes := fun k hk => (hears_mem.1 (by rw [hHe]; exact hk)).1
  rw [hHe] at hHl hH ⊢
  obtain ⟨Lk, hLk⟩ : ∃ Lk, lookE n (at0 e.routers i) i = Lk := ⟨_, rfl⟩
  obtain ⟨R, hR⟩ : ∃ R, (lookedE n e i).routers = R := ⟨_, rfl⟩
  rw [hLk, hR]
  have hgl : ∃ a c, (gv = .c (.slice none 0 0) ∧ e.bag.length = 0) ∨ (gv = .own a 3 0 e.bag.length c ∧ e.bag.length = e.bag.length) := by
    rcases M.bag with ⟨h1, h2, h3⟩ | ⟨gb, rest, h1, h2, h3, h4, h5⟩
    · exact ⟨0, 0, .inl ⟨h3, by rw [h1]; rfl⟩⟩
    · exact ⟨gb, _, .inr ⟨h2, rfl⟩⟩
  clear M hlen
  obtain ⟨a, c, ⟨rfl, hq⟩ | ⟨rfl, hq⟩⟩ := hgl
  all_goals by_cases hbig : 120 < e.bag.length + H.length
  · omega
  rotate_left 1
  · rw [if_pos hbig]
    refine ACalls_of_awp Try.func168 rfl Try.results168 ?_
    simp only [List.length_cons, List.length_nil, Try.ntmps168, Nat.reduceAdd, Nat.reduceSub, enterA]
    (repeat' (first|(refine g_s fun K hK=>?_)|(refine g_b ?_)|(refine g_r ?_)|(refine g_k ?_;simp only[thenQ,blockQ])|(refine g_e ?_;simp only[thenQ,blockQ,↓reduceIte,Nat.reduceEqDiff])|(refine g_c (fun h=>?_) (fun h=>?_)<;>(try simp only[go_sem] at h)<;>(try exact g_f))|((first|refine g_t ?_|refine g_g ?_|refine g_U ?_|refine g_A ?_|refine (hH).use ?_|refine g_q (fun τ=>hH) ?_|refine g_W ?_);(try simp -implicitDefEqProofs only[go_sem,hb]))|(with_reducible refine hK _ _ ?_;clear hK K)|(clear hK K;first|(with_reducible refine hK _ _ ?_;clear hK K)|(clear hK K;with_reducible refine hK _ _ ?_;clear hK K)|(clear hK K;clear hK K;with_reducible refine hK _ _ ?_;clear hK K))|(with_reducible refine splitB_intro (fun h=>?_) (fun h=>?_)<;>(try simp only[go_sem] at h)<;>(try exact g_f)<;>(try simp -implicitDefEqProofs only[go_sem,hb]))|(with_reducible refine And.intro (fun h=>?_) (fun h=>?_)<;>(try simp only[go_sem] at h)<;>(try exact g_f))|(with_reducible refine And.intro ?_ ?_;· exact g_x)|(with_reducible intro h;(try simp only[go_sem] at h);(try exact g_f))))
    exact hS0
  all_goals
    rw [if_neg hbig]
    refine ACalls_of_awp Try.func168 rfl Try.results168 ?_
    simp only [List.length_cons, List.length_nil, Try.ntmps168, Nat.reduceAdd, Nat.reduceSub, enterA]
    (repeat' (first|(refine g_s fun K hK=>?_)|(refine g_b ?_)|(refine g_r ?_)|(refine g_k ?_;simp only[thenQ,blockQ])|(refine g_e ?_;simp only[thenQ,blockQ,↓reduceIte,Nat.reduceEqDiff])|(refine g_c (fun h=>?_) (fun h=>?_)<;>(try simp only[go_sem] at h)<;>(try exact g_f))|((first|refine g_t ?_|refine g_g ?_|refine g_U ?_|refine g_A ?_|refine (hH).use ?_|refine g_q (fun τ=>hH) ?_|refine g_W ?_);(try simp -implicitDefEqProofs only[go_sem,hb]))|(with_reducible refine hK _ _ ?_;clear hK K)|(clear hK K;first|(with_reducible refine hK _ _ ?_;clear hK K)|(clear hK K;with_reducible refine hK _ _ ?_;clear hK K)|(clear hK K;clear hK K;with_reducible refine hK _ _ ?_;clear hK K))|(with_reducible refine splitB_intro (fun h=>?_) (fun h=>?_)<;>(try simp only[go_sem] at h)<;>(try exact g_f)<;>(try simp -implicitDefEqProofs only[go_sem,hb]))|(with_reducible refine And.intro (fun h=>?_) (fun h=>?_)<;>(try simp only[go_sem] at h)<;>(try exact g_f))|(with_reducible refine And.intro ?_ ?_;· exact g_x)|(with_reducible intro h;(try simp only[go_sem] at h);(try exact g_f))))
    refine hLK.mono ?_
    clear hb hH hLK
    rintro r S1 ⟨⟨hK1, rb1, tb1, gv1, gi1, M1⟩, rfl⟩
    have hRl : R.length = e.routers.length := by rw [← hR]; simp [lookedE, setR]
    have hRi : (at0 R i).routes = Lk := by
      rw [← hR, ← hLk]
      simp only [lookedE, setR]
      rw [at0_setG _ _ h0 h0 hir, if_pos rfl]
      rfl
    have hLl : Lk.length ≤ 6 := by rw [← hLk, lookE_len]; omega
    have hEb : (lookedE n e i).bag = e.bag := rfl
    have M2 : MachW S1 ρ.length b n ⟨R, e.bag⟩ rb1 tb1 gv1 gi1 := by rw [← hR]; exact M1
    clear M1
    (repeat' (first|(refine g_s fun K hK=>?_)|(refine g_b ?_)|(refine g_r ?_)|(refine g_k ?_;simp only[thenQ,blockQ])|(refine g_e ?_;simp only[thenQ,blockQ,↓reduceIte,Nat.reduceEqDiff])|(refine g_c (fun h=>?_) (fun h=>?_)<;>(try simp only[go_sem] at h)<;>(try exact g_f))|((first|refine g_t ?_|refine g_g ?_|refine g_U ?_|refine g_A ?_|refine g_W ?_);(try simp -implicitDefEqProofs only[go_sem]))|(with_reducible refine hK _ _ ?_;clear hK K)|(clear hK K;first|(with_reducible refine hK _ _ ?_;clear hK K)|(clear hK K;with_reducible refine hK _ _ ?_;clear hK K)|(clear hK K;clear hK K;with_reducible refine hK _ _ ?_;clear hK K))|(with_reducible refine splitB_intro (fun h=>?_) (fun h=>?_)<;>(try simp only[go_sem] at h)<;>(try exact g_f)<;>(try simp -implicitDefEqProofs only[go_sem]))|(with_reducible refine And.intro (fun h=>?_) (fun h=>?_)<;>(try simp only[go_sem] at h)<;>(try exact g_f))|(with_reducible refine And.intro ?_ ?_;· exact g_x)|(with_reducible intro h;(try simp only[go_sem] at h);(try exact g_f))))
    have hJ := hK
    clear hK
    refine AWP_each H (fun k r (s : Store × AV × List Nat × List Mail) => Keeps ρ s.1 ∧ MachW s.1 ρ.length b n ⟨R, s.2.2.2⟩ rb1 tb1 s.2.1 s.2.2.1 ∧ s.2.2.2 ++ r.map (mailA Lk i) = e.bag ++ H.map (mailA Lk i)) (fun k _ _ => [(28, intA1 k)]) (fun _ s _ => s.1) (S1, gv1, gi1, e.bag) [] ⟨hK1, M2, rfl⟩ rfl (ALe_of ?_) ?_ ?_
    · simp -implicitDefEqProofs only [go_sem]
    · rintro k r ⟨S2, gv2, gi2, bag⟩ τ hk0 hk1 ⟨hK2, M3, h5⟩ L hL
      simp only at hK2 M3 h5
      obtain ⟨w, hw⟩ : ∃ w, at0 H k = w := ⟨_, rfl⟩
      rw [hw] at h5
      have hwr := write_calls ⟨i, w, Lk⟩ (by simp only; omega)
      have hbl : bag.length + 1 ≤ 120 := by
        have := congrArg List.length h5
        simp at this
        omega
      have hb := M3.hb
      have hrb := M3.hrb
      have hlen := M3.bag.len
      obtain ⟨t, ht1, ht2, hRr, ht3⟩ := M3.row h0 (by simp only; omega)
      simp only at hRr
      rw [rtrV, hRi] at hRr
      have hzl : (List.zipWith rtrV R tb1).length = R.length := by have := M3.tl; simp only at this; rw [List.length_zipWith, this, Nat.min_self]
      have hmk : mailA Lk i w = ⟨i, w, (writeL ⟨i, w, Lk⟩).1⟩ := rfl
      have hbL : ∀ τ, (S2 ++ τ)[b]? = some (.cells 7 [netC n ++ [.own rb1 2 0 R.length R.length, gv2]]) := fun τ => st_app hb
      have hbS : ∀ τ o, (S2 ++ τ).set b o = S2.set b o ++ τ := fun τ o => st_setApp hb
      rcases M3.bag with ⟨hb1, rfl, rfl⟩ | ⟨gb, rest, rfl, rfl, hb3, hb4, hb5⟩
      · have h6 : [mailA Lk i w] ++ r.map (mailA Lk i) = e.bag ++ H.map (mailA Lk i) := by
          have hb1 : bag = [] := hb1
          rw [hb1] at h5
          exact h5
        simp -implicitDefEqProofs only [go_sem]
        (repeat' (first|(refine g_s fun K hK=>?_)|(refine g_b ?_)|(refine g_r ?_)|(refine g_k ?_;simp only[thenQ,blockQ])|(refine g_e ?_;simp only[thenQ,blockQ,↓reduceIte,Nat.reduceEqDiff])|(refine g_c (fun h=>?_) (fun h=>?_)<;>(try simp only[go_sem] at h)<;>(try exact g_f))|((first|refine g_t ?_|refine g_G ?_|refine g_U ?_|refine g_A ?_|refine (hwr _).use ?_|refine g_q (fun τ=>hwr _) ?_|refine g_W ?_);(try simp -implicitDefEqProofs only[go_sem,hb, hrb, hRr, hzl, hw, hbL, hbS]))|(with_reducible refine hK _ _ ?_;clear hK K)|(clear hK K;first|(with_reducible refine hK _ _ ?_;clear hK K)|(clear hK K;with_reducible refine hK _ _ ?_;clear hK K)|(clear hK K;clear hK K;with_reducible refine hK _ _ ?_;clear hK K))|(with_reducible refine splitB_intro (fun h=>?_) (fun h=>?_)<;>(try simp only[go_sem] at h)<;>(try exact g_f)<;>(try simp -implicitDefEqProofs only[go_sem,hb, hrb, hRr, hzl, hw, hbL, hbS]))|(with_reducible refine And.intro (fun h=>?_) (fun h=>?_)<;>(try simp only[go_sem] at h)<;>(try exact g_f))|(with_reducible refine And.intro ?_ ?_;· exact g_x)|(with_reducible intro h;(try simp only[go_sem] at h);(try exact g_f))))
        refine hL (_, .own S2.length 3 0 1 1, [S2.length], [mailA Lk i w]) [] _ _ ⟨(hK2.set (M3.lo b (by simp))).app, ?_, h6⟩ (ALe_of ?_) rfl
        · exact M3.push_nil hK2.len hb1 (mailA Lk i w)
        · simp -implicitDefEqProofs only [go_sem]
      · have hne := M3.ne
        have hgb : gb ≠ b := fun e => hne.2.2.1 (by rw [e]; simp)
        have hbG : ∀ o, (S2.set gb o)[b]? = some (.cells 7 [netC n ++ [.own rb1 2 0 R.length R.length, .own gb 3 0 bag.length (bag.length + rest.length)]]) := fun o => st_set hb hgb
        have hbD : ∀ o τ, (S2.set gb o ++ τ)[b]? = some (.cells 7 [netC n ++ [.own rb1 2 0 R.length R.length, .own gb 3 0 bag.length (bag.length + rest.length)]]) := fun o τ => st_app (hbG o)
        have hbE : ∀ o τ o', (S2.set gb o ++ τ).set b o' = (S2.set gb o).set b o' ++ τ := fun o τ o' => st_setApp (hbG o)
        rcases rest with _ | ⟨x, rest⟩
        · rw [List.append_nil] at hb3
          simp -implicitDefEqProofs only [go_sem]
          (repeat' (first|(refine g_s fun K hK=>?_)|(refine g_b ?_)|(refine g_r ?_)|(refine g_k ?_;simp only[thenQ,blockQ])|(refine g_e ?_;simp only[thenQ,blockQ,↓reduceIte,Nat.reduceEqDiff])|(refine g_c (fun h=>?_) (fun h=>?_)<;>(try simp only[go_sem] at h)<;>(try exact g_f))|((first|refine g_t ?_|refine g_G ?_|refine g_U ?_|refine g_A ?_|refine (hwr _).use ?_|refine g_q (fun τ=>hwr _) ?_|refine g_W ?_);(try simp -implicitDefEqProofs only[go_sem,hb, hrb, hRr, hzl, hw, hb3, hbD, hbE]))|(with_reducible refine hK _ _ ?_;clear hK K)|(clear hK K;first|(with_reducible refine hK _ _ ?_;clear hK K)|(clear hK K;with_reducible refine hK _ _ ?_;clear hK K)|(clear hK K;clear hK K;with_reducible refine hK _ _ ?_;clear hK K))|(with_reducible refine splitB_intro (fun h=>?_) (fun h=>?_)<;>(try simp only[go_sem] at h)<;>(try exact g_f)<;>(try simp -implicitDefEqProofs only[go_sem,hb, hrb, hRr, hzl, hw, hb3, hbD, hbE]))|(with_reducible refine And.intro (fun h=>?_) (fun h=>?_)<;>(try simp only[go_sem] at h)<;>(try exact g_f))|(with_reducible refine And.intro ?_ ?_;· exact g_x)|(with_reducible intro h;(try simp only[go_sem] at h);(try exact g_f))))
          refine hL (_, .own S2.length 3 0 (bag.length + 1) (bag.length + 1), [S2.length], bag ++ [mailA Lk i w]) [] _ _ ⟨((hK2.set (M3.lo gb (by simp))).set (M3.lo b (by simp))).app, M3.push_own hK2.len (mailA Lk i w) hbl, by simpa using h5⟩ (ALe_of ?_) rfl
          simp -implicitDefEqProofs only [go_sem]
        · have htk : List.take bag.length (bag.map mailC ++ x :: rest) = bag.map mailC := List.take_left' (by simp)
          have hdr : List.drop (bag.length + 1) (bag.map mailC ++ x :: rest) = rest := by
            rw [List.drop_append]
            simp
          have g1 : (bag.length = bag.length + (rest.length + 1)) = False := eq_false (by omega)
          have g2 : (bag.length ≤ bag.length + (rest.length + 1)) = True := eq_true (by omega)
          have g3 : (bag.length + 1 ≤ bag.length + (rest.length + 1)) = True := eq_true (by omega)
          have g4 : (bag.length + (rest.length + 1) < bag.length + 1) = False := eq_false (by omega)
          have hb5' : bag.length + (rest.length + 1) ≤ 120 := hb5
          simp -implicitDefEqProofs only [go_sem]
          (repeat' (first|(refine g_s fun K hK=>?_)|(refine g_b ?_)|(refine g_r ?_)|(refine g_k ?_;simp only[thenQ,blockQ])|(refine g_e ?_;simp only[thenQ,blockQ,↓reduceIte,Nat.reduceEqDiff])|(refine g_c (fun h=>?_) (fun h=>?_)<;>(try simp only[go_sem] at h)<;>(try exact g_f))|((first|refine g_t ?_|refine g_G ?_|refine g_U ?_|refine g_A ?_|refine (hwr _).use ?_|refine g_q (fun τ=>hwr _) ?_|refine g_W ?_);(try simp -implicitDefEqProofs only[go_sem,hb, hrb, hRr, hzl, hw, hb3, hbG, htk, hdr, g1, g2, g3, g4]))|(with_reducible refine hK _ _ ?_;clear hK K)|(clear hK K;first|(with_reducible refine hK _ _ ?_;clear hK K)|(clear hK K;with_reducible refine hK _ _ ?_;clear hK K)|(clear hK K;clear hK K;with_reducible refine hK _ _ ?_;clear hK K))|(with_reducible refine splitB_intro (fun h=>?_) (fun h=>?_)<;>(try simp only[go_sem] at h)<;>(try exact g_f)<;>(try simp -implicitDefEqProofs only[go_sem,hb, hrb, hRr, hzl, hw, hb3, hbG, htk, hdr, g1, g2, g3, g4]))|(with_reducible refine And.intro (fun h=>?_) (fun h=>?_)<;>(try simp only[go_sem] at h)<;>(try exact g_f))|(with_reducible refine And.intro ?_ ?_;· exact g_x)|(with_reducible intro h;(try simp only[go_sem] at h);(try exact g_f))))
          refine hL (_, .own gb 3 0 (bag.length + 1) (bag.length + (rest.length + 1)), [gb], bag ++ [mailA Lk i w]) [] _ _ ⟨(hK2.set (M3.lo gb (by simp))).set (M3.lo b (by simp)), M3.push_in (mailA Lk i w) rest hb5' (fun e he => hb4 e (List.mem_cons_of_mem _ he)) ⟨_, hb3⟩, by simpa using h5⟩ (ALe_of ?_) rfl
          simp -implicitDefEqProofs only [go_sem]
    · rintro k ⟨S2, gv2, gi2, bag⟩ τ hk ⟨hK2, M3, h5⟩ L
      simp only [List.map_nil, List.append_nil] at hK2 M3 h5
      subst h5
      simp -implicitDefEqProofs only [go_sem]
      (repeat' (first|(refine g_s fun K hK=>?_)|(refine g_b ?_)|(refine g_r ?_)|(refine g_k ?_;simp only[thenQ,blockQ])|(refine g_e ?_;simp only[thenQ,blockQ,↓reduceIte,Nat.reduceEqDiff])|(refine g_c (fun h=>?_) (fun h=>?_)<;>(try simp only[go_sem] at h)<;>(try exact g_f))|((first|refine g_t ?_|refine g_g ?_|refine g_U ?_|refine g_A ?_|refine g_W ?_);(try simp -implicitDefEqProofs only[go_sem]))|(with_reducible refine hK _ _ ?_;clear hK K)|(clear hK K;first|(with_reducible refine hK _ _ ?_;clear hK K)|(clear hK K;with_reducible refine hK _ _ ?_;clear hK K)|(clear hK K;clear hK K;with_reducible refine hK _ _ ?_;clear hK K))|(with_reducible refine splitB_intro (fun h=>?_) (fun h=>?_)<;>(try simp only[go_sem] at h)<;>(try exact g_f)<;>(try simp -implicitDefEqProofs only[go_sem]))|(with_reducible refine And.intro (fun h=>?_) (fun h=>?_)<;>(try simp only[go_sem] at h)<;>(try exact g_f))|(with_reducible refine And.intro ?_ ?_;· exact g_x)|(with_reducible intro h;(try simp only[go_sem] at h);(try exact g_f))))
      refine hJ _ _ ?_
      clear hJ
      (repeat' (first|(refine g_s fun K hK=>?_)|(refine g_b ?_)|(refine g_r ?_)|(refine g_k ?_;simp only[thenQ,blockQ])|(refine g_e ?_;simp only[thenQ,blockQ,↓reduceIte,Nat.reduceEqDiff])|(refine g_c (fun h=>?_) (fun h=>?_)<;>(try simp only[go_sem] at h)<;>(try exact g_f))|((first|refine g_t ?_|refine g_g ?_|refine g_U ?_|refine g_A ?_|refine g_W ?_);(try simp -implicitDefEqProofs only[go_sem]))|(with_reducible refine hK _ _ ?_;clear hK K)|(clear hK K;first|(with_reducible refine hK _ _ ?_;clear hK K)|(clear hK K;with_reducible refine hK _ _ ?_;clear hK K)|(clear hK K;clear hK K;with_reducible refine hK _ _ ?_;clear hK K))|(with_reducible refine splitB_intro (fun h=>?_) (fun h=>?_)<;>(try simp only[go_sem] at h)<;>(try exact g_f)<;>(try simp -implicitDefEqProofs only[go_sem]))|(with_reducible refine And.intro (fun h=>?_) (fun h=>?_)<;>(try simp only[go_sem] at h)<;>(try exact g_f))|(with_reducible refine And.intro ?_ ?_;· exact g_x)|(with_reducible intro h;(try simp only[go_sem] at h);(try exact g_f))))
      exact ⟨hK2, rb1, tb1, gv2, gi2, M3⟩
end Go.Proofs.Ytephecognbbaoab
namespace Go.Proofs.Ytephecognbbaoab
def EngB (e : Eng) : Prop := ∀ m ∈ e.bag, ∀ c ∈ m.bytes, 0 ≤ c ∧ c ≤ 255
theorem set_rowC (l : List (List Int)) (k : Nat) (v : List Int) : (l.map rowC).set k [.sl (v.map intC)] = (l.set k v).map rowC := by
  rw [List.map_set]
  rfl
theorem MachW.drop {S : Store} {lo b : Nat} {n : Net} {R : List Rtr} {bag : List Mail} {rb : Nat} {tb : List Nat} {gv : AV} {gb : Nat} {rest : List (List AV)} (h : MachW S lo b n ⟨R, bag⟩ rb tb gv [gb]) (m : Nat) (hm : m < bag.length) (hl : bag.length + rest.length ≤ 120) (hr : ∀ e ∈ rest, e.length = 3 ∧ e.all oneA = true) (hg : ∃ o, S[gb]? = some o) :
    MachW ((S.set gb (.cells 3 ((bag.eraseIdx m).map mailC ++ (zeroM :: rest)))).set b (.cells 7 [netC n ++ [.own rb 2 0 R.length R.length, .own gb 3 0 (bag.length - 1) (bag.length + rest.length)]])) lo b n ⟨R, bag.eraseIdx m⟩ rb tb (.own gb 3 0 (bag.length - 1) (bag.length + rest.length)) [gb] := by
  have e1 : (bag.eraseIdx m).length = bag.length - 1 := by rw [List.length_eraseIdx, if_pos hm]
  have := h.bag_in (bag.eraseIdx m) (zeroM :: rest) (by rw [e1, List.length_cons]; omega) (fun e he => by
    rcases List.mem_cons.1 he with rfl | he
    · exact ⟨rfl, rfl⟩
    · exact hr e he) hg
  rw [e1, List.length_cons, show bag.length - 1 + (rest.length + 1) = bag.length + rest.length by omega] at this
  exact this
theorem deliver_calls (n : Net) (e : Eng) (hc : checkN n = 0) (hl : n.links.length ≤ 5864062014634) (he : EngIn n e) (hby : EngB e) (ρ S : Store) (b : Nat) (hS : MachK ρ S b n e) (i : Int) (h0 : 0 ≤ i) (h1 : i < e.bag.length) :
    ACalls Try.prog 169 [.ptr b 7 0 0, intA1 i] S fun r S' => MachK ρ S' b n (deliverE n e i) ∧ r = .tup [] := by
  have hn := netIn_of hc
  have n1 := hn.n1
  have n6 := hn.n6
  have s2 := hn.alg.s2
  have s24 := hn.alg.s24
  have hx : I64 (n.alg.size - 1) := by unfold I64; omega
  have hel := he.len
  have hbag := he.bag
  obtain ⟨R, bag⟩ := e
  simp only at hel hbag h1
  obtain ⟨m, rfl⟩ : ∃ m : Nat, i = m := ⟨i.toNat, by omega⟩
  have h1' : m < bag.length := by omega
  obtain ⟨hK0, rb, tb, gv, gi, M⟩ := hS
  rcases M.bag with ⟨h2, _, _⟩ | ⟨gb, rest, rfl, rfl, hb3, hb4, hb5⟩
  · simp only at h2
    rw [h2] at h1
    simp at h1
    omega
  simp only at M hb3 hb4 hb5
  obtain ⟨w, hw⟩ : ∃ w, at0 bag (m : Int) = w := ⟨_, rfl⟩
  have hwm : w ∈ bag := by rw [← hw]; exact at0_mem bag h0 h1
  have hwi := he.mail w hwm
  have hwb := hby w hwm
  have hgw : (bag.map mailC ++ rest)[m]? = some (mailC w) := by
    rw [List.getElem?_append_left (by rw [List.length_map]; exact h1')]
    have := get_mapG mailC bag h0 h1
    rw [hw] at this
    exact this
  have hb := M.hb
  have hne := M.ne
  have hgb : gb ≠ b := fun e => hne.2.2.1 (by rw [e]; simp)
  have hgL : ∀ τ, (S ++ τ)[gb]? = some (.cells 3 (bag.map mailC ++ rest)) := fun τ => st_app hb3
  have hbL : ∀ τ, (S ++ τ)[b]? = some (.cells 7 [netC n ++ [.own rb 2 0 R.length R.length, .own gb 3 0 bag.length (bag.length + rest.length)]]) := fun τ => st_app hb
  have hgS : ∀ τ o, (S ++ τ).set gb o = S.set gb o ++ τ := fun τ o => st_setApp hb3
  have hbG : ∀ o, (S.set gb o)[b]? = some (.cells 7 [netC n ++ [.own rb 2 0 R.length R.length, .own gb 3 0 bag.length (bag.length + rest.length)]]) := fun o => st_set hb hgb
  have hbD : ∀ o τ, (S.set gb o ++ τ)[b]? = some (.cells 7 [netC n ++ [.own rb 2 0 R.length R.length, .own gb 3 0 bag.length (bag.length + rest.length)]]) := fun o τ => st_app (hbG o)
  have hbE : ∀ o τ o', (S.set gb o ++ τ).set b o' = (S.set gb o).set b o' ++ τ := fun o τ o' => st_setApp (hbG o)
  have hde := delete_calls (S ++ [.dead]) gb bag rest m h1' (hgL _) hb4 (by omega) (by omega)
  have hrd := read_calls w.bytes (by have := hwi.len; omega) hwb
  have M2 := M.drop m h1' hb5 hb4 ⟨_, hb3⟩
  obtain ⟨S2, hS2⟩ : ∃ S2, (S.set gb (.cells 3 ((bag.eraseIdx m).map mailC ++ (zeroM :: rest)))).set b (.cells 7 [netC n ++ [.own rb 2 0 R.length R.length, .own gb 3 0 (bag.length - 1) (bag.length + rest.length)]]) = S2 := ⟨_, rfl⟩
  have hK2 : Keeps ρ S2 := by rw [← hS2]; exact (hK0.set (M.lo gb (by simp))).set (M.lo b (by simp))
  rw [hS2] at M2
  have hS3 := hS2
  simp -implicitDefEqProofs only [go_sem, List.append_eq, List.cons_append, List.nil_append] at hS3
  have hdr : deliverE n ⟨R, bag⟩ (m : Int) = takeE n ⟨R, bag.eraseIdx m⟩ w := by
    simp only [deliverE, dropE, hw, Int.toNat_natCast]
  have hT : takesB n w = (decide ((readL w.bytes).2 = 0) && (decide ((readL w.bytes).1.fr = w.fr) && (decide ((readL w.bytes).1.dst = w.dst) && (decide (rowErr n (readL w.bytes).1.routes = 0) && decide (0 ≤ edgeOf n w.dst w.fr))))) := rfl
  have hpl : (readL w.bytes).1.routes.length ≤ 60 := by
    have hq := hwi.len
    unfold readL
    split
    · exact Nat.zero_le _
    · split
      · exact Nat.zero_le _
      · split
        · exact Nat.zero_le _
        · simp only [packetAt, List.length_drop, List.length_take]
          omega
  refine ACalls_of_awp Try.func169 rfl Try.results169 ?_
  simp only [List.length_cons, List.length_nil, Try.ntmps169, Nat.reduceAdd, Nat.reduceSub, enterA]
  refine AWP_seq_k fun K hK => ?_
  (refine AWP_region ?_; simp -implicitDefEqProofs only [go_sem, hb, hb3, hgw])
  refine ⟨h0, h1, ?_⟩
  refine hK _ _ ?_; clear hK K
  refine AWP_freezeP 4 rfl (by simp only [st0]; rfl) ?_
  simp only [ss0, List.set_cons_zero]
  refine AWP_seq_k fun K hK => ?_
  (refine AWP_region ?_; simp -implicitDefEqProofs only [go_sem, hbL])
  refine ⟨by unfold I64; omega, ?_⟩
  refine ACalls.useA hde ?_
  simp -implicitDefEqProofs only [go_sem, hgS, hbD, hbE, hS3]
  refine hK _ _ ?_; clear hK K
  refine AWP_seq_k fun K hK => ?_
  (refine AWP_region ?_; simp -implicitDefEqProofs only [go_sem])
  refine (hrd _).use ?_
  simp -implicitDefEqProofs only [go_sem]
  refine hK _ _ ?_; clear hK K
  refine AWP_freezeP 5 rfl (by simp only [st1]; rfl) ?_
  simp only [ss1, List.set_cons_zero, List.set_cons_succ]
  rw [hdr]
  have hbN : ∀ τ, (S2 ++ τ)[b]? = some (.cells 7 [netC n ++ [.own rb 2 0 R.length R.length, .own gb 3 0 (bag.length - 1) (bag.length + rest.length)]]) := fun τ => st_app M2.hb
  generalize hPR : readL w.bytes = PR
  obtain ⟨p, er⟩ := PR
  rw [hPR] at hT hpl
  simp only at hT hpl ⊢
  have hro := row_calls n p.routes hx (by omega)
  have hli := fun τ => linked_calls n hn w.dst w.fr ((S2 ++ [.dead, .dead]) ++ τ) b _ _ (by omega) (st_app (st_app M2.hb))
  have hend : takesB n w = false → MachK ρ (S2 ++ [.dead, .dead]) b n (takeE n ⟨R, bag.eraseIdx m⟩ w) := fun h => by
    rw [takeE, if_neg (by rw [h]; exact Bool.false_ne_true)]
    exact ⟨hK2.app, rb, tb, _, _, M2.app⟩
  by_cases c1 : er = 0
  · by_cases c2 : p.fr = w.fr
    · by_cases c3 : p.dst = w.dst
      · by_cases c4 : rowErr n p.routes = 0
        · by_cases c5 : 0 ≤ edgeOf n w.dst w.fr
          · rw [decide_eq_true c5] at hli
            have hd0 := hwi.dst.1
            have hd1 : w.dst < R.length := by have := hwi.dst.2; omega
            have hf0 := hwi.fr.1
            have hf1 := hwi.fr.2
            obtain ⟨t, ht1, ht2, hRr, ht3⟩ := M2.row hd0 hd1
            simp only at hRr ht3
            have hRin : RtrIn n (at0 R w.dst) := he.rtr _ (at0_mem R hd0 hd1)
            have htl := hRin.tl
            rw [rtrV] at hRr
            have hrN : ∀ τ, (S2 ++ τ)[rb]? = some (.cells 2 (List.zipWith rtrV R tb)) := fun τ => st_app M2.hrb
            have htN : ∀ τ, (S2 ++ τ)[t]? = some (.cells 1 ((at0 R w.dst).told.map rowC)) := fun τ => st_app ht3
            have htS : ∀ τ o, (S2 ++ τ).set t o = S2.set t o ++ τ := fun τ o => st_setApp ht3
            have hzl : (List.zipWith rtrV R tb).length = R.length := by have := M2.tl; simp only at this; rw [List.length_zipWith, this, Nat.min_self]
            have hsr := set_rowC (at0 R w.dst).told w.fr.toNat p.routes
            have hgr := get_mapG rowC (at0 R w.dst).told hf0 (by omega)
            (repeat' (first|(refine g_s fun K hK=>?_)|(refine g_b ?_)|(refine g_r ?_)|(refine g_k ?_;simp only[thenQ,blockQ])|(refine g_e ?_;simp only[thenQ,blockQ,↓reduceIte,Nat.reduceEqDiff])|(refine g_c (fun h=>?_) (fun h=>?_)<;>(try simp only[go_sem] at h)<;>(try exact g_f))|((first|refine g_t ?_|refine g_g ?_|refine g_U ?_|refine g_A ?_|refine (hro _).use ?_|refine g_q (fun τ=>hro _) ?_|refine g_q hli ?_|refine g_W ?_);(try simp -implicitDefEqProofs only[go_sem,c1, c2, c3, c4, hbN, hrN, hRr, htN, htS, hzl, hsr, hgr]))|(with_reducible refine hK _ _ ?_;clear hK K)|(clear hK K;first|(with_reducible refine hK _ _ ?_;clear hK K)|(clear hK K;with_reducible refine hK _ _ ?_;clear hK K)|(clear hK K;clear hK K;with_reducible refine hK _ _ ?_;clear hK K))|(with_reducible refine splitB_intro (fun h=>?_) (fun h=>?_)<;>(try simp only[go_sem] at h)<;>(try exact g_f)<;>(try simp -implicitDefEqProofs only[go_sem,c1, c2, c3, c4, hbN, hrN, hRr, htN, htS, hzl, hsr, hgr]))|(with_reducible refine And.intro (fun h=>?_) (fun h=>?_)<;>(try simp only[go_sem] at h)<;>(try exact g_f))|(with_reducible refine And.intro ?_ ?_;· exact g_x)|(with_reducible intro h;(try simp only[go_sem] at h);(try exact g_f))))
            have hTT : takesB n w = true := by rw [hT, decide_eq_true c1, decide_eq_true c2, decide_eq_true c3, decide_eq_true c4, decide_eq_true c5]; rfl
            have hin : EngIn n ⟨R, bag.eraseIdx m⟩ := dropE_in he m
            have hin2 : EngIn n (setR ⟨R, bag.eraseIdx m⟩ w.dst (toldR (at0 R w.dst) w.fr p.routes)) := setR_in hin (toldR_in hRin (.inr (rowErr_zero.1 c4)) _) _
            refine (elook_calls n _ hc hl hin2 ρ _ b ⟨(hK2.set (M2.lo t (by simp [ht2]))).app, rb, tb, _, _, (M2.told hd0 hd1 ht1 ((at0 R w.dst).told.set w.fr.toNat p.routes) (by simp)).app⟩ w.dst hd0 hwi.dst.2).mono ?_
            rintro r S' ⟨h, rfl⟩
            rw [takeE, if_pos hTT, hPR]
            exact h
          · rw [decide_eq_false c5] at hli
            (repeat' (first|(refine g_s fun K hK=>?_)|(refine g_b ?_)|(refine g_r ?_)|(refine g_k ?_;simp only[thenQ,blockQ])|(refine g_e ?_;simp only[thenQ,blockQ,↓reduceIte,Nat.reduceEqDiff])|(refine g_c (fun h=>?_) (fun h=>?_)<;>(try simp only[go_sem] at h)<;>(try exact g_f))|((first|refine g_t ?_|refine g_g ?_|refine g_U ?_|refine g_A ?_|refine (hro _).use ?_|refine g_q (fun τ=>hro _) ?_|refine g_q hli ?_|refine g_W ?_);(try simp -implicitDefEqProofs only[go_sem,c1, c2, c3, c4, hbN]))|(with_reducible refine hK _ _ ?_;clear hK K)|(clear hK K;first|(with_reducible refine hK _ _ ?_;clear hK K)|(clear hK K;with_reducible refine hK _ _ ?_;clear hK K)|(clear hK K;clear hK K;with_reducible refine hK _ _ ?_;clear hK K))|(with_reducible refine splitB_intro (fun h=>?_) (fun h=>?_)<;>(try simp only[go_sem] at h)<;>(try exact g_f)<;>(try simp -implicitDefEqProofs only[go_sem,c1, c2, c3, c4, hbN]))|(with_reducible refine And.intro (fun h=>?_) (fun h=>?_)<;>(try simp only[go_sem] at h)<;>(try exact g_f))|(with_reducible refine And.intro ?_ ?_;· exact g_x)|(with_reducible intro h;(try simp only[go_sem] at h);(try exact g_f))))
            exact hend (by rw [hT, decide_eq_false c5]; simp)
        · (repeat' (first|(refine g_s fun K hK=>?_)|(refine g_b ?_)|(refine g_r ?_)|(refine g_k ?_;simp only[thenQ,blockQ])|(refine g_e ?_;simp only[thenQ,blockQ,↓reduceIte,Nat.reduceEqDiff])|(refine g_c (fun h=>?_) (fun h=>?_)<;>(try simp only[go_sem] at h)<;>(try exact g_f))|((first|refine g_t ?_|refine g_g ?_|refine g_U ?_|refine g_A ?_|refine (hro _).use ?_|refine g_q (fun τ=>hro _) ?_|refine g_q hli ?_|refine g_W ?_);(try simp -implicitDefEqProofs only[go_sem,c1, c2, c3, c4, hbN]))|(with_reducible refine hK _ _ ?_;clear hK K)|(clear hK K;first|(with_reducible refine hK _ _ ?_;clear hK K)|(clear hK K;with_reducible refine hK _ _ ?_;clear hK K)|(clear hK K;clear hK K;with_reducible refine hK _ _ ?_;clear hK K))|(with_reducible refine splitB_intro (fun h=>?_) (fun h=>?_)<;>(try simp only[go_sem] at h)<;>(try exact g_f)<;>(try simp -implicitDefEqProofs only[go_sem,c1, c2, c3, c4, hbN]))|(with_reducible refine And.intro (fun h=>?_) (fun h=>?_)<;>(try simp only[go_sem] at h)<;>(try exact g_f))|(with_reducible refine And.intro ?_ ?_;· exact g_x)|(with_reducible intro h;(try simp only[go_sem] at h);(try exact g_f))))
          exact hend (by rw [hT, decide_eq_false c4]; simp)
      · (repeat' (first|(refine g_s fun K hK=>?_)|(refine g_b ?_)|(refine g_r ?_)|(refine g_k ?_;simp only[thenQ,blockQ])|(refine g_e ?_;simp only[thenQ,blockQ,↓reduceIte,Nat.reduceEqDiff])|(refine g_c (fun h=>?_) (fun h=>?_)<;>(try simp only[go_sem] at h)<;>(try exact g_f))|((first|refine g_t ?_|refine g_g ?_|refine g_U ?_|refine g_A ?_|refine (hro _).use ?_|refine g_q (fun τ=>hro _) ?_|refine g_q hli ?_|refine g_W ?_);(try simp -implicitDefEqProofs only[go_sem,c1, c2, c3, hbN]))|(with_reducible refine hK _ _ ?_;clear hK K)|(clear hK K;first|(with_reducible refine hK _ _ ?_;clear hK K)|(clear hK K;with_reducible refine hK _ _ ?_;clear hK K)|(clear hK K;clear hK K;with_reducible refine hK _ _ ?_;clear hK K))|(with_reducible refine splitB_intro (fun h=>?_) (fun h=>?_)<;>(try simp only[go_sem] at h)<;>(try exact g_f)<;>(try simp -implicitDefEqProofs only[go_sem,c1, c2, c3, hbN]))|(with_reducible refine And.intro (fun h=>?_) (fun h=>?_)<;>(try simp only[go_sem] at h)<;>(try exact g_f))|(with_reducible refine And.intro ?_ ?_;· exact g_x)|(with_reducible intro h;(try simp only[go_sem] at h);(try exact g_f))))
        exact hend (by rw [hT, decide_eq_false c3]; simp)
    · (repeat' (first|(refine g_s fun K hK=>?_)|(refine g_b ?_)|(refine g_r ?_)|(refine g_k ?_;simp only[thenQ,blockQ])|(refine g_e ?_;simp only[thenQ,blockQ,↓reduceIte,Nat.reduceEqDiff])|(refine g_c (fun h=>?_) (fun h=>?_)<;>(try simp only[go_sem] at h)<;>(try exact g_f))|((first|refine g_t ?_|refine g_g ?_|refine g_U ?_|refine g_A ?_|refine (hro _).use ?_|refine g_q (fun τ=>hro _) ?_|refine g_q hli ?_|refine g_W ?_);(try simp -implicitDefEqProofs only[go_sem,c1, c2, hbN]))|(with_reducible refine hK _ _ ?_;clear hK K)|(clear hK K;first|(with_reducible refine hK _ _ ?_;clear hK K)|(clear hK K;with_reducible refine hK _ _ ?_;clear hK K)|(clear hK K;clear hK K;with_reducible refine hK _ _ ?_;clear hK K))|(with_reducible refine splitB_intro (fun h=>?_) (fun h=>?_)<;>(try simp only[go_sem] at h)<;>(try exact g_f)<;>(try simp -implicitDefEqProofs only[go_sem,c1, c2, hbN]))|(with_reducible refine And.intro (fun h=>?_) (fun h=>?_)<;>(try simp only[go_sem] at h)<;>(try exact g_f))|(with_reducible refine And.intro ?_ ?_;· exact g_x)|(with_reducible intro h;(try simp only[go_sem] at h);(try exact g_f))))
      exact hend (by rw [hT, decide_eq_false c2]; simp)
  · (repeat' (first|(refine g_s fun K hK=>?_)|(refine g_b ?_)|(refine g_r ?_)|(refine g_k ?_;simp only[thenQ,blockQ])|(refine g_e ?_;simp only[thenQ,blockQ,↓reduceIte,Nat.reduceEqDiff])|(refine g_c (fun h=>?_) (fun h=>?_)<;>(try simp only[go_sem] at h)<;>(try exact g_f))|((first|refine g_t ?_|refine g_g ?_|refine g_U ?_|refine g_A ?_|refine (hro _).use ?_|refine g_q (fun τ=>hro _) ?_|refine g_q hli ?_|refine g_W ?_);(try simp -implicitDefEqProofs only[go_sem,c1, hbN]))|(with_reducible refine hK _ _ ?_;clear hK K)|(clear hK K;first|(with_reducible refine hK _ _ ?_;clear hK K)|(clear hK K;with_reducible refine hK _ _ ?_;clear hK K)|(clear hK K;clear hK K;with_reducible refine hK _ _ ?_;clear hK K))|(with_reducible refine splitB_intro (fun h=>?_) (fun h=>?_)<;>(try simp only[go_sem] at h)<;>(try exact g_f)<;>(try simp -implicitDefEqProofs only[go_sem,c1, hbN]))|(with_reducible refine And.intro (fun h=>?_) (fun h=>?_)<;>(try simp only[go_sem] at h)<;>(try exact g_f))|(with_reducible refine And.intro ?_ ?_;· exact g_x)|(with_reducible intro h;(try simp only[go_sem] at h);(try exact g_f))))
    exact hend (by rw [hT, decide_eq_false c1]; simp)
end Go.Proofs.Ytephecognbbaoab
