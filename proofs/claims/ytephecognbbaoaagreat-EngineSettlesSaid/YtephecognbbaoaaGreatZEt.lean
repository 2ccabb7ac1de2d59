/- What is told is forgotten; a router begins anew. -/
import Derived.Test.YtephecognbbaoaaGreatZDp
import Derived.Test.YtephecognbbaoaaGreatZSo
open Go
set_option linter.all false
set_option maxRecDepth 100000
set_option maxHeartbeats 4000000
namespace Go.Proofs.YtephecognbbaoaaGreat
open Go
set_option linter.all false
set_option maxRecDepth 100000
set_option maxHeartbeats 4000000
theorem nodup_set {X : Type} {x : X} : ∀ {l : List X}, l.Nodup → ∀ k, x ∉ l → (l.set k x).Nodup
  | [], _, _, _ => by simp
  | y :: l, h, 0, hx => by
    rw [List.nodup_cons] at h
    rw [List.set_cons_zero, List.nodup_cons]
    exact ⟨fun hc => hx (List.mem_cons_of_mem _ hc), h.2⟩
  | y :: l, h, k + 1, hx => by
    rw [List.nodup_cons] at h
    rw [List.mem_cons, not_or] at hx
    rw [List.set_cons_succ, List.nodup_cons]
    refine ⟨fun hc => ?_, nodup_set h.2 k hx.2⟩
    rcases List.mem_or_eq_of_mem_set hc with hc | hc
    · exact h.1 hc
    · exact hx.1 hc.symm
theorem DeepR.setL {S : Store} {D : Nat → Prop} {a c : List AV} (l : List (List AV)) (k : Nat) (h : DeepL S D a c) : DeepR S D (l.set k a) (l.set k c) :=
  ⟨by simp, fun i h1 h2 => by
    rw [List.getElem_set, List.getElem_set]
    split
    · exact h
    · exact .same _⟩
theorem DeepR.repl {S : Store} {D : Nat → Prop} {a c : List AV} (h : DeepL S D a c) (k : Nat) : DeepR S D (List.replicate k a) (List.replicate k c) :=
  ⟨by simp, fun i h1 h2 => by
    rw [List.getElem_replicate, List.getElem_replicate]
    exact h⟩
/-- A router begins anew. -/
theorem MachW.fresh {S : Store} {lo b : Nat} {n : Net} {e : Eng} {rb : Nat} {tb : List Nat} {gv : AV} {gi : List Nat} (h : MachW S lo b n e rb tb gv gi) {i : Int} {t : Nat} (h0 : 0 ≤ i) (h1 : i < e.routers.length) (r' : Rtr) (τ : Store) (ht : S.length ≤ t) (hlo : lo ≤ S.length) (hg : ∀ x ∈ gi, x < S.length)
    (hT : (S.set rb (.cells 2 ((List.zipWith rtrV e.routers tb).set i.toNat (rtrV r' t))) ++ τ)[t]? = some (.cells 1 (r'.told.map rowC))) :
    MachW (S.set rb (.cells 2 ((List.zipWith rtrV e.routers tb).set i.toNat (rtrV r' t))) ++ τ) lo b n (setR e i r') rb (tb.set i.toNat t) gv gi := by
  obtain ⟨n1, n2, n3, n4, n5, n6, n7, n8⟩ := h.ne
  have hlt := h.lt
  have hi : i.toNat < e.routers.length := by omega
  have hi2 : i.toNat < tb.length := by rw [h.tl]; exact hi
  have hmem : ∀ x ∈ tb.set i.toNat t, x = t ∨ x ∈ tb := fun x hx => (List.mem_or_eq_of_mem_set hx).symm
  refine ⟨?_, ?_, ?_, fun k h2 h3 => ?_, (h.bag.set n5).app, ?_, fun x hx => ?_⟩
  · rw [setR, List.length_set]
    exact st_app (st_set h.hb n1.symm)
  · rw [st_app (st_self h.hrb), setR, zipW_set]
  · rw [setR, List.length_set, List.length_set]
    exact h.tl
  · have h3' : k < e.routers.length := by simpa [setR] using h3
    have h2' : k < tb.length := by simpa using h2
    by_cases hk : i.toNat = k
    · subst hk
      have e2 : (setR e i r').routers[i.toNat].told = r'.told := by simp [setR]
      rw [e2, List.getElem_set_self]
      exact hT
    · have e2 : (setR e i r').routers[k].told = e.routers[k].told := by
        simp only [setR, List.getElem_set]
        rw [if_neg hk]
      rw [e2, List.getElem_set_ne hk]
      exact st_app (st_set (h.ht k h2' h3') (fun e => n4 (by rw [e]; exact List.getElem_mem h2')))
  · have hb := hlt b (by simp)
    have hrb := hlt rb (by simp)
    rw [List.nodup_cons, List.nodup_cons, List.nodup_append]
    simp only [List.mem_cons, List.mem_append, not_or]
    refine ⟨⟨n1, fun hc => ?_, n3⟩, ⟨fun hc => ?_, n5⟩, nodup_set n6 _ (fun hc => absurd (hlt t (by simp [hc])) (by omega)), n7, fun x hx y hy e => ?_⟩
    · rcases hmem _ hc with e | hc
      · omega
      · exact n2 hc
    · rcases hmem _ hc with e | hc
      · omega
      · exact n4 hc
    · subst e
      rcases hmem _ hx with e | hx
      · have := hg _ hy
        omega
      · exact n8 _ hx hy
  · simp only [List.mem_cons, List.mem_append] at hx
    rcases hx with rfl | rfl | hx | hx
    · exact h.lo _ (by simp)
    · exact h.lo _ (by simp)
    · rcases hmem _ hx with e | hx
      · omega
      · exact h.lo _ (by simp [hx])
    · exact h.lo _ (by simp [hx])
theorem expire_calls (n : Net) (e : Eng) (hc : checkN n = 0) (hl : n.links.length ≤ 5864062014634) (he : EngIn n e) (ρ S : Store) (b : Nat) (hS : MachK ρ S b n e) (v : Evt) (h0 : 0 ≤ v.at') (h1 : v.at' < n.nodes) :
    ACalls Tryz.prog 86 [.ptr b 7 0 0, .agg (evtC v)] S fun r S' => MachK ρ S' b n (if !inR v.b 0 (n.nodes - 1) then e else lookedE n (setR e v.at' (toldR (at0 e.routers v.at') v.b [])) v.at') ∧ r = intA1 (if !inR v.b 0 (n.nodes - 1) then 5 else 0) := by
  have hn := netIn_of hc
  have n6 := hn.n6
  have hel := he.len
  have hir : v.at' < e.routers.length := by omega
  obtain ⟨hK0, rb, tb, gv, gi, M⟩ := hS
  have hb := M.hb
  have hbL : ∀ τ, (S ++ τ)[b]? = some (.cells 7 [netC n ++ [.own rb 2 0 e.routers.length e.routers.length, gv]]) := fun τ => st_app hb
  have hN := enode_calls n v.b
  by_cases c1 : 0 ≤ v.b ∧ v.b < n.nodes
  · have hT : inR v.b 0 (n.nodes - 1) = true := inR_iff.2 (by omega)
    rw [hT] at hN ⊢
    obtain ⟨t, ht1, ht2, hRr, ht3⟩ := M.row h0 hir
    have hRin : RtrIn n (at0 e.routers v.at') := rtr_at he ⟨h0, h1⟩
    have htl := hRin.tl
    rw [rtrV] at hRr
    have hrN : ∀ τ, (S ++ τ)[rb]? = some (.cells 2 (List.zipWith rtrV e.routers tb)) := fun τ => st_app M.hrb
    have htN : ∀ τ, (S ++ τ)[t]? = some (.cells 1 ((at0 e.routers v.at').told.map rowC)) := fun τ => st_app ht3
    have htS : ∀ τ o, (S ++ τ).set t o = S.set t o ++ τ := fun τ o => st_setApp ht3
    have hzl : (List.zipWith rtrV e.routers tb).length = e.routers.length := by rw [List.length_zipWith, M.tl, Nat.min_self]
    have hgr := get_mapG rowC (at0 e.routers v.at').told c1.1 (by omega)
    refine ACalls_of_awp Tryz.func86 rfl Tryz.results86 ?_
    simp only [List.length_cons, List.length_nil, Tryz.ntmps86, Nat.reduceAdd, Nat.reduceSub, enterA]
    refine AWP_seq_k fun K hK => ?_
    (refine AWP_region ?_; simp -implicitDefEqProofs only [go_sem])
    refine hK _ _ ?_; clear hK K
    refine AWP_freezeP 3 rfl (by simp only [st0]; rfl) ?_
    simp only [ss0, List.set_cons_zero]
    (repeat' (first|(refine g_s fun K hK=>?_)|(refine g_b ?_)|(refine g_r ?_)|(refine g_k ?_;simp only[thenQ,blockQ])|(refine g_e ?_;simp only[thenQ,blockQ,↓reduceIte,Nat.reduceEqDiff])|(refine g_c (fun h=>?_) (fun h=>?_)<;>(try simp only[go_sem] at h)<;>(try exact g_f))|((first|refine g_t ?_|refine g_g ?_|refine g_U ?_|refine g_A ?_|refine (hN _).use ?_|refine g_q (fun τ=>hN _) ?_|refine g_W ?_);(try simp -implicitDefEqProofs only[go_sem,hbL, hrN, hRr, htN, htS, hzl, hgr]))|(with_reducible refine hK _ _ ?_;clear hK K)|(clear hK K;first|(with_reducible refine hK _ _ ?_;clear hK K)|(clear hK K;with_reducible refine hK _ _ ?_;clear hK K)|(clear hK K;clear hK K;with_reducible refine hK _ _ ?_;clear hK K))|(with_reducible refine splitB_intro (fun h=>?_) (fun h=>?_)<;>(try simp only[go_sem] at h)<;>(try exact g_f)<;>(try simp -implicitDefEqProofs only[go_sem,hbL, hrN, hRr, htN, htS, hzl, hgr]))|(with_reducible refine And.intro (fun h=>?_) (fun h=>?_)<;>(try simp only[go_sem] at h)<;>(try exact g_f))|(with_reducible refine And.intro ?_ ?_;· exact g_x)|(with_reducible intro h;(try simp only[go_sem] at h);(try exact g_f))))
    have hst : (S.set t (.cells 1 (((at0 e.routers v.at').told.map rowC).set v.b.toNat [.c (.slice none 0 0)])) ++ [Ob.dead])[t]? = some (.cells 1 (((at0 e.routers v.at').told.map rowC).set v.b.toNat [.c (.slice none 0 0)])) := st_app (st_self ht3)
    refine ACalls.useD [] _ ((StDeep.kill [] _).cell (b := t) (k := 1) (es' := ((at0 e.routers v.at').told.map rowC).set v.b.toNat [.sl []]) (by simp) hst (DeepR.setL _ _ (.cons .nil .nil))) (DeepL.same _) ?_
    have hkl : (killL [] (S.set t (.cells 1 (((at0 e.routers v.at').told.map rowC).set v.b.toNat [.c (.slice none 0 0)])) ++ [Ob.dead])).set t (.cells 1 (((at0 e.routers v.at').told.map rowC).set v.b.toNat [.sl []])) = S.set t (.cells 1 (((at0 e.routers v.at').told.set v.b.toNat []).map rowC)) ++ [Ob.dead] := by
      have e1 := set_rowC (at0 e.routers v.at').told v.b.toNat []
      rw [List.map_nil] at e1
      rw [e1]
      show (S.set t _ ++ [Ob.dead]).set t _ = _
      rw [st_setApp (st_self ht3), List.set_set]
    rw [hkl]
    have hin2 : EngIn n (setR e v.at' (toldR (at0 e.routers v.at') v.b [])) := setR_in he (toldR_in hRin (.inl rfl) _) _
    refine (elook_calls n _ hc hl hin2 ρ _ b ⟨(hK0.set (M.lo t (by simp [ht2]))).app, rb, tb, _, _, (M.told h0 hir ht1 ((at0 e.routers v.at').told.set v.b.toNat []) (by simp)).app⟩ v.at' h0 h1).mono ?_
    rintro r S' ⟨h, rfl⟩
    (repeat' (first|(refine g_s fun K hK=>?_)|(refine g_b ?_)|(refine g_r ?_)|(refine g_k ?_;simp only[thenQ,blockQ])|(refine g_e ?_;simp only[thenQ,blockQ,↓reduceIte,Nat.reduceEqDiff])|(refine g_c (fun h=>?_) (fun h=>?_)<;>(try simp only[go_sem] at h)<;>(try exact g_f))|((first|refine g_t ?_|refine g_g ?_|refine g_U ?_|refine g_A ?_|refine g_W ?_);(try simp -implicitDefEqProofs only[go_sem]))|(with_reducible refine hK _ _ ?_;clear hK K)|(clear hK K;first|(with_reducible refine hK _ _ ?_;clear hK K)|(clear hK K;with_reducible refine hK _ _ ?_;clear hK K)|(clear hK K;clear hK K;with_reducible refine hK _ _ ?_;clear hK K))|(with_reducible refine splitB_intro (fun h=>?_) (fun h=>?_)<;>(try simp only[go_sem] at h)<;>(try exact g_f)<;>(try simp -implicitDefEqProofs only[go_sem]))|(with_reducible refine And.intro (fun h=>?_) (fun h=>?_)<;>(try simp only[go_sem] at h)<;>(try exact g_f))|(with_reducible refine And.intro ?_ ?_;· exact g_x)|(with_reducible intro h;(try simp only[go_sem] at h);(try exact g_f))))
    exact h
  · have hT : inR v.b 0 (n.nodes - 1) = false := by
      rw [← Bool.not_eq_true, inR_iff]
      omega
    rw [hT] at hN ⊢
    refine ACalls_of_awp Tryz.func86 rfl Tryz.results86 ?_
    simp only [List.length_cons, List.length_nil, Tryz.ntmps86, Nat.reduceAdd, Nat.reduceSub, enterA]
    refine AWP_seq_k fun K hK => ?_
    (refine AWP_region ?_; simp -implicitDefEqProofs only [go_sem])
    refine hK _ _ ?_; clear hK K
    refine AWP_freezeP 3 rfl (by simp only [st0]; rfl) ?_
    simp only [ss0, List.set_cons_zero]
    (repeat' (first|(refine g_s fun K hK=>?_)|(refine g_b ?_)|(refine g_r ?_)|(refine g_k ?_;simp only[thenQ,blockQ])|(refine g_e ?_;simp only[thenQ,blockQ,↓reduceIte,Nat.reduceEqDiff])|(refine g_c (fun h=>?_) (fun h=>?_)<;>(try simp only[go_sem] at h)<;>(try exact g_f))|((first|refine g_t ?_|refine g_g ?_|refine g_U ?_|refine g_A ?_|refine (hN _).use ?_|refine g_q (fun τ=>hN _) ?_|refine g_W ?_);(try simp -implicitDefEqProofs only[go_sem,hbL]))|(with_reducible refine hK _ _ ?_;clear hK K)|(clear hK K;first|(with_reducible refine hK _ _ ?_;clear hK K)|(clear hK K;with_reducible refine hK _ _ ?_;clear hK K)|(clear hK K;clear hK K;with_reducible refine hK _ _ ?_;clear hK K))|(with_reducible refine splitB_intro (fun h=>?_) (fun h=>?_)<;>(try simp only[go_sem] at h)<;>(try exact g_f)<;>(try simp -implicitDefEqProofs only[go_sem,hbL]))|(with_reducible refine And.intro (fun h=>?_) (fun h=>?_)<;>(try simp only[go_sem] at h)<;>(try exact g_f))|(with_reducible refine And.intro ?_ ?_;· exact g_x)|(with_reducible intro h;(try simp only[go_sem] at h);(try exact g_f))))
    exact ⟨hK0.app, rb, tb, _, _, M.app⟩
theorem restart_calls (n : Net) (e : Eng) (hc : checkN n = 0) (hl : n.links.length ≤ 5864062014634) (he : EngIn n e) (ρ S : Store) (b : Nat) (hS : MachK ρ S b n e) (v : Evt) (hv : v.routes.length ≤ 17592186044000) (h0 : 0 ≤ v.at') (h1 : v.at' < n.nodes) :
    ACalls Tryz.prog 87 [.ptr b 7 0 0, .agg (evtC v)] S fun r S' => MachK ρ S' b n (if rowErr n v.routes ≠ 0 then e else setR e v.at' (freshR n v.routes)) ∧ r = intA1 (rowErr n v.routes) := by
  have hn := netIn_of hc
  have n1 := hn.n1
  have n6 := hn.n6
  have s2 := hn.alg.s2
  have s24 := hn.alg.s24
  have hx : I64 (n.alg.size - 1) := by unfold I64; omega
  have hel := he.len
  have hir : v.at' < e.routers.length := by omega
  obtain ⟨hK0, rb, tb, gv, gi, M⟩ := hS
  have hb := M.hb
  have hbL : ∀ τ, (S ++ τ)[b]? = some (.cells 7 [netC n ++ [.own rb 2 0 e.routers.length e.routers.length, gv]]) := fun τ => st_app hb
  have hro := row_calls n v.routes hx (by omega)
  have hcl := clone_calls v.routes (by omega)
  by_cases c1 : rowErr n v.routes = 0
  · rw [if_neg (by omega)]
    rw [c1] at hro ⊢
    obtain ⟨t, ht1, ht2, hRr, ht3⟩ := M.row h0 hir
    have hrN : ∀ τ, (S ++ τ)[rb]? = some (.cells 2 (List.zipWith rtrV e.routers tb)) := fun τ => st_app M.hrb
    have hrS : ∀ τ o, (S ++ τ).set rb o = S.set rb o ++ τ := fun τ o => st_setApp M.hrb
    have hzl : (List.zipWith rtrV e.routers tb).length = e.routers.length := by rw [List.length_zipWith, M.tl, Nat.min_self]
    refine ACalls_of_awp Tryz.func87 rfl Tryz.results87 ?_
    simp only [List.length_cons, List.length_nil, Tryz.ntmps87, Nat.reduceAdd, Nat.reduceSub, enterA]
    refine AWP_seq_k fun K hK => ?_
    (refine AWP_region ?_; simp -implicitDefEqProofs only [go_sem])
    refine hK _ _ ?_; clear hK K
    refine AWP_freezeP 3 rfl (by simp only [st0]; rfl) ?_
    simp only [ss0, List.set_cons_zero]
    (repeat' (first|(refine g_s fun K hK=>?_)|(refine g_b ?_)|(refine g_r ?_)|(refine g_k ?_;simp only[thenQ,blockQ])|(refine g_e ?_;simp only[thenQ,blockQ,↓reduceIte,Nat.reduceEqDiff])|(refine g_c (fun h=>?_) (fun h=>?_)<;>(try simp only[go_sem] at h)<;>(try exact g_f))|((first|refine g_g ?_|refine g_U ?_|refine g_A ?_|refine (hro _).use ?_|refine g_q (fun τ=>hro _) ?_|refine (hcl _).use ?_|refine g_q (fun τ=>hcl _) ?_|refine g_W ?_);(try simp -implicitDefEqProofs only[go_sem,hbL, hrN, hrS, hRr, hzl]))|(with_reducible refine hK _ _ ?_;clear hK K)|(clear hK K;first|(with_reducible refine hK _ _ ?_;clear hK K)|(clear hK K;with_reducible refine hK _ _ ?_;clear hK K)|(clear hK K;clear hK K;with_reducible refine hK _ _ ?_;clear hK K))|(with_reducible refine splitB_intro (fun h=>?_) (fun h=>?_)<;>(try simp only[go_sem] at h)<;>(try exact g_f)<;>(try simp -implicitDefEqProofs only[go_sem,hbL, hrN, hrS, hRr, hzl]))|(with_reducible refine And.intro (fun h=>?_) (fun h=>?_)<;>(try simp only[go_sem] at h)<;>(try exact g_f))|(with_reducible refine And.intro ?_ ?_;· exact g_x)|(with_reducible intro h;(try simp only[go_sem] at h);(try exact g_f))))
    have e9 : rtrV (freshR n v.routes) (S.length + 1) = [.sl (v.routes.map intC), .own (S.length + 1) 1 0 n.nodes.toNat n.nodes.toNat] := by simp [rtrV, freshR, intsA]
    have e8 : (freshR n v.routes).told.map rowC = List.replicate n.nodes.toNat [.sl []] := by simp [freshR, rowC, intsA]
    refine AWP_deepS [] (S.set rb (.cells 2 ((List.zipWith rtrV e.routers tb).set v.at'.toNat (rtrV (freshR n v.routes) (S.length + 1)))) ++ [.dead, .cells 1 ((freshR n v.routes).told.map rowC)]) ?_ ?_
    · rw [e9, e8]
      have hkl : ∀ o o' : Ob, ∀ Z : Ob, ((S.set rb Z) ++ [Ob.dead, o]).set (S.length + 1) o' = S.set rb Z ++ [Ob.dead, o'] := fun o o' Z => by
        rw [List.set_append_right _ _ (by simp)]
        simp
      have h := (StDeep.kill [] (S.set rb (.cells 2 ((List.zipWith rtrV e.routers tb).set v.at'.toNat [.sl (v.routes.map intC), .own (S.length + 1) 1 0 n.nodes.toNat n.nodes.toNat])) ++ [.dead, .cells 1 (List.replicate n.nodes.toNat [.c (.slice none 0 0)])])).cell (b := S.length + 1) (k := 1) (es := List.replicate n.nodes.toNat [.c (.slice none 0 0)]) (es' := List.replicate n.nodes.toNat [.sl []]) (by simp) (by rw [List.getElem?_append_right (by simp)]; simp) (DeepR.repl (.cons .nil .nil) _)
      rw [killL, hkl] at h
      exact h
    · have hgi : ∀ x ∈ gi, x < S.length := fun x hx => by
        rcases M.bag with ⟨_, h2, _⟩ | ⟨gb, rest, h2, _, h3, _⟩
        · rw [h2] at hx; cases hx
        · rw [h2] at hx
          rw [List.mem_singleton.1 hx]
          exact (List.getElem?_eq_some_iff.1 h3).1
      have hT : (S.set rb (.cells 2 ((List.zipWith rtrV e.routers tb).set v.at'.toNat (rtrV (freshR n v.routes) (S.length + 1)))) ++ [.dead, .cells 1 ((freshR n v.routes).told.map rowC)])[S.length + 1]? = some (.cells 1 ((freshR n v.routes).told.map rowC)) := by
        rw [List.getElem?_append_right (by simp)]
        simp
      have hM := M.fresh h0 hir (freshR n v.routes) _ (by omega) hK0.len hgi hT
      (repeat' (first|(refine g_s fun K hK=>?_)|(refine g_b ?_)|(refine g_r ?_)|(refine g_k ?_;simp only[thenQ,blockQ])|(refine g_e ?_;simp only[thenQ,blockQ,↓reduceIte,Nat.reduceEqDiff])|(refine g_c (fun h=>?_) (fun h=>?_)<;>(try simp only[go_sem] at h)<;>(try exact g_f))|((first|refine g_t ?_|refine g_g ?_|refine g_U ?_|refine g_A ?_|refine g_W ?_);(try simp -implicitDefEqProofs only[go_sem]))|(with_reducible refine hK _ _ ?_;clear hK K)|(clear hK K;first|(with_reducible refine hK _ _ ?_;clear hK K)|(clear hK K;with_reducible refine hK _ _ ?_;clear hK K)|(clear hK K;clear hK K;with_reducible refine hK _ _ ?_;clear hK K))|(with_reducible refine splitB_intro (fun h=>?_) (fun h=>?_)<;>(try simp only[go_sem] at h)<;>(try exact g_f)<;>(try simp -implicitDefEqProofs only[go_sem]))|(with_reducible refine And.intro (fun h=>?_) (fun h=>?_)<;>(try simp only[go_sem] at h)<;>(try exact g_f))|(with_reducible refine And.intro ?_ ?_;· exact g_x)|(with_reducible intro h;(try simp only[go_sem] at h);(try exact g_f))))
      exact ⟨(hK0.set (M.lo rb (by simp))).app, rb, _, _, _, hM⟩
  · rw [if_pos c1]
    refine ACalls_of_awp Tryz.func87 rfl Tryz.results87 ?_
    simp only [List.length_cons, List.length_nil, Tryz.ntmps87, Nat.reduceAdd, Nat.reduceSub, enterA]
    refine AWP_seq_k fun K hK => ?_
    (refine AWP_region ?_; simp -implicitDefEqProofs only [go_sem])
    refine hK _ _ ?_; clear hK K
    refine AWP_freezeP 3 rfl (by simp only [st0]; rfl) ?_
    simp only [ss0, List.set_cons_zero]
    (repeat' (first|(refine g_s fun K hK=>?_)|(refine g_b ?_)|(refine g_r ?_)|(refine g_k ?_;simp only[thenQ,blockQ])|(refine g_e ?_;simp only[thenQ,blockQ,↓reduceIte,Nat.reduceEqDiff])|(refine g_c (fun h=>?_) (fun h=>?_)<;>(try simp only[go_sem] at h)<;>(try exact g_f))|((first|refine g_t ?_|refine g_g ?_|refine g_U ?_|refine g_A ?_|refine (hro _).use ?_|refine g_q (fun τ=>hro _) ?_|refine g_W ?_);(try simp -implicitDefEqProofs only[go_sem,hbL, c1]))|(with_reducible refine hK _ _ ?_;clear hK K)|(clear hK K;first|(with_reducible refine hK _ _ ?_;clear hK K)|(clear hK K;with_reducible refine hK _ _ ?_;clear hK K)|(clear hK K;clear hK K;with_reducible refine hK _ _ ?_;clear hK K))|(with_reducible refine splitB_intro (fun h=>?_) (fun h=>?_)<;>(try simp only[go_sem] at h)<;>(try exact g_f)<;>(try simp -implicitDefEqProofs only[go_sem,hbL, c1]))|(with_reducible refine And.intro (fun h=>?_) (fun h=>?_)<;>(try simp only[go_sem] at h)<;>(try exact g_f))|(with_reducible refine And.intro ?_ ?_;· exact g_x)|(with_reducible intro h;(try simp only[go_sem] at h);(try exact g_f))))
    exact ⟨hK0.app, rb, tb, _, _, M.app⟩
end Go.Proofs.YtephecognbbaoaaGreat
namespace Go.Proofs.YtephecognbbaoaaGreat
/-- A drawn region in which all that reads comes ahead of all that writes; calls may write, too. -/
theorem AWP_drawY {rd : Option Nat} {P : Program} {N : Nat} {ops : List Oper} {α0 : AF} {σ : Store} {Q : Post} {id : Nat} (hm : P.follows .mixedOrders = true) (hB : (drawB ops ops.length && edgesBack ops && noSelect ops && decide (ops.length ≤ ops.length) && loudOrd (false, true) ops ops.length && hybB (false, true) ops ops.length) = true)
    (h : greg P N ops (false, true) true σ (fun α σ => Q .normal α σ) ops α0 σ) : AWPr rd P N (.region id ops.toArray true) Q α0 σ :=
  AWP_drawH (false, true) ops.length hm hB (by rw [List.take_length, List.drop_length]; exact h)
theorem MachK.app {ρ S τ : Store} {b : Nat} {n : Net} {e : Eng} (h : MachK ρ S b n e) : MachK ρ (S ++ τ) b n e := by
  obtain ⟨hK0, rb, tb, gv, gi, M⟩ := h
  exact ⟨hK0.app, rb, tb, gv, gi, M.app⟩
theorem step0_calls (n : Net) (e : Eng) (hc : checkN n = 0) (hl : n.links.length ≤ 5864062014634) (he : EngIn n e) (hby : EngB e) (ρ S : Store) (b : Nat) (hS : MachK ρ S b n e) (v : Evt) (hv : v.routes.length ≤ 17592186044000) (hk : v.kind < 1 ∨ 7 < v.kind) :
    ACalls Tryz.prog 40 [.ptr b 7 0 0, .agg (evtC v)] S fun r S' => MachK ρ S' b n (stepE n e v).1 ∧ r = intA1 (stepE n e v).2 := by
  have hS1 : MachK ρ (S ++ [.dead]) b n e := hS.app
  have hs : stepE n e v = (e, 7) := by
    unfold stepE
    rw [if_pos]
    rw [not_inR]
    omega
  rw [hs]
  refine ACalls_of_awp Tryz.func40 rfl Tryz.results40 ?_
  simp only [List.length_cons, List.length_nil, Tryz.ntmps40, Nat.reduceAdd, Nat.reduceSub, enterA]
  refine AWP_seq_k fun K hK => ?_
  (refine AWP_region ?_; simp -implicitDefEqProofs only [go_sem])
  refine hK _ _ ?_; clear hK K
  refine AWP_freezeP 3 rfl (by simp only [st0]; rfl) ?_
  simp only [ss0, List.set_cons_zero]
  (repeat' (first|(refine g_s fun K hK=>?_)|(refine g_b ?_)|(refine g_r ?_)|(refine g_k ?_;simp only[thenQ,blockQ])|(refine g_e ?_;simp only[thenQ,blockQ,↓reduceIte,Nat.reduceEqDiff])|(refine g_c (fun h=>?_) (fun h=>?_)<;>(try simp only[go_sem] at h)<;>(try exact g_f))|((first|refine g_t ?_|refine g_g ?_|refine g_U ?_|refine g_A ?_|refine g_W ?_);(try simp -implicitDefEqProofs only[go_sem]))|(with_reducible refine hK _ _ ?_;clear hK K)|(clear hK K;first|(with_reducible refine hK _ _ ?_;clear hK K)|(clear hK K;with_reducible refine hK _ _ ?_;clear hK K)|(clear hK K;clear hK K;with_reducible refine hK _ _ ?_;clear hK K))|(with_reducible refine splitB_intro (fun h=>?_) (fun h=>?_)<;>(try simp only[go_sem] at h)<;>(try exact g_f)<;>(try simp -implicitDefEqProofs only[go_sem]))|(with_reducible refine And.intro (fun h=>?_) (fun h=>?_)<;>(try simp only[go_sem] at h)<;>(try exact g_f))|(with_reducible refine And.intro ?_ ?_;· exact g_x)|(with_reducible intro h;(try simp only[go_sem] at h);(try exact g_f))))
  all_goals exact hS1
theorem step1_calls (n : Net) (e : Eng) (hc : checkN n = 0) (hl : n.links.length ≤ 5864062014634) (he : EngIn n e) (hby : EngB e) (ρ S : Store) (b : Nat) (hS : MachK ρ S b n e) (v : Evt) (hv : v.routes.length ≤ 17592186044000) (hk : v.kind = 1) :
    ACalls Tryz.prog 40 [.ptr b 7 0 0, .agg (evtC v)] S fun r S' => MachK ρ S' b n (stepE n e v).1 ∧ r = intA1 (stepE n e v).2 := by
  have hS1 : MachK ρ (S ++ [.dead]) b n e := hS.app
  have hn := netIn_of hc
  have n6 := hn.n6
  obtain ⟨hK0, rb, tb, gv, gi, M⟩ := hS
  have hbL : ∀ τ, (S ++ τ)[b]? = some (.cells 7 [netC n ++ [.own rb 2 0 e.routers.length e.routers.length, gv]]) := fun τ => st_app M.hb
  have hN := enode_calls n v.at'
  by_cases hat : 0 ≤ v.at' ∧ v.at' < n.nodes
  · have hT : inR v.at' 0 (n.nodes - 1) = true := inR_iff.2 (by omega)
    have hs : stepE n e v = tickE n e v.at' := by
      unfold stepE
      rw [hk, hT]
      rfl
    rw [hT] at hN
    rw [hs]
    refine ACalls_of_awp Tryz.func40 rfl Tryz.results40 ?_
    simp only [List.length_cons, List.length_nil, Tryz.ntmps40, Nat.reduceAdd, Nat.reduceSub, enterA]
    refine AWP_seq_k fun K hK => ?_
    (refine AWP_region ?_; simp -implicitDefEqProofs only [go_sem])
    refine hK _ _ ?_; clear hK K
    refine AWP_freezeP 3 rfl (by simp only [st0]; rfl) ?_
    simp only [ss0, List.set_cons_zero]
    (repeat' (first|(refine g_s fun K hK=>?_)|(refine g_b ?_)|(refine g_r ?_)|(refine g_k ?_;simp only[thenQ,blockQ])|(refine g_e ?_;simp only[thenQ,blockQ,↓reduceIte,Nat.reduceEqDiff])|(refine g_c (fun h=>?_) (fun h=>?_)<;>(try simp only[go_sem] at h)<;>(try exact g_f))|((first|refine g_t ?_|refine g_g ?_|refine g_U ?_|refine g_A ?_|refine (hN _).use ?_|refine g_q (fun τ=>hN _) ?_|refine g_W ?_);(try simp -implicitDefEqProofs only[go_sem,hbL, hk]))|(with_reducible refine hK _ _ ?_;clear hK K)|(clear hK K;first|(with_reducible refine hK _ _ ?_;clear hK K)|(clear hK K;with_reducible refine hK _ _ ?_;clear hK K)|(clear hK K;clear hK K;with_reducible refine hK _ _ ?_;clear hK K))|(with_reducible refine splitB_intro (fun h=>?_) (fun h=>?_)<;>(try simp only[go_sem] at h)<;>(try exact g_f)<;>(try simp -implicitDefEqProofs only[go_sem,hbL, hk]))|(with_reducible refine And.intro (fun h=>?_) (fun h=>?_)<;>(try simp only[go_sem] at h)<;>(try exact g_f))|(with_reducible refine And.intro ?_ ?_;· exact g_x)|(with_reducible intro h;(try simp only[go_sem] at h);(try exact g_f))))
    refine (tick_calls n e hc hl he ρ _ b hS1 v.at' hat.1 hat.2).mono ?_
    rintro r S' ⟨h, rfl⟩
    (repeat' (first|(refine g_s fun K hK=>?_)|(refine g_b ?_)|(refine g_r ?_)|(refine g_k ?_;simp only[thenQ,blockQ])|(refine g_e ?_;simp only[thenQ,blockQ,↓reduceIte,Nat.reduceEqDiff])|(refine g_c (fun h=>?_) (fun h=>?_)<;>(try simp only[go_sem] at h)<;>(try exact g_f))|((first|refine g_t ?_|refine g_g ?_|refine g_U ?_|refine g_A ?_|refine g_W ?_);(try simp -implicitDefEqProofs only[go_sem]))|(with_reducible refine hK _ _ ?_;clear hK K)|(clear hK K;first|(with_reducible refine hK _ _ ?_;clear hK K)|(clear hK K;with_reducible refine hK _ _ ?_;clear hK K)|(clear hK K;clear hK K;with_reducible refine hK _ _ ?_;clear hK K))|(with_reducible refine splitB_intro (fun h=>?_) (fun h=>?_)<;>(try simp only[go_sem] at h)<;>(try exact g_f)<;>(try simp -implicitDefEqProofs only[go_sem]))|(with_reducible refine And.intro (fun h=>?_) (fun h=>?_)<;>(try simp only[go_sem] at h)<;>(try exact g_f))|(with_reducible refine And.intro ?_ ?_;· exact g_x)|(with_reducible intro h;(try simp only[go_sem] at h);(try exact g_f))))
    exact h
  · have hT : inR v.at' 0 (n.nodes - 1) = false := by
      rw [← Bool.not_eq_true, inR_iff]
      omega
    have hs : stepE n e v = (e, 5) := by
      unfold stepE
      rw [hk, hT]
      rfl
    rw [hT] at hN
    rw [hs]
    refine ACalls_of_awp Tryz.func40 rfl Tryz.results40 ?_
    simp only [List.length_cons, List.length_nil, Tryz.ntmps40, Nat.reduceAdd, Nat.reduceSub, enterA]
    refine AWP_seq_k fun K hK => ?_
    (refine AWP_region ?_; simp -implicitDefEqProofs only [go_sem])
    refine hK _ _ ?_; clear hK K
    refine AWP_freezeP 3 rfl (by simp only [st0]; rfl) ?_
    simp only [ss0, List.set_cons_zero]
    (repeat' (first|(refine g_s fun K hK=>?_)|(refine g_b ?_)|(refine g_r ?_)|(refine g_k ?_;simp only[thenQ,blockQ])|(refine g_e ?_;simp only[thenQ,blockQ,↓reduceIte,Nat.reduceEqDiff])|(refine g_c (fun h=>?_) (fun h=>?_)<;>(try simp only[go_sem] at h)<;>(try exact g_f))|((first|refine g_t ?_|refine g_g ?_|refine g_U ?_|refine g_A ?_|refine (hN _).use ?_|refine g_q (fun τ=>hN _) ?_|refine g_W ?_);(try simp -implicitDefEqProofs only[go_sem,hbL, hk]))|(with_reducible refine hK _ _ ?_;clear hK K)|(clear hK K;first|(with_reducible refine hK _ _ ?_;clear hK K)|(clear hK K;with_reducible refine hK _ _ ?_;clear hK K)|(clear hK K;clear hK K;with_reducible refine hK _ _ ?_;clear hK K))|(with_reducible refine splitB_intro (fun h=>?_) (fun h=>?_)<;>(try simp only[go_sem] at h)<;>(try exact g_f)<;>(try simp -implicitDefEqProofs only[go_sem,hbL, hk]))|(with_reducible refine And.intro (fun h=>?_) (fun h=>?_)<;>(try simp only[go_sem] at h)<;>(try exact g_f))|(with_reducible refine And.intro ?_ ?_;· exact g_x)|(with_reducible intro h;(try simp only[go_sem] at h);(try exact g_f))))
    exact hS1
theorem step6_calls (n : Net) (e : Eng) (hc : checkN n = 0) (hl : n.links.length ≤ 5864062014634) (he : EngIn n e) (hby : EngB e) (ρ S : Store) (b : Nat) (hS : MachK ρ S b n e) (v : Evt) (hv : v.routes.length ≤ 17592186044000) (hk : v.kind = 6) :
    ACalls Tryz.prog 40 [.ptr b 7 0 0, .agg (evtC v)] S fun r S' => MachK ρ S' b n (stepE n e v).1 ∧ r = intA1 (stepE n e v).2 := by
  have hS1 : MachK ρ (S ++ [.dead]) b n e := hS.app
  have hn := netIn_of hc
  have n6 := hn.n6
  obtain ⟨hK0, rb, tb, gv, gi, M⟩ := hS
  have hbL : ∀ τ, (S ++ τ)[b]? = some (.cells 7 [netC n ++ [.own rb 2 0 e.routers.length e.routers.length, gv]]) := fun τ => st_app M.hb
  have hN := enode_calls n v.at'
  by_cases hat : 0 ≤ v.at' ∧ v.at' < n.nodes
  · have hT : inR v.at' 0 (n.nodes - 1) = true := inR_iff.2 (by omega)
    have hs : stepE n e v = (if !inR v.b 0 (n.nodes - 1) then e else lookedE n (setR e v.at' (toldR (at0 e.routers v.at') v.b [])) v.at', if !inR v.b 0 (n.nodes - 1) then 5 else 0) := by
      unfold stepE
      rw [hk, hT]
      cases inR v.b 0 (n.nodes - 1) <;> rfl
    rw [hT] at hN
    rw [hs]
    refine ACalls_of_awp Tryz.func40 rfl Tryz.results40 ?_
    simp only [List.length_cons, List.length_nil, Tryz.ntmps40, Nat.reduceAdd, Nat.reduceSub, enterA]
    refine AWP_seq_k fun K hK => ?_
    (refine AWP_region ?_; simp -implicitDefEqProofs only [go_sem])
    refine hK _ _ ?_; clear hK K
    refine AWP_freezeP 3 rfl (by simp only [st0]; rfl) ?_
    simp only [ss0, List.set_cons_zero]
    (repeat' (first|(refine g_s fun K hK=>?_)|(refine g_b ?_)|(refine g_r ?_)|(refine g_k ?_;simp only[thenQ,blockQ])|(refine g_e ?_;simp only[thenQ,blockQ,↓reduceIte,Nat.reduceEqDiff])|(refine g_c (fun h=>?_) (fun h=>?_)<;>(try simp only[go_sem] at h)<;>(try exact g_f))|((first|refine g_t ?_|refine g_g ?_|refine g_U ?_|refine g_A ?_|refine (hN _).use ?_|refine g_q (fun τ=>hN _) ?_|refine g_W ?_);(try simp -implicitDefEqProofs only[go_sem,hbL, hk]))|(with_reducible refine hK _ _ ?_;clear hK K)|(clear hK K;first|(with_reducible refine hK _ _ ?_;clear hK K)|(clear hK K;with_reducible refine hK _ _ ?_;clear hK K)|(clear hK K;clear hK K;with_reducible refine hK _ _ ?_;clear hK K))|(with_reducible refine splitB_intro (fun h=>?_) (fun h=>?_)<;>(try simp only[go_sem] at h)<;>(try exact g_f)<;>(try simp -implicitDefEqProofs only[go_sem,hbL, hk]))|(with_reducible refine And.intro (fun h=>?_) (fun h=>?_)<;>(try simp only[go_sem] at h)<;>(try exact g_f))|(with_reducible refine And.intro ?_ ?_;· exact g_x)|(with_reducible intro h;(try simp only[go_sem] at h);(try exact g_f))))
    have hX := expire_calls n e hc hl he ρ _ b hS1 v hat.1 hat.2
    simp only [evtC, hk] at hX
    refine hX.mono ?_
    rintro r S' ⟨h, rfl⟩
    (repeat' (first|(refine g_s fun K hK=>?_)|(refine g_b ?_)|(refine g_r ?_)|(refine g_k ?_;simp only[thenQ,blockQ])|(refine g_e ?_;simp only[thenQ,blockQ,↓reduceIte,Nat.reduceEqDiff])|(refine g_c (fun h=>?_) (fun h=>?_)<;>(try simp only[go_sem] at h)<;>(try exact g_f))|((first|refine g_t ?_|refine g_g ?_|refine g_U ?_|refine g_A ?_|refine g_W ?_);(try simp -implicitDefEqProofs only[go_sem]))|(with_reducible refine hK _ _ ?_;clear hK K)|(clear hK K;first|(with_reducible refine hK _ _ ?_;clear hK K)|(clear hK K;with_reducible refine hK _ _ ?_;clear hK K)|(clear hK K;clear hK K;with_reducible refine hK _ _ ?_;clear hK K))|(with_reducible refine splitB_intro (fun h=>?_) (fun h=>?_)<;>(try simp only[go_sem] at h)<;>(try exact g_f)<;>(try simp -implicitDefEqProofs only[go_sem]))|(with_reducible refine And.intro (fun h=>?_) (fun h=>?_)<;>(try simp only[go_sem] at h)<;>(try exact g_f))|(with_reducible refine And.intro ?_ ?_;· exact g_x)|(with_reducible intro h;(try simp only[go_sem] at h);(try exact g_f))))
    simpa using h
  · have hT : inR v.at' 0 (n.nodes - 1) = false := by
      rw [← Bool.not_eq_true, inR_iff]
      omega
    have hs : stepE n e v = (e, 5) := by
      unfold stepE
      rw [hk, hT]
      rfl
    rw [hT] at hN
    rw [hs]
    refine ACalls_of_awp Tryz.func40 rfl Tryz.results40 ?_
    simp only [List.length_cons, List.length_nil, Tryz.ntmps40, Nat.reduceAdd, Nat.reduceSub, enterA]
    refine AWP_seq_k fun K hK => ?_
    (refine AWP_region ?_; simp -implicitDefEqProofs only [go_sem])
    refine hK _ _ ?_; clear hK K
    refine AWP_freezeP 3 rfl (by simp only [st0]; rfl) ?_
    simp only [ss0, List.set_cons_zero]
    (repeat' (first|(refine g_s fun K hK=>?_)|(refine g_b ?_)|(refine g_r ?_)|(refine g_k ?_;simp only[thenQ,blockQ])|(refine g_e ?_;simp only[thenQ,blockQ,↓reduceIte,Nat.reduceEqDiff])|(refine g_c (fun h=>?_) (fun h=>?_)<;>(try simp only[go_sem] at h)<;>(try exact g_f))|((first|refine g_t ?_|refine g_g ?_|refine g_U ?_|refine g_A ?_|refine (hN _).use ?_|refine g_q (fun τ=>hN _) ?_|refine g_W ?_);(try simp -implicitDefEqProofs only[go_sem,hbL, hk]))|(with_reducible refine hK _ _ ?_;clear hK K)|(clear hK K;first|(with_reducible refine hK _ _ ?_;clear hK K)|(clear hK K;with_reducible refine hK _ _ ?_;clear hK K)|(clear hK K;clear hK K;with_reducible refine hK _ _ ?_;clear hK K))|(with_reducible refine splitB_intro (fun h=>?_) (fun h=>?_)<;>(try simp only[go_sem] at h)<;>(try exact g_f)<;>(try simp -implicitDefEqProofs only[go_sem,hbL, hk]))|(with_reducible refine And.intro (fun h=>?_) (fun h=>?_)<;>(try simp only[go_sem] at h)<;>(try exact g_f))|(with_reducible refine And.intro ?_ ?_;· exact g_x)|(with_reducible intro h;(try simp only[go_sem] at h);(try exact g_f))))
    exact hS1
theorem step7_calls (n : Net) (e : Eng) (hc : checkN n = 0) (hl : n.links.length ≤ 5864062014634) (he : EngIn n e) (hby : EngB e) (ρ S : Store) (b : Nat) (hS : MachK ρ S b n e) (v : Evt) (hv : v.routes.length ≤ 17592186044000) (hk : v.kind = 7) :
    ACalls Tryz.prog 40 [.ptr b 7 0 0, .agg (evtC v)] S fun r S' => MachK ρ S' b n (stepE n e v).1 ∧ r = intA1 (stepE n e v).2 := by
  have hS1 : MachK ρ (S ++ [.dead]) b n e := hS.app
  have hn := netIn_of hc
  have n6 := hn.n6
  obtain ⟨hK0, rb, tb, gv, gi, M⟩ := hS
  have hbL : ∀ τ, (S ++ τ)[b]? = some (.cells 7 [netC n ++ [.own rb 2 0 e.routers.length e.routers.length, gv]]) := fun τ => st_app M.hb
  have hN := enode_calls n v.at'
  by_cases hat : 0 ≤ v.at' ∧ v.at' < n.nodes
  · have hT : inR v.at' 0 (n.nodes - 1) = true := inR_iff.2 (by omega)
    have hs : stepE n e v = (if rowErr n v.routes ≠ 0 then e else setR e v.at' (freshR n v.routes), rowErr n v.routes) := by
      unfold stepE
      rw [hk, hT]
      by_cases h : rowErr n v.routes = 0
      · rw [h]
        rfl
      · show (if rowErr n v.routes ≠ 0 then (e, rowErr n v.routes) else (setR e v.at' (freshR n v.routes), 0)) = _
        rw [if_pos h, if_pos h]
    rw [hT] at hN
    rw [hs]
    refine ACalls_of_awp Tryz.func40 rfl Tryz.results40 ?_
    simp only [List.length_cons, List.length_nil, Tryz.ntmps40, Nat.reduceAdd, Nat.reduceSub, enterA]
    refine AWP_seq_k fun K hK => ?_
    (refine AWP_region ?_; simp -implicitDefEqProofs only [go_sem])
    refine hK _ _ ?_; clear hK K
    refine AWP_freezeP 3 rfl (by simp only [st0]; rfl) ?_
    simp only [ss0, List.set_cons_zero]
    (repeat' (first|(refine g_s fun K hK=>?_)|(refine g_b ?_)|(refine g_r ?_)|(refine g_k ?_;simp only[thenQ,blockQ])|(refine g_e ?_;simp only[thenQ,blockQ,↓reduceIte,Nat.reduceEqDiff])|(refine g_c (fun h=>?_) (fun h=>?_)<;>(try simp only[go_sem] at h)<;>(try exact g_f))|((first|refine g_t ?_|refine g_g ?_|refine g_U ?_|refine g_A ?_|refine (hN _).use ?_|refine g_q (fun τ=>hN _) ?_|refine g_W ?_);(try simp -implicitDefEqProofs only[go_sem,hbL, hk]))|(with_reducible refine hK _ _ ?_;clear hK K)|(clear hK K;first|(with_reducible refine hK _ _ ?_;clear hK K)|(clear hK K;with_reducible refine hK _ _ ?_;clear hK K)|(clear hK K;clear hK K;with_reducible refine hK _ _ ?_;clear hK K))|(with_reducible refine splitB_intro (fun h=>?_) (fun h=>?_)<;>(try simp only[go_sem] at h)<;>(try exact g_f)<;>(try simp -implicitDefEqProofs only[go_sem,hbL, hk]))|(with_reducible refine And.intro (fun h=>?_) (fun h=>?_)<;>(try simp only[go_sem] at h)<;>(try exact g_f))|(with_reducible refine And.intro ?_ ?_;· exact g_x)|(with_reducible intro h;(try simp only[go_sem] at h);(try exact g_f))))
    have hX := restart_calls n e hc hl he ρ _ b hS1 v hv hat.1 hat.2
    simp only [evtC, hk] at hX
    refine hX.mono ?_
    rintro r S' ⟨h, rfl⟩
    (repeat' (first|(refine g_s fun K hK=>?_)|(refine g_b ?_)|(refine g_r ?_)|(refine g_k ?_;simp only[thenQ,blockQ])|(refine g_e ?_;simp only[thenQ,blockQ,↓reduceIte,Nat.reduceEqDiff])|(refine g_c (fun h=>?_) (fun h=>?_)<;>(try simp only[go_sem] at h)<;>(try exact g_f))|((first|refine g_t ?_|refine g_g ?_|refine g_U ?_|refine g_A ?_|refine g_W ?_);(try simp -implicitDefEqProofs only[go_sem]))|(with_reducible refine hK _ _ ?_;clear hK K)|(clear hK K;first|(with_reducible refine hK _ _ ?_;clear hK K)|(clear hK K;with_reducible refine hK _ _ ?_;clear hK K)|(clear hK K;clear hK K;with_reducible refine hK _ _ ?_;clear hK K))|(with_reducible refine splitB_intro (fun h=>?_) (fun h=>?_)<;>(try simp only[go_sem] at h)<;>(try exact g_f)<;>(try simp -implicitDefEqProofs only[go_sem]))|(with_reducible refine And.intro (fun h=>?_) (fun h=>?_)<;>(try simp only[go_sem] at h)<;>(try exact g_f))|(with_reducible refine And.intro ?_ ?_;· exact g_x)|(with_reducible intro h;(try simp only[go_sem] at h);(try exact g_f))))
    exact h
  · have hT : inR v.at' 0 (n.nodes - 1) = false := by
      rw [← Bool.not_eq_true, inR_iff]
      omega
    have hs : stepE n e v = (e, 5) := by
      unfold stepE
      rw [hk, hT]
      rfl
    rw [hT] at hN
    rw [hs]
    refine ACalls_of_awp Tryz.func40 rfl Tryz.results40 ?_
    simp only [List.length_cons, List.length_nil, Tryz.ntmps40, Nat.reduceAdd, Nat.reduceSub, enterA]
    refine AWP_seq_k fun K hK => ?_
    (refine AWP_region ?_; simp -implicitDefEqProofs only [go_sem])
    refine hK _ _ ?_; clear hK K
    refine AWP_freezeP 3 rfl (by simp only [st0]; rfl) ?_
    simp only [ss0, List.set_cons_zero]
    (repeat' (first|(refine g_s fun K hK=>?_)|(refine g_b ?_)|(refine g_r ?_)|(refine g_k ?_;simp only[thenQ,blockQ])|(refine g_e ?_;simp only[thenQ,blockQ,↓reduceIte,Nat.reduceEqDiff])|(refine g_c (fun h=>?_) (fun h=>?_)<;>(try simp only[go_sem] at h)<;>(try exact g_f))|((first|refine g_t ?_|refine g_g ?_|refine g_U ?_|refine g_A ?_|refine (hN _).use ?_|refine g_q (fun τ=>hN _) ?_|refine g_W ?_);(try simp -implicitDefEqProofs only[go_sem,hbL, hk]))|(with_reducible refine hK _ _ ?_;clear hK K)|(clear hK K;first|(with_reducible refine hK _ _ ?_;clear hK K)|(clear hK K;with_reducible refine hK _ _ ?_;clear hK K)|(clear hK K;clear hK K;with_reducible refine hK _ _ ?_;clear hK K))|(with_reducible refine splitB_intro (fun h=>?_) (fun h=>?_)<;>(try simp only[go_sem] at h)<;>(try exact g_f)<;>(try simp -implicitDefEqProofs only[go_sem,hbL, hk]))|(with_reducible refine And.intro (fun h=>?_) (fun h=>?_)<;>(try simp only[go_sem] at h)<;>(try exact g_f))|(with_reducible refine And.intro ?_ ?_;· exact g_x)|(with_reducible intro h;(try simp only[go_sem] at h);(try exact g_f))))
    exact hS1
theorem step2_calls (n : Net) (e : Eng) (hc : checkN n = 0) (hl : n.links.length ≤ 5864062014634) (he : EngIn n e) (hby : EngB e) (ρ S : Store) (b : Nat) (hS : MachK ρ S b n e) (v : Evt) (hv : v.routes.length ≤ 17592186044000) (hk : v.kind = 2) :
    ACalls Tryz.prog 40 [.ptr b 7 0 0, .agg (evtC v)] S fun r S' => MachK ρ S' b n (stepE n e v).1 ∧ r = intA1 (stepE n e v).2 := by
  have hS1 : MachK ρ (S ++ [.dead]) b n e := hS.app
  have hbag := he.bag
  obtain ⟨hK0, rb, tb, gv, gi, M⟩ := hS
  have hbL : ∀ τ, (S ++ τ)[b]? = some (.cells 7 [netC n ++ [.own rb 2 0 e.routers.length e.routers.length, gv]]) := fun τ => st_app M.hb
  by_cases hat : 0 ≤ v.at' ∧ v.at' < e.bag.length
  · have hT : inR v.at' 0 (e.bag.length - 1) = true := inR_iff.2 (by omega)
    have hs : stepE n e v = (deliverE n e v.at', 0) := by
      unfold stepE
      rw [hk, hT]
      rfl
    rw [hs]
    rcases M.bag with ⟨h1, _, _⟩ | ⟨gb, rest, rfl, rfl, hb3, hb4, hb5⟩
    · rw [h1] at hat
      simp at hat
      omega
    refine ACalls_of_awp Tryz.func40 rfl Tryz.results40 ?_
    simp only [List.length_cons, List.length_nil, Tryz.ntmps40, Nat.reduceAdd, Nat.reduceSub, enterA]
    refine AWP_seq_k fun K hK => ?_
    (refine AWP_region ?_; simp -implicitDefEqProofs only [go_sem])
    refine hK _ _ ?_; clear hK K
    refine AWP_freezeP 3 rfl (by simp only [st0]; rfl) ?_
    simp only [ss0, List.set_cons_zero]
    (repeat' (first|(refine g_s fun K hK=>?_)|(refine g_b ?_)|(refine g_r ?_)|(refine g_k ?_;simp only[thenQ,blockQ])|(refine g_e ?_;simp only[thenQ,blockQ,↓reduceIte,Nat.reduceEqDiff])|(refine g_c (fun h=>?_) (fun h=>?_)<;>(try simp only[go_sem] at h)<;>(try exact g_f))|((first|refine g_t ?_|refine g_g ?_|refine g_U ?_|refine g_A ?_|refine g_W ?_);(try simp -implicitDefEqProofs only[go_sem,hbL, hk]))|(with_reducible refine hK _ _ ?_;clear hK K)|(clear hK K;first|(with_reducible refine hK _ _ ?_;clear hK K)|(clear hK K;with_reducible refine hK _ _ ?_;clear hK K)|(clear hK K;clear hK K;with_reducible refine hK _ _ ?_;clear hK K))|(with_reducible refine splitB_intro (fun h=>?_) (fun h=>?_)<;>(try simp only[go_sem] at h)<;>(try exact g_f)<;>(try simp -implicitDefEqProofs only[go_sem,hbL, hk]))|(with_reducible refine And.intro (fun h=>?_) (fun h=>?_)<;>(try simp only[go_sem] at h)<;>(try exact g_f))|(with_reducible refine And.intro ?_ ?_;· exact g_x)|(with_reducible intro h;(try simp only[go_sem] at h);(try exact g_f))))
    refine (deliver_calls n e hc hl he hby ρ _ b hS1 v.at' hat.1 hat.2).mono ?_
    rintro r S' ⟨h, rfl⟩
    (repeat' (first|(refine g_s fun K hK=>?_)|(refine g_b ?_)|(refine g_r ?_)|(refine g_k ?_;simp only[thenQ,blockQ])|(refine g_e ?_;simp only[thenQ,blockQ,↓reduceIte,Nat.reduceEqDiff])|(refine g_c (fun h=>?_) (fun h=>?_)<;>(try simp only[go_sem] at h)<;>(try exact g_f))|((first|refine g_t ?_|refine g_g ?_|refine g_U ?_|refine g_A ?_|refine g_W ?_);(try simp -implicitDefEqProofs only[go_sem]))|(with_reducible refine hK _ _ ?_;clear hK K)|(clear hK K;first|(with_reducible refine hK _ _ ?_;clear hK K)|(clear hK K;with_reducible refine hK _ _ ?_;clear hK K)|(clear hK K;clear hK K;with_reducible refine hK _ _ ?_;clear hK K))|(with_reducible refine splitB_intro (fun h=>?_) (fun h=>?_)<;>(try simp only[go_sem] at h)<;>(try exact g_f)<;>(try simp -implicitDefEqProofs only[go_sem]))|(with_reducible refine And.intro (fun h=>?_) (fun h=>?_)<;>(try simp only[go_sem] at h)<;>(try exact g_f))|(with_reducible refine And.intro ?_ ?_;· exact g_x)|(with_reducible intro h;(try simp only[go_sem] at h);(try exact g_f))))
    exact h
  · have hT : inR v.at' 0 (e.bag.length - 1) = false := by
      rw [← Bool.not_eq_true, inR_iff]
      omega
    have hs : stepE n e v = (e, 5) := by
      unfold stepE
      rw [hk, hT]
      rfl
    rw [hs]
    rcases M.bag with ⟨h1, _, rfl⟩ | ⟨gb, rest, _, rfl, hb3, hb4, hb5⟩
    · have h2 : e.bag.length = 0 := by rw [h1]; rfl
      rw [h2] at hat
      refine ACalls_of_awp Tryz.func40 rfl Tryz.results40 ?_
      simp only [List.length_cons, List.length_nil, Tryz.ntmps40, Nat.reduceAdd, Nat.reduceSub, enterA]
      refine AWP_seq_k fun K hK => ?_
      (refine AWP_region ?_; simp -implicitDefEqProofs only [go_sem])
      refine hK _ _ ?_; clear hK K
      refine AWP_freezeP 3 rfl (by simp only [st0]; rfl) ?_
      simp only [ss0, List.set_cons_zero]
      (repeat' (first|(refine g_s fun K hK=>?_)|(refine g_b ?_)|(refine g_r ?_)|(refine g_k ?_;simp only[thenQ,blockQ])|(refine g_e ?_;simp only[thenQ,blockQ,↓reduceIte,Nat.reduceEqDiff])|(refine g_c (fun h=>?_) (fun h=>?_)<;>(try simp only[go_sem] at h)<;>(try exact g_f))|((first|refine g_t ?_|refine g_g ?_|refine g_U ?_|refine g_A ?_|refine g_W ?_);(try simp -implicitDefEqProofs only[go_sem,hbL, hk]))|(with_reducible refine hK _ _ ?_;clear hK K)|(clear hK K;first|(with_reducible refine hK _ _ ?_;clear hK K)|(clear hK K;with_reducible refine hK _ _ ?_;clear hK K)|(clear hK K;clear hK K;with_reducible refine hK _ _ ?_;clear hK K))|(with_reducible refine splitB_intro (fun h=>?_) (fun h=>?_)<;>(try simp only[go_sem] at h)<;>(try exact g_f)<;>(try simp -implicitDefEqProofs only[go_sem,hbL, hk]))|(with_reducible refine And.intro (fun h=>?_) (fun h=>?_)<;>(try simp only[go_sem] at h)<;>(try exact g_f))|(with_reducible refine And.intro ?_ ?_;· exact g_x)|(with_reducible intro h;(try simp only[go_sem] at h);(try exact g_f))))
      all_goals exact hS1
    · refine ACalls_of_awp Tryz.func40 rfl Tryz.results40 ?_
      simp only [List.length_cons, List.length_nil, Tryz.ntmps40, Nat.reduceAdd, Nat.reduceSub, enterA]
      refine AWP_seq_k fun K hK => ?_
      (refine AWP_region ?_; simp -implicitDefEqProofs only [go_sem])
      refine hK _ _ ?_; clear hK K
      refine AWP_freezeP 3 rfl (by simp only [st0]; rfl) ?_
      simp only [ss0, List.set_cons_zero]
      (repeat' (first|(refine g_s fun K hK=>?_)|(refine g_b ?_)|(refine g_r ?_)|(refine g_k ?_;simp only[thenQ,blockQ])|(refine g_e ?_;simp only[thenQ,blockQ,↓reduceIte,Nat.reduceEqDiff])|(refine g_c (fun h=>?_) (fun h=>?_)<;>(try simp only[go_sem] at h)<;>(try exact g_f))|((first|refine g_t ?_|refine g_g ?_|refine g_U ?_|refine g_A ?_|refine g_W ?_);(try simp -implicitDefEqProofs only[go_sem,hbL, hk]))|(with_reducible refine hK _ _ ?_;clear hK K)|(clear hK K;first|(with_reducible refine hK _ _ ?_;clear hK K)|(clear hK K;with_reducible refine hK _ _ ?_;clear hK K)|(clear hK K;clear hK K;with_reducible refine hK _ _ ?_;clear hK K))|(with_reducible refine splitB_intro (fun h=>?_) (fun h=>?_)<;>(try simp only[go_sem] at h)<;>(try exact g_f)<;>(try simp -implicitDefEqProofs only[go_sem,hbL, hk]))|(with_reducible refine And.intro (fun h=>?_) (fun h=>?_)<;>(try simp only[go_sem] at h)<;>(try exact g_f))|(with_reducible refine And.intro ?_ ?_;· exact g_x)|(with_reducible intro h;(try simp only[go_sem] at h);(try exact g_f))))
      all_goals exact hS1
theorem step3_calls (n : Net) (e : Eng) (hc : checkN n = 0) (hl : n.links.length ≤ 5864062014634) (he : EngIn n e) (hby : EngB e) (ρ S : Store) (b : Nat) (hS : MachK ρ S b n e) (v : Evt) (hv : v.routes.length ≤ 17592186044000) (hk : v.kind = 3) :
    ACalls Tryz.prog 40 [.ptr b 7 0 0, .agg (evtC v)] S fun r S' => MachK ρ S' b n (stepE n e v).1 ∧ r = intA1 (stepE n e v).2 := by
  have hS1 : MachK ρ (S ++ [.dead]) b n e := hS.app
  have hbag := he.bag
  obtain ⟨hK0, rb, tb, gv, gi, M⟩ := hS
  have hbL : ∀ τ, (S ++ τ)[b]? = some (.cells 7 [netC n ++ [.own rb 2 0 e.routers.length e.routers.length, gv]]) := fun τ => st_app M.hb
  by_cases hat : 0 ≤ v.at' ∧ v.at' < e.bag.length
  · have hT : inR v.at' 0 (e.bag.length - 1) = true := inR_iff.2 (by omega)
    have hs : stepE n e v = (if e.bag.length = 120 then e else ⟨e.routers, e.bag ++ [at0 e.bag v.at']⟩, if e.bag.length = 120 then 2 else 0) := by
      unfold stepE
      rw [hk, hT]
      show (if e.bag.length = 120 then (e, (2 : Int)) else (⟨e.routers, e.bag ++ [at0 e.bag v.at']⟩, 0)) = _
      by_cases h : e.bag.length = 120
      · rw [if_pos h, if_pos h, if_pos h]
      · rw [if_neg h, if_neg h, if_neg h]
    rw [hs]
    rcases M.bag with ⟨h1, _, _⟩ | ⟨gb, rest, rfl, rfl, hb3, hb4, hb5⟩
    · rw [h1] at hat
      simp at hat
      omega
    refine ACalls_of_awp Tryz.func40 rfl Tryz.results40 ?_
    simp only [List.length_cons, List.length_nil, Tryz.ntmps40, Nat.reduceAdd, Nat.reduceSub, enterA]
    refine AWP_seq_k fun K hK => ?_
    (refine AWP_region ?_; simp -implicitDefEqProofs only [go_sem])
    refine hK _ _ ?_; clear hK K
    refine AWP_freezeP 3 rfl (by simp only [st0]; rfl) ?_
    simp only [ss0, List.set_cons_zero]
    (repeat' (first|(refine g_s fun K hK=>?_)|(refine g_b ?_)|(refine g_r ?_)|(refine g_k ?_;simp only[thenQ,blockQ])|(refine g_e ?_;simp only[thenQ,blockQ,↓reduceIte,Nat.reduceEqDiff])|(refine g_c (fun h=>?_) (fun h=>?_)<;>(try simp only[go_sem] at h)<;>(try exact g_f))|((first|refine g_t ?_|refine g_g ?_|refine g_U ?_|refine g_A ?_|refine g_W ?_);(try simp -implicitDefEqProofs only[go_sem,hbL, hk]))|(with_reducible refine hK _ _ ?_;clear hK K)|(clear hK K;first|(with_reducible refine hK _ _ ?_;clear hK K)|(clear hK K;with_reducible refine hK _ _ ?_;clear hK K)|(clear hK K;clear hK K;with_reducible refine hK _ _ ?_;clear hK K))|(with_reducible refine splitB_intro (fun h=>?_) (fun h=>?_)<;>(try simp only[go_sem] at h)<;>(try exact g_f)<;>(try simp -implicitDefEqProofs only[go_sem,hbL, hk]))|(with_reducible refine And.intro (fun h=>?_) (fun h=>?_)<;>(try simp only[go_sem] at h)<;>(try exact g_f))|(with_reducible refine And.intro ?_ ?_;· exact g_x)|(with_reducible intro h;(try simp only[go_sem] at h);(try exact g_f))))
    refine (twice_calls n e he ρ _ b hS1 v.at' hat.1 hat.2).mono ?_
    rintro r S' ⟨h, rfl⟩
    (repeat' (first|(refine g_s fun K hK=>?_)|(refine g_b ?_)|(refine g_r ?_)|(refine g_k ?_;simp only[thenQ,blockQ])|(refine g_e ?_;simp only[thenQ,blockQ,↓reduceIte,Nat.reduceEqDiff])|(refine g_c (fun h=>?_) (fun h=>?_)<;>(try simp only[go_sem] at h)<;>(try exact g_f))|((first|refine g_t ?_|refine g_g ?_|refine g_U ?_|refine g_A ?_|refine g_W ?_);(try simp -implicitDefEqProofs only[go_sem]))|(with_reducible refine hK _ _ ?_;clear hK K)|(clear hK K;first|(with_reducible refine hK _ _ ?_;clear hK K)|(clear hK K;with_reducible refine hK _ _ ?_;clear hK K)|(clear hK K;clear hK K;with_reducible refine hK _ _ ?_;clear hK K))|(with_reducible refine splitB_intro (fun h=>?_) (fun h=>?_)<;>(try simp only[go_sem] at h)<;>(try exact g_f)<;>(try simp -implicitDefEqProofs only[go_sem]))|(with_reducible refine And.intro (fun h=>?_) (fun h=>?_)<;>(try simp only[go_sem] at h)<;>(try exact g_f))|(with_reducible refine And.intro ?_ ?_;· exact g_x)|(with_reducible intro h;(try simp only[go_sem] at h);(try exact g_f))))
    exact h
  · have hT : inR v.at' 0 (e.bag.length - 1) = false := by
      rw [← Bool.not_eq_true, inR_iff]
      omega
    have hs : stepE n e v = (e, 5) := by
      unfold stepE
      rw [hk, hT]
      rfl
    rw [hs]
    rcases M.bag with ⟨h1, _, rfl⟩ | ⟨gb, rest, _, rfl, hb3, hb4, hb5⟩
    · have h2 : e.bag.length = 0 := by rw [h1]; rfl
      rw [h2] at hat
      refine ACalls_of_awp Tryz.func40 rfl Tryz.results40 ?_
      simp only [List.length_cons, List.length_nil, Tryz.ntmps40, Nat.reduceAdd, Nat.reduceSub, enterA]
      refine AWP_seq_k fun K hK => ?_
      (refine AWP_region ?_; simp -implicitDefEqProofs only [go_sem])
      refine hK _ _ ?_; clear hK K
      refine AWP_freezeP 3 rfl (by simp only [st0]; rfl) ?_
      simp only [ss0, List.set_cons_zero]
      (repeat' (first|(refine g_s fun K hK=>?_)|(refine g_b ?_)|(refine g_r ?_)|(refine g_k ?_;simp only[thenQ,blockQ])|(refine g_e ?_;simp only[thenQ,blockQ,↓reduceIte,Nat.reduceEqDiff])|(refine g_c (fun h=>?_) (fun h=>?_)<;>(try simp only[go_sem] at h)<;>(try exact g_f))|((first|refine g_t ?_|refine g_g ?_|refine g_U ?_|refine g_A ?_|refine g_W ?_);(try simp -implicitDefEqProofs only[go_sem,hbL, hk]))|(with_reducible refine hK _ _ ?_;clear hK K)|(clear hK K;first|(with_reducible refine hK _ _ ?_;clear hK K)|(clear hK K;with_reducible refine hK _ _ ?_;clear hK K)|(clear hK K;clear hK K;with_reducible refine hK _ _ ?_;clear hK K))|(with_reducible refine splitB_intro (fun h=>?_) (fun h=>?_)<;>(try simp only[go_sem] at h)<;>(try exact g_f)<;>(try simp -implicitDefEqProofs only[go_sem,hbL, hk]))|(with_reducible refine And.intro (fun h=>?_) (fun h=>?_)<;>(try simp only[go_sem] at h)<;>(try exact g_f))|(with_reducible refine And.intro ?_ ?_;· exact g_x)|(with_reducible intro h;(try simp only[go_sem] at h);(try exact g_f))))
      all_goals exact hS1
    · refine ACalls_of_awp Tryz.func40 rfl Tryz.results40 ?_
      simp only [List.length_cons, List.length_nil, Tryz.ntmps40, Nat.reduceAdd, Nat.reduceSub, enterA]
      refine AWP_seq_k fun K hK => ?_
      (refine AWP_region ?_; simp -implicitDefEqProofs only [go_sem])
      refine hK _ _ ?_; clear hK K
      refine AWP_freezeP 3 rfl (by simp only [st0]; rfl) ?_
      simp only [ss0, List.set_cons_zero]
      (repeat' (first|(refine g_s fun K hK=>?_)|(refine g_b ?_)|(refine g_r ?_)|(refine g_k ?_;simp only[thenQ,blockQ])|(refine g_e ?_;simp only[thenQ,blockQ,↓reduceIte,Nat.reduceEqDiff])|(refine g_c (fun h=>?_) (fun h=>?_)<;>(try simp only[go_sem] at h)<;>(try exact g_f))|((first|refine g_t ?_|refine g_g ?_|refine g_U ?_|refine g_A ?_|refine g_W ?_);(try simp -implicitDefEqProofs only[go_sem,hbL, hk]))|(with_reducible refine hK _ _ ?_;clear hK K)|(clear hK K;first|(with_reducible refine hK _ _ ?_;clear hK K)|(clear hK K;with_reducible refine hK _ _ ?_;clear hK K)|(clear hK K;clear hK K;with_reducible refine hK _ _ ?_;clear hK K))|(with_reducible refine splitB_intro (fun h=>?_) (fun h=>?_)<;>(try simp only[go_sem] at h)<;>(try exact g_f)<;>(try simp -implicitDefEqProofs only[go_sem,hbL, hk]))|(with_reducible refine And.intro (fun h=>?_) (fun h=>?_)<;>(try simp only[go_sem] at h)<;>(try exact g_f))|(with_reducible refine And.intro ?_ ?_;· exact g_x)|(with_reducible intro h;(try simp only[go_sem] at h);(try exact g_f))))
      all_goals exact hS1
theorem step5_calls (n : Net) (e : Eng) (hc : checkN n = 0) (hl : n.links.length ≤ 5864062014634) (he : EngIn n e) (hby : EngB e) (ρ S : Store) (b : Nat) (hS : MachK ρ S b n e) (v : Evt) (hv : v.routes.length ≤ 17592186044000) (hk : v.kind = 5) :
    ACalls Tryz.prog 40 [.ptr b 7 0 0, .agg (evtC v)] S fun r S' => MachK ρ S' b n (stepE n e v).1 ∧ r = intA1 (stepE n e v).2 := by
  have hS1 : MachK ρ (S ++ [.dead]) b n e := hS.app
  have hbag := he.bag
  obtain ⟨hK0, rb, tb, gv, gi, M⟩ := hS
  have hbL : ∀ τ, (S ++ τ)[b]? = some (.cells 7 [netC n ++ [.own rb 2 0 e.routers.length e.routers.length, gv]]) := fun τ => st_app M.hb
  by_cases hat : 0 ≤ v.at' ∧ v.at' < e.bag.length
  · have hT : inR v.at' 0 (e.bag.length - 1) = true := inR_iff.2 (by omega)
    have hs : stepE n e v = spoilE e v := by
      unfold stepE
      rw [hk, hT]
      rfl
    rw [hs]
    rcases M.bag with ⟨h1, _, _⟩ | ⟨gb, rest, rfl, rfl, hb3, hb4, hb5⟩
    · rw [h1] at hat
      simp at hat
      omega
    refine ACalls_of_awp Tryz.func40 rfl Tryz.results40 ?_
    simp only [List.length_cons, List.length_nil, Tryz.ntmps40, Nat.reduceAdd, Nat.reduceSub, enterA]
    refine AWP_seq_k fun K hK => ?_
    (refine AWP_region ?_; simp -implicitDefEqProofs only [go_sem])
    refine hK _ _ ?_; clear hK K
    refine AWP_freezeP 3 rfl (by simp only [st0]; rfl) ?_
    simp only [ss0, List.set_cons_zero]
    (repeat' (first|(refine g_s fun K hK=>?_)|(refine g_b ?_)|(refine g_r ?_)|(refine g_k ?_;simp only[thenQ,blockQ])|(refine g_e ?_;simp only[thenQ,blockQ,↓reduceIte,Nat.reduceEqDiff])|(refine g_c (fun h=>?_) (fun h=>?_)<;>(try simp only[go_sem] at h)<;>(try exact g_f))|((first|refine g_t ?_|refine g_g ?_|refine g_U ?_|refine g_A ?_|refine g_W ?_);(try simp -implicitDefEqProofs only[go_sem,hbL, hk]))|(with_reducible refine hK _ _ ?_;clear hK K)|(clear hK K;first|(with_reducible refine hK _ _ ?_;clear hK K)|(clear hK K;with_reducible refine hK _ _ ?_;clear hK K)|(clear hK K;clear hK K;with_reducible refine hK _ _ ?_;clear hK K))|(with_reducible refine splitB_intro (fun h=>?_) (fun h=>?_)<;>(try simp only[go_sem] at h)<;>(try exact g_f)<;>(try simp -implicitDefEqProofs only[go_sem,hbL, hk]))|(with_reducible refine And.intro (fun h=>?_) (fun h=>?_)<;>(try simp only[go_sem] at h)<;>(try exact g_f))|(with_reducible refine And.intro ?_ ?_;· exact g_x)|(with_reducible intro h;(try simp only[go_sem] at h);(try exact g_f))))
    have hX := spoil_calls n e he hby ρ _ b hS1 v hat.1 hat.2
    simp only [evtC, hk] at hX
    refine hX.mono ?_
    rintro r S' ⟨h, rfl⟩
    (repeat' (first|(refine g_s fun K hK=>?_)|(refine g_b ?_)|(refine g_r ?_)|(refine g_k ?_;simp only[thenQ,blockQ])|(refine g_e ?_;simp only[thenQ,blockQ,↓reduceIte,Nat.reduceEqDiff])|(refine g_c (fun h=>?_) (fun h=>?_)<;>(try simp only[go_sem] at h)<;>(try exact g_f))|((first|refine g_t ?_|refine g_g ?_|refine g_U ?_|refine g_A ?_|refine g_W ?_);(try simp -implicitDefEqProofs only[go_sem]))|(with_reducible refine hK _ _ ?_;clear hK K)|(clear hK K;first|(with_reducible refine hK _ _ ?_;clear hK K)|(clear hK K;with_reducible refine hK _ _ ?_;clear hK K)|(clear hK K;clear hK K;with_reducible refine hK _ _ ?_;clear hK K))|(with_reducible refine splitB_intro (fun h=>?_) (fun h=>?_)<;>(try simp only[go_sem] at h)<;>(try exact g_f)<;>(try simp -implicitDefEqProofs only[go_sem]))|(with_reducible refine And.intro (fun h=>?_) (fun h=>?_)<;>(try simp only[go_sem] at h)<;>(try exact g_f))|(with_reducible refine And.intro ?_ ?_;· exact g_x)|(with_reducible intro h;(try simp only[go_sem] at h);(try exact g_f))))
    exact h
  · have hT : inR v.at' 0 (e.bag.length - 1) = false := by
      rw [← Bool.not_eq_true, inR_iff]
      omega
    have hs : stepE n e v = (e, 5) := by
      unfold stepE
      rw [hk, hT]
      rfl
    rw [hs]
    rcases M.bag with ⟨h1, _, rfl⟩ | ⟨gb, rest, _, rfl, hb3, hb4, hb5⟩
    · have h2 : e.bag.length = 0 := by rw [h1]; rfl
      rw [h2] at hat
      refine ACalls_of_awp Tryz.func40 rfl Tryz.results40 ?_
      simp only [List.length_cons, List.length_nil, Tryz.ntmps40, Nat.reduceAdd, Nat.reduceSub, enterA]
      refine AWP_seq_k fun K hK => ?_
      (refine AWP_region ?_; simp -implicitDefEqProofs only [go_sem])
      refine hK _ _ ?_; clear hK K
      refine AWP_freezeP 3 rfl (by simp only [st0]; rfl) ?_
      simp only [ss0, List.set_cons_zero]
      (repeat' (first|(refine g_s fun K hK=>?_)|(refine g_b ?_)|(refine g_r ?_)|(refine g_k ?_;simp only[thenQ,blockQ])|(refine g_e ?_;simp only[thenQ,blockQ,↓reduceIte,Nat.reduceEqDiff])|(refine g_c (fun h=>?_) (fun h=>?_)<;>(try simp only[go_sem] at h)<;>(try exact g_f))|((first|refine g_t ?_|refine g_g ?_|refine g_U ?_|refine g_A ?_|refine g_W ?_);(try simp -implicitDefEqProofs only[go_sem,hbL, hk]))|(with_reducible refine hK _ _ ?_;clear hK K)|(clear hK K;first|(with_reducible refine hK _ _ ?_;clear hK K)|(clear hK K;with_reducible refine hK _ _ ?_;clear hK K)|(clear hK K;clear hK K;with_reducible refine hK _ _ ?_;clear hK K))|(with_reducible refine splitB_intro (fun h=>?_) (fun h=>?_)<;>(try simp only[go_sem] at h)<;>(try exact g_f)<;>(try simp -implicitDefEqProofs only[go_sem,hbL, hk]))|(with_reducible refine And.intro (fun h=>?_) (fun h=>?_)<;>(try simp only[go_sem] at h)<;>(try exact g_f))|(with_reducible refine And.intro ?_ ?_;· exact g_x)|(with_reducible intro h;(try simp only[go_sem] at h);(try exact g_f))))
      all_goals exact hS1
    · refine ACalls_of_awp Tryz.func40 rfl Tryz.results40 ?_
      simp only [List.length_cons, List.length_nil, Tryz.ntmps40, Nat.reduceAdd, Nat.reduceSub, enterA]
      refine AWP_seq_k fun K hK => ?_
      (refine AWP_region ?_; simp -implicitDefEqProofs only [go_sem])
      refine hK _ _ ?_; clear hK K
      refine AWP_freezeP 3 rfl (by simp only [st0]; rfl) ?_
      simp only [ss0, List.set_cons_zero]
      (repeat' (first|(refine g_s fun K hK=>?_)|(refine g_b ?_)|(refine g_r ?_)|(refine g_k ?_;simp only[thenQ,blockQ])|(refine g_e ?_;simp only[thenQ,blockQ,↓reduceIte,Nat.reduceEqDiff])|(refine g_c (fun h=>?_) (fun h=>?_)<;>(try simp only[go_sem] at h)<;>(try exact g_f))|((first|refine g_t ?_|refine g_g ?_|refine g_U ?_|refine g_A ?_|refine g_W ?_);(try simp -implicitDefEqProofs only[go_sem,hbL, hk]))|(with_reducible refine hK _ _ ?_;clear hK K)|(clear hK K;first|(with_reducible refine hK _ _ ?_;clear hK K)|(clear hK K;with_reducible refine hK _ _ ?_;clear hK K)|(clear hK K;clear hK K;with_reducible refine hK _ _ ?_;clear hK K))|(with_reducible refine splitB_intro (fun h=>?_) (fun h=>?_)<;>(try simp only[go_sem] at h)<;>(try exact g_f)<;>(try simp -implicitDefEqProofs only[go_sem,hbL, hk]))|(with_reducible refine And.intro (fun h=>?_) (fun h=>?_)<;>(try simp only[go_sem] at h)<;>(try exact g_f))|(with_reducible refine And.intro ?_ ?_;· exact g_x)|(with_reducible intro h;(try simp only[go_sem] at h);(try exact g_f))))
      all_goals exact hS1
theorem step4_calls (n : Net) (e : Eng) (hc : checkN n = 0) (hl : n.links.length ≤ 5864062014634) (he : EngIn n e) (hby : EngB e) (ρ S : Store) (b : Nat) (hS : MachK ρ S b n e) (v : Evt) (hv : v.routes.length ≤ 17592186044000) (hk : v.kind = 4) :
    ACalls Tryz.prog 40 [.ptr b 7 0 0, .agg (evtC v)] S fun r S' => MachK ρ S' b n (stepE n e v).1 ∧ r = intA1 (stepE n e v).2 := by
  have hS1 : MachK ρ (S ++ [.dead]) b n e := hS.app
  have hbag := he.bag
  obtain ⟨hK0, rb, tb, gv, gi, M⟩ := hS
  have hbL : ∀ τ, (S ++ τ)[b]? = some (.cells 7 [netC n ++ [.own rb 2 0 e.routers.length e.routers.length, gv]]) := fun τ => st_app M.hb
  by_cases hat : 0 ≤ v.at' ∧ v.at' < e.bag.length
  · have hT : inR v.at' 0 (e.bag.length - 1) = true := inR_iff.2 (by omega)
    have hs : stepE n e v = (dropE e v.at', 0) := by
      unfold stepE
      rw [hk, hT]
      rfl
    rw [hs]
    rcases M.bag with ⟨h1, _, _⟩ | ⟨gb, rest, rfl, rfl, hb3, hb4, hb5⟩
    · rw [h1] at hat
      simp at hat
      omega
    obtain ⟨R, bag⟩ := e
    simp only at hat hb3 hb4 hb5 hbag hbL M
    obtain ⟨m, hm⟩ : ∃ m : Nat, v.at' = m := ⟨v.at'.toNat, by omega⟩
    have h1' : m < bag.length := by omega
    have im : I64 ((m : Int) + 1) := by unfold I64; omega
    have hne := M.ne
    have hgb : gb ≠ b := fun e => hne.2.2.1 (by rw [e]; simp)
    have hgS : ∀ τ o, (S ++ τ).set gb o = S.set gb o ++ τ := fun τ o => st_setApp hb3
    have hbG : ∀ o, (S.set gb o)[b]? = some (.cells 7 [netC n ++ [.own rb 2 0 R.length R.length, .own gb 3 0 bag.length (bag.length + rest.length)]]) := fun o => st_set M.hb hgb
    have hbD : ∀ o τ, (S.set gb o ++ τ)[b]? = some (.cells 7 [netC n ++ [.own rb 2 0 R.length R.length, .own gb 3 0 bag.length (bag.length + rest.length)]]) := fun o τ => st_app (hbG o)
    have hbE : ∀ o τ o', (S.set gb o ++ τ).set b o' = (S.set gb o).set b o' ++ τ := fun o τ o' => st_setApp (hbG o)
    have hde := delete_calls (S ++ [.dead]) gb bag rest m h1' (st_app hb3) hb4 (by omega) (by omega)
    refine ACalls_of_awp Tryz.func40 rfl Tryz.results40 ?_
    simp only [List.length_cons, List.length_nil, Tryz.ntmps40, Nat.reduceAdd, Nat.reduceSub, enterA]
    refine AWP_seq_k fun K hK => ?_
    (refine AWP_region ?_; simp -implicitDefEqProofs only [go_sem])
    refine hK _ _ ?_; clear hK K
    refine AWP_freezeP 3 rfl (by simp only [st0]; rfl) ?_
    simp only [ss0, List.set_cons_zero]
    (repeat' (first|(refine g_s fun K hK=>?_)|(refine g_b ?_)|(refine g_r ?_)|(refine g_k ?_;simp only[thenQ,blockQ])|(refine g_e ?_;simp only[thenQ,blockQ,↓reduceIte,Nat.reduceEqDiff])|(refine g_c (fun h=>?_) (fun h=>?_)<;>(try simp only[go_sem] at h)<;>(try exact g_f))|((first|refine g_t ?_|refine g_G ?_|refine AWP_drawY tab_mixed (by decide +kernel) ?_|refine callS_useO (hde) ?_);(try simp -implicitDefEqProofs only[go_sem,hbL, hk, hm, hgS, hbD, hbE, im]))|(with_reducible refine hK _ _ ?_;clear hK K)|(clear hK K;first|(with_reducible refine hK _ _ ?_;clear hK K)|(clear hK K;with_reducible refine hK _ _ ?_;clear hK K)|(clear hK K;clear hK K;with_reducible refine hK _ _ ?_;clear hK K))|(with_reducible refine splitB_intro (fun h=>?_) (fun h=>?_)<;>(try simp only[go_sem] at h)<;>(try exact g_f)<;>(try simp -implicitDefEqProofs only[go_sem,hbL, hk, hm, hgS, hbD, hbE, im]))|(with_reducible refine And.intro (fun h=>?_) (fun h=>?_)<;>(try simp only[go_sem] at h)<;>(try exact g_f))|(with_reducible refine And.intro ?_ ?_;· exact g_x)|(with_reducible intro h;(try simp only[go_sem] at h);(try exact g_f))))
    exact ⟨((hK0.set (M.lo gb (by simp))).set (M.lo b (by simp))).app, rb, tb, _, _, (M.drop m h1' hb5 hb4 ⟨_, hb3⟩).app⟩
  · have hT : inR v.at' 0 (e.bag.length - 1) = false := by
      rw [← Bool.not_eq_true, inR_iff]
      omega
    have hs : stepE n e v = (e, 5) := by
      unfold stepE
      rw [hk, hT]
      rfl
    rw [hs]
    rcases M.bag with ⟨h1, _, rfl⟩ | ⟨gb, rest, _, rfl, hb3, hb4, hb5⟩
    · have h2 : e.bag.length = 0 := by rw [h1]; rfl
      rw [h2] at hat
      refine ACalls_of_awp Tryz.func40 rfl Tryz.results40 ?_
      simp only [List.length_cons, List.length_nil, Tryz.ntmps40, Nat.reduceAdd, Nat.reduceSub, enterA]
      refine AWP_seq_k fun K hK => ?_
      (refine AWP_region ?_; simp -implicitDefEqProofs only [go_sem])
      refine hK _ _ ?_; clear hK K
      refine AWP_freezeP 3 rfl (by simp only [st0]; rfl) ?_
      simp only [ss0, List.set_cons_zero]
      (repeat' (first|(refine g_s fun K hK=>?_)|(refine g_b ?_)|(refine g_r ?_)|(refine g_k ?_;simp only[thenQ,blockQ])|(refine g_e ?_;simp only[thenQ,blockQ,↓reduceIte,Nat.reduceEqDiff])|(refine g_c (fun h=>?_) (fun h=>?_)<;>(try simp only[go_sem] at h)<;>(try exact g_f))|((first|refine g_t ?_|refine g_g ?_|refine g_U ?_|refine g_A ?_|refine g_W ?_);(try simp -implicitDefEqProofs only[go_sem,hbL, hk]))|(with_reducible refine hK _ _ ?_;clear hK K)|(clear hK K;first|(with_reducible refine hK _ _ ?_;clear hK K)|(clear hK K;with_reducible refine hK _ _ ?_;clear hK K)|(clear hK K;clear hK K;with_reducible refine hK _ _ ?_;clear hK K))|(with_reducible refine splitB_intro (fun h=>?_) (fun h=>?_)<;>(try simp only[go_sem] at h)<;>(try exact g_f)<;>(try simp -implicitDefEqProofs only[go_sem,hbL, hk]))|(with_reducible refine And.intro (fun h=>?_) (fun h=>?_)<;>(try simp only[go_sem] at h)<;>(try exact g_f))|(with_reducible refine And.intro ?_ ?_;· exact g_x)|(with_reducible intro h;(try simp only[go_sem] at h);(try exact g_f))))
      all_goals exact hS1
    · refine ACalls_of_awp Tryz.func40 rfl Tryz.results40 ?_
      simp only [List.length_cons, List.length_nil, Tryz.ntmps40, Nat.reduceAdd, Nat.reduceSub, enterA]
      refine AWP_seq_k fun K hK => ?_
      (refine AWP_region ?_; simp -implicitDefEqProofs only [go_sem])
      refine hK _ _ ?_; clear hK K
      refine AWP_freezeP 3 rfl (by simp only [st0]; rfl) ?_
      simp only [ss0, List.set_cons_zero]
      (repeat' (first|(refine g_s fun K hK=>?_)|(refine g_b ?_)|(refine g_r ?_)|(refine g_k ?_;simp only[thenQ,blockQ])|(refine g_e ?_;simp only[thenQ,blockQ,↓reduceIte,Nat.reduceEqDiff])|(refine g_c (fun h=>?_) (fun h=>?_)<;>(try simp only[go_sem] at h)<;>(try exact g_f))|((first|refine g_t ?_|refine g_g ?_|refine g_U ?_|refine g_A ?_|refine g_W ?_);(try simp -implicitDefEqProofs only[go_sem,hbL, hk]))|(with_reducible refine hK _ _ ?_;clear hK K)|(clear hK K;first|(with_reducible refine hK _ _ ?_;clear hK K)|(clear hK K;with_reducible refine hK _ _ ?_;clear hK K)|(clear hK K;clear hK K;with_reducible refine hK _ _ ?_;clear hK K))|(with_reducible refine splitB_intro (fun h=>?_) (fun h=>?_)<;>(try simp only[go_sem] at h)<;>(try exact g_f)<;>(try simp -implicitDefEqProofs only[go_sem,hbL, hk]))|(with_reducible refine And.intro (fun h=>?_) (fun h=>?_)<;>(try simp only[go_sem] at h)<;>(try exact g_f))|(with_reducible refine And.intro ?_ ?_;· exact g_x)|(with_reducible intro h;(try simp only[go_sem] at h);(try exact g_f))))
      all_goals exact hS1
theorem step_calls (n : Net) (e : Eng) (hc : checkN n = 0) (hl : n.links.length ≤ 5864062014634) (he : EngIn n e) (hby : EngB e) (ρ S : Store) (b : Nat) (hS : MachK ρ S b n e) (v : Evt) (hv : v.routes.length ≤ 17592186044000) (hk : True) :
    ACalls Tryz.prog 40 [.ptr b 7 0 0, .agg (evtC v)] S fun r S' => MachK ρ S' b n (stepE n e v).1 ∧ r = intA1 (stepE n e v).2 := by
  have hS1 : MachK ρ (S ++ [.dead]) b n e := hS.app
  clear hk
  have hk : (v.kind < 1 ∨ 7 < v.kind) ∨ v.kind = 1 ∨ v.kind = 2 ∨ v.kind = 3 ∨ v.kind = 4 ∨ v.kind = 5 ∨ v.kind = 6 ∨ v.kind = 7 := by omega
  rcases hk with hk | hk | hk | hk | hk | hk | hk | hk
  · exact step0_calls n e hc hl he hby ρ S b hS v hv hk
  · exact step1_calls n e hc hl he hby ρ S b hS v hv hk
  · exact step2_calls n e hc hl he hby ρ S b hS v hv hk
  · exact step3_calls n e hc hl he hby ρ S b hS v hv hk
  · exact step4_calls n e hc hl he hby ρ S b hS v hv hk
  · exact step5_calls n e hc hl he hby ρ S b hS v hv hk
  · exact step6_calls n e hc hl he hby ρ S b hS v hv hk
  · exact step7_calls n e hc hl he hby ρ S b hS v hv hk
end Go.Proofs.YtephecognbbaoaaGreat
namespace Go.Proofs.YtephecognbbaoaaGreat
theorem Bd.mapR {X : Type} {n : Nat} {f : X → List AV} {l : List X} (h : ∀ x ∈ l, ∀ a ∈ f x, Bd n a) : Bd n (.sl (l.map f)) := by
  refine .sl _ fun i hi j hj => ?_
  have hi' : i < l.length := by simpa using hi
  have e : (l.map f)[i] = f l[i] := List.getElem_map ..
  have h9 : ∀ y, y = f l[i] → ∀ a ∈ y, Bd n a := by
    rintro _ rfl a ha
    exact h l[i] (List.getElem_mem hi') a ha
  exact h9 _ e _ (List.getElem_mem hj)
theorem Bd.eng {n : Nat} (e : Eng) : Bd n (.agg (engC e)) := by
  refine .aggL (.cons (.mapR fun r _ a ha => ?_) (.cons (.mapR fun m _ a ha => ?_) .nil))
  · simp only [rtrC, List.mem_cons, List.not_mem_nil, or_false] at ha
    rcases ha with rfl | rfl
    · exact .ints _
    · exact .rows _
  · simp only [mailC, List.mem_cons, List.not_mem_nil, or_false] at ha
    rcases ha with rfl | rfl | rfl
    · exact .c _
    · exact .c _
    · exact .c _
theorem MachW.deep {S : Store} {lo b : Nat} {n : Net} {e : Eng} {rb : Nat} {tb : List Nat} {gv : AV} {gi : List Nat} (h : MachW S lo b n e rb tb gv gi) {D : Nat → Prop} (hD : ∀ x, lo ≤ x → D x) : DeepL S D [.own rb 2 0 e.routers.length e.routers.length, gv] (engC e) := by
  have hD' : ∀ x ∈ b :: rb :: (tb ++ gi), D x := fun x hx => hD x (h.lo x hx)
  refine .cons (.ownW (hD' rb (by simp)) h.hrb (by rw [List.length_zipWith, h.tl, Nat.min_self]) ⟨by rw [List.length_zipWith, h.tl, Nat.min_self, List.length_map], fun i h1 h2 => ?_⟩) (.cons ?_ .nil)
  · have h2' : i < e.routers.length := by simpa using h2
    have h1' : i < tb.length := by rw [h.tl]; exact h2'
    rw [List.getElem_zipWith, List.getElem_map, rtrV, rtrC]
    refine .cons (.same _) (.cons (.ownW (hD' _ (by simp [List.getElem_mem h1'])) (h.ht i h1' h2') (by simp) (.same _)) .nil)
  · rcases h.bag with ⟨h1, h2, h3⟩ | ⟨gb, rest, h1, h2, h3, h4, h5⟩
    · rw [h3, h1]
      exact .nil
    · rw [h2]
      refine .ownR (es := e.bag.map mailC) (hD' gb (by rw [h1]; simp)) ?_ (.same _)
      simp only [elemsB, h3]
      rw [if_pos (by simp)]
      simp [List.take_left']
theorem MachW.set_lo {S : Store} {lo b : Nat} {n : Net} {e : Eng} {rb : Nat} {tb : List Nat} {gv : AV} {gi : List Nat} (h : MachW S lo b n e rb tb gv gi) {x : Nat} {o : Ob} (hx : x < lo) : MachW (S.set x o) lo b n e rb tb gv gi := by
  have hne : ∀ y ∈ b :: rb :: (tb ++ gi), x ≠ y := fun y hy e => by
    have := h.lo y hy
    omega
  refine ⟨st_set h.hb (hne b (by simp)), st_set h.hrb (hne rb (by simp)), h.tl, fun i h1 h2 => st_set (h.ht i h1 h2) (hne _ (by simp [List.getElem_mem h1])), h.bag.set fun hc => hne x (by simp [hc]) rfl, h.nd, h.lo⟩
def noE : Eng := ⟨[], []⟩
def stepR (n : Net) (e : Eng) (v : Evt) : Eng × Int :=
  if checkE n e ≠ 0 then (noE, checkE n e) else if (stepE n e v).2 ≠ 0 then (noE, (stepE n e v).2) else stepE n e v
theorem estep_calls (n : Net) (e : Eng) (okn : NetOk n) (ok : EngOk e) (v : Evt) (hv : v.routes.length ≤ 17592186044000) (σ : Store) : ACalls Tryz.prog 22 [.agg (netC n), .agg (engC e), .agg (evtC v)] σ fun r σ' => σ' = σ ∧ r = .tup [.agg (engC (stepR n e v).1), intA1 (stepR n e v).2] := by
  have hC := checkE_calls n e okn ok
  unfold stepR
  refine ACalls.deep ?_
  by_cases h0 : checkE n e = 0
  · rw [if_neg (not_not_intro h0)]
    rw [h0] at hC
    obtain ⟨hc, he⟩ := engIn_of h0
    have hn := netIn_of hc
    have hby : EngB e := fun m hm => (ok.mail m hm).rng
    have hS := step_calls n e hc (by have := okn.len; omega) he hby
    obtain ⟨R, hR⟩ : ∃ R, stepE n e v = R := ⟨_, rfl⟩
    rw [hR]
    obtain ⟨X, hX⟩ : ∃ X, (if R.2 ≠ 0 then (noE, R.2) else R) = X := ⟨_, rfl⟩
    rw [hX]
    refine ACalls_of_awp Tryz.func22 rfl Tryz.results22 ?_
    simp only [List.length_cons, List.length_nil, Tryz.ntmps22, Nat.reduceAdd, Nat.reduceSub, enterA]
    refine AWP_seq_k fun K hK => ?_
    (refine AWP_region ?_; simp -implicitDefEqProofs only [go_sem])
    refine hK _ _ ?_; clear hK K
    refine AWP_freezeP 3 rfl (by simp only [st0]; rfl) ?_
    simp only [ss0, List.set_cons_zero]
    refine AWP_freezeP 4 rfl (by simp only [st1]; rfl) ?_
    simp only [ss1, List.set_cons_zero, List.set_cons_succ]
    refine AWP_freezeP 5 rfl (by simp only [st1]; rfl) ?_
    simp only [ss1, List.set_cons_zero, List.set_cons_succ]
    (repeat' (first|(refine g_s fun K hK=>?_)|(refine g_b ?_)|(refine g_r ?_)|(refine g_k ?_;simp only[thenQ,blockQ])|(refine g_e ?_;simp only[thenQ,blockQ,↓reduceIte,Nat.reduceEqDiff])|(refine g_c (fun h=>?_) (fun h=>?_)<;>(try simp only[go_sem] at h)<;>(try exact g_f))|((first|refine g_t ?_|refine g_g ?_|refine g_U ?_|refine g_A ?_|refine (hC _).use ?_|refine g_q (fun τ=>hC _) ?_|refine g_W ?_);(try simp -implicitDefEqProofs only[go_sem]))|(with_reducible refine hK _ _ ?_;clear hK K)|(clear hK K;first|(with_reducible refine hK _ _ ?_;clear hK K)|(clear hK K;with_reducible refine hK _ _ ?_;clear hK K)|(clear hK K;clear hK K;with_reducible refine hK _ _ ?_;clear hK K))|(with_reducible refine splitB_intro (fun h=>?_) (fun h=>?_)<;>(try simp only[go_sem] at h)<;>(try exact g_f)<;>(try simp -implicitDefEqProofs only[go_sem]))|(with_reducible refine And.intro (fun h=>?_) (fun h=>?_)<;>(try simp only[go_sem] at h)<;>(try exact g_f))|(with_reducible refine And.intro ?_ ?_;· exact g_x)|(with_reducible intro h;(try simp only[go_sem] at h);(try exact g_f))))
    obtain ⟨ρ, hρ⟩ : ∃ ρ : Store, σ ++ [.dead, .dead, .dead, .cells 2 [[.c (.slice none 0 0), .c (.slice none 0 0)]]] = ρ := ⟨_, rfl⟩
    have hlen : ρ.length = σ.length + 4 := by rw [← hρ]; simp
    have hcL : ∀ τ, (ρ ++ τ)[σ.length + 3]? = some (.cells 2 [[.c (.slice none 0 0), .c (.slice none 0 0)]]) := fun τ => by rw [← hρ]; exact st_app (by simp)
    have hcS : ∀ τ o, (ρ ++ τ).set (σ.length + 3) o = σ ++ ([.dead, .dead, .dead, o] ++ τ) := fun τ o => by
      rw [← hρ, List.append_assoc, List.set_append_right _ _ (by omega), Nat.add_sub_cancel_left]
      rfl
    rw [hρ]
    refine (eown_calls n e hn he ok ρ).mono ?_
    rintro r S' ⟨τ, rfl, b, rfl, hM⟩
    (repeat' (first|(refine g_s fun K hK=>?_)|(refine g_b ?_)|(refine g_r ?_)|(refine g_k ?_;simp only[thenQ,blockQ])|(refine g_e ?_;simp only[thenQ,blockQ,↓reduceIte,Nat.reduceEqDiff])|(refine g_c (fun h=>?_) (fun h=>?_)<;>(try simp only[go_sem] at h)<;>(try exact g_f))|((first|refine g_t ?_|refine g_g ?_|refine g_U ?_|refine g_A ?_|refine g_W ?_);(try simp -implicitDefEqProofs only[go_sem]))|(with_reducible refine hK _ _ ?_;clear hK K)|(clear hK K;first|(with_reducible refine hK _ _ ?_;clear hK K)|(clear hK K;with_reducible refine hK _ _ ?_;clear hK K)|(clear hK K;clear hK K;with_reducible refine hK _ _ ?_;clear hK K))|(with_reducible refine splitB_intro (fun h=>?_) (fun h=>?_)<;>(try simp only[go_sem] at h)<;>(try exact g_f)<;>(try simp -implicitDefEqProofs only[go_sem]))|(with_reducible refine And.intro (fun h=>?_) (fun h=>?_)<;>(try simp only[go_sem] at h)<;>(try exact g_f))|(with_reducible refine And.intro ?_ ?_;· exact g_x)|(with_reducible intro h;(try simp only[go_sem] at h);(try exact g_f))))
    refine (hS ρ _ b ⟨⟨τ, rfl⟩, hM⟩ v hv trivial).mono ?_
    rw [hR]
    rintro r S' ⟨⟨⟨τ2, rfl⟩, rb, tb, gv, gi, M⟩, rfl⟩
    have hb := M.hb
    have hM3 : ∀ o, MachW (σ ++ ([.dead, .dead, .dead, o] ++ τ2)) ρ.length b n R.1 rb tb gv gi := fun o => by
      rw [← hcS τ2 o]
      exact M.set_lo (by omega)
    by_cases hr : R.2 = 0
    · rw [if_neg (not_not_intro hr)] at hX
      subst hX
      rcases M.bag with ⟨h1, h2, rfl⟩ | ⟨gb, rest, h1, rfl, h3, h4, h5⟩
      all_goals
        (repeat' (first|(refine g_s fun K hK=>?_)|(refine g_b ?_)|(refine g_r ?_)|(refine g_k ?_;simp only[thenQ,blockQ])|(refine g_e ?_;simp only[thenQ,blockQ,↓reduceIte,Nat.reduceEqDiff])|(refine g_c (fun h=>?_) (fun h=>?_)<;>(try simp only[go_sem] at h)<;>(try exact g_f))|((first|refine g_t ?_|refine g_g ?_|refine g_U ?_|refine g_A ?_|refine g_W ?_);(try simp -implicitDefEqProofs only[go_sem,hcL, hcS, hb, hr]))|(with_reducible refine hK _ _ ?_;clear hK K)|(clear hK K;first|(with_reducible refine hK _ _ ?_;clear hK K)|(clear hK K;with_reducible refine hK _ _ ?_;clear hK K)|(clear hK K;clear hK K;with_reducible refine hK _ _ ?_;clear hK K))|(with_reducible refine splitB_intro (fun h=>?_) (fun h=>?_)<;>(try simp only[go_sem] at h)<;>(try exact g_f)<;>(try simp -implicitDefEqProofs only[go_sem,hcL, hcS, hb, hr]))|(with_reducible refine And.intro (fun h=>?_) (fun h=>?_)<;>(try simp only[go_sem] at h)<;>(try exact g_f))|(with_reducible refine And.intro ?_ ?_;· exact g_x)|(with_reducible intro h;(try simp only[go_sem] at h);(try exact g_f))))
        exact DeepQ_of rfl (.tupL (.cons (.eng _) (.cons (.c _) .nil))) (.tupL (.cons (.aggL ((hM3 _).deep fun x hx => by omega)) (.cons (.same _) .nil)))
    · rw [if_pos hr] at hX
      subst hX
      (repeat' (first|(refine g_s fun K hK=>?_)|(refine g_b ?_)|(refine g_r ?_)|(refine g_k ?_;simp only[thenQ,blockQ])|(refine g_e ?_;simp only[thenQ,blockQ,↓reduceIte,Nat.reduceEqDiff])|(refine g_c (fun h=>?_) (fun h=>?_)<;>(try simp only[go_sem] at h)<;>(try exact g_f))|((first|refine g_t ?_|refine g_g ?_|refine g_U ?_|refine g_A ?_|refine g_W ?_);(try simp -implicitDefEqProofs only[go_sem,hcL, hcS, hb, hr]))|(with_reducible refine hK _ _ ?_;clear hK K)|(clear hK K;first|(with_reducible refine hK _ _ ?_;clear hK K)|(clear hK K;with_reducible refine hK _ _ ?_;clear hK K)|(clear hK K;clear hK K;with_reducible refine hK _ _ ?_;clear hK K))|(with_reducible refine splitB_intro (fun h=>?_) (fun h=>?_)<;>(try simp only[go_sem] at h)<;>(try exact g_f)<;>(try simp -implicitDefEqProofs only[go_sem,hcL, hcS, hb, hr]))|(with_reducible refine And.intro (fun h=>?_) (fun h=>?_)<;>(try simp only[go_sem] at h)<;>(try exact g_f))|(with_reducible refine And.intro ?_ ?_;· exact g_x)|(with_reducible intro h;(try simp only[go_sem] at h);(try exact g_f))))
      exact DeepQ_of rfl (.tupL (.cons (.eng _) (.cons (.c _) .nil))) (.tupL (.cons (.aggL (.cons .nil (.cons .nil .nil))) (.cons (.same _) .nil)))
  · rw [if_pos h0]
    refine ACalls_of_awp Tryz.func22 rfl Tryz.results22 ?_
    simp only [List.length_cons, List.length_nil, Tryz.ntmps22, Nat.reduceAdd, Nat.reduceSub, enterA]
    refine AWP_seq_k fun K hK => ?_
    (refine AWP_region ?_; simp -implicitDefEqProofs only [go_sem])
    refine hK _ _ ?_; clear hK K
    refine AWP_freezeP 3 rfl (by simp only [st0]; rfl) ?_
    simp only [ss0, List.set_cons_zero]
    refine AWP_freezeP 4 rfl (by simp only [st1]; rfl) ?_
    simp only [ss1, List.set_cons_zero, List.set_cons_succ]
    refine AWP_freezeP 5 rfl (by simp only [st1]; rfl) ?_
    simp only [ss1, List.set_cons_zero, List.set_cons_succ]
    (repeat' (first|(refine g_s fun K hK=>?_)|(refine g_b ?_)|(refine g_r ?_)|(refine g_k ?_;simp only[thenQ,blockQ])|(refine g_e ?_;simp only[thenQ,blockQ,↓reduceIte,Nat.reduceEqDiff])|(refine g_c (fun h=>?_) (fun h=>?_)<;>(try simp only[go_sem] at h)<;>(try exact g_f))|((first|refine g_t ?_|refine g_g ?_|refine g_U ?_|refine g_A ?_|refine (hC _).use ?_|refine g_q (fun τ=>hC _) ?_|refine g_W ?_);(try simp -implicitDefEqProofs only[go_sem,h0]))|(with_reducible refine hK _ _ ?_;clear hK K)|(clear hK K;first|(with_reducible refine hK _ _ ?_;clear hK K)|(clear hK K;with_reducible refine hK _ _ ?_;clear hK K)|(clear hK K;clear hK K;with_reducible refine hK _ _ ?_;clear hK K))|(with_reducible refine splitB_intro (fun h=>?_) (fun h=>?_)<;>(try simp only[go_sem] at h)<;>(try exact g_f)<;>(try simp -implicitDefEqProofs only[go_sem,h0]))|(with_reducible refine And.intro (fun h=>?_) (fun h=>?_)<;>(try simp only[go_sem] at h)<;>(try exact g_f))|(with_reducible refine And.intro ?_ ?_;· exact g_x)|(with_reducible intro h;(try simp only[go_sem] at h);(try exact g_f))))
    exact DeepQ_of rfl (.tupL (.cons (.eng _) (.cons (.c _) .nil))) (.tupL (.cons (.aggL (.cons .nil (.cons .nil .nil))) (.cons (.same _) .nil)))
end Go.Proofs.YtephecognbbaoaaGreat
namespace Go.Proofs.YtephecognbbaoaaGreat
theorem engOk_of {n : Net} (hn : NetIn n) {e : Eng} (he : EngIn n e) (hb : EngB e) : EngOk e := by
  have n6 := hn.n6
  have h1 := he.len
  have h2 := he.bag
  refine ⟨by omega, fun r hr => ?_, by omega, fun m hm => ?_⟩
  · have h := he.rtr r hr
    have h3 := h.rl
    have h4 := h.tl
    refine ⟨by omega, by omega, fun l hl => ?_⟩
    rcases h.tr l hl with rfl | ⟨h5, _⟩
    · exact Nat.zero_le _
    · omega
  · have h := he.mail m hm
    have h3 := h.fr
    have h4 := h.dst
    have h5 := h.len
    exact ⟨by unfold I64; omega, by unfold I64; omega, by omega, hb m hm⟩
theorem tickB {n : Net} (hc : checkN n = 0) {e : Eng} (he : EngIn n e) (hb : EngB e) {a : Int} (ha : 0 ≤ a ∧ a < n.nodes) : EngB (tickE n e a).1 := by
  have hn := netIn_of hc
  have n1 := hn.n1
  unfold tickE
  split
  · exact hb
  · intro m hm
    rcases List.mem_append.1 hm with hm | hm
    · exact hb m hm
    · obtain ⟨k, hk, rfl⟩ := List.mem_map.1 hm
      exact writeL_bytes (mail_ok hn (by rw [lookE_len]; omega) (lookE_in hc (rtr_at he ha) a) ha (hears_mem.1 hk).1)
theorem spoilB {n : Net} {e : Eng} (hb : EngB e) {v : Evt} (h0 : 0 ≤ v.at') (h1 : v.at' < e.bag.length) : EngB (spoilE e v).1 := by
  unfold spoilE
  split
  · exact hb
  · intro m hm
    rcases mem_setG hm with hm | rfl
    · exact hb m hm
    · intro c hcm
      rcases mem_setG hcm with hcm | rfl
      · exact hb _ (at0_mem e.bag h0 h1) c hcm
      · exact xorB_rng _ _
theorem takeB {n : Net} {e : Eng} (hb : EngB e) (m : Mail) : EngB (takeE n e m) := by
  unfold takeE
  split
  · exact hb
  · exact hb
theorem stepB {n : Net} (hc : checkN n = 0) {e : Eng} (he : EngIn n e) (hb : EngB e) (v : Evt) : EngB (stepE n e v).1 := by
  unfold stepE
  split
  · exact hb
  · split
    · split
      · exact hb
      · rename_i h1
        rw [not_inR] at h1
        split
        · exact takeB (fun m hm => hb m (List.mem_of_mem_eraseIdx hm)) _
        · split
          · split
            · exact hb
            · intro m hm
              rcases List.mem_append.1 hm with hm | hm
              · exact hb m hm
              · rw [List.mem_singleton.1 hm]
                exact hb _ (at0_mem e.bag (by omega) (by omega))
          · split
            · exact fun m hm => hb m (List.mem_of_mem_eraseIdx hm)
            · exact spoilB (n := n) hb (by omega) (by omega)
    · split
      · exact hb
      · rename_i h1
        rw [not_inR] at h1
        split
        · exact tickB hc he hb (by omega)
        · split
          · split <;> exact hb
          · split <;> exact hb
theorem step_err {n : Net} {e : Eng} {v : Evt} (h : (stepE n e v).2 ≠ 0) : (stepE n e v).1 = e := by
  unfold stepE at h ⊢
  split
  · rfl
  · rename_i c1
    rw [if_neg c1] at h
    split
    · rename_i c2
      rw [if_pos c2] at h
      split
      · rfl
      · rename_i c3
        rw [if_neg c3] at h
        split
        · rename_i c4
          rw [if_pos c4] at h
          exact absurd rfl h
        · rename_i c4
          rw [if_neg c4] at h
          split
          · rename_i c5
            rw [if_pos c5] at h
            split
            · rfl
            · rename_i c6
              rw [if_neg c6] at h
              exact absurd rfl h
          · rename_i c5
            rw [if_neg c5] at h
            split
            · rename_i c6
              rw [if_pos c6] at h
              exact absurd rfl h
            · rename_i c6
              rw [if_neg c6] at h
              unfold spoilE at h ⊢
              split
              · rfl
              · rename_i c7
                rw [if_neg c7] at h
                exact absurd rfl h
    · rename_i c2
      rw [if_neg c2] at h
      split
      · rfl
      · rename_i c3
        rw [if_neg c3] at h
        split
        · rename_i c4
          rw [if_pos c4] at h
          unfold tickE at h ⊢
          split
          · rfl
          · rename_i c7
            rw [if_neg c7] at h
            exact absurd rfl h
        · rename_i c4
          rw [if_neg c4] at h
          split
          · rename_i c5
            rw [if_pos c5] at h
            split
            · rfl
            · rename_i c6
              rw [if_neg c6] at h
              exact absurd rfl h
          · rename_i c5
            rw [if_neg c5] at h
            split
            · rfl
            · rename_i c6
              rw [if_neg c6] at h
              exact absurd rfl h
end Go.Proofs.YtephecognbbaoaaGreat
