/- Play, as the program does it. -/
import Derived.Test.YtephecognbbaoaaGreatZEt
import Derived.Test.YtephecognbbaoaaGreatZWb
import Derived.Test.YtephecognbbaoaaGreatZLk
import Derived.Test.YtephecognbbaoaaGreatZSy
open Go
set_option linter.all false
set_option maxRecDepth 100000
set_option maxHeartbeats 4000000
namespace Go.Proofs.YtephecognbbaoaaGreat
open Go
set_option linter.all false
set_option maxRecDepth 100000
set_option maxHeartbeats 4000000
def playR (n : Net) (e : Eng) (l : List Evt) : Eng × Int × Int :=
  if checkE n e ≠ 0 then (noE, 0, checkE n e) else if 300 < l.length then (noE, 0, 2) else ((playF n l 0 e).1, (playF n l 0 e).2, 0)
theorem evtC_len (l : List Evt) : (∀ e', e' ∈ l.map evtC → e'.length = 5) = True := len_map (f := evtC) (fun _ => rfl) l
theorem evtC_one (l : List Evt) : (∀ e', e' ∈ l.map evtC → e'.all oneA = true) = True := one_map (f := evtC) (fun _ => rfl) l
attribute [go_sem] evtC_len evtC_one
theorem eplay_calls (n : Net) (e : Eng) (okn : NetOk n) (ok : EngOk e) (l : List Evt) (hll : l.length ≤ 3000000000000) (hlv : ∀ v ∈ l, v.routes.length ≤ 17592186044000) (σ : Store) : ACalls Tryz.prog 8 [.agg (netC n), .agg (engC e), .sl (l.map evtC)] σ fun r σ' => σ' = σ ∧ r = .tup [.agg (engC (playR n e l).1), intA1 (playR n e l).2.1, intA1 (playR n e l).2.2] := by
  have hC := checkE_calls n e okn ok
  unfold playR
  refine ACalls.deep ?_
  by_cases h0 : checkE n e = 0
  · rw [if_neg (not_not_intro h0)]
    rw [h0] at hC
    obtain ⟨hc, he⟩ := engIn_of h0
    have hn := netIn_of hc
    have hby : EngB e := fun m hm => (ok.mail m hm).rng
    by_cases h3 : 300 < l.length
    · rw [if_pos h3]
      refine ACalls_of_awp Tryz.func8 rfl Tryz.results8 ?_
      simp only [List.length_cons, List.length_nil, Tryz.ntmps8, Nat.reduceAdd, Nat.reduceSub, enterA]
      refine AWP_seq_k fun K hK => ?_
      (refine AWP_region ?_; simp -implicitDefEqProofs only [go_sem])
      refine hK _ _ ?_; clear hK K
      refine AWP_freezeP 3 rfl (by simp only [st0]; rfl) ?_
      simp only [ss0, List.set_cons_zero]
      refine AWP_freezeP 4 rfl (by simp only [st1]; rfl) ?_
      simp only [ss1, List.set_cons_zero, List.set_cons_succ]
      (repeat' (first|(refine g_s fun K hK=>?_)|(refine g_b ?_)|(refine g_r ?_)|(refine g_k ?_;simp only[thenQ,blockQ])|(refine g_e ?_;simp only[thenQ,blockQ,↓reduceIte,Nat.reduceEqDiff])|(refine g_c (fun h=>?_) (fun h=>?_)<;>(try simp only[go_sem] at h)<;>(try exact g_f))|((first|refine g_t ?_|refine g_g ?_|refine g_U ?_|refine g_A ?_|refine (hC _).use ?_|refine g_q (fun τ=>hC _) ?_|refine g_W ?_);(try simp -implicitDefEqProofs only[go_sem]))|(with_reducible refine hK _ _ ?_;clear hK K)|(clear hK K;first|(with_reducible refine hK _ _ ?_;clear hK K)|(clear hK K;with_reducible refine hK _ _ ?_;clear hK K)|(clear hK K;clear hK K;with_reducible refine hK _ _ ?_;clear hK K))|(with_reducible refine splitB_intro (fun h=>?_) (fun h=>?_)<;>(try simp only[go_sem] at h)<;>(try exact g_f)<;>(try simp -implicitDefEqProofs only[go_sem]))|(with_reducible refine And.intro (fun h=>?_) (fun h=>?_)<;>(try simp only[go_sem] at h)<;>(try exact g_f))|(with_reducible refine And.intro ?_ ?_;· exact g_x)|(with_reducible intro h;(try simp only[go_sem] at h);(try exact g_f))))
      exact DeepQ_of rfl (.tupL (.cons (.eng _) (.cons (.c _) (.cons (.c _) .nil)))) (.tupL (.cons (.aggL (.cons .nil (.cons .nil .nil))) (.cons (.same _) (.cons (.same _) .nil))))
    · rw [if_neg h3]
      have hk := fun ρ S b e he hb hS v hv => step_calls n e hc okn.len he hb ρ S b hS v hv trivial
      obtain ⟨X, hX⟩ : ∃ X, playF n l 0 e = X := ⟨_, rfl⟩
      rw [hX]
      refine ACalls_of_awp Tryz.func8 rfl Tryz.results8 ?_
      simp only [List.length_cons, List.length_nil, Tryz.ntmps8, Nat.reduceAdd, Nat.reduceSub, enterA]
      refine AWP_seq_k fun K hK => ?_
      (refine AWP_region ?_; simp -implicitDefEqProofs only [go_sem])
      refine hK _ _ ?_; clear hK K
      refine AWP_freezeP 3 rfl (by simp only [st0]; rfl) ?_
      simp only [ss0, List.set_cons_zero]
      refine AWP_freezeP 4 rfl (by simp only [st1]; rfl) ?_
      simp only [ss1, List.set_cons_zero, List.set_cons_succ]
      (repeat' (first|(refine g_s fun K hK=>?_)|(refine g_b ?_)|(refine g_r ?_)|(refine g_k ?_;simp only[thenQ,blockQ])|(refine g_e ?_;simp only[thenQ,blockQ,↓reduceIte,Nat.reduceEqDiff])|(refine g_c (fun h=>?_) (fun h=>?_)<;>(try simp only[go_sem] at h)<;>(try exact g_f))|((first|refine g_t ?_|refine g_g ?_|refine g_U ?_|refine g_A ?_|refine (hC _).use ?_|refine g_q (fun τ=>hC _) ?_|refine g_W ?_);(try simp -implicitDefEqProofs only[go_sem]))|(with_reducible refine hK _ _ ?_;clear hK K)|(clear hK K;first|(with_reducible refine hK _ _ ?_;clear hK K)|(clear hK K;with_reducible refine hK _ _ ?_;clear hK K)|(clear hK K;clear hK K;with_reducible refine hK _ _ ?_;clear hK K))|(with_reducible refine splitB_intro (fun h=>?_) (fun h=>?_)<;>(try simp only[go_sem] at h)<;>(try exact g_f)<;>(try simp -implicitDefEqProofs only[go_sem]))|(with_reducible refine And.intro (fun h=>?_) (fun h=>?_)<;>(try simp only[go_sem] at h)<;>(try exact g_f))|(with_reducible refine And.intro ?_ ?_;· exact g_x)|(with_reducible intro h;(try simp only[go_sem] at h);(try exact g_f))))
      obtain ⟨ρ, hρ⟩ : ∃ ρ : Store, σ ++ [.dead, .dead, .cells 2 [[.c (.slice none 0 0), .c (.slice none 0 0)]]] = ρ := ⟨_, rfl⟩
      have hlen : ρ.length = σ.length + 3 := by rw [← hρ]; simp
      have hcL : ∀ τ, (ρ ++ τ)[σ.length + 2]? = some (.cells 2 [[.c (.slice none 0 0), .c (.slice none 0 0)]]) := fun τ => by rw [← hρ]; exact st_app (by simp)
      have hcS : ∀ τ o, (ρ ++ τ).set (σ.length + 2) o = σ ++ ([.dead, .dead, o] ++ τ) := fun τ o => by
        rw [← hρ, List.append_assoc, List.set_append_right _ _ (by omega), Nat.add_sub_cancel_left]
        rfl
      rw [hρ]
      refine (eown_calls n e hn he ok ρ).mono ?_
      rintro r S' ⟨τ, rfl, b, rfl, hM⟩
      (repeat' (first|(refine g_s fun K hK=>?_)|(refine g_b ?_)|(refine g_r ?_)|(refine g_k ?_;simp only[thenQ,blockQ])|(refine g_e ?_;simp only[thenQ,blockQ,↓reduceIte,Nat.reduceEqDiff])|(refine g_c (fun h=>?_) (fun h=>?_)<;>(try simp only[go_sem] at h)<;>(try exact g_f))|((first|refine g_t ?_|refine g_g ?_|refine g_U ?_|refine g_A ?_|refine g_W ?_);(try simp -implicitDefEqProofs only[go_sem]))|(with_reducible refine hK _ _ ?_;clear hK K)|(clear hK K;first|(with_reducible refine hK _ _ ?_;clear hK K)|(clear hK K;with_reducible refine hK _ _ ?_;clear hK K)|(clear hK K;clear hK K;with_reducible refine hK _ _ ?_;clear hK K))|(with_reducible refine splitB_intro (fun h=>?_) (fun h=>?_)<;>(try simp only[go_sem] at h)<;>(try exact g_f)<;>(try simp -implicitDefEqProofs only[go_sem]))|(with_reducible refine And.intro (fun h=>?_) (fun h=>?_)<;>(try simp only[go_sem] at h)<;>(try exact g_f))|(with_reducible refine And.intro ?_ ?_;· exact g_x)|(with_reducible intro h;(try simp only[go_sem] at h);(try exact g_f))))
      have hJ := hK
      clear hK
      refine AWP_each l (fun k r (s : Store × Eng) => MachK ρ s.1 b n s.2 ∧ EngIn n s.2 ∧ EngB s.2 ∧ playF n r k s.2 = X) (fun k _ _ => [(32, intA1 k)]) (fun _ s _ => s.1) (ρ ++ τ, e) [] ⟨⟨⟨τ, rfl⟩, hM⟩, he, hby, hX⟩ rfl (ALe_of ?_) ?_ ?_
      · simp -implicitDefEqProofs only [go_sem]
      · rintro k r ⟨S2, e2⟩ τ9 hk0 hk1 ⟨h4, h5, h6, h7⟩ L hL
        simp only at h4 h5 h6 h7
        obtain ⟨w, hw⟩ : ∃ w, at0 l k = w := ⟨_, rfl⟩
        have hwm := at0_mem l hk0 hk1
        rw [hw] at h7 hwm
        have hst := hk ρ (S2 ++ [.cells 5 [evtC w]]) b e2 h5 h6 h4.app w (hlv w hwm)
        have h8 := step_in hc h5 w
        have h9 := stepB hc h5 h6 w
        rw [playF] at h7
        simp -implicitDefEqProofs only [go_sem]
        (repeat' (first|(refine g_s fun K hK=>?_)|(refine g_b ?_)|(refine g_r ?_)|(refine g_k ?_;simp only[thenQ,blockQ])|(refine g_e ?_;simp only[thenQ,blockQ,↓reduceIte,Nat.reduceEqDiff])|(refine g_c (fun h=>?_) (fun h=>?_)<;>(try simp only[go_sem] at h)<;>(try exact g_f))|((first|refine g_t ?_|refine g_g ?_|refine g_U ?_|refine g_A ?_|refine g_W ?_);(try simp -implicitDefEqProofs only[go_sem,hw]))|(with_reducible refine hK _ _ ?_;clear hK K)|(clear hK K;first|(with_reducible refine hK _ _ ?_;clear hK K)|(clear hK K;with_reducible refine hK _ _ ?_;clear hK K)|(clear hK K;clear hK K;with_reducible refine hK _ _ ?_;clear hK K))|(with_reducible refine splitB_intro (fun h=>?_) (fun h=>?_)<;>(try simp only[go_sem] at h)<;>(try exact g_f)<;>(try simp -implicitDefEqProofs only[go_sem,hw]))|(with_reducible refine And.intro (fun h=>?_) (fun h=>?_)<;>(try simp only[go_sem] at h)<;>(try exact g_f))|(with_reducible refine And.intro ?_ ?_;· exact g_x)|(with_reducible intro h;(try simp only[go_sem] at h);(try exact g_f))))
        refine hst.mono ?_
        rintro r3 S3 ⟨h10, rfl⟩
        by_cases hr : (stepE n e2 w).2 = 0
        · rw [if_neg (not_not_intro hr)] at h7
          simp -implicitDefEqProofs only [go_sem, hr]
          (repeat' (first|(refine g_s fun K hK=>?_)|(refine g_b ?_)|(refine g_r ?_)|(refine g_k ?_;simp only[thenQ,blockQ])|(refine g_e ?_;simp only[thenQ,blockQ,↓reduceIte,Nat.reduceEqDiff])|(refine g_c (fun h=>?_) (fun h=>?_)<;>(try simp only[go_sem] at h)<;>(try exact g_f))|((first|refine g_t ?_|refine g_g ?_|refine g_U ?_|refine g_A ?_|refine g_W ?_);(try simp -implicitDefEqProofs only[go_sem,hr]))|(with_reducible refine hK _ _ ?_;clear hK K)|(clear hK K;first|(with_reducible refine hK _ _ ?_;clear hK K)|(clear hK K;with_reducible refine hK _ _ ?_;clear hK K)|(clear hK K;clear hK K;with_reducible refine hK _ _ ?_;clear hK K))|(with_reducible refine splitB_intro (fun h=>?_) (fun h=>?_)<;>(try simp only[go_sem] at h)<;>(try exact g_f)<;>(try simp -implicitDefEqProofs only[go_sem,hr]))|(with_reducible refine And.intro (fun h=>?_) (fun h=>?_)<;>(try simp only[go_sem] at h)<;>(try exact g_f))|(with_reducible refine And.intro ?_ ?_;· exact g_x)|(with_reducible intro h;(try simp only[go_sem] at h);(try exact g_f))))
          refine hL (S3, (stepE n e2 w).1) [] _ _ ⟨h10, h8, h9, h7⟩ (ALe_of ?_) rfl
          simp -implicitDefEqProofs only [go_sem]
        · rw [if_pos hr] at h7
          subst h7
          have hse : (stepE n e2 w).1 = e2 := step_err hr
          rw [hse] at h10
          obtain ⟨⟨τ2, rfl⟩, rb, tb, gv, gi, M⟩ := h10
          have hb := M.hb
          have hM3 : ∀ o, MachW (σ ++ ([.dead, .dead, o] ++ τ2)) ρ.length b n e2 rb tb gv gi := fun o => by
            rw [← hcS τ2 o]
            exact M.set_lo (by omega)
          rcases M.bag with ⟨h1, h2, rfl⟩ | ⟨gb, rest, h1, rfl, h3, h4, h5⟩
          all_goals
            simp -implicitDefEqProofs only [go_sem, hr]
            (repeat' (first|(refine g_s fun K hK=>?_)|(refine g_b ?_)|(refine g_r ?_)|(refine g_k ?_;simp only[thenQ,blockQ])|(refine g_e ?_;simp only[thenQ,blockQ,↓reduceIte,Nat.reduceEqDiff])|(refine g_c (fun h=>?_) (fun h=>?_)<;>(try simp only[go_sem] at h)<;>(try exact g_f))|((first|refine g_t ?_|refine g_g ?_|refine g_U ?_|refine g_A ?_|refine g_W ?_);(try simp -implicitDefEqProofs only[go_sem,hcL, hcS, hb, hr]))|(with_reducible refine hK _ _ ?_;clear hK K)|(clear hK K;first|(with_reducible refine hK _ _ ?_;clear hK K)|(clear hK K;with_reducible refine hK _ _ ?_;clear hK K)|(clear hK K;clear hK K;with_reducible refine hK _ _ ?_;clear hK K))|(with_reducible refine splitB_intro (fun h=>?_) (fun h=>?_)<;>(try simp only[go_sem] at h)<;>(try exact g_f)<;>(try simp -implicitDefEqProofs only[go_sem,hcL, hcS, hb, hr]))|(with_reducible refine And.intro (fun h=>?_) (fun h=>?_)<;>(try simp only[go_sem] at h)<;>(try exact g_f))|(with_reducible refine And.intro ?_ ?_;· exact g_x)|(with_reducible intro h;(try simp only[go_sem] at h);(try exact g_f))))
            exact DeepQ_of rfl (.tupL (.cons (.eng _) (.cons (.c _) (.cons (.c _) .nil)))) (.tupL (.cons (.aggL ((hM3 _).deep fun x hx => by omega)) (.cons (.same _) (.cons (.same _) .nil))))
      · rintro k ⟨S2, e2⟩ τ9 hk9 ⟨h4, h5, h6, h7⟩ L
        simp only at h4 h5 h6 h7
        rw [playF] at h7
        subst h7
        obtain ⟨⟨τ2, rfl⟩, rb, tb, gv, gi, M⟩ := h4
        have hb := M.hb
        have hM3 : ∀ o, MachW (σ ++ ([.dead, .dead, o] ++ τ2)) ρ.length b n e2 rb tb gv gi := fun o => by
          rw [← hcS τ2 o]
          exact M.set_lo (by omega)
        rcases M.bag with ⟨h1, h2, rfl⟩ | ⟨gb, rest, h1, rfl, h3, h4, h5⟩
        all_goals
          simp -implicitDefEqProofs only [go_sem]
          (repeat' (first|(refine g_s fun K hK=>?_)|(refine g_b ?_)|(refine g_r ?_)|(refine g_k ?_;simp only[thenQ,blockQ])|(refine g_e ?_;simp only[thenQ,blockQ,↓reduceIte,Nat.reduceEqDiff])|(refine g_c (fun h=>?_) (fun h=>?_)<;>(try simp only[go_sem] at h)<;>(try exact g_f))|((first|refine g_t ?_|refine g_g ?_|refine g_U ?_|refine g_A ?_|refine g_W ?_);(try simp -implicitDefEqProofs only[go_sem]))|(with_reducible refine hK _ _ ?_;clear hK K)|(clear hK K;first|(with_reducible refine hK _ _ ?_;clear hK K)|(clear hK K;with_reducible refine hK _ _ ?_;clear hK K)|(clear hK K;clear hK K;with_reducible refine hK _ _ ?_;clear hK K))|(with_reducible refine splitB_intro (fun h=>?_) (fun h=>?_)<;>(try simp only[go_sem] at h)<;>(try exact g_f)<;>(try simp -implicitDefEqProofs only[go_sem]))|(with_reducible refine And.intro (fun h=>?_) (fun h=>?_)<;>(try simp only[go_sem] at h)<;>(try exact g_f))|(with_reducible refine And.intro ?_ ?_;· exact g_x)|(with_reducible intro h;(try simp only[go_sem] at h);(try exact g_f))))
          refine hJ _ _ ?_
          clear hJ
          (repeat' (first|(refine g_s fun K hK=>?_)|(refine g_b ?_)|(refine g_r ?_)|(refine g_k ?_;simp only[thenQ,blockQ])|(refine g_e ?_;simp only[thenQ,blockQ,↓reduceIte,Nat.reduceEqDiff])|(refine g_c (fun h=>?_) (fun h=>?_)<;>(try simp only[go_sem] at h)<;>(try exact g_f))|((first|refine g_t ?_|refine g_g ?_|refine g_U ?_|refine g_A ?_|refine g_W ?_);(try simp -implicitDefEqProofs only[go_sem,hcL, hcS, hb]))|(with_reducible refine hK _ _ ?_;clear hK K)|(clear hK K;first|(with_reducible refine hK _ _ ?_;clear hK K)|(clear hK K;with_reducible refine hK _ _ ?_;clear hK K)|(clear hK K;clear hK K;with_reducible refine hK _ _ ?_;clear hK K))|(with_reducible refine splitB_intro (fun h=>?_) (fun h=>?_)<;>(try simp only[go_sem] at h)<;>(try exact g_f)<;>(try simp -implicitDefEqProofs only[go_sem,hcL, hcS, hb]))|(with_reducible refine And.intro (fun h=>?_) (fun h=>?_)<;>(try simp only[go_sem] at h)<;>(try exact g_f))|(with_reducible refine And.intro ?_ ?_;· exact g_x)|(with_reducible intro h;(try simp only[go_sem] at h);(try exact g_f))))
          rw [hk9]
          exact DeepQ_of rfl (.tupL (.cons (.eng _) (.cons (.c _) (.cons (.c _) .nil)))) (.tupL (.cons (.aggL ((hM3 _).deep fun x hx => by omega)) (.cons (.same _) (.cons (.same _) .nil))))
  · rw [if_pos h0]
    refine ACalls_of_awp Tryz.func8 rfl Tryz.results8 ?_
    simp only [List.length_cons, List.length_nil, Tryz.ntmps8, Nat.reduceAdd, Nat.reduceSub, enterA]
    refine AWP_seq_k fun K hK => ?_
    (refine AWP_region ?_; simp -implicitDefEqProofs only [go_sem])
    refine hK _ _ ?_; clear hK K
    refine AWP_freezeP 3 rfl (by simp only [st0]; rfl) ?_
    simp only [ss0, List.set_cons_zero]
    refine AWP_freezeP 4 rfl (by simp only [st1]; rfl) ?_
    simp only [ss1, List.set_cons_zero, List.set_cons_succ]
    (repeat' (first|(refine g_s fun K hK=>?_)|(refine g_b ?_)|(refine g_r ?_)|(refine g_k ?_;simp only[thenQ,blockQ])|(refine g_e ?_;simp only[thenQ,blockQ,↓reduceIte,Nat.reduceEqDiff])|(refine g_c (fun h=>?_) (fun h=>?_)<;>(try simp only[go_sem] at h)<;>(try exact g_f))|((first|refine g_t ?_|refine g_g ?_|refine g_U ?_|refine g_A ?_|refine (hC _).use ?_|refine g_q (fun τ=>hC _) ?_|refine g_W ?_);(try simp -implicitDefEqProofs only[go_sem,h0]))|(with_reducible refine hK _ _ ?_;clear hK K)|(clear hK K;first|(with_reducible refine hK _ _ ?_;clear hK K)|(clear hK K;with_reducible refine hK _ _ ?_;clear hK K)|(clear hK K;clear hK K;with_reducible refine hK _ _ ?_;clear hK K))|(with_reducible refine splitB_intro (fun h=>?_) (fun h=>?_)<;>(try simp only[go_sem] at h)<;>(try exact g_f)<;>(try simp -implicitDefEqProofs only[go_sem,h0]))|(with_reducible refine And.intro (fun h=>?_) (fun h=>?_)<;>(try simp only[go_sem] at h)<;>(try exact g_f))|(with_reducible refine And.intro ?_ ?_;· exact g_x)|(with_reducible intro h;(try simp only[go_sem] at h);(try exact g_f))))
    exact DeepQ_of rfl (.tupL (.cons (.eng _) (.cons (.c _) (.cons (.c _) .nil)))) (.tupL (.cons (.aggL (.cons .nil (.cons .nil .nil))) (.cons (.same _) (.cons (.same _) .nil))))
end Go.Proofs.YtephecognbbaoaaGreat
namespace Go.Proofs.YtephecognbbaoaaGreat
def calmR (n : Net) (e : Eng) (rounds : Int) : Eng × Int :=
  if checkE n e ≠ 0 then (noE, checkE n e) else if rounds < 0 ∨ 100 < rounds then (noE, 3) else (calmE n e rounds, 0)
theorem ok_come : callOk Tryz.prog 42 = true := by kernel_rfl
attribute [go_sem] ok_come
theorem come_calls (n : Net) (e : Eng) (hc : checkN n = 0) (hl : n.links.length ≤ 5864062014634) (he : EngIn n e) (hby : EngB e) (ρ S : Store) (b : Nat) (hS : MachK ρ S b n e) :
    ACalls Tryz.prog 42 [.ptr b 7 0 0] S fun r S' => MachK ρ S' b n (comeE n e) ∧ r = .tup [] := by
  refine ACalls_of_awp Tryz.func42 rfl Tryz.results42 ?_
  simp only [List.length_cons, List.length_nil, Tryz.ntmps42, Nat.reduceAdd, Nat.reduceSub, enterA]
  (repeat' (first|(refine g_s fun K hK=>?_)|(refine g_b ?_)|(refine g_r ?_)|(refine g_k ?_;simp only[thenQ,blockQ])|(refine g_e ?_;simp only[thenQ,blockQ,↓reduceIte,Nat.reduceEqDiff])|(refine g_c (fun h=>?_) (fun h=>?_)<;>(try simp only[go_sem] at h)<;>(try exact g_f))|((first|refine g_t ?_|refine g_g ?_|refine g_U ?_|refine g_A ?_|refine g_W ?_);(try simp -implicitDefEqProofs only[go_sem]))|(with_reducible refine hK _ _ ?_;clear hK K)|(clear hK K;first|(with_reducible refine hK _ _ ?_;clear hK K)|(clear hK K;with_reducible refine hK _ _ ?_;clear hK K)|(clear hK K;clear hK K;with_reducible refine hK _ _ ?_;clear hK K))|(with_reducible refine splitB_intro (fun h=>?_) (fun h=>?_)<;>(try simp only[go_sem] at h)<;>(try exact g_f)<;>(try simp -implicitDefEqProofs only[go_sem]))|(with_reducible refine And.intro (fun h=>?_) (fun h=>?_)<;>(try simp only[go_sem] at h)<;>(try exact g_f))|(with_reducible refine And.intro ?_ ?_;· exact g_x)|(with_reducible intro h;(try simp only[go_sem] at h);(try exact g_f))))
  refine AWP_each e.bag (fun k r (s : Store × Eng) => MachK ρ s.1 b n s.2 ∧ EngIn n s.2 ∧ EngB s.2 ∧ s.2.bag = r ∧ comeE n s.2 = comeE n e) (fun k _ _ => []) (fun _ s _ => s.1) (S, e) [] ⟨hS, he, hby, rfl, rfl⟩ rfl (ALe_of ?_) ?_ ?_
  · simp -implicitDefEqProofs only [go_sem]
  · rintro k r ⟨S2, e2⟩ τ9 hk0 hk1 ⟨h4, h5, h6, h7, h8⟩ L hL
    simp only at h4 h5 h6 h7 h8
    have hde := deliver_calls n e2 hc hl h5 h6 ρ S2 b h4 0 (by omega) (by rw [h7]; simp)
    have hdi : EngIn n (deliverE n e2 0) := takeE_in hc (dropE_in h5 0) (h5.mail _ (at0_mem e2.bag (Int.le_refl _) (by rw [h7, List.length_cons]; omega)))
    have hdb : EngB (deliverE n e2 0) := takeB (e := dropE e2 0) (fun m hm => h6 m (List.mem_of_mem_eraseIdx hm)) _
    have hdg : (deliverE n e2 0).bag = r := by
      show (takeE n (dropE e2 0) (at0 e2.bag 0)).bag = r
      rw [takeE_bag]
      show e2.bag.eraseIdx 0 = r
      rw [h7]
      rfl
    obtain ⟨hK0, rb, tb, gv, gi, M⟩ := h4
    have hb := M.hb
    have hlr : e2.bag.length = r.length + 1 := by rw [h7]; rfl
    rcases M.bag with ⟨h9, _, _⟩ | ⟨gb, rest, rfl, rfl, hb3, hb4, hb5⟩
    · rw [h9] at h7
      cases h7
    simp -implicitDefEqProofs only [go_sem]
    (repeat' (first|(refine g_s fun K hK=>?_)|(refine g_b ?_)|(refine g_r ?_)|(refine g_k ?_;simp only[thenQ,blockQ])|(refine g_e ?_;simp only[thenQ,blockQ,↓reduceIte,Nat.reduceEqDiff])|(refine g_c (fun h=>?_) (fun h=>?_)<;>(try simp only[go_sem] at h)<;>(try exact g_f))|((first|refine g_t ?_|refine g_g ?_|refine g_U ?_|refine g_A ?_|refine g_W ?_);(try simp -implicitDefEqProofs only[go_sem,hb]))|(with_reducible refine hK _ _ ?_;clear hK K)|(clear hK K;first|(with_reducible refine hK _ _ ?_;clear hK K)|(clear hK K;with_reducible refine hK _ _ ?_;clear hK K)|(clear hK K;clear hK K;with_reducible refine hK _ _ ?_;clear hK K))|(with_reducible refine splitB_intro (fun h=>?_) (fun h=>?_)<;>(try simp only[go_sem] at h)<;>(try exact g_f)<;>(try simp -implicitDefEqProofs only[go_sem,hb]))|(with_reducible refine And.intro (fun h=>?_) (fun h=>?_)<;>(try simp only[go_sem] at h)<;>(try exact g_f))|(with_reducible refine And.intro ?_ ?_;· exact g_x)|(with_reducible intro h;(try simp only[go_sem] at h);(try exact g_f))))
    refine hde.mono ?_
    rintro r3 S3 ⟨h10, rfl⟩
    (repeat' (first|(refine g_s fun K hK=>?_)|(refine g_b ?_)|(refine g_r ?_)|(refine g_k ?_;simp only[thenQ,blockQ])|(refine g_e ?_;simp only[thenQ,blockQ,↓reduceIte,Nat.reduceEqDiff])|(refine g_c (fun h=>?_) (fun h=>?_)<;>(try simp only[go_sem] at h)<;>(try exact g_f))|((first|refine g_t ?_|refine g_g ?_|refine g_U ?_|refine g_A ?_|refine g_W ?_);(try simp -implicitDefEqProofs only[go_sem]))|(with_reducible refine hK _ _ ?_;clear hK K)|(clear hK K;first|(with_reducible refine hK _ _ ?_;clear hK K)|(clear hK K;with_reducible refine hK _ _ ?_;clear hK K)|(clear hK K;clear hK K;with_reducible refine hK _ _ ?_;clear hK K))|(with_reducible refine splitB_intro (fun h=>?_) (fun h=>?_)<;>(try simp only[go_sem] at h)<;>(try exact g_f)<;>(try simp -implicitDefEqProofs only[go_sem]))|(with_reducible refine And.intro (fun h=>?_) (fun h=>?_)<;>(try simp only[go_sem] at h)<;>(try exact g_f))|(with_reducible refine And.intro ?_ ?_;· exact g_x)|(with_reducible intro h;(try simp only[go_sem] at h);(try exact g_f))))
    refine hL (S3, deliverE n e2 0) [] _ _ ⟨h10, hdi, hdb, hdg, by rw [← h8]; exact (come_step h7).symm⟩ (ALe_of ?_) rfl
    · simp -implicitDefEqProofs only [go_sem]
  · rintro k ⟨S2, e2⟩ τ9 hk9 ⟨h4, h5, h6, h7, h8⟩ L
    simp only at h4 h5 h6 h7 h8
    have hfin : comeE n e2 = e2 := by unfold comeE; rw [h7]; rfl
    rw [hfin] at h8
    have h40 := h4
    obtain ⟨hK0, rb, tb, gv, gi, M⟩ := h4
    have hb := M.hb
    have hl0 : e2.bag.length = 0 := by rw [h7]; rfl
    rcases M.bag with ⟨h9, _, rfl⟩ | ⟨gb, rest, rfl, rfl, hb3, hb4, hb5⟩
    all_goals
      simp -implicitDefEqProofs only [go_sem]
      (repeat' (first|(refine g_s fun K hK=>?_)|(refine g_b ?_)|(refine g_r ?_)|(refine g_k ?_;simp only[thenQ,blockQ])|(refine g_e ?_;simp only[thenQ,blockQ,↓reduceIte,Nat.reduceEqDiff])|(refine g_c (fun h=>?_) (fun h=>?_)<;>(try simp only[go_sem] at h)<;>(try exact g_f))|((first|refine g_t ?_|refine g_g ?_|refine g_U ?_|refine g_A ?_|refine g_W ?_);(try simp -implicitDefEqProofs only[go_sem,hb, hl0]))|(with_reducible refine hK _ _ ?_;clear hK K)|(clear hK K;first|(with_reducible refine hK _ _ ?_;clear hK K)|(clear hK K;with_reducible refine hK _ _ ?_;clear hK K)|(clear hK K;clear hK K;with_reducible refine hK _ _ ?_;clear hK K))|(with_reducible refine splitB_intro (fun h=>?_) (fun h=>?_)<;>(try simp only[go_sem] at h)<;>(try exact g_f)<;>(try simp -implicitDefEqProofs only[go_sem,hb, hl0]))|(with_reducible refine And.intro (fun h=>?_) (fun h=>?_)<;>(try simp only[go_sem] at h)<;>(try exact g_f))|(with_reducible refine And.intro ?_ ?_;· exact g_x)|(with_reducible intro h;(try simp only[go_sem] at h);(try exact g_f))))
      have h88 : comeE n e = e2 := h8.symm
      rw [h88]
      exact ⟨h40, rfl⟩
theorem ticks_step {n : Net} (r : List Int) (k : Int) (e : Eng) : (k :: r).foldl (fun e i => (tickE n e i).1) e = r.foldl (fun e i => (tickE n e i).1) (tickE n e k).1 := rfl
theorem come_all {n : Net} (hc : checkN n = 0) {e : Eng} (he : EngIn n e) (hb : EngB e) : EngIn n (comeE n e) ∧ EngB (comeE n e) := by
  refine ⟨come_in hc e.bag he rfl, fun m hm => ?_⟩
  have : (comeE n e).bag = [] := come_bag _ _ rfl
  rw [this] at hm
  cases hm
theorem ecalm_calls (n : Net) (e : Eng) (okn : NetOk n) (ok : EngOk e) (rounds : Int) (hrI : I64 rounds) (σ : Store) : ACalls Tryz.prog 10 [.agg (netC n), .agg (engC e), intA1 rounds] σ fun r σ' => σ' = σ ∧ r = .tup [.agg (engC (calmR n e rounds).1), intA1 (calmR n e rounds).2] := by
  have hC := checkE_calls n e okn ok
  unfold calmR
  refine ACalls.deep ?_
  by_cases h0 : checkE n e = 0
  · rw [if_neg (not_not_intro h0)]
    rw [h0] at hC
    obtain ⟨hc, he⟩ := engIn_of h0
    have hn := netIn_of hc
    have n1 := hn.n1
    have n6 := hn.n6
    have hby : EngB e := fun m hm => (ok.mail m hm).rng
    by_cases h3 : rounds < 0 ∨ 100 < rounds
    · rw [if_pos h3]
      refine ACalls_of_awp Tryz.func10 rfl Tryz.results10 ?_
      simp only [List.length_cons, List.length_nil, Tryz.ntmps10, Nat.reduceAdd, Nat.reduceSub, enterA]
      refine AWP_seq_k fun K hK => ?_
      (refine AWP_region ?_; simp -implicitDefEqProofs only [go_sem])
      refine hK _ _ ?_; clear hK K
      refine AWP_freezeP 3 rfl (by simp only [st0]; rfl) ?_
      simp only [ss0, List.set_cons_zero]
      refine AWP_freezeP 4 rfl (by simp only [st1]; rfl) ?_
      simp only [ss1, List.set_cons_zero, List.set_cons_succ]
      (repeat' (first|(refine g_s fun K hK=>?_)|(refine g_b ?_)|(refine g_r ?_)|(refine g_k ?_;simp only[thenQ,blockQ])|(refine g_e ?_;simp only[thenQ,blockQ,↓reduceIte,Nat.reduceEqDiff])|(refine g_c (fun h=>?_) (fun h=>?_)<;>(try simp only[go_sem] at h)<;>(try exact g_f))|((first|refine g_t ?_|refine g_g ?_|refine g_U ?_|refine g_A ?_|refine (hC _).use ?_|refine g_q (fun τ=>hC _) ?_|refine g_W ?_);(try simp -implicitDefEqProofs only[go_sem]))|(with_reducible refine hK _ _ ?_;clear hK K)|(clear hK K;first|(with_reducible refine hK _ _ ?_;clear hK K)|(clear hK K;with_reducible refine hK _ _ ?_;clear hK K)|(clear hK K;clear hK K;with_reducible refine hK _ _ ?_;clear hK K))|(with_reducible refine splitB_intro (fun h=>?_) (fun h=>?_)<;>(try simp only[go_sem] at h)<;>(try exact g_f)<;>(try simp -implicitDefEqProofs only[go_sem]))|(with_reducible refine And.intro (fun h=>?_) (fun h=>?_)<;>(try simp only[go_sem] at h)<;>(try exact g_f))|(with_reducible refine And.intro ?_ ?_;· exact g_x)|(with_reducible intro h;(try simp only[go_sem] at h);(try exact g_f))))
      all_goals exact DeepQ_of rfl (.tupL (.cons (.eng _) (.cons (.c _) .nil))) (.tupL (.cons (.aggL (.cons .nil (.cons .nil .nil))) (.cons (.same _) .nil)))
    · rw [if_neg h3]
      obtain ⟨X, hX⟩ : ∃ X, calmE n e rounds = X := ⟨_, rfl⟩
      rw [hX]
      refine ACalls_of_awp Tryz.func10 rfl Tryz.results10 ?_
      simp only [List.length_cons, List.length_nil, Tryz.ntmps10, Nat.reduceAdd, Nat.reduceSub, enterA]
      refine AWP_seq_k fun K hK => ?_
      (refine AWP_region ?_; simp -implicitDefEqProofs only [go_sem])
      refine hK _ _ ?_; clear hK K
      refine AWP_freezeP 3 rfl (by simp only [st0]; rfl) ?_
      simp only [ss0, List.set_cons_zero]
      refine AWP_freezeP 4 rfl (by simp only [st1]; rfl) ?_
      simp only [ss1, List.set_cons_zero, List.set_cons_succ]
      (repeat' (first|(refine g_s fun K hK=>?_)|(refine g_b ?_)|(refine g_r ?_)|(refine g_k ?_;simp only[thenQ,blockQ])|(refine g_e ?_;simp only[thenQ,blockQ,↓reduceIte,Nat.reduceEqDiff])|(refine g_c (fun h=>?_) (fun h=>?_)<;>(try simp only[go_sem] at h)<;>(try exact g_f))|((first|refine g_t ?_|refine g_g ?_|refine g_U ?_|refine g_A ?_|refine (hC _).use ?_|refine g_q (fun τ=>hC _) ?_|refine g_W ?_);(try simp -implicitDefEqProofs only[go_sem]))|(with_reducible refine hK _ _ ?_;clear hK K)|(clear hK K;first|(with_reducible refine hK _ _ ?_;clear hK K)|(clear hK K;with_reducible refine hK _ _ ?_;clear hK K)|(clear hK K;clear hK K;with_reducible refine hK _ _ ?_;clear hK K))|(with_reducible refine splitB_intro (fun h=>?_) (fun h=>?_)<;>(try simp only[go_sem] at h)<;>(try exact g_f)<;>(try simp -implicitDefEqProofs only[go_sem]))|(with_reducible refine And.intro (fun h=>?_) (fun h=>?_)<;>(try simp only[go_sem] at h)<;>(try exact g_f))|(with_reducible refine And.intro ?_ ?_;· exact g_x)|(with_reducible intro h;(try simp only[go_sem] at h);(try exact g_f))))
      obtain ⟨ρ, hρ⟩ : ∃ ρ : Store, σ ++ [.dead, .dead, .cells 2 [[.c (.slice none 0 0), .c (.slice none 0 0)]]] = ρ := ⟨_, rfl⟩
      have hlen : ρ.length = σ.length + 3 := by rw [← hρ]; simp
      have hcL : ∀ τ, (ρ ++ τ)[σ.length + 2]? = some (.cells 2 [[.c (.slice none 0 0), .c (.slice none 0 0)]]) := fun τ => by rw [← hρ]; exact st_app (by simp)
      have hcS : ∀ τ o, (ρ ++ τ).set (σ.length + 2) o = σ ++ ([.dead, .dead, o] ++ τ) := fun τ o => by
        rw [← hρ, List.append_assoc, List.set_append_right _ _ (by omega), Nat.add_sub_cancel_left]
        rfl
      rw [hρ]
      refine (eown_calls n e hn he ok ρ).mono ?_
      rintro r S' ⟨τ, rfl, b, rfl, hM⟩
      (repeat' (first|(refine g_s fun K hK=>?_)|(refine g_b ?_)|(refine g_r ?_)|(refine g_k ?_;simp only[thenQ,blockQ])|(refine g_e ?_;simp only[thenQ,blockQ,↓reduceIte,Nat.reduceEqDiff])|(refine g_c (fun h=>?_) (fun h=>?_)<;>(try simp only[go_sem] at h)<;>(try exact g_f))|((first|refine g_t ?_|refine g_g ?_|refine g_U ?_|refine g_A ?_|refine g_W ?_);(try simp -implicitDefEqProofs only[go_sem]))|(with_reducible refine hK _ _ ?_;clear hK K)|(clear hK K;first|(with_reducible refine hK _ _ ?_;clear hK K)|(clear hK K;with_reducible refine hK _ _ ?_;clear hK K)|(clear hK K;clear hK K;with_reducible refine hK _ _ ?_;clear hK K))|(with_reducible refine splitB_intro (fun h=>?_) (fun h=>?_)<;>(try simp only[go_sem] at h)<;>(try exact g_f)<;>(try simp -implicitDefEqProofs only[go_sem]))|(with_reducible refine And.intro (fun h=>?_) (fun h=>?_)<;>(try simp only[go_sem] at h)<;>(try exact g_f))|(with_reducible refine And.intro ?_ ?_;· exact g_x)|(with_reducible intro h;(try simp only[go_sem] at h);(try exact g_f))))
      refine (come_calls n e hc okn.len he hby ρ _ b ⟨⟨τ, rfl⟩, hM⟩).mono ?_
      rintro r S1 ⟨hM1, rfl⟩
      obtain ⟨hi1, hb1⟩ := come_all hc he hby
      (repeat' (first|(refine g_s fun K hK=>?_)|(refine g_b ?_)|(refine g_r ?_)|(refine g_k ?_;simp only[thenQ,blockQ])|(refine g_e ?_;simp only[thenQ,blockQ,↓reduceIte,Nat.reduceEqDiff])|(refine g_c (fun h=>?_) (fun h=>?_)<;>(try simp only[go_sem] at h)<;>(try exact g_f))|((first|refine g_t ?_|refine g_g ?_|refine g_U ?_|refine g_A ?_|refine g_W ?_);(try simp -implicitDefEqProofs only[go_sem]))|(with_reducible refine hK _ _ ?_;clear hK K)|(clear hK K;first|(with_reducible refine hK _ _ ?_;clear hK K)|(clear hK K;with_reducible refine hK _ _ ?_;clear hK K)|(clear hK K;clear hK K;with_reducible refine hK _ _ ?_;clear hK K))|(with_reducible refine splitB_intro (fun h=>?_) (fun h=>?_)<;>(try simp only[go_sem] at h)<;>(try exact g_f)<;>(try simp -implicitDefEqProofs only[go_sem]))|(with_reducible refine And.intro (fun h=>?_) (fun h=>?_)<;>(try simp only[go_sem] at h)<;>(try exact g_f))|(with_reducible refine And.intro ?_ ?_;· exact g_x)|(with_reducible intro h;(try simp only[go_sem] at h);(try exact g_f))))
      have hJ := hK
      clear hK
      refine AWP_for rounds (fun k (s : Store × Eng) => MachK ρ s.1 b n s.2 ∧ EngIn n s.2 ∧ EngB s.2 ∧ calmF n (rounds - k).toNat s.2 = X) (fun k _ _ => [(34, intA1 k)]) (fun _ s _ => s.1) (S1, comeE n e) [] (by omega) ⟨hM1, hi1, hb1, by rw [Int.sub_zero]; exact hX⟩ rfl (ALe_of ?_) ?_
      · simp -implicitDefEqProofs only [go_sem]
      · rintro k ⟨S2, e2⟩ τ9 hk0 hk1 ⟨h4, h5, h6, h7⟩ L hL
        simp only at h4 h5 h6 h7
        by_cases hk2 : k < rounds
        · have ef : (rounds - k).toNat = (rounds - (k + 1)).toNat + 1 := by omega
          rw [ef, calmF] at h7
          have ik : I64 (k + 1) := by unfold I64 at *; omega
          simp -implicitDefEqProofs only [go_sem]
          (repeat' (first|(refine g_s fun K hK=>?_)|(refine g_b ?_)|(refine g_r ?_)|(refine g_k ?_;simp only[thenQ,blockQ])|(refine g_e ?_;simp only[thenQ,blockQ,↓reduceIte,Nat.reduceEqDiff])|(refine g_c (fun h=>?_) (fun h=>?_)<;>(try simp only[go_sem] at h)<;>(try exact g_f))|((first|refine g_t ?_|refine g_g ?_|refine g_U ?_|refine g_A ?_|refine g_W ?_);(try simp -implicitDefEqProofs only[go_sem]))|(with_reducible refine hK _ _ ?_;clear hK K)|(clear hK K;first|(with_reducible refine hK _ _ ?_;clear hK K)|(clear hK K;with_reducible refine hK _ _ ?_;clear hK K)|(clear hK K;clear hK K;with_reducible refine hK _ _ ?_;clear hK K))|(with_reducible refine splitB_intro (fun h=>?_) (fun h=>?_)<;>(try simp only[go_sem] at h)<;>(try exact g_f)<;>(try simp -implicitDefEqProofs only[go_sem]))|(with_reducible refine And.intro (fun h=>?_) (fun h=>?_)<;>(try simp only[go_sem] at h)<;>(try exact g_f))|(with_reducible refine And.intro ?_ ?_;· exact g_x)|(with_reducible intro h;(try simp only[go_sem] at h);(try exact g_f))))
          have hJ2 := hK
          clear hK
          refine AWP_each (ints n.nodes) (fun _ r (s : Store × Eng) => MachK ρ s.1 b n s.2 ∧ EngIn n s.2 ∧ EngB s.2 ∧ r.foldl (fun e i => (tickE n e i).1) s.2 = ticksE n e2) (fun k _ _ => [(38, intA1 k)]) (fun _ s _ => s.1) (S2, e2) [] ⟨h4, h5, h6, rfl⟩ rfl (ALe_of ?_) ?_ ?_
          · simp -implicitDefEqProofs only [go_sem]
          · rintro q r ⟨S3, e3⟩ τ8 hq0 hq1 ⟨g4, g5, g6, g7⟩ L2 hL2
            simp only at g4 g5 g6 g7
            rw [ints_length] at hq1
            rw [at0_ints hq0 (by omega), ticks_step] at g7
            have hti := tick_calls n e3 hc okn.len g5 ρ S3 b g4 q hq0 (by omega)
            have iq : I64 (q + 1) := by unfold I64; omega
            have hts : (stepE n e3 ⟨1, q, 0, 0, []⟩).1 = (tickE n e3 q).1 := by
              have hT : inR q 0 (n.nodes - 1) = true := inR_iff.2 (by omega)
              unfold stepE
              simp only
              rw [hT]
              rfl
            have g8 := step_in hc g5 ⟨1, q, 0, 0, []⟩
            have g9 := stepB hc g5 g6 ⟨1, q, 0, 0, []⟩
            rw [hts] at g8 g9
            simp -implicitDefEqProofs only [go_sem]
            (repeat' (first|(refine g_s fun K hK=>?_)|(refine g_b ?_)|(refine g_r ?_)|(refine g_k ?_;simp only[thenQ,blockQ])|(refine g_e ?_;simp only[thenQ,blockQ,↓reduceIte,Nat.reduceEqDiff])|(refine g_c (fun h=>?_) (fun h=>?_)<;>(try simp only[go_sem] at h)<;>(try exact g_f))|((first|refine g_t ?_|refine g_g ?_|refine g_U ?_|refine g_A ?_|refine g_W ?_);(try simp -implicitDefEqProofs only[go_sem]))|(with_reducible refine hK _ _ ?_;clear hK K)|(clear hK K;first|(with_reducible refine hK _ _ ?_;clear hK K)|(clear hK K;with_reducible refine hK _ _ ?_;clear hK K)|(clear hK K;clear hK K;with_reducible refine hK _ _ ?_;clear hK K))|(with_reducible refine splitB_intro (fun h=>?_) (fun h=>?_)<;>(try simp only[go_sem] at h)<;>(try exact g_f)<;>(try simp -implicitDefEqProofs only[go_sem]))|(with_reducible refine And.intro (fun h=>?_) (fun h=>?_)<;>(try simp only[go_sem] at h)<;>(try exact g_f))|(with_reducible refine And.intro ?_ ?_;· exact g_x)|(with_reducible intro h;(try simp only[go_sem] at h);(try exact g_f))))
            refine hti.mono ?_
            rintro r3 S4 ⟨h10, rfl⟩
            simp -implicitDefEqProofs only [go_sem]
            (repeat' (first|(refine g_s fun K hK=>?_)|(refine g_b ?_)|(refine g_r ?_)|(refine g_k ?_;simp only[thenQ,blockQ])|(refine g_e ?_;simp only[thenQ,blockQ,↓reduceIte,Nat.reduceEqDiff])|(refine g_c (fun h=>?_) (fun h=>?_)<;>(try simp only[go_sem] at h)<;>(try exact g_f))|((first|refine g_t ?_|refine g_g ?_|refine g_U ?_|refine g_A ?_|refine g_W ?_);(try simp -implicitDefEqProofs only[go_sem,iq]))|(with_reducible refine hK _ _ ?_;clear hK K)|(clear hK K;first|(with_reducible refine hK _ _ ?_;clear hK K)|(clear hK K;with_reducible refine hK _ _ ?_;clear hK K)|(clear hK K;clear hK K;with_reducible refine hK _ _ ?_;clear hK K))|(with_reducible refine splitB_intro (fun h=>?_) (fun h=>?_)<;>(try simp only[go_sem] at h)<;>(try exact g_f)<;>(try simp -implicitDefEqProofs only[go_sem,iq]))|(with_reducible refine And.intro (fun h=>?_) (fun h=>?_)<;>(try simp only[go_sem] at h)<;>(try exact g_f))|(with_reducible refine And.intro ?_ ?_;· exact g_x)|(with_reducible intro h;(try simp only[go_sem] at h);(try exact g_f))))
            refine hL2 (S4, (tickE n e3 q).1) [] _ _ ⟨h10, g8, g9, g7⟩ (ALe_of ?_) rfl
            simp -implicitDefEqProofs only [go_sem]
          · rintro q ⟨S3, e3⟩ τ8 hq9 ⟨g4, g5, g6, g7⟩ L2
            rw [ints_length] at hq9
            simp only [List.foldl_nil] at g4 g5 g6 g7
            subst g7
            simp -implicitDefEqProofs only [go_sem]
            (repeat' (first|(refine g_s fun K hK=>?_)|(refine g_b ?_)|(refine g_r ?_)|(refine g_k ?_;simp only[thenQ,blockQ])|(refine g_e ?_;simp only[thenQ,blockQ,↓reduceIte,Nat.reduceEqDiff])|(refine g_c (fun h=>?_) (fun h=>?_)<;>(try simp only[go_sem] at h)<;>(try exact g_f))|((first|refine g_t ?_|refine g_g ?_|refine g_U ?_|refine g_A ?_|refine g_W ?_);(try simp -implicitDefEqProofs only[go_sem]))|(with_reducible refine hK _ _ ?_;clear hK K)|(clear hK K;first|(with_reducible refine hK _ _ ?_;clear hK K)|(clear hK K;with_reducible refine hK _ _ ?_;clear hK K)|(clear hK K;clear hK K;with_reducible refine hK _ _ ?_;clear hK K))|(with_reducible refine splitB_intro (fun h=>?_) (fun h=>?_)<;>(try simp only[go_sem] at h)<;>(try exact g_f)<;>(try simp -implicitDefEqProofs only[go_sem]))|(with_reducible refine And.intro (fun h=>?_) (fun h=>?_)<;>(try simp only[go_sem] at h)<;>(try exact g_f))|(with_reducible refine And.intro ?_ ?_;· exact g_x)|(with_reducible intro h;(try simp only[go_sem] at h);(try exact g_f))))
            refine hJ2 _ _ ?_
            clear hJ2
            (repeat' (first|(refine g_s fun K hK=>?_)|(refine g_b ?_)|(refine g_r ?_)|(refine g_k ?_;simp only[thenQ,blockQ])|(refine g_e ?_;simp only[thenQ,blockQ,↓reduceIte,Nat.reduceEqDiff])|(refine g_c (fun h=>?_) (fun h=>?_)<;>(try simp only[go_sem] at h)<;>(try exact g_f))|((first|refine g_t ?_|refine g_g ?_|refine g_U ?_|refine g_A ?_|refine g_W ?_);(try simp -implicitDefEqProofs only[go_sem]))|(with_reducible refine hK _ _ ?_;clear hK K)|(clear hK K;first|(with_reducible refine hK _ _ ?_;clear hK K)|(clear hK K;with_reducible refine hK _ _ ?_;clear hK K)|(clear hK K;clear hK K;with_reducible refine hK _ _ ?_;clear hK K))|(with_reducible refine splitB_intro (fun h=>?_) (fun h=>?_)<;>(try simp only[go_sem] at h)<;>(try exact g_f)<;>(try simp -implicitDefEqProofs only[go_sem]))|(with_reducible refine And.intro (fun h=>?_) (fun h=>?_)<;>(try simp only[go_sem] at h)<;>(try exact g_f))|(with_reducible refine And.intro ?_ ?_;· exact g_x)|(with_reducible intro h;(try simp only[go_sem] at h);(try exact g_f))))
            refine (come_calls n _ hc okn.len g5 g6 ρ S3 b g4).mono ?_
            rintro r3 S4 ⟨h10, rfl⟩
            obtain ⟨hi2, hb2⟩ := come_all hc g5 g6
            (repeat' (first|(refine g_s fun K hK=>?_)|(refine g_b ?_)|(refine g_r ?_)|(refine g_k ?_;simp only[thenQ,blockQ])|(refine g_e ?_;simp only[thenQ,blockQ,↓reduceIte,Nat.reduceEqDiff])|(refine g_c (fun h=>?_) (fun h=>?_)<;>(try simp only[go_sem] at h)<;>(try exact g_f))|((first|refine g_t ?_|refine g_g ?_|refine g_U ?_|refine g_A ?_|refine g_W ?_);(try simp -implicitDefEqProofs only[go_sem,ik]))|(with_reducible refine hK _ _ ?_;clear hK K)|(clear hK K;first|(with_reducible refine hK _ _ ?_;clear hK K)|(clear hK K;with_reducible refine hK _ _ ?_;clear hK K)|(clear hK K;clear hK K;with_reducible refine hK _ _ ?_;clear hK K))|(with_reducible refine splitB_intro (fun h=>?_) (fun h=>?_)<;>(try simp only[go_sem] at h)<;>(try exact g_f)<;>(try simp -implicitDefEqProofs only[go_sem,ik]))|(with_reducible refine And.intro (fun h=>?_) (fun h=>?_)<;>(try simp only[go_sem] at h)<;>(try exact g_f))|(with_reducible refine And.intro ?_ ?_;· exact g_x)|(with_reducible intro h;(try simp only[go_sem] at h);(try exact g_f))))
            refine hL hk2 (S4, _) [] _ _ ⟨h10, hi2, hb2, h7⟩ (ALe_of ?_) rfl
            simp -implicitDefEqProofs only [go_sem]
        · have ef : (rounds - k).toNat = 0 := by omega
          rw [ef, calmF] at h7
          subst h7
          obtain ⟨⟨τ2, rfl⟩, rb, tb, gv, gi, M⟩ := h4
          have hb := M.hb
          have hM3 : ∀ o, MachW (σ ++ ([.dead, .dead, o] ++ τ2)) ρ.length b n e2 rb tb gv gi := fun o => by
            rw [← hcS τ2 o]
            exact M.set_lo (by omega)
          rcases M.bag with ⟨h1, h2, rfl⟩ | ⟨gb, rest, h1, rfl, h3, h4, h5⟩
          all_goals
            simp -implicitDefEqProofs only [go_sem]
            (repeat' (first|(refine g_s fun K hK=>?_)|(refine g_b ?_)|(refine g_r ?_)|(refine g_k ?_;simp only[thenQ,blockQ])|(refine g_e ?_;simp only[thenQ,blockQ,↓reduceIte,Nat.reduceEqDiff])|(refine g_c (fun h=>?_) (fun h=>?_)<;>(try simp only[go_sem] at h)<;>(try exact g_f))|((first|refine g_t ?_|refine g_g ?_|refine g_U ?_|refine g_A ?_|refine g_W ?_);(try simp -implicitDefEqProofs only[go_sem]))|(with_reducible refine hK _ _ ?_;clear hK K)|(clear hK K;first|(with_reducible refine hK _ _ ?_;clear hK K)|(clear hK K;with_reducible refine hK _ _ ?_;clear hK K)|(clear hK K;clear hK K;with_reducible refine hK _ _ ?_;clear hK K))|(with_reducible refine splitB_intro (fun h=>?_) (fun h=>?_)<;>(try simp only[go_sem] at h)<;>(try exact g_f)<;>(try simp -implicitDefEqProofs only[go_sem]))|(with_reducible refine And.intro (fun h=>?_) (fun h=>?_)<;>(try simp only[go_sem] at h)<;>(try exact g_f))|(with_reducible refine And.intro ?_ ?_;· exact g_x)|(with_reducible intro h;(try simp only[go_sem] at h);(try exact g_f))))
            refine hJ _ _ ?_
            clear hJ
            (repeat' (first|(refine g_s fun K hK=>?_)|(refine g_b ?_)|(refine g_r ?_)|(refine g_k ?_;simp only[thenQ,blockQ])|(refine g_e ?_;simp only[thenQ,blockQ,↓reduceIte,Nat.reduceEqDiff])|(refine g_c (fun h=>?_) (fun h=>?_)<;>(try simp only[go_sem] at h)<;>(try exact g_f))|((first|refine g_t ?_|refine g_g ?_|refine g_U ?_|refine g_A ?_|refine g_W ?_);(try simp -implicitDefEqProofs only[go_sem,hcL, hcS, hb]))|(with_reducible refine hK _ _ ?_;clear hK K)|(clear hK K;first|(with_reducible refine hK _ _ ?_;clear hK K)|(clear hK K;with_reducible refine hK _ _ ?_;clear hK K)|(clear hK K;clear hK K;with_reducible refine hK _ _ ?_;clear hK K))|(with_reducible refine splitB_intro (fun h=>?_) (fun h=>?_)<;>(try simp only[go_sem] at h)<;>(try exact g_f)<;>(try simp -implicitDefEqProofs only[go_sem,hcL, hcS, hb]))|(with_reducible refine And.intro (fun h=>?_) (fun h=>?_)<;>(try simp only[go_sem] at h)<;>(try exact g_f))|(with_reducible refine And.intro ?_ ?_;· exact g_x)|(with_reducible intro h;(try simp only[go_sem] at h);(try exact g_f))))
            exact DeepQ_of rfl (.tupL (.cons (.eng _) (.cons (.c _) .nil))) (.tupL (.cons (.aggL ((hM3 _).deep fun x hx => by omega)) (.cons (.same _) .nil)))
  · rw [if_pos h0]
    refine ACalls_of_awp Tryz.func10 rfl Tryz.results10 ?_
    simp only [List.length_cons, List.length_nil, Tryz.ntmps10, Nat.reduceAdd, Nat.reduceSub, enterA]
    refine AWP_seq_k fun K hK => ?_
    (refine AWP_region ?_; simp -implicitDefEqProofs only [go_sem])
    refine hK _ _ ?_; clear hK K
    refine AWP_freezeP 3 rfl (by simp only [st0]; rfl) ?_
    simp only [ss0, List.set_cons_zero]
    refine AWP_freezeP 4 rfl (by simp only [st1]; rfl) ?_
    simp only [ss1, List.set_cons_zero, List.set_cons_succ]
    (repeat' (first|(refine g_s fun K hK=>?_)|(refine g_b ?_)|(refine g_r ?_)|(refine g_k ?_;simp only[thenQ,blockQ])|(refine g_e ?_;simp only[thenQ,blockQ,↓reduceIte,Nat.reduceEqDiff])|(refine g_c (fun h=>?_) (fun h=>?_)<;>(try simp only[go_sem] at h)<;>(try exact g_f))|((first|refine g_t ?_|refine g_g ?_|refine g_U ?_|refine g_A ?_|refine (hC _).use ?_|refine g_q (fun τ=>hC _) ?_|refine g_W ?_);(try simp -implicitDefEqProofs only[go_sem,h0]))|(with_reducible refine hK _ _ ?_;clear hK K)|(clear hK K;first|(with_reducible refine hK _ _ ?_;clear hK K)|(clear hK K;with_reducible refine hK _ _ ?_;clear hK K)|(clear hK K;clear hK K;with_reducible refine hK _ _ ?_;clear hK K))|(with_reducible refine splitB_intro (fun h=>?_) (fun h=>?_)<;>(try simp only[go_sem] at h)<;>(try exact g_f)<;>(try simp -implicitDefEqProofs only[go_sem,h0]))|(with_reducible refine And.intro (fun h=>?_) (fun h=>?_)<;>(try simp only[go_sem] at h)<;>(try exact g_f))|(with_reducible refine And.intro ?_ ?_;· exact g_x)|(with_reducible intro h;(try simp only[go_sem] at h);(try exact g_f))))
    exact DeepQ_of rfl (.tupL (.cons (.eng _) (.cons (.c _) .nil))) (.tupL (.cons (.aggL (.cons .nil (.cons .nil .nil))) (.cons (.same _) .nil)))
end Go.Proofs.YtephecognbbaoaaGreat
namespace Go.Proofs.YtephecognbbaoaaGreat
def newV (n : Net) (p : List Int × Nat) : List AV := [intsA p.1, .own p.2 1 0 n.nodes.toNat n.nodes.toNat]
def newR (n : Net) : Eng × Int := if checkN n ≠ 0 then (noE, checkN n) else (newE n, 0)
theorem enew_calls (n : Net) (okn : NetOk n) (σ : Store) : ACalls Tryz.prog 30 [.agg (netC n)] σ fun r σ' => σ' = σ ∧ r = .tup [.agg (engC (newR n).1), intA1 (newR n).2] := by
  have hC := netCheck_calls n okn
  unfold newR
  refine ACalls.deep ?_
  by_cases h0 : checkN n = 0
  · rw [if_neg (not_not_intro h0)]
    rw [h0] at hC
    have hn := netIn_of h0
    have n1 := hn.n1
    have n6 := hn.n6
    have hTr := trivial_calls n hn
    have hbl : (beginA n).length = n.nodes.toNat := by simp [beginA, ints_length]
    refine ACalls_of_awp Tryz.func30 rfl Tryz.results30 ?_
    simp only [List.length_cons, List.length_nil, Tryz.ntmps30, Nat.reduceAdd, Nat.reduceSub, enterA]
    refine AWP_seq_k fun K hK => ?_
    (refine AWP_region ?_; simp -implicitDefEqProofs only [go_sem])
    refine hK _ _ ?_; clear hK K
    refine AWP_freezeP 1 rfl (by simp only [st0]; rfl) ?_
    simp only [ss0, List.set_cons_zero]
    (repeat' (first|(refine g_s fun K hK=>?_)|(refine g_b ?_)|(refine g_r ?_)|(refine g_k ?_;simp only[thenQ,blockQ])|(refine g_e ?_;simp only[thenQ,blockQ,↓reduceIte,Nat.reduceEqDiff])|(refine g_c (fun h=>?_) (fun h=>?_)<;>(try simp only[go_sem] at h)<;>(try exact g_f))|((first|refine g_t ?_|refine g_g ?_|refine g_U ?_|refine g_A ?_|refine (hC _).use ?_|refine g_q (fun τ=>hC _) ?_|refine (hTr _).use ?_|refine g_q (fun τ=>hTr _) ?_|refine g_W ?_);(try simp -implicitDefEqProofs only[go_sem]))|(with_reducible refine hK _ _ ?_;clear hK K)|(clear hK K;first|(with_reducible refine hK _ _ ?_;clear hK K)|(clear hK K;with_reducible refine hK _ _ ?_;clear hK K)|(clear hK K;clear hK K;with_reducible refine hK _ _ ?_;clear hK K))|(with_reducible refine splitB_intro (fun h=>?_) (fun h=>?_)<;>(try simp only[go_sem] at h)<;>(try exact g_f)<;>(try simp -implicitDefEqProofs only[go_sem]))|(with_reducible refine And.intro (fun h=>?_) (fun h=>?_)<;>(try simp only[go_sem] at h)<;>(try exact g_f))|(with_reducible refine And.intro ?_ ?_;· exact g_x)|(with_reducible intro h;(try simp only[go_sem] at h);(try exact g_f))))
    refine AWP_pad ?_
    have hJ := hK
    clear hK
    obtain ⟨ρ, hρ⟩ : ∃ ρ : Store, σ ++ [.dead, .cells 2 [[.c (.slice none 0 0), .c (.slice none 0 0)]]] = ρ := ⟨_, rfl⟩
    have hlen : σ.length + 2 = ρ.length := by rw [← hρ]; simp
    refine AWP_each (beginA n) (fun _ r (s : List (List Int × Nat) × Store) => s.1.map (·.1) ++ r = beginA n ∧ (∀ p ∈ s.1, ρ.length + 1 ≤ p.2 ∧ ((ρ ++ [.dead]) ++ s.2)[p.2]? = some (.cells 1 (List.replicate n.nodes.toNat [.c (.slice none 0 0)]))))
      (fun k s _ => [(17, intA1 k), (5, .ptr ρ.length 2 0 0)]) (fun _ s _ => ρ ++ (.cells 2 [[accV 2 (ρ.length + (s.2.length + 1)) s.1, .c (.slice none 0 0)]] :: (s.2 ++ [accO (newV n) 2 s.1]))) ([], []) [] ⟨rfl, fun p hp => (by cases hp)⟩ ?_ (ALe_of ?_) ?_ ?_
    · rw [← hρ]
      simp [accV, accO]
    · simp -implicitDefEqProofs only [go_sem, hlen]
    · rintro k r ⟨acc, T⟩ τ9 hk0 hk1 ⟨h3, h4⟩ L hL
      obtain ⟨w, hw⟩ : ∃ w, at0 (beginA n) k = w := ⟨_, rfl⟩
      rw [hw] at h3
      have hal : acc.length + 1 ≤ 6 := by have := congrArg List.length h3; simp at this; omega
      rcases acc with _ | ⟨p0, acc⟩
      · simp -implicitDefEqProofs only [go_sem, accV, accO]
        (repeat' (first|(refine g_s fun K hK=>?_)|(refine g_b ?_)|(refine g_r ?_)|(refine g_k ?_;simp only[thenQ,blockQ])|(refine g_e ?_;simp only[thenQ,blockQ,↓reduceIte,Nat.reduceEqDiff])|(refine g_c (fun h=>?_) (fun h=>?_)<;>(try simp only[go_sem] at h)<;>(try exact g_f))|((first|refine g_t ?_|refine g_G ?_|refine AWP_drawC (ρ ++ (.cells 2 [[.c (.slice none 0 0), .c (.slice none 0 0)]] :: (T ++ [.dead]))) ⟨_, by simp; rfl⟩ tab_mixed (by decide +kernel) ?_);(try simp -implicitDefEqProofs only[go_sem,hw]))|(with_reducible refine hK _ _ ?_;clear hK K)|(clear hK K;first|(with_reducible refine hK _ _ ?_;clear hK K)|(clear hK K;with_reducible refine hK _ _ ?_;clear hK K)|(clear hK K;clear hK K;with_reducible refine hK _ _ ?_;clear hK K))|(with_reducible refine splitB_intro (fun h=>?_) (fun h=>?_)<;>(try simp only[go_sem] at h)<;>(try exact g_f)<;>(try simp -implicitDefEqProofs only[go_sem,hw]))|(with_reducible refine And.intro (fun h=>?_) (fun h=>?_)<;>(try simp only[go_sem] at h)<;>(try exact g_f))|(with_reducible refine And.intro ?_ ?_;· exact g_x)|(with_reducible intro h;(try simp only[go_sem] at h);(try exact g_f))))
        refine hL ([(w, ρ.length + (T.length + 2))], T ++ [.dead, .cells 1 (List.replicate n.nodes.toNat [.c (.slice none 0 0)])]) [] _ _ ⟨by simpa using h3, ?_⟩ (ALe_of ?_) ?_
        · intro p hp
          rcases List.mem_singleton.1 hp with rfl
          refine ⟨by simp only; omega, ?_⟩
          simp -implicitDefEqProofs only [go_sem]
        · simp -implicitDefEqProofs only [go_sem, hlen]
        · simp [accO, accV, newV, intsA]
      · simp only [List.length_cons] at hal
        simp -implicitDefEqProofs only [go_sem, accV, accO]
        (repeat' (first|(refine g_s fun K hK=>?_)|(refine g_b ?_)|(refine g_r ?_)|(refine g_k ?_;simp only[thenQ,blockQ])|(refine g_e ?_;simp only[thenQ,blockQ,↓reduceIte,Nat.reduceEqDiff])|(refine g_c (fun h=>?_) (fun h=>?_)<;>(try simp only[go_sem] at h)<;>(try exact g_f))|((first|refine g_t ?_|refine g_G ?_|refine AWP_drawC (ρ ++ (.cells 2 [[.own (ρ.length + (T.length + 1)) 2 0 (acc.length + 1) (acc.length + 1), .c (.slice none 0 0)]] :: T)) ⟨_, by simp; rfl⟩ tab_mixed (by decide +kernel) ?_);(try simp -implicitDefEqProofs only[go_sem,hw]))|(with_reducible refine hK _ _ ?_;clear hK K)|(clear hK K;first|(with_reducible refine hK _ _ ?_;clear hK K)|(clear hK K;with_reducible refine hK _ _ ?_;clear hK K)|(clear hK K;clear hK K;with_reducible refine hK _ _ ?_;clear hK K))|(with_reducible refine splitB_intro (fun h=>?_) (fun h=>?_)<;>(try simp only[go_sem] at h)<;>(try exact g_f)<;>(try simp -implicitDefEqProofs only[go_sem,hw]))|(with_reducible refine And.intro (fun h=>?_) (fun h=>?_)<;>(try simp only[go_sem] at h)<;>(try exact g_f))|(with_reducible refine And.intro ?_ ?_;· exact g_x)|(with_reducible intro h;(try simp only[go_sem] at h);(try exact g_f))))
        refine hL (p0 :: (acc ++ [(w, ρ.length + (T.length + 2))]), T ++ [.dead, .cells 1 (List.replicate n.nodes.toNat [.c (.slice none 0 0)])]) [] _ _ ⟨by simpa using h3, ?_⟩ (ALe_of ?_) ?_
        · intro p hp
          rw [← List.cons_append] at hp
          rcases List.mem_append.1 hp with hp | hp
          · obtain ⟨h6, h7⟩ := h4 p hp
            refine ⟨h6, ?_⟩
            rw [← List.append_assoc, List.getElem?_append_left (List.getElem?_eq_some_iff.1 h7).1]
            exact h7
          · rcases List.mem_singleton.1 hp with rfl
            refine ⟨by simp only; omega, ?_⟩
            simp -implicitDefEqProofs only [go_sem]
        · simp -implicitDefEqProofs only [go_sem, hlen]
        · simp [accO, accV, newV, intsA]
    · rintro k ⟨acc, T⟩ τ9 hk ⟨h3, h4⟩ L
      have hacc : 1 ≤ acc.length := by have := congrArg List.length h3; simp at this; omega
      obtain ⟨p0, acc, rfl⟩ : ∃ p l, acc = p :: l := by cases acc with | nil => cases hacc | cons p l => exact ⟨p, l, rfl⟩
      simp only [List.append_nil] at h3
      have hcL : ∀ X, (ρ ++ X)[σ.length + 1]? = some (.cells 2 [[.c (.slice none 0 0), .c (.slice none 0 0)]]) := fun X => by rw [← hρ]; exact st_app (by simp)
      have hcS : ∀ X o, (ρ ++ X).set (σ.length + 1) o = σ ++ ([.dead, o] ++ X) := fun X o => by
        rw [← hρ, List.append_assoc, List.set_append_right _ _ (by omega), Nat.add_sub_cancel_left]
        rfl
      have hlk : ∀ o1 o2 X p, p ∈ p0 :: acc → (σ ++ (.dead :: o1 :: o2 :: (T ++ X)))[p.2]? = some (.cells 1 (List.replicate n.nodes.toNat [.c (.slice none 0 0)])) := fun o1 o2 X p hp => by
        obtain ⟨h5, h6⟩ := h4 p hp
        obtain ⟨q, hq⟩ : ∃ q, p.2 = σ.length + (q + 3) := ⟨p.2 - σ.length - 3, by omega⟩
        have h7 : p.2 = (ρ ++ [Ob.dead]).length + q := by simp; omega
        rw [h7, List.getElem?_append_right (by omega), Nat.add_sub_cancel_left] at h6
        rw [hq, List.getElem?_append_right (by omega), Nat.add_sub_cancel_left, List.getElem?_cons_succ, List.getElem?_cons_succ, List.getElem?_cons_succ]
        exact st_app h6
      simp -implicitDefEqProofs only [go_sem, accV, accO]
      (repeat' (first|(refine g_s fun K hK=>?_)|(refine g_b ?_)|(refine g_r ?_)|(refine g_k ?_;simp only[thenQ,blockQ])|(refine g_e ?_;simp only[thenQ,blockQ,↓reduceIte,Nat.reduceEqDiff])|(refine g_c (fun h=>?_) (fun h=>?_)<;>(try simp only[go_sem] at h)<;>(try exact g_f))|((first|refine g_t ?_|refine g_g ?_|refine g_U ?_|refine g_A ?_|refine g_W ?_);(try simp -implicitDefEqProofs only[go_sem]))|(with_reducible refine hK _ _ ?_;clear hK K)|(clear hK K;first|(with_reducible refine hK _ _ ?_;clear hK K)|(clear hK K;with_reducible refine hK _ _ ?_;clear hK K)|(clear hK K;clear hK K;with_reducible refine hK _ _ ?_;clear hK K))|(with_reducible refine splitB_intro (fun h=>?_) (fun h=>?_)<;>(try simp only[go_sem] at h)<;>(try exact g_f)<;>(try simp -implicitDefEqProofs only[go_sem]))|(with_reducible refine And.intro (fun h=>?_) (fun h=>?_)<;>(try simp only[go_sem] at h)<;>(try exact g_f))|(with_reducible refine And.intro ?_ ?_;· exact g_x)|(with_reducible intro h;(try simp only[go_sem] at h);(try exact g_f))))
      refine hJ _ _ ?_
      clear hJ
      (repeat' (first|(refine g_s fun K hK=>?_)|(refine g_b ?_)|(refine g_r ?_)|(refine g_k ?_;simp only[thenQ,blockQ])|(refine g_e ?_;simp only[thenQ,blockQ,↓reduceIte,Nat.reduceEqDiff])|(refine g_c (fun h=>?_) (fun h=>?_)<;>(try simp only[go_sem] at h)<;>(try exact g_f))|((first|refine g_t ?_|refine g_g ?_|refine g_U ?_|refine g_A ?_|refine g_W ?_);(try simp -implicitDefEqProofs only[go_sem,hcL, hcS]))|(with_reducible refine hK _ _ ?_;clear hK K)|(clear hK K;first|(with_reducible refine hK _ _ ?_;clear hK K)|(clear hK K;with_reducible refine hK _ _ ?_;clear hK K)|(clear hK K;clear hK K;with_reducible refine hK _ _ ?_;clear hK K))|(with_reducible refine splitB_intro (fun h=>?_) (fun h=>?_)<;>(try simp only[go_sem] at h)<;>(try exact g_f)<;>(try simp -implicitDefEqProofs only[go_sem,hcL, hcS]))|(with_reducible refine And.intro (fun h=>?_) (fun h=>?_)<;>(try simp only[go_sem] at h)<;>(try exact g_f))|(with_reducible refine And.intro ?_ ?_;· exact g_x)|(with_reducible intro h;(try simp only[go_sem] at h);(try exact g_f))))
      have hro : (newE n).routers.map rtrC = ((p0 :: acc).map fun p => rtrC (freshR n p.1)) := by
        rw [newE, ← h3]
        simp
      refine DeepQ_of rfl (.tupL (.cons (.eng _) (.cons (.c _) .nil))) (.tupL (.cons (.aggL (.cons ?_ (.cons .nil .nil))) (.cons (.same _) .nil)))
      rw [hro]
      refine .ownW (by omega) (es := (p0 :: acc).map (newV n)) ?_ (by simp) (DeepR.map _ fun p hp => .cons (.same _) (.cons (.ownW ?_ (hlk _ _ _ p hp) (by simp) ?_) .nil))
      · rw [List.getElem?_append_right (by omega), show ρ.length + (T.length + 1) - σ.length = (T.length + 2) + 1 by omega, List.getElem?_cons_succ, List.getElem?_cons_succ, List.getElem?_cons_succ, List.getElem?_append_right (by omega), Nat.sub_self]
        rfl
      · have := (h4 p hp).1
        omega
      · have e8 : (freshR n p.1).told.map rowC = List.replicate n.nodes.toNat [.sl []] := by simp [freshR, rowC, intsA]
        rw [e8]
        exact DeepR.repl (.cons .nil .nil) _
  · rw [if_pos h0]
    refine ACalls_of_awp Tryz.func30 rfl Tryz.results30 ?_
    simp only [List.length_cons, List.length_nil, Tryz.ntmps30, Nat.reduceAdd, Nat.reduceSub, enterA]
    refine AWP_seq_k fun K hK => ?_
    (refine AWP_region ?_; simp -implicitDefEqProofs only [go_sem])
    refine hK _ _ ?_; clear hK K
    refine AWP_freezeP 1 rfl (by simp only [st0]; rfl) ?_
    simp only [ss0, List.set_cons_zero]
    (repeat' (first|(refine g_s fun K hK=>?_)|(refine g_b ?_)|(refine g_r ?_)|(refine g_k ?_;simp only[thenQ,blockQ])|(refine g_e ?_;simp only[thenQ,blockQ,↓reduceIte,Nat.reduceEqDiff])|(refine g_c (fun h=>?_) (fun h=>?_)<;>(try simp only[go_sem] at h)<;>(try exact g_f))|((first|refine g_t ?_|refine g_g ?_|refine g_U ?_|refine g_A ?_|refine (hC _).use ?_|refine g_q (fun τ=>hC _) ?_|refine g_W ?_);(try simp -implicitDefEqProofs only[go_sem,h0]))|(with_reducible refine hK _ _ ?_;clear hK K)|(clear hK K;first|(with_reducible refine hK _ _ ?_;clear hK K)|(clear hK K;with_reducible refine hK _ _ ?_;clear hK K)|(clear hK K;clear hK K;with_reducible refine hK _ _ ?_;clear hK K))|(with_reducible refine splitB_intro (fun h=>?_) (fun h=>?_)<;>(try simp only[go_sem] at h)<;>(try exact g_f)<;>(try simp -implicitDefEqProofs only[go_sem,h0]))|(with_reducible refine And.intro (fun h=>?_) (fun h=>?_)<;>(try simp only[go_sem] at h)<;>(try exact g_f))|(with_reducible refine And.intro ?_ ?_;· exact g_x)|(with_reducible intro h;(try simp only[go_sem] at h);(try exact g_f))))
    exact DeepQ_of rfl (.tupL (.cons (.eng _) (.cons (.c _) .nil))) (.tupL (.cons (.aggL (.cons .nil (.cons .nil .nil))) (.cons (.same _) .nil)))
end Go.Proofs.YtephecognbbaoaaGreat
namespace Go.Proofs.YtephecognbbaoaaGreat
/-- A drawn region that makes objects and writes to them; what is pure may come late. -/
theorem AWP_drawZ {rd : Option Nat} {P : Program} {N : Nat} {ops : List Oper} {α0 : AF} {σ : Store} {Q : Post} {id : Nat} (hm : P.follows .mixedOrders = true) (hB : (drawB ops ops.length && edgesBack ops && noSelect ops && decide (ops.length ≤ ops.length) && loudOrd (false, false) ops ops.length && (!false || allPure (false, false) ops)) = true)
    (h : greg P N ops (false, false) false σ (fun α σ => Q .normal α σ) ops α0 σ) : AWPr rd P N (.region id ops.toArray true) Q α0 σ :=
  AWP_drawG (false, false) false ops.length hm hB (by rw [List.take_length, List.drop_length]; exact h)
theorem tabM_eq : eqPlan Tryz.prog 71 = some [(0, false), (1, false), (2, true)] := by kernel_rfl
attribute [go_sem] tabM_eq
end Go.Proofs.YtephecognbbaoaaGreat
namespace Go.Proofs.YtephecognbbaoaaGreat
deriving instance DecidableEq for Rtr
deriving instance DecidableEq for Mail
deriving instance DecidableEq for Eng
def twoE0 : Eng := ⟨[⟨[0, 2], [[], []]⟩, ⟨[2, 0], [[], []]⟩], []⟩
def twoE1 : Eng := ⟨[⟨[0, 2], [[], []]⟩, ⟨[2, 0], [[], []]⟩], [⟨1, 0, [83, 1, 0, 2, 2, 0, 253, 126]⟩]⟩
def twoE2 : Eng := ⟨[⟨[0, 1], [[], [2, 0]]⟩, ⟨[2, 0], [[], []]⟩], []⟩
theorem two_new : newR twoN = (twoE0, 0) := by decide +kernel
theorem two_tick : stepR twoN twoE0 ⟨1, 1, 0, 0, []⟩ = (twoE1, 0) := by decide +kernel
theorem two_deliver : stepR twoN twoE1 ⟨2, 0, 0, 0, []⟩ = (twoE2, 0) := by decide +kernel
theorem two_good : checkE twoN twoE2 = 0 := by decide +kernel
theorem twoE0_ok : EngOk twoE0 := ⟨by decide, fun r hr => by
  simp only [twoE0, List.mem_cons, List.not_mem_nil, or_false] at hr
  rcases hr with rfl | rfl <;> exact ⟨by decide, by decide, by decide⟩, by decide, fun m hm => by cases hm⟩
theorem twoE1_ok : EngOk twoE1 := ⟨by decide, fun r hr => by
  simp only [twoE1, List.mem_cons, List.not_mem_nil, or_false] at hr
  rcases hr with rfl | rfl <;> exact ⟨by decide, by decide, by decide⟩, by decide, fun m hm => by
  simp only [twoE1, List.mem_cons, List.not_mem_nil, or_false] at hm
  subst hm
  exact ⟨by unfold I64; decide, by unfold I64; decide, by decide, by decide⟩⟩
theorem twoE2_ok : EngOk twoE2 := ⟨by decide, fun r hr => by
  simp only [twoE2, List.mem_cons, List.not_mem_nil, or_false] at hr
  rcases hr with rfl | rfl <;> exact ⟨by decide, by decide, by decide⟩, by decide, fun m hm => by cases hm⟩
theorem engineBegun_calls (σ : Store) : ACalls Tryz.prog 5 [] σ fun r σ' => σ' = σ ∧ r = .c (.bool true) := by
  have hB := enew_calls twoN twoN_ok
  rw [two_new] at hB
  have hS1 := estep_calls twoN twoE0 twoN_ok twoE0_ok ⟨1, 1, 0, 0, []⟩ (by decide)
  rw [two_tick] at hS1
  have hS2 := estep_calls twoN twoE1 twoN_ok twoE1_ok ⟨2, 0, 0, 0, []⟩ (by decide)
  rw [two_deliver] at hS2
  have hC := checkE_calls twoN twoE2 twoN_ok twoE2_ok
  rw [two_good] at hC
  have hE : ∀ S, ACalls Tryz.prog 33 [intsA [0, 1], intsA [0, 1]] S fun r σ' => σ' = S ∧ r = .c (.bool true) := fun S => sameInts_calls [0, 1] [0, 1] (by decide) S
  have hS1' : ∀ S, ACalls Tryz.prog 22 [.agg (netC twoN), .agg (engC twoE0), .agg [intA1 1, intA1 1, intA1 0, intA1 0, .c (.slice none 0 0)]] S fun r σ' => σ' = S ∧ r = .tup [.agg (engC twoE1), intA1 0] := fun S => ((hS1 S).argW (by (repeat' (first | exact Wk.nil | exact Wk.emp | exact WkL.nil | (with_reducible exact Wk.refl _) | refine Wk.agg ?_ | refine Wk.tup ?_ | refine WkL.cons ?_ ?_ | (refine Wk.eq ?_; rfl)))) )
  have hS2' : ∀ S, ACalls Tryz.prog 22 [.agg (netC twoN), .agg (engC twoE1), .agg [intA1 2, intA1 0, intA1 0, intA1 0, .c (.slice none 0 0)]] S fun r σ' => σ' = S ∧ r = .tup [.agg (engC twoE2), intA1 0] := fun S => ((hS2 S).argW (by (repeat' (first | exact Wk.nil | exact Wk.emp | exact WkL.nil | (with_reducible exact Wk.refl _) | refine Wk.agg ?_ | refine Wk.tup ?_ | refine WkL.cons ?_ ?_ | (refine Wk.eq ?_; rfl)))) )
  refine ACalls.cutX ?_
  refine ACalls_of_awp Tryz.func5 rfl Tryz.results5 ?_
  simp only [List.length_cons, List.length_nil, Tryz.ntmps5, Nat.reduceAdd, Nat.reduceSub, enterA]
  (repeat' (first|(refine g_s fun K hK=>?_)|(refine g_b ?_)|(refine g_r ?_)|(refine g_k ?_;simp only[thenQ,blockQ])|(refine g_e ?_;simp only[thenQ,blockQ,↓reduceIte,Nat.reduceEqDiff])|(refine g_c (fun h=>?_) (fun h=>?_)<;>(try simp only[go_sem] at h)<;>(try exact g_f))|((first|refine g_t ?_|refine g_G ?_|refine g_U ?_|refine g_A ?_|refine (two_calls _).use ?_|refine g_q (fun τ=>two_calls _) ?_|refine (hB _).use ?_|refine g_q (fun τ=>hB _) ?_|refine (hS1' _).use ?_|refine g_q (fun τ=>hS1' _) ?_|refine (hS2' _).use ?_|refine g_q (fun τ=>hS2' _) ?_|refine (hC _).use ?_|refine g_q (fun τ=>hC _) ?_|refine (hE _).use ?_|refine g_q (fun τ=>hE _) ?_|refine AWP_drawX tab_mixed (by decide +kernel) ?_|refine g_W ?_);(try simp -implicitDefEqProofs only[go_sem,twoE2]))|(with_reducible refine hK _ _ ?_;clear hK K)|(clear hK K;first|(with_reducible refine hK _ _ ?_;clear hK K)|(clear hK K;with_reducible refine hK _ _ ?_;clear hK K)|(clear hK K;clear hK K;with_reducible refine hK _ _ ?_;clear hK K))|(with_reducible refine splitB_intro (fun h=>?_) (fun h=>?_)<;>(try simp only[go_sem] at h)<;>(try exact g_f)<;>(try simp -implicitDefEqProofs only[go_sem,twoE2]))|(with_reducible refine And.intro (fun h=>?_) (fun h=>?_)<;>(try simp only[go_sem] at h)<;>(try exact g_f))|(with_reducible refine And.intro ?_ ?_;· exact g_x)|(with_reducible intro h;(try simp only[go_sem] at h);(try exact g_f))))
  exact CutQ_c rfl rfl
end Go.Proofs.YtephecognbbaoaaGreat
namespace Go.Proofs.YtephecognbbaoaaGreat
theorem choose_calls (c n : Int) (hc : I64 c) (hn : 0 < n ∧ n ≤ 1000000) (σ : Store) : ACalls Tryz.prog 11 [intA1 c, intA1 n] σ fun r σ' => σ' = σ ∧ r = intA1 ((if c < 0 then -(c + 1) else c) % n) := by
  unfold I64 at hc
  refine ACalls_of_awp Tryz.func11 rfl Tryz.results11 ?_
  simp only [List.length_cons, List.length_nil, Tryz.ntmps11, Nat.reduceAdd, Nat.reduceSub, enterA]
  (repeat' (first|(refine g_s fun K hK=>?_)|(refine g_b ?_)|(refine g_r ?_)|(refine g_k ?_;simp only[thenQ,blockQ])|(refine g_e ?_;simp only[thenQ,blockQ,↓reduceIte,Nat.reduceEqDiff])|(refine g_c (fun h=>?_) (fun h=>?_)<;>(try simp only[go_sem] at h)<;>(try exact g_f))|((first|refine g_t ?_|refine g_g ?_|refine g_U ?_|refine g_A ?_|refine g_W ?_);(try simp -implicitDefEqProofs only[go_sem]))|(with_reducible refine hK _ _ ?_;clear hK K)|(clear hK K;first|(with_reducible refine hK _ _ ?_;clear hK K)|(clear hK K;with_reducible refine hK _ _ ?_;clear hK K)|(clear hK K;clear hK K;with_reducible refine hK _ _ ?_;clear hK K))|(with_reducible refine splitB_intro (fun h=>?_) (fun h=>?_)<;>(try simp only[go_sem] at h)<;>(try exact g_f)<;>(try simp -implicitDefEqProofs only[go_sem]))|(with_reducible refine And.intro (fun h=>?_) (fun h=>?_)<;>(try simp only[go_sem] at h)<;>(try exact g_f))|(with_reducible refine And.intro ?_ ?_;· exact g_x)|(with_reducible intro h;(try simp only[go_sem] at h);(try exact g_f))))
  · rw [if_pos h, Int.tmod_eq_emod_of_nonneg (by omega)]
    congr 3
    omega
  · rw [if_neg (by omega), Int.tmod_eq_emod_of_nonneg (by omega)]
end Go.Proofs.YtephecognbbaoaaGreat
namespace Go.Proofs.YtephecognbbaoaaGreat
theorem rows1_calls (n : Net) (r : List Int) (σ : Store) : ACalls Tryz.prog 128 [intsA r, .cp (netC n) 0] σ fun r' σ' => σ' = σ ∧ r' = .c (.bool ((r.length : Int) != n.nodes)) := by
  refine ACalls_of_awp Tryz.func128 rfl Tryz.results128 ?_
  simp only [List.length_cons, List.length_nil, Tryz.ntmps128, Nat.reduceAdd, Nat.reduceSub, enterA]
  (repeat' (first|(refine g_s fun K hK=>?_)|(refine g_b ?_)|(refine g_r ?_)|(refine g_k ?_;simp only[thenQ,blockQ])|(refine g_e ?_;simp only[thenQ,blockQ,↓reduceIte,Nat.reduceEqDiff])|(refine g_c (fun h=>?_) (fun h=>?_)<;>(try simp only[go_sem] at h)<;>(try exact g_f))|((first|refine g_t ?_|refine g_g ?_|refine g_U ?_|refine g_A ?_|refine g_W ?_);(try simp -implicitDefEqProofs only[go_sem]))|(with_reducible refine hK _ _ ?_;clear hK K)|(clear hK K;first|(with_reducible refine hK _ _ ?_;clear hK K)|(clear hK K;with_reducible refine hK _ _ ?_;clear hK K)|(clear hK K;clear hK K;with_reducible refine hK _ _ ?_;clear hK K))|(with_reducible refine splitB_intro (fun h=>?_) (fun h=>?_)<;>(try simp only[go_sem] at h)<;>(try exact g_f)<;>(try simp -implicitDefEqProofs only[go_sem]))|(with_reducible refine And.intro (fun h=>?_) (fun h=>?_)<;>(try simp only[go_sem] at h)<;>(try exact g_f))|(with_reducible refine And.intro ?_ ?_;· exact g_x)|(with_reducible intro h;(try simp only[go_sem] at h);(try exact g_f))))
theorem rows2_calls (n : Net) (v : Int) (hx : I64 (n.alg.size - 1)) (σ : Store) : ACalls Tryz.prog 129 [intA1 v, .cp (netC n) 0] σ fun r' σ' => σ' = σ ∧ r' = .c (.bool (!inR v 0 (n.alg.size - 1))) := by
  refine ACalls_of_awp Tryz.func129 rfl Tryz.results129 ?_
  simp only [List.length_cons, List.length_nil, Tryz.ntmps129, Nat.reduceAdd, Nat.reduceSub, enterA]
  (repeat' (first|(refine g_s fun K hK=>?_)|(refine g_b ?_)|(refine g_r ?_)|(refine g_k ?_;simp only[thenQ,blockQ])|(refine g_e ?_;simp only[thenQ,blockQ,↓reduceIte,Nat.reduceEqDiff])|(refine g_c (fun h=>?_) (fun h=>?_)<;>(try simp only[go_sem] at h)<;>(try exact g_f))|((first|refine g_t ?_|refine g_g ?_|refine g_U ?_|refine g_A ?_|refine (is_calls n.alg v hx _).use ?_|refine g_q (fun τ=>is_calls n.alg v hx _) ?_|refine g_W ?_);(try simp -implicitDefEqProofs only[go_sem]))|(with_reducible refine hK _ _ ?_;clear hK K)|(clear hK K;first|(with_reducible refine hK _ _ ?_;clear hK K)|(clear hK K;with_reducible refine hK _ _ ?_;clear hK K)|(clear hK K;clear hK K;with_reducible refine hK _ _ ?_;clear hK K))|(with_reducible refine splitB_intro (fun h=>?_) (fun h=>?_)<;>(try simp only[go_sem] at h)<;>(try exact g_f)<;>(try simp -implicitDefEqProofs only[go_sem]))|(with_reducible refine And.intro (fun h=>?_) (fun h=>?_)<;>(try simp only[go_sem] at h)<;>(try exact g_f))|(with_reducible refine And.intro ?_ ?_;· exact g_x)|(with_reducible intro h;(try simp only[go_sem] at h);(try exact g_f))))
theorem any_ne (n : Net) (x : List (List Int)) : (x.any fun r => (r.length : Int) != n.nodes) = x.any fun r => decide ((r.length : Int) ≠ n.nodes) := by
  congr 1
  funext r
  by_cases h : (r.length : Int) = n.nodes <;> simp [h]
theorem rows_calls (n : Net) (x : List (List Int)) (hx : I64 (n.alg.size - 1)) (ok : StOk x) (σ : Store) : ACalls Tryz.prog 94 [.agg (netC n), rowsC x] σ fun r σ' => σ' = σ ∧ r = intA1 (rowsErr n x) := by
  have hlen := ok.len
  refine ACalls.cutX ?_
  refine ACalls_of_awp Tryz.func94 rfl Tryz.results94 ?_
  simp only [List.length_cons, List.length_nil, Tryz.ntmps94, Nat.reduceAdd, Nat.reduceSub, enterA]
  refine AWP_seq_k fun K hK => ?_
  (refine AWP_region ?_; simp -implicitDefEqProofs only [go_sem])
  refine hK _ _ ?_; clear hK K
  refine AWP_freezeP 2 rfl (by simp only [st0]; rfl) ?_
  simp only [ss0, List.set_cons_zero]
  (repeat' (first|(refine g_s fun K hK=>?_)|(refine g_b ?_)|(refine g_r ?_)|(refine g_k ?_;simp only[thenQ,blockQ])|(refine g_e ?_;simp only[thenQ,blockQ,↓reduceIte,Nat.reduceEqDiff])|(refine g_c (fun h=>?_) (fun h=>?_)<;>(try simp only[go_sem] at h)<;>(try exact g_f))|((first|refine g_t ?_|refine g_g ?_|refine g_U ?_|refine g_A ?_|refine (containsFunc_rows x (fun r => (r.length : Int) != n.nodes) _ [] [.cp (netC n) 0] _ (by omega) (by kernel_rfl) (fun r hr => rows1_calls n r _)).use ?_|refine g_q (fun τ=>containsFunc_rows x (fun r => (r.length : Int) != n.nodes) _ [] [.cp (netC n) 0] _ (by omega) (by kernel_rfl) (fun r hr => rows1_calls n r _)) ?_|refine g_W ?_);(try simp -implicitDefEqProofs only[go_sem]))|(with_reducible refine hK _ _ ?_;clear hK K)|(clear hK K;first|(with_reducible refine hK _ _ ?_;clear hK K)|(clear hK K;with_reducible refine hK _ _ ?_;clear hK K)|(clear hK K;clear hK K;with_reducible refine hK _ _ ?_;clear hK K))|(with_reducible refine splitB_intro (fun h=>?_) (fun h=>?_)<;>(try simp only[go_sem] at h)<;>(try exact g_f)<;>(try simp -implicitDefEqProofs only[go_sem]))|(with_reducible refine And.intro (fun h=>?_) (fun h=>?_)<;>(try simp only[go_sem] at h)<;>(try exact g_f))|(with_reducible refine And.intro ?_ ?_;· exact g_x)|(with_reducible intro h;(try simp only[go_sem] at h);(try exact g_f))))
  · refine CutQ_c rfl ?_
    rw [rowsErr, if_pos (.inl (by assumption))]
  · refine CutQ_c rfl ?_
    rw [rowsErr, if_pos (.inr (by rw [← any_ne]; exact h))]
  have hne : ¬ ((x.length : Int) ≠ n.nodes ∨ x.any (fun r => decide ((r.length : Int) ≠ n.nodes)) = true) := by
    rw [not_or, ← any_ne, h]
    exact ⟨not_not_intro (by assumption), by simp⟩
  have hrow : ∀ r ∈ x, r.length ≤ 1000000000000000000 := fun r hr => by have := ok.row r hr; omega
  have hJ := hK
  clear hK
  refine AWP_each x (fun _ r _ => (x.any fun w => w.any fun v => !inR v 0 (n.alg.size - 1)) = r.any fun w => w.any fun v => !inR v 0 (n.alg.size - 1)) (fun k _ _ => [(19, intA1 k)]) (fun _ _ _ => σ ++ [.dead]) () [] rfl rfl (ALe_of ?_) ?_ ?_
  · simp -implicitDefEqProofs only [go_sem]
  · rintro k r _ τ hk0 hk1 hH L hL
    have hmem := at0_mem x hk0 hk1
    obtain ⟨w, hw⟩ : ∃ w, at0 x k = w := ⟨_, rfl⟩
    rw [hw] at hH hmem
    rw [List.any_cons] at hH
    simp -implicitDefEqProofs only [go_sem]
    (repeat' (first|(refine g_s fun K hK=>?_)|(refine g_b ?_)|(refine g_r ?_)|(refine g_k ?_;simp only[thenQ,blockQ])|(refine g_e ?_;simp only[thenQ,blockQ,↓reduceIte,Nat.reduceEqDiff])|(refine g_c (fun h=>?_) (fun h=>?_)<;>(try simp only[go_sem] at h)<;>(try exact g_f))|((first|refine g_t ?_|refine g_g ?_|refine g_U ?_|refine g_A ?_|refine (containsFunc_int w (fun v => !inR v 0 (n.alg.size - 1)) _ [] [.cp (netC n) 0] _ (hrow w hmem) (by kernel_rfl) (fun v hv => rows2_calls n v hx _)).use ?_|refine g_q (fun τ=>containsFunc_int w (fun v => !inR v 0 (n.alg.size - 1)) _ [] [.cp (netC n) 0] _ (hrow w hmem) (by kernel_rfl) (fun v hv => rows2_calls n v hx _)) ?_|refine g_W ?_);(try simp -implicitDefEqProofs only[go_sem,hw]))|(with_reducible refine hK _ _ ?_;clear hK K)|(clear hK K;first|(with_reducible refine hK _ _ ?_;clear hK K)|(clear hK K;with_reducible refine hK _ _ ?_;clear hK K)|(clear hK K;clear hK K;with_reducible refine hK _ _ ?_;clear hK K))|(with_reducible refine splitB_intro (fun h=>?_) (fun h=>?_)<;>(try simp only[go_sem] at h)<;>(try exact g_f)<;>(try simp -implicitDefEqProofs only[go_sem,hw]))|(with_reducible refine And.intro (fun h=>?_) (fun h=>?_)<;>(try simp only[go_sem] at h)<;>(try exact g_f))|(with_reducible refine And.intro ?_ ?_;· exact g_x)|(with_reducible intro h;(try simp only[go_sem] at h);(try exact g_f))))
    · refine CutQ_c rfl ?_
      rw [rowsErr, if_neg hne, if_pos (by rw [hH, h, Bool.true_or])]
    · refine hL () [] _ _ (by rw [hH, h, Bool.false_or]) (ALe_of ?_) rfl
      simp -implicitDefEqProofs only [go_sem]
  · rintro k _ τ hk hH L
    simp -implicitDefEqProofs only [go_sem]
    (repeat' (first|(refine g_s fun K hK=>?_)|(refine g_b ?_)|(refine g_r ?_)|(refine g_k ?_;simp only[thenQ,blockQ])|(refine g_e ?_;simp only[thenQ,blockQ,↓reduceIte,Nat.reduceEqDiff])|(refine g_c (fun h=>?_) (fun h=>?_)<;>(try simp only[go_sem] at h)<;>(try exact g_f))|((first|refine g_t ?_|refine g_g ?_|refine g_U ?_|refine g_A ?_|refine g_W ?_);(try simp -implicitDefEqProofs only[go_sem]))|(with_reducible refine hK _ _ ?_;clear hK K)|(clear hK K;first|(with_reducible refine hK _ _ ?_;clear hK K)|(clear hK K;with_reducible refine hK _ _ ?_;clear hK K)|(clear hK K;clear hK K;with_reducible refine hK _ _ ?_;clear hK K))|(with_reducible refine splitB_intro (fun h=>?_) (fun h=>?_)<;>(try simp only[go_sem] at h)<;>(try exact g_f)<;>(try simp -implicitDefEqProofs only[go_sem]))|(with_reducible refine And.intro (fun h=>?_) (fun h=>?_)<;>(try simp only[go_sem] at h)<;>(try exact g_f))|(with_reducible refine And.intro ?_ ?_;· exact g_x)|(with_reducible intro h;(try simp only[go_sem] at h);(try exact g_f))))
    refine hJ _ _ ?_
    clear hJ
    (repeat' (first|(refine g_s fun K hK=>?_)|(refine g_b ?_)|(refine g_r ?_)|(refine g_k ?_;simp only[thenQ,blockQ])|(refine g_e ?_;simp only[thenQ,blockQ,↓reduceIte,Nat.reduceEqDiff])|(refine g_c (fun h=>?_) (fun h=>?_)<;>(try simp only[go_sem] at h)<;>(try exact g_f))|((first|refine g_t ?_|refine g_g ?_|refine g_U ?_|refine g_A ?_|refine g_W ?_);(try simp -implicitDefEqProofs only[go_sem]))|(with_reducible refine hK _ _ ?_;clear hK K)|(clear hK K;first|(with_reducible refine hK _ _ ?_;clear hK K)|(clear hK K;with_reducible refine hK _ _ ?_;clear hK K)|(clear hK K;clear hK K;with_reducible refine hK _ _ ?_;clear hK K))|(with_reducible refine splitB_intro (fun h=>?_) (fun h=>?_)<;>(try simp only[go_sem] at h)<;>(try exact g_f)<;>(try simp -implicitDefEqProofs only[go_sem]))|(with_reducible refine And.intro (fun h=>?_) (fun h=>?_)<;>(try simp only[go_sem] at h)<;>(try exact g_f))|(with_reducible refine And.intro ?_ ?_;· exact g_x)|(with_reducible intro h;(try simp only[go_sem] at h);(try exact g_f))))
    refine CutQ_c rfl ?_
    rw [rowsErr, if_neg hne, if_neg (by rw [hH]; simp)]
theorem fit_calls (n : Net) (x : List (List Int)) (okn : NetOk n) (ok : StOk x) (σ : Store) : ACalls Tryz.prog 45 [.agg (netC n), rowsC x] σ fun r σ' => σ' = σ ∧ r = intA1 (fitA n x) := by
  have hC := netCheck_calls n okn
  refine ACalls.cutX ?_
  by_cases h0 : checkN n = 0
  · have hs := (netIn_of h0).alg
    have s2 := hs.s2
    have s24 := hs.s24
    rw [h0] at hC
    refine ACalls_of_awp Tryz.func45 rfl Tryz.results45 ?_
    simp only [List.length_cons, List.length_nil, Tryz.ntmps45, Nat.reduceAdd, Nat.reduceSub, enterA]
    (repeat' (first|(refine g_s fun K hK=>?_)|(refine g_b ?_)|(refine g_r ?_)|(refine g_k ?_;simp only[thenQ,blockQ])|(refine g_e ?_;simp only[thenQ,blockQ,↓reduceIte,Nat.reduceEqDiff])|(refine g_c (fun h=>?_) (fun h=>?_)<;>(try simp only[go_sem] at h)<;>(try exact g_f))|((first|refine g_t ?_|refine g_g ?_|refine g_U ?_|refine g_A ?_|refine (hC _).use ?_|refine g_q (fun τ=>hC _) ?_|refine (rows_calls n x (by unfold I64; omega) ok _).use ?_|refine g_q (fun τ=>rows_calls n x (by unfold I64; omega) ok _) ?_|refine g_W ?_);(try simp -implicitDefEqProofs only[go_sem]))|(with_reducible refine hK _ _ ?_;clear hK K)|(clear hK K;first|(with_reducible refine hK _ _ ?_;clear hK K)|(clear hK K;with_reducible refine hK _ _ ?_;clear hK K)|(clear hK K;clear hK K;with_reducible refine hK _ _ ?_;clear hK K))|(with_reducible refine splitB_intro (fun h=>?_) (fun h=>?_)<;>(try simp only[go_sem] at h)<;>(try exact g_f)<;>(try simp -implicitDefEqProofs only[go_sem]))|(with_reducible refine And.intro (fun h=>?_) (fun h=>?_)<;>(try simp only[go_sem] at h)<;>(try exact g_f))|(with_reducible refine And.intro ?_ ?_;· exact g_x)|(with_reducible intro h;(try simp only[go_sem] at h);(try exact g_f))))
    refine CutQ_c rfl ?_
    simp [fitA, h0]
  · refine ACalls_of_awp Tryz.func45 rfl Tryz.results45 ?_
    simp only [List.length_cons, List.length_nil, Tryz.ntmps45, Nat.reduceAdd, Nat.reduceSub, enterA]
    (repeat' (first|(refine g_s fun K hK=>?_)|(refine g_b ?_)|(refine g_r ?_)|(refine g_k ?_;simp only[thenQ,blockQ])|(refine g_e ?_;simp only[thenQ,blockQ,↓reduceIte,Nat.reduceEqDiff])|(refine g_c (fun h=>?_) (fun h=>?_)<;>(try simp only[go_sem] at h)<;>(try exact g_f))|((first|refine g_t ?_|refine g_g ?_|refine g_U ?_|refine g_A ?_|refine (hC _).use ?_|refine g_q (fun τ=>hC _) ?_|refine g_W ?_);(try simp -implicitDefEqProofs only[go_sem]))|(with_reducible refine hK _ _ ?_;clear hK K)|(clear hK K;first|(with_reducible refine hK _ _ ?_;clear hK K)|(clear hK K;with_reducible refine hK _ _ ?_;clear hK K)|(clear hK K;clear hK K;with_reducible refine hK _ _ ?_;clear hK K))|(with_reducible refine splitB_intro (fun h=>?_) (fun h=>?_)<;>(try simp only[go_sem] at h)<;>(try exact g_f)<;>(try simp -implicitDefEqProofs only[go_sem]))|(with_reducible refine And.intro (fun h=>?_) (fun h=>?_)<;>(try simp only[go_sem] at h)<;>(try exact g_f))|(with_reducible refine And.intro ?_ ?_;· exact g_x)|(with_reducible intro h;(try simp only[go_sem] at h);(try exact g_f))))
    refine CutQ_c rfl ?_
    simp [fitA, h0]
end Go.Proofs.YtephecognbbaoaaGreat
/- Rounds, as the document makes them: all rows. -/
namespace Go.Proofs.YtephecognbbaoaaGreat
def column (x : List (List Int)) (j : Int) : List Int := x.map fun r => at0 r j
end Go.Proofs.YtephecognbbaoaaGreat
namespace Go.Proofs.YtephecognbbaoaaGreat
def rowA (n : Net) (x : List (List Int)) (i : Int) : List Int := (ints n.nodes).map fun j => routeR n i j fun k => at2 x k j
end Go.Proofs.YtephecognbbaoaaGreat
namespace Go.Proofs.YtephecognbbaoaaGreat
theorem equal_calls (a b : List Int) (hl : a.length ≤ 1000000000000000000) (σ : Store) : ACalls Tryz.prog 98 [intsA a, intsA b] σ fun r σ' => σ' = σ ∧ r = .c (.bool (decide (a = b))) := by
  refine ACalls_of_awp Tryz.func98 rfl Tryz.results98 ?_
  simp only [List.length_cons, List.length_nil, Tryz.ntmps98, Nat.reduceAdd, Nat.reduceSub, enterA]
  (repeat' (first|(refine g_s fun K hK=>?_)|(refine g_b ?_)|(refine g_r ?_)|(refine g_k ?_;simp only[thenQ,blockQ])|(refine g_e ?_;simp only[thenQ,blockQ,↓reduceIte,Nat.reduceEqDiff])|(refine g_c (fun h=>?_) (fun h=>?_)<;>(try simp only[go_sem] at h)<;>(try exact g_f))|((first|refine g_t ?_|refine g_g ?_|refine g_U ?_|refine g_A ?_|refine g_W ?_);(try simp -implicitDefEqProofs only[go_sem]))|(with_reducible refine hK _ _ ?_;clear hK K)|(clear hK K;first|(with_reducible refine hK _ _ ?_;clear hK K)|(clear hK K;with_reducible refine hK _ _ ?_;clear hK K)|(clear hK K;clear hK K;with_reducible refine hK _ _ ?_;clear hK K))|(with_reducible refine splitB_intro (fun h=>?_) (fun h=>?_)<;>(try simp only[go_sem] at h)<;>(try exact g_f)<;>(try simp -implicitDefEqProofs only[go_sem]))|(with_reducible refine And.intro (fun h=>?_) (fun h=>?_)<;>(try simp only[go_sem] at h)<;>(try exact g_f))|(with_reducible refine And.intro ?_ ?_;· exact g_x)|(with_reducible intro h;(try simp only[go_sem] at h);(try exact g_f))))
  · rw [decide_eq_false (fun e : a = b => h (by rw [e]))]
  have hle : a.length = b.length := by omega
  refine AWP_each a (fun k _ _ => ∀ i : Int, 0 ≤ i → i < k → at0 a i = at0 b i) (fun k _ _ => [(13, intA1 k)]) (fun _ _ _ => σ) () [] (fun i h1 h2 => by omega) rfl (ALe_of ?_) ?_ ?_
  · simp -implicitDefEqProofs only [go_sem]
  · rintro k r _ τ hk0 hk1 hH L hL
    simp -implicitDefEqProofs only [go_sem]
    (repeat' (first|(refine g_s fun K hK=>?_)|(refine g_b ?_)|(refine g_r ?_)|(refine g_k ?_;simp only[thenQ,blockQ])|(refine g_e ?_;simp only[thenQ,blockQ,↓reduceIte,Nat.reduceEqDiff])|(refine g_c (fun h=>?_) (fun h=>?_)<;>(try simp only[go_sem] at h)<;>(try exact g_f))|((first|refine g_t ?_|refine g_g ?_|refine g_U ?_|refine g_A ?_|refine g_W ?_);(try simp -implicitDefEqProofs only[go_sem]))|(with_reducible refine hK _ _ ?_;clear hK K)|(clear hK K;first|(with_reducible refine hK _ _ ?_;clear hK K)|(clear hK K;with_reducible refine hK _ _ ?_;clear hK K)|(clear hK K;clear hK K;with_reducible refine hK _ _ ?_;clear hK K))|(with_reducible refine splitB_intro (fun h=>?_) (fun h=>?_)<;>(try simp only[go_sem] at h)<;>(try exact g_f)<;>(try simp -implicitDefEqProofs only[go_sem]))|(with_reducible refine And.intro (fun h=>?_) (fun h=>?_)<;>(try simp only[go_sem] at h)<;>(try exact g_f))|(with_reducible refine And.intro ?_ ?_;· exact g_x)|(with_reducible intro h;(try simp only[go_sem] at h);(try exact g_f))))
    · rw [decide_eq_false (fun e : a = b => h (by rw [e]))]
    · refine hL () [] _ _ ?_ (ALe_of ?_) rfl
      · intro i h1 h2
        rcases Int.lt_or_eq_of_le (Int.le_of_lt_add_one h2) with h3 | h3
        · exact hH i h1 h3
        · rw [h3]; assumption
      · simp -implicitDefEqProofs only [go_sem]
  · rintro k _ τ hk hH L
    simp -implicitDefEqProofs only [go_sem]
    (repeat' (first|(refine g_s fun K hK=>?_)|(refine g_b ?_)|(refine g_r ?_)|(refine g_k ?_;simp only[thenQ,blockQ])|(refine g_e ?_;simp only[thenQ,blockQ,↓reduceIte,Nat.reduceEqDiff])|(refine g_c (fun h=>?_) (fun h=>?_)<;>(try simp only[go_sem] at h)<;>(try exact g_f))|((first|refine g_t ?_|refine g_g ?_|refine g_U ?_|refine g_A ?_|refine g_W ?_);(try simp -implicitDefEqProofs only[go_sem]))|(with_reducible refine hK _ _ ?_;clear hK K)|(clear hK K;first|(with_reducible refine hK _ _ ?_;clear hK K)|(clear hK K;with_reducible refine hK _ _ ?_;clear hK K)|(clear hK K;clear hK K;with_reducible refine hK _ _ ?_;clear hK K))|(with_reducible refine splitB_intro (fun h=>?_) (fun h=>?_)<;>(try simp only[go_sem] at h)<;>(try exact g_f)<;>(try simp -implicitDefEqProofs only[go_sem]))|(with_reducible refine And.intro (fun h=>?_) (fun h=>?_)<;>(try simp only[go_sem] at h)<;>(try exact g_f))|(with_reducible refine And.intro ?_ ?_;· exact g_x)|(with_reducible intro h;(try simp only[go_sem] at h);(try exact g_f))))
    rw [decide_eq_true (at0_eq hle fun i h1 h2 => hH i h1 (by omega) : a = b)]
end Go.Proofs.YtephecognbbaoaaGreat
