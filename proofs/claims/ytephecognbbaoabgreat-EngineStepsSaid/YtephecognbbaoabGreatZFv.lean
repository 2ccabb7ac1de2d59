/- An event. -/
import Derived.Test.YtephecognbbaoabGreatZEj
import Derived.Test.YtephecognbbaoabGreatZNt
open Go
set_option linter.all false
set_option maxRecDepth 100000
set_option maxHeartbeats 4000000
namespace Go.Proofs.YtephecognbbaoabGreat
open Go
set_option linter.all false
set_option maxRecDepth 100000
set_option maxHeartbeats 4000000
/-- A drawn region in which all that reads comes ahead of all that writes; calls may write, too. -/
theorem AWP_drawY {rd : Option Nat} {P : Program} {N : Nat} {ops : List Oper} {α0 : AF} {σ : Store} {Q : Post} {id : Nat} (hm : P.follows .mixedOrders = true) (hB : (drawB ops ops.length && edgesBack ops && noSelect ops && decide (ops.length ≤ ops.length) && loudOrd (false, true) ops ops.length && hybB (false, true) ops ops.length) = true)
    (h : greg P N ops (false, true) true σ (fun α σ => Q .normal α σ) ops α0 σ) : AWPr rd P N (.region id ops.toArray true) Q α0 σ :=
  AWP_drawH (false, true) ops.length hm hB (by rw [List.take_length, List.drop_length]; exact h)
theorem MachK.app {ρ S τ : Store} {b : Nat} {n : Net} {e : Eng} (h : MachK ρ S b n e) : MachK ρ (S ++ τ) b n e := by
  obtain ⟨hK0, rb, tb, gv, gi, M⟩ := h
  exact ⟨hK0.app, rb, tb, gv, gi, M.app⟩
theorem step0_calls (n : Net) (e : Eng) (hc : checkN n = 0) (hl : n.links.length ≤ 5864062014634) (he : EngIn n e) (hby : EngB e) (ρ S : Store) (b : Nat) (hS : MachK ρ S b n e) (v : Evt) (hv : v.routes.length ≤ 17592186044000) (hk : v.kind < 1 ∨ 7 < v.kind) :
    ACalls Tryz.prog 14 [.ptr b 7 0 0, .agg (evtC v)] S fun r S' => MachK ρ S' b n (stepE n e v).1 ∧ r = intA1 (stepE n e v).2 := by
  have hS1 : MachK ρ (S ++ [.dead]) b n e := hS.app
  have hs : stepE n e v = (e, 7) := by
    unfold stepE
    rw [if_pos]
    rw [not_inR]
    omega
  rw [hs]
  refine ACalls_of_awp Tryz.func14 rfl Tryz.results14 ?_
  simp only [List.length_cons, List.length_nil, Tryz.ntmps14, Nat.reduceAdd, Nat.reduceSub, enterA]
  refine AWP_seq_k fun K hK => ?_
  (refine AWP_region ?_; simp -implicitDefEqProofs only [go_sem])
  refine hK _ _ ?_; clear hK K
  refine AWP_freezeP 3 rfl (by simp only [st0]; rfl) ?_
  simp only [ss0, List.set_cons_zero]
  (repeat' (first|(refine g_s fun K hK=>?_)|(refine g_b ?_)|(refine g_c (fun h=>?_) (fun h=>?_)<;>(try simp only[go_sem] at h)<;>(try exact g_f))|((first|refine g_t ?_|refine g_g ?_);(try simp -implicitDefEqProofs only[go_sem]))|(with_reducible refine hK _ _ ?_;clear hK K)|(with_reducible refine splitB_intro (fun h=>?_) (fun h=>?_)<;>(try simp only[go_sem] at h)<;>(try exact g_f)<;>(try simp -implicitDefEqProofs only[go_sem]))|fail))
  all_goals exact hS1
theorem step1_calls (n : Net) (e : Eng) (hc : checkN n = 0) (hl : n.links.length ≤ 5864062014634) (he : EngIn n e) (hby : EngB e) (ρ S : Store) (b : Nat) (hS : MachK ρ S b n e) (v : Evt) (hv : v.routes.length ≤ 17592186044000) (hk : v.kind = 1) :
    ACalls Tryz.prog 14 [.ptr b 7 0 0, .agg (evtC v)] S fun r S' => MachK ρ S' b n (stepE n e v).1 ∧ r = intA1 (stepE n e v).2 := by
  have hS1 : MachK ρ (S ++ [.dead]) b n e := hS.app
  have hn := netIn_of hc
  have n6 := hn.n6
  obtain ⟨hK0, rb, tb, gv, gi, M⟩ := hS
  have hbL : ∀ τ, (S ++ τ)[b]? = some (.cells 7 [netC n ++ [.own rb 2 0 e.routers.length e.routers.length, gv]]) := fun τ => st_app M.hb
  have hN := enode_calls n v.at'
  by_cases hat : 0 ≤ v.at' ∧ v.at' < n.nodes
  · have hT : inR v.at' 0 (n.nodes - 1) = true := inR_iff.2 (by omega)
    have hs : stepE n e v = tickE n e v.at' := by
      unfold stepE
      rw [hk, hT]
      rfl
    rw [hT] at hN
    rw [hs]
    refine ACalls_of_awp Tryz.func14 rfl Tryz.results14 ?_
    simp only [List.length_cons, List.length_nil, Tryz.ntmps14, Nat.reduceAdd, Nat.reduceSub, enterA]
    refine AWP_seq_k fun K hK => ?_
    (refine AWP_region ?_; simp -implicitDefEqProofs only [go_sem])
    refine hK _ _ ?_; clear hK K
    refine AWP_freezeP 3 rfl (by simp only [st0]; rfl) ?_
    simp only [ss0, List.set_cons_zero]
    (repeat' (first|(refine g_s fun K hK=>?_)|(refine g_b ?_)|(refine g_k ?_;simp only[thenQ,blockQ])|(refine g_c (fun h=>?_) (fun h=>?_)<;>(try simp only[go_sem] at h)<;>(try exact g_f))|((first|refine g_g ?_|refine g_U ?_|refine g_q (fun τ=>hN _) ?_);(try simp -implicitDefEqProofs only[go_sem,hbL, hk]))|(with_reducible refine hK _ _ ?_;clear hK K)|fail))
    refine (tick_calls n e hc hl he ρ _ b hS1 v.at' hat.1 hat.2).mono ?_
    rintro r S' ⟨h, rfl⟩
    (repeat' (first|(refine g_t ?_;(try simp -implicitDefEqProofs only[go_sem]))|(with_reducible refine hK _ _ ?_;clear hK K)|fail))
    exact h
  · have hT : inR v.at' 0 (n.nodes - 1) = false := by
      rw [← Bool.not_eq_true, inR_iff]
      omega
    have hs : stepE n e v = (e, 5) := by
      unfold stepE
      rw [hk, hT]
      rfl
    rw [hT] at hN
    rw [hs]
    refine ACalls_of_awp Tryz.func14 rfl Tryz.results14 ?_
    simp only [List.length_cons, List.length_nil, Tryz.ntmps14, Nat.reduceAdd, Nat.reduceSub, enterA]
    refine AWP_seq_k fun K hK => ?_
    (refine AWP_region ?_; simp -implicitDefEqProofs only [go_sem])
    refine hK _ _ ?_; clear hK K
    refine AWP_freezeP 3 rfl (by simp only [st0]; rfl) ?_
    simp only [ss0, List.set_cons_zero]
    (repeat' (first|(refine g_s fun K hK=>?_)|(refine g_b ?_)|(refine g_c (fun h=>?_) (fun h=>?_)<;>(try simp only[go_sem] at h)<;>(try exact g_f))|((first|refine g_t ?_|refine g_g ?_|refine g_U ?_|refine g_q (fun τ=>hN _) ?_);(try simp -implicitDefEqProofs only[go_sem,hbL, hk]))|(with_reducible refine hK _ _ ?_;clear hK K)|fail))
    exact hS1
theorem step6_calls (n : Net) (e : Eng) (hc : checkN n = 0) (hl : n.links.length ≤ 5864062014634) (he : EngIn n e) (hby : EngB e) (ρ S : Store) (b : Nat) (hS : MachK ρ S b n e) (v : Evt) (hv : v.routes.length ≤ 17592186044000) (hk : v.kind = 6) :
    ACalls Tryz.prog 14 [.ptr b 7 0 0, .agg (evtC v)] S fun r S' => MachK ρ S' b n (stepE n e v).1 ∧ r = intA1 (stepE n e v).2 := by
  have hS1 : MachK ρ (S ++ [.dead]) b n e := hS.app
  have hn := netIn_of hc
  have n6 := hn.n6
  obtain ⟨hK0, rb, tb, gv, gi, M⟩ := hS
  have hbL : ∀ τ, (S ++ τ)[b]? = some (.cells 7 [netC n ++ [.own rb 2 0 e.routers.length e.routers.length, gv]]) := fun τ => st_app M.hb
  have hN := enode_calls n v.at'
  by_cases hat : 0 ≤ v.at' ∧ v.at' < n.nodes
  · have hT : inR v.at' 0 (n.nodes - 1) = true := inR_iff.2 (by omega)
    have hs : stepE n e v = (if !inR v.b 0 (n.nodes - 1) then e else lookedE n (setR e v.at' (toldR (at0 e.routers v.at') v.b [])) v.at', if !inR v.b 0 (n.nodes - 1) then 5 else 0) := by
      unfold stepE
      rw [hk, hT]
      cases inR v.b 0 (n.nodes - 1) <;> rfl
    rw [hT] at hN
    rw [hs]
    refine ACalls_of_awp Tryz.func14 rfl Tryz.results14 ?_
    simp only [List.length_cons, List.length_nil, Tryz.ntmps14, Nat.reduceAdd, Nat.reduceSub, enterA]
    refine AWP_seq_k fun K hK => ?_
    (refine AWP_region ?_; simp -implicitDefEqProofs only [go_sem])
    refine hK _ _ ?_; clear hK K
    refine AWP_freezeP 3 rfl (by simp only [st0]; rfl) ?_
    simp only [ss0, List.set_cons_zero]
    (repeat' (first|(refine g_s fun K hK=>?_)|(refine g_b ?_)|(refine g_k ?_;simp only[thenQ,blockQ])|(refine g_c (fun h=>?_) (fun h=>?_)<;>(try simp only[go_sem] at h)<;>(try exact g_f))|((first|refine g_g ?_|refine g_U ?_|refine g_q (fun τ=>hN _) ?_);(try simp -implicitDefEqProofs only[go_sem,hbL, hk]))|(with_reducible refine hK _ _ ?_;clear hK K)|fail))
    have hX := expire_calls n e hc hl he ρ _ b hS1 v hat.1 hat.2
    simp only [evtC, hk] at hX
    refine hX.mono ?_
    rintro r S' ⟨h, rfl⟩
    (repeat' (first|(refine g_t ?_;(try simp -implicitDefEqProofs only[go_sem]))|(with_reducible refine hK _ _ ?_;clear hK K)|fail))
    simpa using h
  · have hT : inR v.at' 0 (n.nodes - 1) = false := by
      rw [← Bool.not_eq_true, inR_iff]
      omega
    have hs : stepE n e v = (e, 5) := by
      unfold stepE
      rw [hk, hT]
      rfl
    rw [hT] at hN
    rw [hs]
    refine ACalls_of_awp Tryz.func14 rfl Tryz.results14 ?_
    simp only [List.length_cons, List.length_nil, Tryz.ntmps14, Nat.reduceAdd, Nat.reduceSub, enterA]
    refine AWP_seq_k fun K hK => ?_
    (refine AWP_region ?_; simp -implicitDefEqProofs only [go_sem])
    refine hK _ _ ?_; clear hK K
    refine AWP_freezeP 3 rfl (by simp only [st0]; rfl) ?_
    simp only [ss0, List.set_cons_zero]
    (repeat' (first|(refine g_s fun K hK=>?_)|(refine g_b ?_)|(refine g_c (fun h=>?_) (fun h=>?_)<;>(try simp only[go_sem] at h)<;>(try exact g_f))|((first|refine g_t ?_|refine g_g ?_|refine g_U ?_|refine g_q (fun τ=>hN _) ?_);(try simp -implicitDefEqProofs only[go_sem,hbL, hk]))|(with_reducible refine hK _ _ ?_;clear hK K)|fail))
    exact hS1
theorem step7_calls (n : Net) (e : Eng) (hc : checkN n = 0) (hl : n.links.length ≤ 5864062014634) (he : EngIn n e) (hby : EngB e) (ρ S : Store) (b : Nat) (hS : MachK ρ S b n e) (v : Evt) (hv : v.routes.length ≤ 17592186044000) (hk : v.kind = 7) :
    ACalls Tryz.prog 14 [.ptr b 7 0 0, .agg (evtC v)] S fun r S' => MachK ρ S' b n (stepE n e v).1 ∧ r = intA1 (stepE n e v).2 := by
  have hS1 : MachK ρ (S ++ [.dead]) b n e := hS.app
  have hn := netIn_of hc
  have n6 := hn.n6
  obtain ⟨hK0, rb, tb, gv, gi, M⟩ := hS
  have hbL : ∀ τ, (S ++ τ)[b]? = some (.cells 7 [netC n ++ [.own rb 2 0 e.routers.length e.routers.length, gv]]) := fun τ => st_app M.hb
  have hN := enode_calls n v.at'
  by_cases hat : 0 ≤ v.at' ∧ v.at' < n.nodes
  · have hT : inR v.at' 0 (n.nodes - 1) = true := inR_iff.2 (by omega)
    have hs : stepE n e v = (if rowErr n v.routes ≠ 0 then e else setR e v.at' (freshR n v.routes), rowErr n v.routes) := by
      unfold stepE
      rw [hk, hT]
      by_cases h : rowErr n v.routes = 0
      · rw [h]
        rfl
      · show (if rowErr n v.routes ≠ 0 then (e, rowErr n v.routes) else (setR e v.at' (freshR n v.routes), 0)) = _
        rw [if_pos h, if_pos h]
    rw [hT] at hN
    rw [hs]
    refine ACalls_of_awp Tryz.func14 rfl Tryz.results14 ?_
    simp only [List.length_cons, List.length_nil, Tryz.ntmps14, Nat.reduceAdd, Nat.reduceSub, enterA]
    refine AWP_seq_k fun K hK => ?_
    (refine AWP_region ?_; simp -implicitDefEqProofs only [go_sem])
    refine hK _ _ ?_; clear hK K
    refine AWP_freezeP 3 rfl (by simp only [st0]; rfl) ?_
    simp only [ss0, List.set_cons_zero]
    (repeat' (first|(refine g_s fun K hK=>?_)|(refine g_b ?_)|(refine g_k ?_;simp only[thenQ,blockQ])|(refine g_c (fun h=>?_) (fun h=>?_)<;>(try simp only[go_sem] at h)<;>(try exact g_f))|((first|refine g_g ?_|refine g_U ?_|refine g_q (fun τ=>hN _) ?_);(try simp -implicitDefEqProofs only[go_sem,hbL, hk]))|(with_reducible refine hK _ _ ?_;clear hK K)|fail))
    have hX := restart_calls n e hc hl he ρ _ b hS1 v hv hat.1 hat.2
    simp only [evtC, hk] at hX
    refine hX.mono ?_
    rintro r S' ⟨h, rfl⟩
    (repeat' (first|(refine g_t ?_;(try simp -implicitDefEqProofs only[go_sem]))|(with_reducible refine hK _ _ ?_;clear hK K)|fail))
    exact h
  · have hT : inR v.at' 0 (n.nodes - 1) = false := by
      rw [← Bool.not_eq_true, inR_iff]
      omega
    have hs : stepE n e v = (e, 5) := by
      unfold stepE
      rw [hk, hT]
      rfl
    rw [hT] at hN
    rw [hs]
    refine ACalls_of_awp Tryz.func14 rfl Tryz.results14 ?_
    simp only [List.length_cons, List.length_nil, Tryz.ntmps14, Nat.reduceAdd, Nat.reduceSub, enterA]
    refine AWP_seq_k fun K hK => ?_
    (refine AWP_region ?_; simp -implicitDefEqProofs only [go_sem])
    refine hK _ _ ?_; clear hK K
    refine AWP_freezeP 3 rfl (by simp only [st0]; rfl) ?_
    simp only [ss0, List.set_cons_zero]
    (repeat' (first|(refine g_s fun K hK=>?_)|(refine g_b ?_)|(refine g_c (fun h=>?_) (fun h=>?_)<;>(try simp only[go_sem] at h)<;>(try exact g_f))|((first|refine g_t ?_|refine g_g ?_|refine g_U ?_|refine g_q (fun τ=>hN _) ?_);(try simp -implicitDefEqProofs only[go_sem,hbL, hk]))|(with_reducible refine hK _ _ ?_;clear hK K)|fail))
    exact hS1
theorem step2_calls (n : Net) (e : Eng) (hc : checkN n = 0) (hl : n.links.length ≤ 5864062014634) (he : EngIn n e) (hby : EngB e) (ρ S : Store) (b : Nat) (hS : MachK ρ S b n e) (v : Evt) (hv : v.routes.length ≤ 17592186044000) (hk : v.kind = 2) :
    ACalls Tryz.prog 14 [.ptr b 7 0 0, .agg (evtC v)] S fun r S' => MachK ρ S' b n (stepE n e v).1 ∧ r = intA1 (stepE n e v).2 := by
  have hS1 : MachK ρ (S ++ [.dead]) b n e := hS.app
  have hbag := he.bag
  obtain ⟨hK0, rb, tb, gv, gi, M⟩ := hS
  have hbL : ∀ τ, (S ++ τ)[b]? = some (.cells 7 [netC n ++ [.own rb 2 0 e.routers.length e.routers.length, gv]]) := fun τ => st_app M.hb
  by_cases hat : 0 ≤ v.at' ∧ v.at' < e.bag.length
  · have hT : inR v.at' 0 (e.bag.length - 1) = true := inR_iff.2 (by omega)
    have hs : stepE n e v = (deliverE n e v.at', 0) := by
      unfold stepE
      rw [hk, hT]
      rfl
    rw [hs]
    rcases M.bag with ⟨h1, _, _⟩ | ⟨gb, rest, rfl, rfl, hb3, hb4, hb5⟩
    · rw [h1] at hat
      simp at hat
      omega
    refine ACalls_of_awp Tryz.func14 rfl Tryz.results14 ?_
    simp only [List.length_cons, List.length_nil, Tryz.ntmps14, Nat.reduceAdd, Nat.reduceSub, enterA]
    refine AWP_seq_k fun K hK => ?_
    (refine AWP_region ?_; simp -implicitDefEqProofs only [go_sem])
    refine hK _ _ ?_; clear hK K
    refine AWP_freezeP 3 rfl (by simp only [st0]; rfl) ?_
    simp only [ss0, List.set_cons_zero]
    (repeat' (first|(refine g_s fun K hK=>?_)|(refine g_b ?_)|(refine g_k ?_;simp only[thenQ,blockQ])|(refine g_c (fun h=>?_) (fun h=>?_)<;>(try simp only[go_sem] at h)<;>(try exact g_f))|((first|refine g_g ?_|refine g_U ?_);(try simp -implicitDefEqProofs only[go_sem,hbL, hk]))|(with_reducible refine hK _ _ ?_;clear hK K)|(with_reducible refine splitB_intro (fun h=>?_) (fun h=>?_)<;>(try simp only[go_sem] at h)<;>(try exact g_f)<;>(try simp -implicitDefEqProofs only[go_sem,hbL, hk]))|fail))
    refine (deliver_calls n e hc hl he hby ρ _ b hS1 v.at' hat.1 hat.2).mono ?_
    rintro r S' ⟨h, rfl⟩
    (repeat' (first|(refine g_s fun K hK=>?_)|((first|refine g_t ?_|refine g_g ?_);(try simp -implicitDefEqProofs only[go_sem]))|(with_reducible refine hK _ _ ?_;clear hK K)|fail))
    exact h
  · have hT : inR v.at' 0 (e.bag.length - 1) = false := by
      rw [← Bool.not_eq_true, inR_iff]
      omega
    have hs : stepE n e v = (e, 5) := by
      unfold stepE
      rw [hk, hT]
      rfl
    rw [hs]
    rcases M.bag with ⟨h1, _, rfl⟩ | ⟨gb, rest, _, rfl, hb3, hb4, hb5⟩
    · have h2 : e.bag.length = 0 := by rw [h1]; rfl
      rw [h2] at hat
      refine ACalls_of_awp Tryz.func14 rfl Tryz.results14 ?_
      simp only [List.length_cons, List.length_nil, Tryz.ntmps14, Nat.reduceAdd, Nat.reduceSub, enterA]
      refine AWP_seq_k fun K hK => ?_
      (refine AWP_region ?_; simp -implicitDefEqProofs only [go_sem])
      refine hK _ _ ?_; clear hK K
      refine AWP_freezeP 3 rfl (by simp only [st0]; rfl) ?_
      simp only [ss0, List.set_cons_zero]
      (repeat' (first|(refine g_s fun K hK=>?_)|(refine g_b ?_)|(refine g_c (fun h=>?_) (fun h=>?_)<;>(try simp only[go_sem] at h)<;>(try exact g_f))|((first|refine g_t ?_|refine g_g ?_|refine g_U ?_);(try simp -implicitDefEqProofs only[go_sem,hbL, hk]))|(with_reducible refine hK _ _ ?_;clear hK K)|(with_reducible refine splitB_intro (fun h=>?_) (fun h=>?_)<;>(try simp only[go_sem] at h)<;>(try exact g_f)<;>(try simp -implicitDefEqProofs only[go_sem,hbL, hk]))|fail))
      all_goals exact hS1
    · refine ACalls_of_awp Tryz.func14 rfl Tryz.results14 ?_
      simp only [List.length_cons, List.length_nil, Tryz.ntmps14, Nat.reduceAdd, Nat.reduceSub, enterA]
      refine AWP_seq_k fun K hK => ?_
      (refine AWP_region ?_; simp -implicitDefEqProofs only [go_sem])
      refine hK _ _ ?_; clear hK K
      refine AWP_freezeP 3 rfl (by simp only [st0]; rfl) ?_
      simp only [ss0, List.set_cons_zero]
      (repeat' (first|(refine g_s fun K hK=>?_)|(refine g_b ?_)|(refine g_c (fun h=>?_) (fun h=>?_)<;>(try simp only[go_sem] at h)<;>(try exact g_f))|((first|refine g_t ?_|refine g_g ?_|refine g_U ?_);(try simp -implicitDefEqProofs only[go_sem,hbL, hk]))|(with_reducible refine hK _ _ ?_;clear hK K)|(with_reducible refine splitB_intro (fun h=>?_) (fun h=>?_)<;>(try simp only[go_sem] at h)<;>(try exact g_f)<;>(try simp -implicitDefEqProofs only[go_sem,hbL, hk]))|fail))
      all_goals exact hS1
theorem step3_calls (n : Net) (e : Eng) (hc : checkN n = 0) (hl : n.links.length ≤ 5864062014634) (he : EngIn n e) (hby : EngB e) (ρ S : Store) (b : Nat) (hS : MachK ρ S b n e) (v : Evt) (hv : v.routes.length ≤ 17592186044000) (hk : v.kind = 3) :
    ACalls Tryz.prog 14 [.ptr b 7 0 0, .agg (evtC v)] S fun r S' => MachK ρ S' b n (stepE n e v).1 ∧ r = intA1 (stepE n e v).2 := by
  have hS1 : MachK ρ (S ++ [.dead]) b n e := hS.app
  have hbag := he.bag
  obtain ⟨hK0, rb, tb, gv, gi, M⟩ := hS
  have hbL : ∀ τ, (S ++ τ)[b]? = some (.cells 7 [netC n ++ [.own rb 2 0 e.routers.length e.routers.length, gv]]) := fun τ => st_app M.hb
  by_cases hat : 0 ≤ v.at' ∧ v.at' < e.bag.length
  · have hT : inR v.at' 0 (e.bag.length - 1) = true := inR_iff.2 (by omega)
    have hs : stepE n e v = (if e.bag.length = 120 then e else ⟨e.routers, e.bag ++ [at0 e.bag v.at']⟩, if e.bag.length = 120 then 2 else 0) := by
      unfold stepE
      rw [hk, hT]
      show (if e.bag.length = 120 then (e, (2 : Int)) else (⟨e.routers, e.bag ++ [at0 e.bag v.at']⟩, 0)) = _
      by_cases h : e.bag.length = 120
      · rw [if_pos h, if_pos h, if_pos h]
      · rw [if_neg h, if_neg h, if_neg h]
    rw [hs]
    rcases M.bag with ⟨h1, _, _⟩ | ⟨gb, rest, rfl, rfl, hb3, hb4, hb5⟩
    · rw [h1] at hat
      simp at hat
      omega
    refine ACalls_of_awp Tryz.func14 rfl Tryz.results14 ?_
    simp only [List.length_cons, List.length_nil, Tryz.ntmps14, Nat.reduceAdd, Nat.reduceSub, enterA]
    refine AWP_seq_k fun K hK => ?_
    (refine AWP_region ?_; simp -implicitDefEqProofs only [go_sem])
    refine hK _ _ ?_; clear hK K
    refine AWP_freezeP 3 rfl (by simp only [st0]; rfl) ?_
    simp only [ss0, List.set_cons_zero]
    (repeat' (first|(refine g_s fun K hK=>?_)|(refine g_b ?_)|(refine g_k ?_;simp only[thenQ,blockQ])|(refine g_c (fun h=>?_) (fun h=>?_)<;>(try simp only[go_sem] at h)<;>(try exact g_f))|((first|refine g_g ?_|refine g_U ?_);(try simp -implicitDefEqProofs only[go_sem,hbL, hk]))|(with_reducible refine hK _ _ ?_;clear hK K)|(with_reducible refine splitB_intro (fun h=>?_) (fun h=>?_)<;>(try simp only[go_sem] at h)<;>(try exact g_f)<;>(try simp -implicitDefEqProofs only[go_sem,hbL, hk]))|fail))
    refine (twice_calls n e he ρ _ b hS1 v.at' hat.1 hat.2).mono ?_
    rintro r S' ⟨h, rfl⟩
    (repeat' (first|(refine g_t ?_;(try simp -implicitDefEqProofs only[go_sem]))|(with_reducible refine hK _ _ ?_;clear hK K)|fail))
    exact h
  · have hT : inR v.at' 0 (e.bag.length - 1) = false := by
      rw [← Bool.not_eq_true, inR_iff]
      omega
    have hs : stepE n e v = (e, 5) := by
      unfold stepE
      rw [hk, hT]
      rfl
    rw [hs]
    rcases M.bag with ⟨h1, _, rfl⟩ | ⟨gb, rest, _, rfl, hb3, hb4, hb5⟩
    · have h2 : e.bag.length = 0 := by rw [h1]; rfl
      rw [h2] at hat
      refine ACalls_of_awp Tryz.func14 rfl Tryz.results14 ?_
      simp only [List.length_cons, List.length_nil, Tryz.ntmps14, Nat.reduceAdd, Nat.reduceSub, enterA]
      refine AWP_seq_k fun K hK => ?_
      (refine AWP_region ?_; simp -implicitDefEqProofs only [go_sem])
      refine hK _ _ ?_; clear hK K
      refine AWP_freezeP 3 rfl (by simp only [st0]; rfl) ?_
      simp only [ss0, List.set_cons_zero]
      (repeat' (first|(refine g_s fun K hK=>?_)|(refine g_b ?_)|(refine g_c (fun h=>?_) (fun h=>?_)<;>(try simp only[go_sem] at h)<;>(try exact g_f))|((first|refine g_t ?_|refine g_g ?_|refine g_U ?_);(try simp -implicitDefEqProofs only[go_sem,hbL, hk]))|(with_reducible refine hK _ _ ?_;clear hK K)|(with_reducible refine splitB_intro (fun h=>?_) (fun h=>?_)<;>(try simp only[go_sem] at h)<;>(try exact g_f)<;>(try simp -implicitDefEqProofs only[go_sem,hbL, hk]))|fail))
      all_goals exact hS1
    · refine ACalls_of_awp Tryz.func14 rfl Tryz.results14 ?_
      simp only [List.length_cons, List.length_nil, Tryz.ntmps14, Nat.reduceAdd, Nat.reduceSub, enterA]
      refine AWP_seq_k fun K hK => ?_
      (refine AWP_region ?_; simp -implicitDefEqProofs only [go_sem])
      refine hK _ _ ?_; clear hK K
      refine AWP_freezeP 3 rfl (by simp only [st0]; rfl) ?_
      simp only [ss0, List.set_cons_zero]
      (repeat' (first|(refine g_s fun K hK=>?_)|(refine g_b ?_)|(refine g_c (fun h=>?_) (fun h=>?_)<;>(try simp only[go_sem] at h)<;>(try exact g_f))|((first|refine g_t ?_|refine g_g ?_|refine g_U ?_);(try simp -implicitDefEqProofs only[go_sem,hbL, hk]))|(with_reducible refine hK _ _ ?_;clear hK K)|(with_reducible refine splitB_intro (fun h=>?_) (fun h=>?_)<;>(try simp only[go_sem] at h)<;>(try exact g_f)<;>(try simp -implicitDefEqProofs only[go_sem,hbL, hk]))|fail))
      all_goals exact hS1
theorem step5_calls (n : Net) (e : Eng) (hc : checkN n = 0) (hl : n.links.length ≤ 5864062014634) (he : EngIn n e) (hby : EngB e) (ρ S : Store) (b : Nat) (hS : MachK ρ S b n e) (v : Evt) (hv : v.routes.length ≤ 17592186044000) (hk : v.kind = 5) :
    ACalls Tryz.prog 14 [.ptr b 7 0 0, .agg (evtC v)] S fun r S' => MachK ρ S' b n (stepE n e v).1 ∧ r = intA1 (stepE n e v).2 := by
  have hS1 : MachK ρ (S ++ [.dead]) b n e := hS.app
  have hbag := he.bag
  obtain ⟨hK0, rb, tb, gv, gi, M⟩ := hS
  have hbL : ∀ τ, (S ++ τ)[b]? = some (.cells 7 [netC n ++ [.own rb 2 0 e.routers.length e.routers.length, gv]]) := fun τ => st_app M.hb
  by_cases hat : 0 ≤ v.at' ∧ v.at' < e.bag.length
  · have hT : inR v.at' 0 (e.bag.length - 1) = true := inR_iff.2 (by omega)
    have hs : stepE n e v = spoilE e v := by
      unfold stepE
      rw [hk, hT]
      rfl
    rw [hs]
    rcases M.bag with ⟨h1, _, _⟩ | ⟨gb, rest, rfl, rfl, hb3, hb4, hb5⟩
    · rw [h1] at hat
      simp at hat
      omega
    refine ACalls_of_awp Tryz.func14 rfl Tryz.results14 ?_
    simp only [List.length_cons, List.length_nil, Tryz.ntmps14, Nat.reduceAdd, Nat.reduceSub, enterA]
    refine AWP_seq_k fun K hK => ?_
    (refine AWP_region ?_; simp -implicitDefEqProofs only [go_sem])
    refine hK _ _ ?_; clear hK K
    refine AWP_freezeP 3 rfl (by simp only [st0]; rfl) ?_
    simp only [ss0, List.set_cons_zero]
    (repeat' (first|(refine g_s fun K hK=>?_)|(refine g_b ?_)|(refine g_k ?_;simp only[thenQ,blockQ])|(refine g_c (fun h=>?_) (fun h=>?_)<;>(try simp only[go_sem] at h)<;>(try exact g_f))|((first|refine g_g ?_|refine g_U ?_);(try simp -implicitDefEqProofs only[go_sem,hbL, hk]))|(with_reducible refine hK _ _ ?_;clear hK K)|(with_reducible refine splitB_intro (fun h=>?_) (fun h=>?_)<;>(try simp only[go_sem] at h)<;>(try exact g_f)<;>(try simp -implicitDefEqProofs only[go_sem,hbL, hk]))|fail))
    have hX := spoil_calls n e he hby ρ _ b hS1 v hat.1 hat.2
    simp only [evtC, hk] at hX
    refine hX.mono ?_
    rintro r S' ⟨h, rfl⟩
    (repeat' (first|(refine g_t ?_;(try simp -implicitDefEqProofs only[go_sem]))|(with_reducible refine hK _ _ ?_;clear hK K)|fail))
    exact h
  · have hT : inR v.at' 0 (e.bag.length - 1) = false := by
      rw [← Bool.not_eq_true, inR_iff]
      omega
    have hs : stepE n e v = (e, 5) := by
      unfold stepE
      rw [hk, hT]
      rfl
    rw [hs]
    rcases M.bag with ⟨h1, _, rfl⟩ | ⟨gb, rest, _, rfl, hb3, hb4, hb5⟩
    · have h2 : e.bag.length = 0 := by rw [h1]; rfl
      rw [h2] at hat
      refine ACalls_of_awp Tryz.func14 rfl Tryz.results14 ?_
      simp only [List.length_cons, List.length_nil, Tryz.ntmps14, Nat.reduceAdd, Nat.reduceSub, enterA]
      refine AWP_seq_k fun K hK => ?_
      (refine AWP_region ?_; simp -implicitDefEqProofs only [go_sem])
      refine hK _ _ ?_; clear hK K
      refine AWP_freezeP 3 rfl (by simp only [st0]; rfl) ?_
      simp only [ss0, List.set_cons_zero]
      (repeat' (first|(refine g_s fun K hK=>?_)|(refine g_b ?_)|(refine g_c (fun h=>?_) (fun h=>?_)<;>(try simp only[go_sem] at h)<;>(try exact g_f))|((first|refine g_t ?_|refine g_g ?_|refine g_U ?_);(try simp -implicitDefEqProofs only[go_sem,hbL, hk]))|(with_reducible refine hK _ _ ?_;clear hK K)|(with_reducible refine splitB_intro (fun h=>?_) (fun h=>?_)<;>(try simp only[go_sem] at h)<;>(try exact g_f)<;>(try simp -implicitDefEqProofs only[go_sem,hbL, hk]))|fail))
      all_goals exact hS1
    · refine ACalls_of_awp Tryz.func14 rfl Tryz.results14 ?_
      simp only [List.length_cons, List.length_nil, Tryz.ntmps14, Nat.reduceAdd, Nat.reduceSub, enterA]
      refine AWP_seq_k fun K hK => ?_
      (refine AWP_region ?_; simp -implicitDefEqProofs only [go_sem])
      refine hK _ _ ?_; clear hK K
      refine AWP_freezeP 3 rfl (by simp only [st0]; rfl) ?_
      simp only [ss0, List.set_cons_zero]
      (repeat' (first|(refine g_s fun K hK=>?_)|(refine g_b ?_)|(refine g_c (fun h=>?_) (fun h=>?_)<;>(try simp only[go_sem] at h)<;>(try exact g_f))|((first|refine g_t ?_|refine g_g ?_|refine g_U ?_);(try simp -implicitDefEqProofs only[go_sem,hbL, hk]))|(with_reducible refine hK _ _ ?_;clear hK K)|(with_reducible refine splitB_intro (fun h=>?_) (fun h=>?_)<;>(try simp only[go_sem] at h)<;>(try exact g_f)<;>(try simp -implicitDefEqProofs only[go_sem,hbL, hk]))|fail))
      all_goals exact hS1
theorem step4_calls (n : Net) (e : Eng) (hc : checkN n = 0) (hl : n.links.length ≤ 5864062014634) (he : EngIn n e) (hby : EngB e) (ρ S : Store) (b : Nat) (hS : MachK ρ S b n e) (v : Evt) (hv : v.routes.length ≤ 17592186044000) (hk : v.kind = 4) :
    ACalls Tryz.prog 14 [.ptr b 7 0 0, .agg (evtC v)] S fun r S' => MachK ρ S' b n (stepE n e v).1 ∧ r = intA1 (stepE n e v).2 := by
  have hS1 : MachK ρ (S ++ [.dead]) b n e := hS.app
  have hbag := he.bag
  obtain ⟨hK0, rb, tb, gv, gi, M⟩ := hS
  have hbL : ∀ τ, (S ++ τ)[b]? = some (.cells 7 [netC n ++ [.own rb 2 0 e.routers.length e.routers.length, gv]]) := fun τ => st_app M.hb
  by_cases hat : 0 ≤ v.at' ∧ v.at' < e.bag.length
  · have hT : inR v.at' 0 (e.bag.length - 1) = true := inR_iff.2 (by omega)
    have hs : stepE n e v = (dropE e v.at', 0) := by
      unfold stepE
      rw [hk, hT]
      rfl
    rw [hs]
    rcases M.bag with ⟨h1, _, _⟩ | ⟨gb, rest, rfl, rfl, hb3, hb4, hb5⟩
    · rw [h1] at hat
      simp at hat
      omega
    obtain ⟨R, bag⟩ := e
    simp only at hat hb3 hb4 hb5 hbag hbL M
    obtain ⟨m, hm⟩ : ∃ m : Nat, v.at' = m := ⟨v.at'.toNat, by omega⟩
    have h1' : m < bag.length := by omega
    have im : I64 ((m : Int) + 1) := by unfold I64; omega
    have hne := M.ne
    have hgb : gb ≠ b := fun e => hne.2.2.1 (by rw [e]; simp)
    have hgS : ∀ τ o, (S ++ τ).set gb o = S.set gb o ++ τ := fun τ o => st_setApp hb3
    have hbG : ∀ o, (S.set gb o)[b]? = some (.cells 7 [netC n ++ [.own rb 2 0 R.length R.length, .own gb 3 0 bag.length (bag.length + rest.length)]]) := fun o => st_set M.hb hgb
    have hbD : ∀ o τ, (S.set gb o ++ τ)[b]? = some (.cells 7 [netC n ++ [.own rb 2 0 R.length R.length, .own gb 3 0 bag.length (bag.length + rest.length)]]) := fun o τ => st_app (hbG o)
    have hbE : ∀ o τ o', (S.set gb o ++ τ).set b o' = (S.set gb o).set b o' ++ τ := fun o τ o' => st_setApp (hbG o)
    have hde := delete_calls (S ++ [.dead]) gb bag rest m h1' (st_app hb3) hb4 (by omega) (by omega)
    refine ACalls_of_awp Tryz.func14 rfl Tryz.results14 ?_
    simp only [List.length_cons, List.length_nil, Tryz.ntmps14, Nat.reduceAdd, Nat.reduceSub, enterA]
    refine AWP_seq_k fun K hK => ?_
    (refine AWP_region ?_; simp -implicitDefEqProofs only [go_sem])
    refine hK _ _ ?_; clear hK K
    refine AWP_freezeP 3 rfl (by simp only [st0]; rfl) ?_
    simp only [ss0, List.set_cons_zero]
    (repeat' (first|(refine g_s fun K hK=>?_)|(refine g_b ?_)|(refine g_k ?_;simp only[thenQ,blockQ])|(refine g_c (fun h=>?_) (fun h=>?_)<;>(try simp only[go_sem] at h)<;>(try exact g_f))|((first|refine g_t ?_|refine g_G ?_|refine AWP_drawY tab_mixed (by decide +kernel) ?_|refine callS_useO (hde) ?_);(try simp -implicitDefEqProofs only[go_sem,hbL, hk, hm, hgS, hbD, hbE, im]))|(with_reducible refine hK _ _ ?_;clear hK K)|(with_reducible refine splitB_intro (fun h=>?_) (fun h=>?_)<;>(try simp only[go_sem] at h)<;>(try exact g_f)<;>(try simp -implicitDefEqProofs only[go_sem,hbL, hk, hm, hgS, hbD, hbE, im]))|fail))
    exact ⟨((hK0.set (M.lo gb (by simp))).set (M.lo b (by simp))).app, rb, tb, _, _, (M.drop m h1' hb5 hb4 ⟨_, hb3⟩).app⟩
  · have hT : inR v.at' 0 (e.bag.length - 1) = false := by
      rw [← Bool.not_eq_true, inR_iff]
      omega
    have hs : stepE n e v = (e, 5) := by
      unfold stepE
      rw [hk, hT]
      rfl
    rw [hs]
    rcases M.bag with ⟨h1, _, rfl⟩ | ⟨gb, rest, _, rfl, hb3, hb4, hb5⟩
    · have h2 : e.bag.length = 0 := by rw [h1]; rfl
      rw [h2] at hat
      refine ACalls_of_awp Tryz.func14 rfl Tryz.results14 ?_
      simp only [List.length_cons, List.length_nil, Tryz.ntmps14, Nat.reduceAdd, Nat.reduceSub, enterA]
      refine AWP_seq_k fun K hK => ?_
      (refine AWP_region ?_; simp -implicitDefEqProofs only [go_sem])
      refine hK _ _ ?_; clear hK K
      refine AWP_freezeP 3 rfl (by simp only [st0]; rfl) ?_
      simp only [ss0, List.set_cons_zero]
      (repeat' (first|(refine g_s fun K hK=>?_)|(refine g_b ?_)|(refine g_c (fun h=>?_) (fun h=>?_)<;>(try simp only[go_sem] at h)<;>(try exact g_f))|((first|refine g_t ?_|refine g_g ?_|refine g_U ?_);(try simp -implicitDefEqProofs only[go_sem,hbL, hk]))|(with_reducible refine hK _ _ ?_;clear hK K)|(with_reducible refine splitB_intro (fun h=>?_) (fun h=>?_)<;>(try simp only[go_sem] at h)<;>(try exact g_f)<;>(try simp -implicitDefEqProofs only[go_sem,hbL, hk]))|fail))
      all_goals exact hS1
    · refine ACalls_of_awp Tryz.func14 rfl Tryz.results14 ?_
      simp only [List.length_cons, List.length_nil, Tryz.ntmps14, Nat.reduceAdd, Nat.reduceSub, enterA]
      refine AWP_seq_k fun K hK => ?_
      (refine AWP_region ?_; simp -implicitDefEqProofs only [go_sem])
      refine hK _ _ ?_; clear hK K
      refine AWP_freezeP 3 rfl (by simp only [st0]; rfl) ?_
      simp only [ss0, List.set_cons_zero]
      (repeat' (first|(refine g_s fun K hK=>?_)|(refine g_b ?_)|(refine g_c (fun h=>?_) (fun h=>?_)<;>(try simp only[go_sem] at h)<;>(try exact g_f))|((first|refine g_t ?_|refine g_g ?_|refine g_U ?_);(try simp -implicitDefEqProofs only[go_sem,hbL, hk]))|(with_reducible refine hK _ _ ?_;clear hK K)|(with_reducible refine splitB_intro (fun h=>?_) (fun h=>?_)<;>(try simp only[go_sem] at h)<;>(try exact g_f)<;>(try simp -implicitDefEqProofs only[go_sem,hbL, hk]))|fail))
      all_goals exact hS1
theorem step_calls (n : Net) (e : Eng) (hc : checkN n = 0) (hl : n.links.length ≤ 5864062014634) (he : EngIn n e) (hby : EngB e) (ρ S : Store) (b : Nat) (hS : MachK ρ S b n e) (v : Evt) (hv : v.routes.length ≤ 17592186044000) (hk : True) :
    ACalls Tryz.prog 14 [.ptr b 7 0 0, .agg (evtC v)] S fun r S' => MachK ρ S' b n (stepE n e v).1 ∧ r = intA1 (stepE n e v).2 := by
  have hS1 : MachK ρ (S ++ [.dead]) b n e := hS.app
  clear hk
  have hk : (v.kind < 1 ∨ 7 < v.kind) ∨ v.kind = 1 ∨ v.kind = 2 ∨ v.kind = 3 ∨ v.kind = 4 ∨ v.kind = 5 ∨ v.kind = 6 ∨ v.kind = 7 := by omega
  rcases hk with hk | hk | hk | hk | hk | hk | hk | hk
  · exact step0_calls n e hc hl he hby ρ S b hS v hv hk
  · exact step1_calls n e hc hl he hby ρ S b hS v hv hk
  · exact step2_calls n e hc hl he hby ρ S b hS v hv hk
  · exact step3_calls n e hc hl he hby ρ S b hS v hv hk
  · exact step4_calls n e hc hl he hby ρ S b hS v hv hk
  · exact step5_calls n e hc hl he hby ρ S b hS v hv hk
  · exact step6_calls n e hc hl he hby ρ S b hS v hv hk
  · exact step7_calls n e hc hl he hby ρ S b hS v hv hk
end Go.Proofs.YtephecognbbaoabGreat
namespace Go.Proofs.YtephecognbbaoabGreat
theorem Bd.mapR {X : Type} {n : Nat} {f : X → List AV} {l : List X} (h : ∀ x ∈ l, ∀ a ∈ f x, Bd n a) : Bd n (.sl (l.map f)) := by
  refine .sl _ fun i hi j hj => ?_
  have hi' : i < l.length := by simpa using hi
  have e : (l.map f)[i] = f l[i] := List.getElem_map ..
  have h9 : ∀ y, y = f l[i] → ∀ a ∈ y, Bd n a := by
    rintro _ rfl a ha
    exact h l[i] (List.getElem_mem hi') a ha
  exact h9 _ e _ (List.getElem_mem hj)
theorem Bd.eng {n : Nat} (e : Eng) : Bd n (.agg (engC e)) := by
  refine .aggL (.cons (.mapR fun r _ a ha => ?_) (.cons (.mapR fun m _ a ha => ?_) .nil))
  · simp only [rtrC, List.mem_cons, List.not_mem_nil, or_false] at ha
    rcases ha with rfl | rfl
    · exact .ints _
    · exact .rows _
  · simp only [mailC, List.mem_cons, List.not_mem_nil, or_false] at ha
    rcases ha with rfl | rfl | rfl
    · exact .c _
    · exact .c _
    · exact .c _
theorem MachW.deep {S : Store} {lo b : Nat} {n : Net} {e : Eng} {rb : Nat} {tb : List Nat} {gv : AV} {gi : List Nat} (h : MachW S lo b n e rb tb gv gi) {D : Nat → Prop} (hD : ∀ x, lo ≤ x → D x) : DeepL S D [.own rb 2 0 e.routers.length e.routers.length, gv] (engC e) := by
  have hD' : ∀ x ∈ b :: rb :: (tb ++ gi), D x := fun x hx => hD x (h.lo x hx)
  refine .cons (.ownW (hD' rb (by simp)) h.hrb (by rw [List.length_zipWith, h.tl, Nat.min_self]) ⟨by rw [List.length_zipWith, h.tl, Nat.min_self, List.length_map], fun i h1 h2 => ?_⟩) (.cons ?_ .nil)
  · have h2' : i < e.routers.length := by simpa using h2
    have h1' : i < tb.length := by rw [h.tl]; exact h2'
    rw [List.getElem_zipWith, List.getElem_map, rtrV, rtrC]
    refine .cons (.same _) (.cons (.ownW (hD' _ (by simp [List.getElem_mem h1'])) (h.ht i h1' h2') (by simp) (.same _)) .nil)
  · rcases h.bag with ⟨h1, h2, h3⟩ | ⟨gb, rest, h1, h2, h3, h4, h5⟩
    · rw [h3, h1]
      exact .nil
    · rw [h2]
      refine .ownR (es := e.bag.map mailC) (hD' gb (by rw [h1]; simp)) ?_ (.same _)
      simp only [elemsB, h3]
      rw [if_pos (by simp)]
      simp [List.take_left']
theorem MachW.set_lo {S : Store} {lo b : Nat} {n : Net} {e : Eng} {rb : Nat} {tb : List Nat} {gv : AV} {gi : List Nat} (h : MachW S lo b n e rb tb gv gi) {x : Nat} {o : Ob} (hx : x < lo) : MachW (S.set x o) lo b n e rb tb gv gi := by
  have hne : ∀ y ∈ b :: rb :: (tb ++ gi), x ≠ y := fun y hy e => by
    have := h.lo y hy
    omega
  refine ⟨st_set h.hb (hne b (by simp)), st_set h.hrb (hne rb (by simp)), h.tl, fun i h1 h2 => st_set (h.ht i h1 h2) (hne _ (by simp [List.getElem_mem h1])), h.bag.set fun hc => hne x (by simp [hc]) rfl, h.nd, h.lo⟩
def noE : Eng := ⟨[], []⟩
def stepR (n : Net) (e : Eng) (v : Evt) : Eng × Int :=
  if checkE n e ≠ 0 then (noE, checkE n e) else if (stepE n e v).2 ≠ 0 then (noE, (stepE n e v).2) else stepE n e v
theorem estep_calls (n : Net) (e : Eng) (okn : NetOk n) (ok : EngOk e) (v : Evt) (hv : v.routes.length ≤ 17592186044000) (σ : Store) : ACalls Tryz.prog 4 [.agg (netC n), .agg (engC e), .agg (evtC v)] σ fun r σ' => σ' = σ ∧ r = .tup [.agg (engC (stepR n e v).1), intA1 (stepR n e v).2] := by
  have hC := checkE_calls n e okn ok
  unfold stepR
  refine ACalls.deep ?_
  by_cases h0 : checkE n e = 0
  · rw [if_neg (not_not_intro h0)]
    rw [h0] at hC
    obtain ⟨hc, he⟩ := engIn_of h0
    have hn := netIn_of hc
    have hby : EngB e := fun m hm => (ok.mail m hm).rng
    have hS := step_calls n e hc (by have := okn.len; omega) he hby
    obtain ⟨R, hR⟩ : ∃ R, stepE n e v = R := ⟨_, rfl⟩
    rw [hR]
    obtain ⟨X, hX⟩ : ∃ X, (if R.2 ≠ 0 then (noE, R.2) else R) = X := ⟨_, rfl⟩
    rw [hX]
    refine ACalls_of_awp Tryz.func4 rfl Tryz.results4 ?_
    simp only [List.length_cons, List.length_nil, Tryz.ntmps4, Nat.reduceAdd, Nat.reduceSub, enterA]
    refine AWP_seq_k fun K hK => ?_
    (refine AWP_region ?_; simp -implicitDefEqProofs only [go_sem])
    refine hK _ _ ?_; clear hK K
    refine AWP_freezeP 3 rfl (by simp only [st0]; rfl) ?_
    simp only [ss0, List.set_cons_zero]
    refine AWP_freezeP 4 rfl (by simp only [st1]; rfl) ?_
    simp only [ss1, List.set_cons_zero, List.set_cons_succ]
    refine AWP_freezeP 5 rfl (by simp only [st1]; rfl) ?_
    simp only [ss1, List.set_cons_zero, List.set_cons_succ]
    (repeat' (first|(refine g_s fun K hK=>?_)|(refine g_k ?_;simp only[thenQ,blockQ])|(refine g_c (fun h=>?_) (fun h=>?_)<;>(try simp only[go_sem] at h)<;>(try exact g_f))|((first|refine g_g ?_|refine (hC _).use ?_);(try simp -implicitDefEqProofs only[go_sem]))|(with_reducible refine hK _ _ ?_;clear hK K)|fail))
    obtain ⟨ρ, hρ⟩ : ∃ ρ : Store, σ ++ [.dead, .dead, .dead, .cells 2 [[.c (.slice none 0 0), .c (.slice none 0 0)]]] = ρ := ⟨_, rfl⟩
    have hlen : ρ.length = σ.length + 4 := by rw [← hρ]; simp
    have hcL : ∀ τ, (ρ ++ τ)[σ.length + 3]? = some (.cells 2 [[.c (.slice none 0 0), .c (.slice none 0 0)]]) := fun τ => by rw [← hρ]; exact st_app (by simp)
    have hcS : ∀ τ o, (ρ ++ τ).set (σ.length + 3) o = σ ++ ([.dead, .dead, .dead, o] ++ τ) := fun τ o => by
      rw [← hρ, List.append_assoc, List.set_append_right _ _ (by omega), Nat.add_sub_cancel_left]
      rfl
    rw [hρ]
    refine (eown_calls n e hn he ok ρ).mono ?_
    rintro r S' ⟨τ, rfl, b, rfl, hM⟩
    (repeat' (first|(refine g_s fun K hK=>?_)|(refine g_g ?_;(try simp -implicitDefEqProofs only[go_sem]))|(with_reducible refine hK _ _ ?_;clear hK K)|fail))
    refine (hS ρ _ b ⟨⟨τ, rfl⟩, hM⟩ v hv trivial).mono ?_
    rw [hR]
    rintro r S' ⟨⟨⟨τ2, rfl⟩, rb, tb, gv, gi, M⟩, rfl⟩
    have hb := M.hb
    have hM3 : ∀ o, MachW (σ ++ ([.dead, .dead, .dead, o] ++ τ2)) ρ.length b n R.1 rb tb gv gi := fun o => by
      rw [← hcS τ2 o]
      exact M.set_lo (by omega)
    by_cases hr : R.2 = 0
    · rw [if_neg (not_not_intro hr)] at hX
      subst hX
      rcases M.bag with ⟨h1, h2, rfl⟩ | ⟨gb, rest, h1, rfl, h3, h4, h5⟩
      all_goals
        (repeat' (first|(refine g_s fun K hK=>?_)|(refine g_k ?_;simp only[thenQ,blockQ])|(refine g_c (fun h=>?_) (fun h=>?_)<;>(try simp only[go_sem] at h)<;>(try exact g_f))|((first|refine g_t ?_|refine g_g ?_);(try simp -implicitDefEqProofs only[go_sem,hcL, hcS, hb, hr]))|(with_reducible refine hK _ _ ?_;clear hK K)|fail))
        exact DeepQ_of rfl (.tupL (.cons (.eng _) (.cons (.c _) .nil))) (.tupL (.cons (.aggL ((hM3 _).deep fun x hx => by omega)) (.cons (.same _) .nil)))
    · rw [if_pos hr] at hX
      subst hX
      (repeat' (first|(refine g_s fun K hK=>?_)|(refine g_c (fun h=>?_) (fun h=>?_)<;>(try simp only[go_sem] at h)<;>(try exact g_f))|((first|refine g_t ?_|refine g_g ?_);(try simp -implicitDefEqProofs only[go_sem,hcL, hcS, hb, hr]))|(with_reducible refine hK _ _ ?_;clear hK K)|fail))
      exact DeepQ_of rfl (.tupL (.cons (.eng _) (.cons (.c _) .nil))) (.tupL (.cons (.aggL (.cons .nil (.cons .nil .nil))) (.cons (.same _) .nil)))
  · rw [if_pos h0]
    refine ACalls_of_awp Tryz.func4 rfl Tryz.results4 ?_
    simp only [List.length_cons, List.length_nil, Tryz.ntmps4, Nat.reduceAdd, Nat.reduceSub, enterA]
    refine AWP_seq_k fun K hK => ?_
    (refine AWP_region ?_; simp -implicitDefEqProofs only [go_sem])
    refine hK _ _ ?_; clear hK K
    refine AWP_freezeP 3 rfl (by simp only [st0]; rfl) ?_
    simp only [ss0, List.set_cons_zero]
    refine AWP_freezeP 4 rfl (by simp only [st1]; rfl) ?_
    simp only [ss1, List.set_cons_zero, List.set_cons_succ]
    refine AWP_freezeP 5 rfl (by simp only [st1]; rfl) ?_
    simp only [ss1, List.set_cons_zero, List.set_cons_succ]
    (repeat' (first|(refine g_s fun K hK=>?_)|(refine g_c (fun h=>?_) (fun h=>?_)<;>(try simp only[go_sem] at h)<;>(try exact g_f))|((first|refine g_t ?_|refine g_g ?_|refine (hC _).use ?_);(try simp -implicitDefEqProofs only[go_sem,h0]))|(with_reducible refine hK _ _ ?_;clear hK K)|fail))
    exact DeepQ_of rfl (.tupL (.cons (.eng _) (.cons (.c _) .nil))) (.tupL (.cons (.aggL (.cons .nil (.cons .nil .nil))) (.cons (.same _) .nil)))
end Go.Proofs.YtephecognbbaoabGreat
namespace Go.Proofs.YtephecognbbaoabGreat
def newV (n : Net) (p : List Int × Nat) : List AV := [intsA p.1, .own p.2 1 0 n.nodes.toNat n.nodes.toNat]
def newR (n : Net) : Eng × Int := if checkN n ≠ 0 then (noE, checkN n) else (newE n, 0)
theorem enew_calls (n : Net) (okn : NetOk n) (σ : Store) : ACalls Tryz.prog 5 [.agg (netC n)] σ fun r σ' => σ' = σ ∧ r = .tup [.agg (engC (newR n).1), intA1 (newR n).2] := by
  have hC := netCheck_calls n okn
  unfold newR
  refine ACalls.deep ?_
  by_cases h0 : checkN n = 0
  · rw [if_neg (not_not_intro h0)]
    rw [h0] at hC
    have hn := netIn_of h0
    have n1 := hn.n1
    have n6 := hn.n6
    have hTr := trivial_calls n hn
    have hbl : (beginA n).length = n.nodes.toNat := by simp [beginA, ints_length]
    refine ACalls_of_awp Tryz.func5 rfl Tryz.results5 ?_
    simp only [List.length_cons, List.length_nil, Tryz.ntmps5, Nat.reduceAdd, Nat.reduceSub, enterA]
    refine AWP_seq_k fun K hK => ?_
    (refine AWP_region ?_; simp -implicitDefEqProofs only [go_sem])
    refine hK _ _ ?_; clear hK K
    refine AWP_freezeP 1 rfl (by simp only [st0]; rfl) ?_
    simp only [ss0, List.set_cons_zero]
    (repeat' (first|(refine g_s fun K hK=>?_)|(refine g_b ?_)|(refine g_k ?_;simp only[thenQ,blockQ])|(refine g_c (fun h=>?_) (fun h=>?_)<;>(try simp only[go_sem] at h)<;>(try exact g_f))|((first|refine g_g ?_|refine (hC _).use ?_|refine (hTr _).use ?_);(try simp -implicitDefEqProofs only[go_sem]))|(with_reducible refine hK _ _ ?_;clear hK K)|fail))
    refine AWP_pad ?_
    have hJ := hK
    clear hK
    obtain ⟨ρ, hρ⟩ : ∃ ρ : Store, σ ++ [.dead, .cells 2 [[.c (.slice none 0 0), .c (.slice none 0 0)]]] = ρ := ⟨_, rfl⟩
    have hlen : σ.length + 2 = ρ.length := by rw [← hρ]; simp
    refine AWP_each (beginA n) (fun _ r (s : List (List Int × Nat) × Store) => s.1.map (·.1) ++ r = beginA n ∧ (∀ p ∈ s.1, ρ.length + 1 ≤ p.2 ∧ ((ρ ++ [.dead]) ++ s.2)[p.2]? = some (.cells 1 (List.replicate n.nodes.toNat [.c (.slice none 0 0)]))))
      (fun k s _ => [(17, intA1 k), (5, .ptr ρ.length 2 0 0)]) (fun _ s _ => ρ ++ (.cells 2 [[accV 2 (ρ.length + (s.2.length + 1)) s.1, .c (.slice none 0 0)]] :: (s.2 ++ [accO (newV n) 2 s.1]))) ([], []) [] ⟨rfl, fun p hp => (by cases hp)⟩ ?_ (ALe_of ?_) ?_ ?_
    · rw [← hρ]
      simp [accV, accO]
    · simp -implicitDefEqProofs only [go_sem, hlen]
    · rintro k r ⟨acc, T⟩ τ9 hk0 hk1 ⟨h3, h4⟩ L hL
      obtain ⟨w, hw⟩ : ∃ w, at0 (beginA n) k = w := ⟨_, rfl⟩
      rw [hw] at h3
      have hal : acc.length + 1 ≤ 6 := by have := congrArg List.length h3; simp at this; omega
      rcases acc with _ | ⟨p0, acc⟩
      · simp -implicitDefEqProofs only [go_sem, accV, accO]
        (repeat' (first|(refine g_s fun K hK=>?_)|(refine g_b ?_)|(refine g_k ?_;simp only[thenQ,blockQ])|(refine g_c (fun h=>?_) (fun h=>?_)<;>(try simp only[go_sem] at h)<;>(try exact g_f))|((first|refine g_G ?_|refine AWP_drawC (ρ ++ (.cells 2 [[.c (.slice none 0 0), .c (.slice none 0 0)]] :: (T ++ [.dead]))) ⟨_, by simp; rfl⟩ tab_mixed (by decide +kernel) ?_);(try simp -implicitDefEqProofs only[go_sem,hw]))|(with_reducible refine hK _ _ ?_;clear hK K)|(with_reducible refine And.intro ?_ ?_;· exact g_x)|fail))
        refine hL ([(w, ρ.length + (T.length + 2))], T ++ [.dead, .cells 1 (List.replicate n.nodes.toNat [.c (.slice none 0 0)])]) [] _ _ ⟨by simpa using h3, ?_⟩ (ALe_of ?_) ?_
        · intro p hp
          rcases List.mem_singleton.1 hp with rfl
          refine ⟨by simp only; omega, ?_⟩
          simp -implicitDefEqProofs only [go_sem]
        · simp -implicitDefEqProofs only [go_sem, hlen]
        · simp [accO, accV, newV, intsA]
      · simp only [List.length_cons] at hal
        simp -implicitDefEqProofs only [go_sem, accV, accO]
        (repeat' (first|(refine g_s fun K hK=>?_)|(refine g_b ?_)|(refine g_k ?_;simp only[thenQ,blockQ])|(refine g_c (fun h=>?_) (fun h=>?_)<;>(try simp only[go_sem] at h)<;>(try exact g_f))|((first|refine g_G ?_|refine AWP_drawC (ρ ++ (.cells 2 [[.own (ρ.length + (T.length + 1)) 2 0 (acc.length + 1) (acc.length + 1), .c (.slice none 0 0)]] :: T)) ⟨_, by simp; rfl⟩ tab_mixed (by decide +kernel) ?_);(try simp -implicitDefEqProofs only[go_sem,hw]))|(with_reducible refine hK _ _ ?_;clear hK K)|(with_reducible refine And.intro ?_ ?_;· exact g_x)|fail))
        refine hL (p0 :: (acc ++ [(w, ρ.length + (T.length + 2))]), T ++ [.dead, .cells 1 (List.replicate n.nodes.toNat [.c (.slice none 0 0)])]) [] _ _ ⟨by simpa using h3, ?_⟩ (ALe_of ?_) ?_
        · intro p hp
          rw [← List.cons_append] at hp
          rcases List.mem_append.1 hp with hp | hp
          · obtain ⟨h6, h7⟩ := h4 p hp
            refine ⟨h6, ?_⟩
            rw [← List.append_assoc, List.getElem?_append_left (List.getElem?_eq_some_iff.1 h7).1]
            exact h7
          · rcases List.mem_singleton.1 hp with rfl
            refine ⟨by simp only; omega, ?_⟩
            simp -implicitDefEqProofs only [go_sem]
        · simp -implicitDefEqProofs only [go_sem, hlen]
        · simp [accO, accV, newV, intsA]
    · rintro k ⟨acc, T⟩ τ9 hk ⟨h3, h4⟩ L
      have hacc : 1 ≤ acc.length := by have := congrArg List.length h3; simp at this; omega
      obtain ⟨p0, acc, rfl⟩ : ∃ p l, acc = p :: l := by cases acc with | nil => cases hacc | cons p l => exact ⟨p, l, rfl⟩
      simp only [List.append_nil] at h3
      have hcL : ∀ X, (ρ ++ X)[σ.length + 1]? = some (.cells 2 [[.c (.slice none 0 0), .c (.slice none 0 0)]]) := fun X => by rw [← hρ]; exact st_app (by simp)
      have hcS : ∀ X o, (ρ ++ X).set (σ.length + 1) o = σ ++ ([.dead, o] ++ X) := fun X o => by
        rw [← hρ, List.append_assoc, List.set_append_right _ _ (by omega), Nat.add_sub_cancel_left]
        rfl
      have hlk : ∀ o1 o2 X p, p ∈ p0 :: acc → (σ ++ (.dead :: o1 :: o2 :: (T ++ X)))[p.2]? = some (.cells 1 (List.replicate n.nodes.toNat [.c (.slice none 0 0)])) := fun o1 o2 X p hp => by
        obtain ⟨h5, h6⟩ := h4 p hp
        obtain ⟨q, hq⟩ : ∃ q, p.2 = σ.length + (q + 3) := ⟨p.2 - σ.length - 3, by omega⟩
        have h7 : p.2 = (ρ ++ [Ob.dead]).length + q := by simp; omega
        rw [h7, List.getElem?_append_right (by omega), Nat.add_sub_cancel_left] at h6
        rw [hq, List.getElem?_append_right (by omega), Nat.add_sub_cancel_left, List.getElem?_cons_succ, List.getElem?_cons_succ, List.getElem?_cons_succ]
        exact st_app h6
      simp -implicitDefEqProofs only [go_sem, accV, accO]
      (repeat' (first|(refine g_s fun K hK=>?_)|(refine g_e ?_;simp only[thenQ,blockQ,↓reduceIte,Nat.reduceEqDiff])|(refine g_c (fun h=>?_) (fun h=>?_)<;>(try simp only[go_sem] at h)<;>(try exact g_f))|(refine g_g ?_;(try simp -implicitDefEqProofs only[go_sem]))|(with_reducible refine hK _ _ ?_;clear hK K)|fail))
      refine hJ _ _ ?_
      clear hJ
      (repeat' (first|(refine g_s fun K hK=>?_)|((first|refine g_t ?_|refine g_g ?_);(try simp -implicitDefEqProofs only[go_sem,hcL, hcS]))|(with_reducible refine hK _ _ ?_;clear hK K)|fail))
      have hro : (newE n).routers.map rtrC = ((p0 :: acc).map fun p => rtrC (freshR n p.1)) := by
        rw [newE, ← h3]
        simp
      refine DeepQ_of rfl (.tupL (.cons (.eng _) (.cons (.c _) .nil))) (.tupL (.cons (.aggL (.cons ?_ (.cons .nil .nil))) (.cons (.same _) .nil)))
      rw [hro]
      refine .ownW (by omega) (es := (p0 :: acc).map (newV n)) ?_ (by simp) (DeepR.map _ fun p hp => .cons (.same _) (.cons (.ownW ?_ (hlk _ _ _ p hp) (by simp) ?_) .nil))
      · rw [List.getElem?_append_right (by omega), show ρ.length + (T.length + 1) - σ.length = (T.length + 2) + 1 by omega, List.getElem?_cons_succ, List.getElem?_cons_succ, List.getElem?_cons_succ, List.getElem?_append_right (by omega), Nat.sub_self]
        rfl
      · have := (h4 p hp).1
        omega
      · have e8 : (freshR n p.1).told.map rowC = List.replicate n.nodes.toNat [.sl []] := by simp [freshR, rowC, intsA]
        rw [e8]
        exact DeepR.repl (.cons .nil .nil) _
  · rw [if_pos h0]
    refine ACalls_of_awp Tryz.func5 rfl Tryz.results5 ?_
    simp only [List.length_cons, List.length_nil, Tryz.ntmps5, Nat.reduceAdd, Nat.reduceSub, enterA]
    refine AWP_seq_k fun K hK => ?_
    (refine AWP_region ?_; simp -implicitDefEqProofs only [go_sem])
    refine hK _ _ ?_; clear hK K
    refine AWP_freezeP 1 rfl (by simp only [st0]; rfl) ?_
    simp only [ss0, List.set_cons_zero]
    (repeat' (first|(refine g_s fun K hK=>?_)|(refine g_c (fun h=>?_) (fun h=>?_)<;>(try simp only[go_sem] at h)<;>(try exact g_f))|((first|refine g_t ?_|refine g_g ?_|refine (hC _).use ?_);(try simp -implicitDefEqProofs only[go_sem,h0]))|(with_reducible refine hK _ _ ?_;clear hK K)|fail))
    exact DeepQ_of rfl (.tupL (.cons (.eng _) (.cons (.c _) .nil))) (.tupL (.cons (.aggL (.cons .nil (.cons .nil .nil))) (.cons (.same _) .nil)))
end Go.Proofs.YtephecognbbaoabGreat
namespace Go.Proofs.YtephecognbbaoabGreat
theorem tabM_eq : eqPlan Tryz.prog 61 = some [(0, false), (1, false), (2, true)] := by kernel_rfl
attribute [go_sem] tabM_eq
theorem sameEngine_calls (e : Eng) (ok : EngOk e) (σ : Store) : ACalls Tryz.prog 36 [.agg (engC e), .agg (engC e)] σ fun r σ' => σ' = σ ∧ r = .c (.bool true) := by
  have hrl := ok.rl
  have hbl := ok.bl
  refine ACalls.cutX ?_
  refine ACalls_of_awp Tryz.func36 rfl Tryz.results36 ?_
  simp only [List.length_cons, List.length_nil, Tryz.ntmps36, Nat.reduceAdd, Nat.reduceSub, enterA]
  refine AWP_seq_k fun K hK => ?_
  (refine AWP_region ?_; simp -implicitDefEqProofs only [go_sem])
  refine hK _ _ ?_; clear hK K
  refine AWP_freezeP 2 rfl (by simp only [st0]; rfl) ?_
  simp only [ss0, List.set_cons_zero]
  refine AWP_freezeP 3 rfl (by simp only [st1]; rfl) ?_
  simp only [ss1, List.set_cons_zero, List.set_cons_succ]
  (repeat' (first|(refine g_s fun K hK=>?_)|(refine g_b ?_)|(refine g_k ?_;simp only[thenQ,blockQ])|(refine g_c (fun h=>?_) (fun h=>?_)<;>(try simp only[go_sem] at h)<;>(try exact g_f))|(refine g_g ?_;(try simp -implicitDefEqProofs only[go_sem]))|(with_reducible refine hK _ _ ?_;clear hK K)|(with_reducible refine splitB_intro (fun h=>?_) (fun h=>?_)<;>(try simp only[go_sem] at h)<;>(try exact g_f)<;>(try simp -implicitDefEqProofs only[go_sem]))|fail))
  have hJ := hK
  clear hK
  refine AWP_each e.routers (fun _ _ _ => True) (fun k _ _ => [(5, intA1 k)]) (fun _ _ _ => σ ++ [.dead, .dead]) () [] trivial rfl (ALe_of ?_) ?_ ?_
  · simp -implicitDefEqProofs only [go_sem]
  · rintro k r s τ hk0 hk1 _ L hL
    obtain ⟨w, hw⟩ : ∃ w, at0 e.routers k = w := ⟨_, rfl⟩
    have hwm := at0_mem e.routers hk0 hk1
    rw [hw] at hwm
    have hwo := ok.rtr w hwm
    have hrl2 := hwo.rl
    have h1 := sameInts_calls w.routes w.routes (by omega)
    have h2 := sameState_calls w.told w.told ⟨by have := hwo.tl; omega, fun l hl => hwo.tr l hl⟩
    rw [decide_eq_true rfl] at h1 h2
    simp -implicitDefEqProofs only [go_sem]
    (repeat' (first|(refine g_s fun K hK=>?_)|(refine g_b ?_)|(refine g_k ?_;simp only[thenQ,blockQ])|(refine g_c (fun h=>?_) (fun h=>?_)<;>(try simp only[go_sem] at h)<;>(try exact g_f))|((first|refine g_g ?_|refine g_U ?_|refine g_q (fun τ=>h1 _) ?_|refine g_q (fun τ=>h2 _) ?_);(try simp -implicitDefEqProofs only[go_sem,hw]))|(with_reducible refine hK _ _ ?_;clear hK K)|(with_reducible refine And.intro ?_ ?_;· exact g_x)|fail))
    refine hL () [] _ _ trivial (ALe_of ?_) rfl
    simp -implicitDefEqProofs only [go_sem]
  · intro k s τ hk _ L
    simp -implicitDefEqProofs only [go_sem]
    (repeat' (first|(refine g_s fun K hK=>?_)|(refine g_e ?_;simp only[thenQ,blockQ,↓reduceIte,Nat.reduceEqDiff])|(refine g_c (fun h=>?_) (fun h=>?_)<;>(try simp only[go_sem] at h)<;>(try exact g_f))|(refine g_g ?_;(try simp -implicitDefEqProofs only[go_sem]))|(with_reducible refine hK _ _ ?_;clear hK K)|fail))
    refine hJ _ _ ?_
    clear hJ
    (repeat' (first|(refine g_s fun K hK=>?_)|(refine g_b ?_)|(refine g_g ?_;(try simp -implicitDefEqProofs only[go_sem]))|(with_reducible refine hK _ _ ?_;clear hK K)|fail))
    have hJ := hK
    clear hK
    refine AWP_each e.bag (fun _ _ _ => True) (fun k _ _ => [(6, intA1 k)]) (fun _ _ _ => σ ++ [.dead, .dead]) () [] trivial rfl (ALe_of ?_) ?_ ?_
    · simp -implicitDefEqProofs only [go_sem]
    · rintro k r s τ hk0 hk1 _ L hL
      obtain ⟨w, hw⟩ : ∃ w, at0 e.bag k = w := ⟨_, rfl⟩
      simp -implicitDefEqProofs only [go_sem]
      (repeat' (first|(refine g_s fun K hK=>?_)|(refine g_b ?_)|(refine g_k ?_;simp only[thenQ,blockQ])|(refine g_c (fun h=>?_) (fun h=>?_)<;>(try simp only[go_sem] at h)<;>(try exact g_f))|((first|refine g_g ?_|refine g_U ?_);(try simp -implicitDefEqProofs only[go_sem,hw, beq_self_eq_true, Bool.not_true]))|(with_reducible refine hK _ _ ?_;clear hK K)|(with_reducible refine And.intro ?_ ?_;· exact g_x)|fail))
      refine hL () [] _ _ trivial (ALe_of ?_) rfl
      simp -implicitDefEqProofs only [go_sem]
    · intro k s τ hk _ L
      simp -implicitDefEqProofs only [go_sem]
      (repeat' (first|(refine g_s fun K hK=>?_)|(refine g_e ?_;simp only[thenQ,blockQ,↓reduceIte,Nat.reduceEqDiff])|(refine g_c (fun h=>?_) (fun h=>?_)<;>(try simp only[go_sem] at h)<;>(try exact g_f))|(refine g_g ?_;(try simp -implicitDefEqProofs only[go_sem]))|(with_reducible refine hK _ _ ?_;clear hK K)|fail))
      refine hJ _ _ ?_
      clear hJ
      (repeat' (first|(refine g_s fun K hK=>?_)|((first|refine g_t ?_|refine g_g ?_);(try simp -implicitDefEqProofs only[go_sem]))|(with_reducible refine hK _ _ ?_;clear hK K)|fail))
      exact CutQ_c rfl rfl
end Go.Proofs.YtephecognbbaoabGreat
namespace Go.Proofs.YtephecognbbaoabGreat
deriving instance DecidableEq for Rtr
deriving instance DecidableEq for Mail
deriving instance DecidableEq for Eng
def twoE0 : Eng := ⟨[⟨[0, 2], [[], []]⟩, ⟨[2, 0], [[], []]⟩], []⟩
def twoE1 : Eng := ⟨[⟨[0, 2], [[], []]⟩, ⟨[2, 0], [[], []]⟩], [⟨1, 0, [83, 1, 0, 2, 2, 0, 253, 126]⟩]⟩
def twoE2 : Eng := ⟨[⟨[0, 1], [[], [2, 0]]⟩, ⟨[2, 0], [[], []]⟩], []⟩
theorem two_new : newR twoN = (twoE0, 0) := by decide +kernel
theorem two_tick : stepR twoN twoE0 ⟨1, 1, 0, 0, []⟩ = (twoE1, 0) := by decide +kernel
theorem two_deliver : stepR twoN twoE1 ⟨2, 0, 0, 0, []⟩ = (twoE2, 0) := by decide +kernel
theorem two_good : checkE twoN twoE2 = 0 := by decide +kernel
theorem twoE0_ok : EngOk twoE0 := ⟨by decide, fun r hr => by
  simp only [twoE0, List.mem_cons, List.not_mem_nil, or_false] at hr
  rcases hr with rfl | rfl <;> exact ⟨by decide, by decide, by decide⟩, by decide, fun m hm => by cases hm⟩
theorem twoE1_ok : EngOk twoE1 := ⟨by decide, fun r hr => by
  simp only [twoE1, List.mem_cons, List.not_mem_nil, or_false] at hr
  rcases hr with rfl | rfl <;> exact ⟨by decide, by decide, by decide⟩, by decide, fun m hm => by
  simp only [twoE1, List.mem_cons, List.not_mem_nil, or_false] at hm
  subst hm
  exact ⟨by unfold I64; decide, by unfold I64; decide, by decide, by decide⟩⟩
theorem twoE2_ok : EngOk twoE2 := ⟨by decide, fun r hr => by
  simp only [twoE2, List.mem_cons, List.not_mem_nil, or_false] at hr
  rcases hr with rfl | rfl <;> exact ⟨by decide, by decide, by decide⟩, by decide, fun m hm => by cases hm⟩
theorem engineBegun_calls (σ : Store) : ACalls Tryz.prog 11 [] σ fun r σ' => σ' = σ ∧ r = .c (.bool true) := by
  have hB := enew_calls twoN twoN_ok
  rw [two_new] at hB
  have hS1 := estep_calls twoN twoE0 twoN_ok twoE0_ok ⟨1, 1, 0, 0, []⟩ (by decide)
  rw [two_tick] at hS1
  have hS2 := estep_calls twoN twoE1 twoN_ok twoE1_ok ⟨2, 0, 0, 0, []⟩ (by decide)
  rw [two_deliver] at hS2
  have hC := checkE_calls twoN twoE2 twoN_ok twoE2_ok
  rw [two_good] at hC
  have hE : ∀ S, ACalls Tryz.prog 35 [intsA [0, 1], intsA [0, 1]] S fun r σ' => σ' = S ∧ r = .c (.bool true) := fun S => sameInts_calls [0, 1] [0, 1] (by decide) S
  have hS1' : ∀ S, ACalls Tryz.prog 4 [.agg (netC twoN), .agg (engC twoE0), .agg [intA1 1, intA1 1, intA1 0, intA1 0, .c (.slice none 0 0)]] S fun r σ' => σ' = S ∧ r = .tup [.agg (engC twoE1), intA1 0] := fun S => ((hS1 S).argW (by (repeat' (first | exact Wk.nil | exact Wk.emp | exact WkL.nil | (with_reducible exact Wk.refl _) | refine Wk.agg ?_ | refine Wk.tup ?_ | refine WkL.cons ?_ ?_ | (refine Wk.eq ?_; rfl)))) )
  have hS2' : ∀ S, ACalls Tryz.prog 4 [.agg (netC twoN), .agg (engC twoE1), .agg [intA1 2, intA1 0, intA1 0, intA1 0, .c (.slice none 0 0)]] S fun r σ' => σ' = S ∧ r = .tup [.agg (engC twoE2), intA1 0] := fun S => ((hS2 S).argW (by (repeat' (first | exact Wk.nil | exact Wk.emp | exact WkL.nil | (with_reducible exact Wk.refl _) | refine Wk.agg ?_ | refine Wk.tup ?_ | refine WkL.cons ?_ ?_ | (refine Wk.eq ?_; rfl)))) )
  refine ACalls.cutX ?_
  refine ACalls_of_awp Tryz.func11 rfl Tryz.results11 ?_
  simp only [List.length_cons, List.length_nil, Tryz.ntmps11, Nat.reduceAdd, Nat.reduceSub, enterA]
  (repeat' (first|(refine g_s fun K hK=>?_)|((first|refine g_t ?_|refine g_G ?_|refine g_U ?_|refine (two_calls _).use ?_|refine g_q (fun τ=>two_calls _) ?_|refine (hB _).use ?_|refine g_q (fun τ=>hS1' _) ?_|refine g_q (fun τ=>hS2' _) ?_|refine g_q (fun τ=>hC _) ?_|refine g_q (fun τ=>hE _) ?_|refine AWP_drawX tab_mixed (by decide +kernel) ?_);(try simp -implicitDefEqProofs only[go_sem,twoE2]))|(with_reducible refine hK _ _ ?_;clear hK K)|(with_reducible refine splitB_intro (fun h=>?_) (fun h=>?_)<;>(try simp only[go_sem] at h)<;>(try exact g_f)<;>(try simp -implicitDefEqProofs only[go_sem,twoE2]))|fail))
  exact CutQ_c rfl rfl
end Go.Proofs.YtephecognbbaoabGreat
namespace Go.Proofs.YtephecognbbaoabGreat
theorem engineIs_ok (e : Eng) (ok : EngOk e) (σ : Store) : ACalls Tryz.prog 12 [.agg (engC e), intA1 0, intA1 0, .agg (engC e)] σ fun r σ' => σ' = σ ∧ r = .c (.bool true) := by
  have hS := fun S => sameEngine_calls e ok S
  refine ACalls.cutX ?_
  refine ACalls_of_awp Tryz.func12 rfl Tryz.results12 ?_
  simp only [List.length_cons, List.length_nil, Tryz.ntmps12, Nat.reduceAdd, Nat.reduceSub, enterA]
  (repeat' (first|(refine g_s fun K hK=>?_)|(refine g_k ?_;simp only[thenQ,blockQ])|(refine g_c (fun h=>?_) (fun h=>?_)<;>(try simp only[go_sem] at h)<;>(try exact g_f))|((first|refine g_t ?_|refine g_g ?_|refine (hS _).use ?_);(try simp -implicitDefEqProofs only[go_sem]))|(with_reducible refine hK _ _ ?_;clear hK K)|(with_reducible refine splitB_intro (fun h=>?_) (fun h=>?_)<;>(try simp only[go_sem] at h)<;>(try exact g_f)<;>(try simp -implicitDefEqProofs only[go_sem]))|fail))
  all_goals exact CutQ_c rfl rfl
theorem noE_ok : EngOk noE := ⟨by simp [noE], by simp [noE], by simp [noE], by simp [noE]⟩
theorem engineIs_no (w : Int) (hw : w ≠ 0) (q1 q2 : AV) (h1 : oneA q1 = true) (h2 : oneA q2 = true) (σ : Store) : ACalls Tryz.prog 12 [.agg (engC noE), intA1 w, intA1 w, .agg [q1, q2]] σ fun r σ' => σ' = σ ∧ r = .c (.bool true) := by
  have hS : ∀ S, ACalls Tryz.prog 36 [.agg (engC noE), .agg [.c (.slice none 0 0), .c (.slice none 0 0)]] S fun r S' => S' = S ∧ r = .c (.bool true) := fun S => ((sameEngine_calls noE noE_ok S).argW (by (repeat' (first | exact Wk.nil | exact Wk.emp | exact WkL.nil | (with_reducible exact Wk.refl _) | refine Wk.agg ?_ | refine Wk.tup ?_ | refine WkL.cons ?_ ?_ | (refine Wk.eq ?_; rfl)))) )
  refine ACalls.cutX ?_
  refine ACalls_of_awp Tryz.func12 rfl Tryz.results12 ?_
  simp only [List.length_cons, List.length_nil, Tryz.ntmps12, Nat.reduceAdd, Nat.reduceSub, enterA]
  (repeat' (first|(refine g_s fun K hK=>?_)|(refine g_c (fun h=>?_) (fun h=>?_)<;>(try simp only[go_sem] at h)<;>(try exact g_f))|((first|refine g_t ?_|refine g_g ?_|refine (hS _).use ?_);(try simp -implicitDefEqProofs only[go_sem,hw, h1, h2]))|(with_reducible refine hK _ _ ?_;clear hK K)|(with_reducible refine splitB_intro (fun h=>?_) (fun h=>?_)<;>(try simp only[go_sem] at h)<;>(try exact g_f)<;>(try simp -implicitDefEqProofs only[go_sem,hw, h1, h2]))|fail))
  all_goals exact CutQ_c rfl rfl
end Go.Proofs.YtephecognbbaoabGreat
