/- Plans: pairs of algebras, built by the program. -/
import Derived.Test.YtephecognbbaoaaBn
namespace Go.Proofs.Ytephecognbbaoaa
open Go
set_option linter.all false
set_option maxRecDepth 100000
set_option maxHeartbeats 4000000

theorem FormA.best_len {a : Alg} (h : FormA a) {i : Int} (h0 : 0 ≤ i) (h1 : i < a.size) : ((at0 a.best i).length : Int) = a.size :=
  h.row _ (List.mem_append_left _ (at0_mem a.best h0 (by have := h.bl; omega)))
theorem FormA.edge_len {a : Alg} (h : FormA a) {i : Int} (h0 : 0 ≤ i) (h1 : i < a.edges.length) : ((at0 a.edges i).length : Int) = a.size :=
  h.row _ (List.mem_append_right _ (at0_mem a.edges h0 h1))
theorem form_last {x y : Alg} (fx : FormA x) (fy : FormA y) : 1 ≤ (x.size - 1) * (y.size - 1) ∧ (x.size - 1) * (y.size - 1) ≤ 529 := by
  have h1 := fx.s2
  have h2 := fx.s24
  have h3 := fy.s2
  have h4 := fy.s24
  exact ⟨(form_pairOk fx fy).last, (size_mul ⟨h1, h2⟩ ⟨h3, h4⟩).2⟩

theorem p1_calls (x y : Alg) (fx : FormA x) (fy : FormA y) (p q : Int) (p0 : 0 ≤ p) (p1 : p < x.size) (q0 : 0 ≤ q) (q1 : q < y.size) (σ : Store) :
    ACalls Try.prog 124 [intA1 p, intA1 q, .cp (algC x) 0, .cp [intA1 (y.size - 1)] 0, .cp [intA1 ((x.size - 1) * (y.size - 1))] 0] σ fun r σ' => σ' = σ ∧ r = intA1 (pairN x y p q) := by
  have hN := form_last fx fy
  have h2 := fx.s2
  have h24 := fx.s24
  have y2 := fy.s2
  have hok := form_pairOk fx fy
  rw [pairN]
  have hmul : p ≠ x.size - 1 → q ≠ y.size - 1 → 0 ≤ p * (y.size - 1) ∧ p * (y.size - 1) + q < (x.size - 1) * (y.size - 1) := fun a b => by
    have := hok.mul p0 (by omega) q0 (by omega)
    have h1 : 0 ≤ p * (y.size - 1) := Int.mul_nonneg p0 (by omega)
    omega
  obtain ⟨L, hL⟩ : ∃ L, (x.size - 1) * (y.size - 1) = L := ⟨_, rfl⟩
  rw [hL] at hN hmul ⊢
  obtain ⟨m, hm⟩ : ∃ m, y.size - 1 = m := ⟨_, rfl⟩
  obtain ⟨pm, hpm⟩ : ∃ pm, p * m = pm := ⟨_, rfl⟩
  rw [hm] at hmul ⊢
  rw [hpm] at hmul ⊢
  have i1 : I64 (x.size - 1) := by unfold I64; omega
  refine ACalls.cutX ?_
  by_cases hp : p = x.size - 1
  · rw [if_pos (Or.inl hp)]
    refine ACalls_of_awp Try.func124 rfl Try.results124 ?_
    simp only [List.length_cons, List.length_nil, Try.ntmps124, Nat.reduceAdd, Nat.reduceSub, enterA]
    (repeat' (first|(refine g_s fun K hK=>?_)|(refine g_b ?_)|(refine g_r ?_)|(refine g_k ?_;simp only[thenQ,blockQ])|(refine g_e ?_;simp only[thenQ,blockQ,↓reduceIte,Nat.reduceEqDiff])|(refine g_c (fun h=>?_) (fun h=>?_)<;>(try simp only[go_sem] at h)<;>(try exact g_f))|((first|refine g_t ?_|refine g_g ?_|refine g_U ?_|refine g_A ?_|refine g_W ?_);(try simp -implicitDefEqProofs only[go_sem,i1]))|(with_reducible refine hK _ _ ?_;clear hK K)|(clear hK K;first|(with_reducible refine hK _ _ ?_;clear hK K)|(clear hK K;with_reducible refine hK _ _ ?_;clear hK K)|(clear hK K;clear hK K;with_reducible refine hK _ _ ?_;clear hK K))|(with_reducible refine splitB_intro (fun h=>?_) (fun h=>?_)<;>(try simp only[go_sem] at h)<;>(try exact g_f)<;>(try simp -implicitDefEqProofs only[go_sem,i1]))|(with_reducible refine And.intro (fun h=>?_) (fun h=>?_)<;>(try simp only[go_sem] at h)<;>(try exact g_f))|(with_reducible refine And.intro ?_ ?_;· exact g_x)|(with_reducible intro h;(try simp only[go_sem] at h);(try exact g_f))))
    exact CutQ_c (τ := []) (by simp) rfl
  · by_cases hq : q = m
    · rw [if_pos (Or.inr hq)]
      refine ACalls_of_awp Try.func124 rfl Try.results124 ?_
      simp only [List.length_cons, List.length_nil, Try.ntmps124, Nat.reduceAdd, Nat.reduceSub, enterA]
      (repeat' (first|(refine g_s fun K hK=>?_)|(refine g_b ?_)|(refine g_r ?_)|(refine g_k ?_;simp only[thenQ,blockQ])|(refine g_e ?_;simp only[thenQ,blockQ,↓reduceIte,Nat.reduceEqDiff])|(refine g_c (fun h=>?_) (fun h=>?_)<;>(try simp only[go_sem] at h)<;>(try exact g_f))|((first|refine g_t ?_|refine g_g ?_|refine g_U ?_|refine g_A ?_|refine g_W ?_);(try simp -implicitDefEqProofs only[go_sem,i1]))|(with_reducible refine hK _ _ ?_;clear hK K)|(clear hK K;first|(with_reducible refine hK _ _ ?_;clear hK K)|(clear hK K;with_reducible refine hK _ _ ?_;clear hK K)|(clear hK K;clear hK K;with_reducible refine hK _ _ ?_;clear hK K))|(with_reducible refine splitB_intro (fun h=>?_) (fun h=>?_)<;>(try simp only[go_sem] at h)<;>(try exact g_f)<;>(try simp -implicitDefEqProofs only[go_sem,i1]))|(with_reducible refine And.intro (fun h=>?_) (fun h=>?_)<;>(try simp only[go_sem] at h)<;>(try exact g_f))|(with_reducible refine And.intro ?_ ?_;· exact g_x)|(with_reducible intro h;(try simp only[go_sem] at h);(try exact g_f))))
      exact CutQ_c (τ := []) (by simp) rfl
    · rw [if_neg (by rw [not_or]; exact ⟨hp, hq⟩)]
      have h := hmul hp hq
      have i2 : I64 pm := by unfold I64; omega
      have i3 : I64 (pm + q) := by unfold I64; omega
      refine ACalls_of_awp Try.func124 rfl Try.results124 ?_
      simp only [List.length_cons, List.length_nil, Try.ntmps124, Nat.reduceAdd, Nat.reduceSub, enterA]
      (repeat' (first|(refine g_s fun K hK=>?_)|(refine g_b ?_)|(refine g_r ?_)|(refine g_k ?_;simp only[thenQ,blockQ])|(refine g_e ?_;simp only[thenQ,blockQ,↓reduceIte,Nat.reduceEqDiff])|(refine g_c (fun h=>?_) (fun h=>?_)<;>(try simp only[go_sem] at h)<;>(try exact g_f))|((first|refine g_t ?_|refine g_g ?_|refine g_U ?_|refine g_A ?_|refine g_W ?_);(try simp -implicitDefEqProofs only[go_sem,i1, hpm, i2, i3]))|(with_reducible refine hK _ _ ?_;clear hK K)|(clear hK K;first|(with_reducible refine hK _ _ ?_;clear hK K)|(clear hK K;with_reducible refine hK _ _ ?_;clear hK K)|(clear hK K;clear hK K;with_reducible refine hK _ _ ?_;clear hK K))|(with_reducible refine splitB_intro (fun h=>?_) (fun h=>?_)<;>(try simp only[go_sem] at h)<;>(try exact g_f)<;>(try simp -implicitDefEqProofs only[go_sem,i1, hpm, i2, i3]))|(with_reducible refine And.intro (fun h=>?_) (fun h=>?_)<;>(try simp only[go_sem] at h)<;>(try exact g_f))|(with_reducible refine And.intro ?_ ?_;· exact g_x)|(with_reducible intro h;(try simp only[go_sem] at h);(try exact g_f))))
      exact CutQ_c (τ := []) (by simp) rfl

theorem p2_calls (x y : Alg) (fx : FormA x) (fy : FormA y) (i k : Int) (i0 : 0 ≤ i) (i1 : i < (x.size - 1) * (y.size - 1) + 1) (k0 : 0 ≤ k) (k1 : k < (x.size - 1) * (y.size - 1) + 1) (σ : Store) :
    ACalls Try.prog 125 [intA1 i, intA1 k, .cp [intA1 ((x.size - 1) * (y.size - 1))] 0, .cp [intA1 (y.size - 1)] 0, .cp [.fn 124 [] [.cp (algC x) 0, .cp [intA1 (y.size - 1)] 0, .cp [intA1 ((x.size - 1) * (y.size - 1))] 0]] 0, .cp (algC y) 0, .cp (algC x) 0] σ
      fun r σ' => σ' = σ ∧ r = intA1 (pairBest x y i k) := by
  have hN := form_last fx fy
  have x2 := fx.s2
  have x24 := fx.s24
  have y2 := fy.s2
  have y24 := fy.s24
  have xb := fx.bl
  have yb := fy.bl
  have hok := form_pairOk fx fy
  have hok1 : callOk Try.prog 124 = true := by kernel_rfl
  have hdi := fun h => hok.div (i := i) i0 h
  have hdk := fun h => hok.div (i := k) k0 h
  have hmi := hok.mod (i := i)
  have hmk := hok.mod (i := k)
  have hP := p1_calls x y fx fy
  have ti : i.tdiv (y.size - 1) = i / (y.size - 1) := Int.tdiv_eq_ediv_of_nonneg i0
  have tk : k.tdiv (y.size - 1) = k / (y.size - 1) := Int.tdiv_eq_ediv_of_nonneg k0
  have ri : i.tmod (y.size - 1) = i % (y.size - 1) := Int.tmod_eq_emod_of_nonneg i0
  have rk : k.tmod (y.size - 1) = k % (y.size - 1) := Int.tmod_eq_emod_of_nonneg k0
  rw [pairBest]
  obtain ⟨L, hL⟩ : ∃ L, (x.size - 1) * (y.size - 1) = L := ⟨_, rfl⟩
  rw [hL] at hN hP hdi hdk i1 k1 ⊢
  have hbl := fun {j} => fx.best_len (i := j)
  have hybl := fun {j} => fy.best_len (i := j)
  have hyin := fun {i j} => fy.best_in (i := i) (j := j)
  obtain ⟨m, hm⟩ : ∃ m, y.size - 1 = m := ⟨_, rfl⟩
  rw [hm] at hP hdi hdk hmi hmk ti tk ri rk ⊢
  obtain ⟨a, ha⟩ : ∃ a, i / m = a := ⟨_, rfl⟩
  obtain ⟨b, hb⟩ : ∃ b, i % m = b := ⟨_, rfl⟩
  obtain ⟨c, hc⟩ : ∃ c, k / m = c := ⟨_, rfl⟩
  obtain ⟨d, hd⟩ : ∃ d, k % m = d := ⟨_, rfl⟩
  rw [ha] at hdi ti ⊢
  rw [hb] at hmi ri ⊢
  rw [hc] at hdk tk ⊢
  rw [hd] at hmk rk ⊢
  refine ACalls.cutX ?_
  by_cases hiL : i = L
  · rw [if_pos hiL]
    refine ACalls_of_awp Try.func125 rfl Try.results125 ?_
    simp only [List.length_cons, List.length_nil, Try.ntmps125, Nat.reduceAdd, Nat.reduceSub, enterA]
    (repeat' (first|(refine g_s fun K hK=>?_)|(refine g_b ?_)|(refine g_r ?_)|(refine g_k ?_;simp only[thenQ,blockQ])|(refine g_e ?_;simp only[thenQ,blockQ,↓reduceIte,Nat.reduceEqDiff])|(refine g_c (fun h=>?_) (fun h=>?_)<;>(try simp only[go_sem] at h)<;>(try exact g_f))|((first|refine g_t ?_|refine g_g ?_|refine g_U ?_|refine g_A ?_|refine g_W ?_);(try simp -implicitDefEqProofs only[go_sem,hiL]))|(with_reducible refine hK _ _ ?_;clear hK K)|(clear hK K;first|(with_reducible refine hK _ _ ?_;clear hK K)|(clear hK K;with_reducible refine hK _ _ ?_;clear hK K)|(clear hK K;clear hK K;with_reducible refine hK _ _ ?_;clear hK K))|(with_reducible refine splitB_intro (fun h=>?_) (fun h=>?_)<;>(try simp only[go_sem] at h)<;>(try exact g_f)<;>(try simp -implicitDefEqProofs only[go_sem,hiL]))|(with_reducible refine And.intro (fun h=>?_) (fun h=>?_)<;>(try simp only[go_sem] at h)<;>(try exact g_f))|(with_reducible refine And.intro ?_ ?_;· exact g_x)|(with_reducible intro h;(try simp only[go_sem] at h);(try exact g_f))))
    exact CutQ_c (τ := []) (by simp) rfl
  rw [if_neg hiL]
  by_cases hkL : k = L
  · rw [if_pos hkL]
    refine ACalls_of_awp Try.func125 rfl Try.results125 ?_
    simp only [List.length_cons, List.length_nil, Try.ntmps125, Nat.reduceAdd, Nat.reduceSub, enterA]
    (repeat' (first|(refine g_s fun K hK=>?_)|(refine g_b ?_)|(refine g_r ?_)|(refine g_k ?_;simp only[thenQ,blockQ])|(refine g_e ?_;simp only[thenQ,blockQ,↓reduceIte,Nat.reduceEqDiff])|(refine g_c (fun h=>?_) (fun h=>?_)<;>(try simp only[go_sem] at h)<;>(try exact g_f))|((first|refine g_t ?_|refine g_g ?_|refine g_U ?_|refine g_A ?_|refine g_W ?_);(try simp -implicitDefEqProofs only[go_sem,hiL, hkL]))|(with_reducible refine hK _ _ ?_;clear hK K)|(clear hK K;first|(with_reducible refine hK _ _ ?_;clear hK K)|(clear hK K;with_reducible refine hK _ _ ?_;clear hK K)|(clear hK K;clear hK K;with_reducible refine hK _ _ ?_;clear hK K))|(with_reducible refine splitB_intro (fun h=>?_) (fun h=>?_)<;>(try simp only[go_sem] at h)<;>(try exact g_f)<;>(try simp -implicitDefEqProofs only[go_sem,hiL, hkL]))|(with_reducible refine And.intro (fun h=>?_) (fun h=>?_)<;>(try simp only[go_sem] at h)<;>(try exact g_f))|(with_reducible refine And.intro ?_ ?_;· exact g_x)|(with_reducible intro h;(try simp only[go_sem] at h);(try exact g_f))))
    exact CutQ_c (τ := []) (by simp) rfl
  rw [if_neg hkL]
  have hdi := hdi (by omega)
  have hdk := hdk (by omega)
  have hm0 : ¬ m = 0 := by omega
  have hbx := hbl hdi.1 (by omega)
  have hby := hybl hmi.1 (by omega)
  have ia : I64 a := by unfold I64; omega
  have ic : I64 c := by unfold I64; omega
  by_cases hac : a = c
  · rw [if_pos hac]
    have hin := hyin hmi.1 (by omega) hmk.1 (by omega)
    have hP := hP a (at2 y.best b d) hdi.1 (by omega) hin.1 hin.2
    have e2 : at2 y.best b d = at0 (at0 y.best b) d := rfl
    rw [e2] at hP ⊢
    refine ACalls_of_awp Try.func125 rfl Try.results125 ?_
    simp only [List.length_cons, List.length_nil, Try.ntmps125, Nat.reduceAdd, Nat.reduceSub, enterA]
    (repeat' (first|(refine g_s fun K hK=>?_)|(refine g_b ?_)|(refine g_r ?_)|(refine g_k ?_;simp only[thenQ,blockQ])|(refine g_e ?_;simp only[thenQ,blockQ,↓reduceIte,Nat.reduceEqDiff])|(refine g_c (fun h=>?_) (fun h=>?_)<;>(try simp only[go_sem] at h)<;>(try exact g_f))|((first|refine g_t ?_|refine g_g ?_|refine g_U ?_|refine g_A ?_|refine (hP _).use ?_|refine g_q (fun τ=>hP _) ?_|refine g_W ?_);(try simp -implicitDefEqProofs only[go_sem,hiL, hkL, ti, tk, ri, rk, hm0, ia, ic, hok1]))|(with_reducible refine hK _ _ ?_;clear hK K)|(clear hK K;first|(with_reducible refine hK _ _ ?_;clear hK K)|(clear hK K;with_reducible refine hK _ _ ?_;clear hK K)|(clear hK K;clear hK K;with_reducible refine hK _ _ ?_;clear hK K))|(with_reducible refine splitB_intro (fun h=>?_) (fun h=>?_)<;>(try simp only[go_sem] at h)<;>(try exact g_f)<;>(try simp -implicitDefEqProofs only[go_sem,hiL, hkL, ti, tk, ri, rk, hm0, ia, ic, hok1]))|(with_reducible refine And.intro (fun h=>?_) (fun h=>?_)<;>(try simp only[go_sem] at h)<;>(try exact g_f))|(with_reducible refine And.intro ?_ ?_;· exact g_x)|(with_reducible intro h;(try simp only[go_sem] at h);(try exact g_f))))
    exact CutQ_c (τ := []) (by simp) rfl
  · rw [if_neg hac]
    have e2 : at2 x.best a c = at0 (at0 x.best a) c := rfl
    rw [e2]
    by_cases hx : at0 (at0 x.best a) c = a
    · rw [if_pos hx]
      refine ACalls_of_awp Try.func125 rfl Try.results125 ?_
      simp only [List.length_cons, List.length_nil, Try.ntmps125, Nat.reduceAdd, Nat.reduceSub, enterA]
      (repeat' (first|(refine g_s fun K hK=>?_)|(refine g_b ?_)|(refine g_r ?_)|(refine g_k ?_;simp only[thenQ,blockQ])|(refine g_e ?_;simp only[thenQ,blockQ,↓reduceIte,Nat.reduceEqDiff])|(refine g_c (fun h=>?_) (fun h=>?_)<;>(try simp only[go_sem] at h)<;>(try exact g_f))|((first|refine g_t ?_|refine g_g ?_|refine g_U ?_|refine g_A ?_|refine g_W ?_);(try simp -implicitDefEqProofs only[go_sem,hiL, hkL, ti, tk, ri, rk, hm0, ia, ic, hx]))|(with_reducible refine hK _ _ ?_;clear hK K)|(clear hK K;first|(with_reducible refine hK _ _ ?_;clear hK K)|(clear hK K;with_reducible refine hK _ _ ?_;clear hK K)|(clear hK K;clear hK K;with_reducible refine hK _ _ ?_;clear hK K))|(with_reducible refine splitB_intro (fun h=>?_) (fun h=>?_)<;>(try simp only[go_sem] at h)<;>(try exact g_f)<;>(try simp -implicitDefEqProofs only[go_sem,hiL, hkL, ti, tk, ri, rk, hm0, ia, ic, hx]))|(with_reducible refine And.intro (fun h=>?_) (fun h=>?_)<;>(try simp only[go_sem] at h)<;>(try exact g_f))|(with_reducible refine And.intro ?_ ?_;· exact g_x)|(with_reducible intro h;(try simp only[go_sem] at h);(try exact g_f))))
      exact CutQ_c (τ := []) (by simp) rfl
    · rw [if_neg hx]
      refine ACalls_of_awp Try.func125 rfl Try.results125 ?_
      simp only [List.length_cons, List.length_nil, Try.ntmps125, Nat.reduceAdd, Nat.reduceSub, enterA]
      (repeat' (first|(refine g_s fun K hK=>?_)|(refine g_b ?_)|(refine g_r ?_)|(refine g_k ?_;simp only[thenQ,blockQ])|(refine g_e ?_;simp only[thenQ,blockQ,↓reduceIte,Nat.reduceEqDiff])|(refine g_c (fun h=>?_) (fun h=>?_)<;>(try simp only[go_sem] at h)<;>(try exact g_f))|((first|refine g_t ?_|refine g_g ?_|refine g_U ?_|refine g_A ?_|refine g_W ?_);(try simp -implicitDefEqProofs only[go_sem,hiL, hkL, ti, tk, ri, rk, hm0, ia, ic]))|(with_reducible refine hK _ _ ?_;clear hK K)|(clear hK K;first|(with_reducible refine hK _ _ ?_;clear hK K)|(clear hK K;with_reducible refine hK _ _ ?_;clear hK K)|(clear hK K;clear hK K;with_reducible refine hK _ _ ?_;clear hK K))|(with_reducible refine splitB_intro (fun h=>?_) (fun h=>?_)<;>(try simp only[go_sem] at h)<;>(try exact g_f)<;>(try simp -implicitDefEqProofs only[go_sem,hiL, hkL, ti, tk, ri, rk, hm0, ia, ic]))|(with_reducible refine And.intro (fun h=>?_) (fun h=>?_)<;>(try simp only[go_sem] at h)<;>(try exact g_f))|(with_reducible refine And.intro ?_ ?_;· exact g_x)|(with_reducible intro h;(try simp only[go_sem] at h);(try exact g_f))))
      exact CutQ_c (τ := []) (by simp) rfl

theorem p3_calls (x y : Alg) (fx : FormA x) (fy : FormA y) (he : x.edges.length = y.edges.length) (e k : Int) (e0 : 0 ≤ e) (e1 : e < x.edges.length) (k0 : 0 ≤ k) (k1 : k < (x.size - 1) * (y.size - 1) + 1) (σ : Store) :
    ACalls Try.prog 126 [intA1 e, intA1 k, .cp [intA1 ((x.size - 1) * (y.size - 1))] 0, .cp [.fn 124 [] [.cp (algC x) 0, .cp [intA1 (y.size - 1)] 0, .cp [intA1 ((x.size - 1) * (y.size - 1))] 0]] 0, .cp (algC x) 0, .cp [intA1 (y.size - 1)] 0, .cp (algC y) 0] σ
      fun r σ' => σ' = σ ∧ r = intA1 (pairEdge x y e k) := by
  have hN := form_last fx fy
  have x2 := fx.s2
  have x24 := fx.s24
  have y2 := fy.s2
  have y24 := fy.s24
  have hok := form_pairOk fx fy
  have hok1 : callOk Try.prog 124 = true := by kernel_rfl
  have hdk := fun h => hok.div (i := k) k0 h
  have hmk := hok.mod (i := k)
  have hP := p1_calls x y fx fy
  have tk : k.tdiv (y.size - 1) = k / (y.size - 1) := Int.tdiv_eq_ediv_of_nonneg k0
  have rk : k.tmod (y.size - 1) = k % (y.size - 1) := Int.tmod_eq_emod_of_nonneg k0
  rw [pairEdge]
  obtain ⟨L, hL⟩ : ∃ L, (x.size - 1) * (y.size - 1) = L := ⟨_, rfl⟩
  rw [hL] at hN hP hdk k1 ⊢
  have hxe := fx.edge_len e0 e1
  have hye := fy.edge_len e0 (by omega)
  have hxin := fun {j} => fx.edge_in (j := j) e0 e1
  have hyin := fun {j} => fy.edge_in (j := j) e0 (by omega)
  obtain ⟨m, hm⟩ : ∃ m, y.size - 1 = m := ⟨_, rfl⟩
  rw [hm] at hP hdk hmk tk rk ⊢
  obtain ⟨c, hc⟩ : ∃ c, k / m = c := ⟨_, rfl⟩
  obtain ⟨d, hd⟩ : ∃ d, k % m = d := ⟨_, rfl⟩
  rw [hc] at hdk tk ⊢
  rw [hd] at hmk rk ⊢
  refine ACalls.cutX ?_
  by_cases hkL : k = L
  · rw [if_pos hkL]
    refine ACalls_of_awp Try.func126 rfl Try.results126 ?_
    simp only [List.length_cons, List.length_nil, Try.ntmps126, Nat.reduceAdd, Nat.reduceSub, enterA]
    (repeat' (first|(refine g_s fun K hK=>?_)|(refine g_b ?_)|(refine g_r ?_)|(refine g_k ?_;simp only[thenQ,blockQ])|(refine g_e ?_;simp only[thenQ,blockQ,↓reduceIte,Nat.reduceEqDiff])|(refine g_c (fun h=>?_) (fun h=>?_)<;>(try simp only[go_sem] at h)<;>(try exact g_f))|((first|refine g_t ?_|refine g_g ?_|refine g_U ?_|refine g_A ?_|refine g_W ?_);(try simp -implicitDefEqProofs only[go_sem,hkL]))|(with_reducible refine hK _ _ ?_;clear hK K)|(clear hK K;first|(with_reducible refine hK _ _ ?_;clear hK K)|(clear hK K;with_reducible refine hK _ _ ?_;clear hK K)|(clear hK K;clear hK K;with_reducible refine hK _ _ ?_;clear hK K))|(with_reducible refine splitB_intro (fun h=>?_) (fun h=>?_)<;>(try simp only[go_sem] at h)<;>(try exact g_f)<;>(try simp -implicitDefEqProofs only[go_sem,hkL]))|(with_reducible refine And.intro (fun h=>?_) (fun h=>?_)<;>(try simp only[go_sem] at h)<;>(try exact g_f))|(with_reducible refine And.intro ?_ ?_;· exact g_x)|(with_reducible intro h;(try simp only[go_sem] at h);(try exact g_f))))
    exact CutQ_c (τ := []) (by simp) rfl
  rw [if_neg hkL]
  have hdk := hdk (by omega)
  have hm0 : ¬ m = 0 := by omega
  have ic : I64 c := by unfold I64; omega
  have h1 := hxin (j := c) hdk.1 (by omega)
  have h2 := hyin (j := d) hmk.1 (by omega)
  have hP := hP (at2 x.edges e c) (at2 y.edges e d) h1.1 h1.2 h2.1 h2.2
  have e2 : at2 x.edges e c = at0 (at0 x.edges e) c := rfl
  have e3 : at2 y.edges e d = at0 (at0 y.edges e) d := rfl
  rw [e2, e3] at hP ⊢
  refine ACalls_of_awp Try.func126 rfl Try.results126 ?_
  simp only [List.length_cons, List.length_nil, Try.ntmps126, Nat.reduceAdd, Nat.reduceSub, enterA]
  (repeat' (first|(refine g_s fun K hK=>?_)|(refine g_b ?_)|(refine g_r ?_)|(refine g_k ?_;simp only[thenQ,blockQ])|(refine g_e ?_;simp only[thenQ,blockQ,↓reduceIte,Nat.reduceEqDiff])|(refine g_c (fun h=>?_) (fun h=>?_)<;>(try simp only[go_sem] at h)<;>(try exact g_f))|((first|refine g_t ?_|refine g_g ?_|refine g_U ?_|refine g_A ?_|refine (hP _).use ?_|refine g_q (fun τ=>hP _) ?_|refine g_W ?_);(try simp -implicitDefEqProofs only[go_sem,hkL, tk, rk, hm0, ic, hok1]))|(with_reducible refine hK _ _ ?_;clear hK K)|(clear hK K;first|(with_reducible refine hK _ _ ?_;clear hK K)|(clear hK K;with_reducible refine hK _ _ ?_;clear hK K)|(clear hK K;clear hK K;with_reducible refine hK _ _ ?_;clear hK K))|(with_reducible refine splitB_intro (fun h=>?_) (fun h=>?_)<;>(try simp only[go_sem] at h)<;>(try exact g_f)<;>(try simp -implicitDefEqProofs only[go_sem,hkL, tk, rk, hm0, ic, hok1]))|(with_reducible refine And.intro (fun h=>?_) (fun h=>?_)<;>(try simp only[go_sem] at h)<;>(try exact g_f))|(with_reducible refine And.intro ?_ ?_;· exact g_x)|(with_reducible intro h;(try simp only[go_sem] at h);(try exact g_f))))
  exact CutQ_c (τ := []) (by simp) rfl

theorem pair_calls (x y : Alg) (fx : FormA x) (fy : FormA y) (he : x.edges.length = y.edges.length) (h24 : (x.size - 1) * (y.size - 1) + 1 ≤ 24) (hel : x.edges.length ≤ 24) (σ : Store) :
    ACalls Try.prog 104 [.agg (algC x), .agg (algC y)] σ fun r σ' => ∃ τ, σ' = σ ++ τ ∧ OwnAlg (σ ++ τ) σ.length r (pairA x y) := by
  have hN := form_last fx fy
  have x2 := fx.s2
  have x24 := fx.s24
  have y2 := fy.s2
  have y24 := fy.s24
  have hT1 := tableC_calls 125 [] [.cp [intA1 ((x.size - 1) * (y.size - 1))] 0, .cp [intA1 (y.size - 1)] 0, .cp [.fn 124 [] [.cp (algC x) 0, .cp [intA1 (y.size - 1)] 0, .cp [intA1 ((x.size - 1) * (y.size - 1))] 0]] 0, .cp (algC y) 0, .cp (algC x) 0] (pairBest x y)
    ((x.size - 1) * (y.size - 1) + 1) ((x.size - 1) * (y.size - 1) + 1) (by omega) (by omega) (by omega) (by omega) (by kernel_rfl) (fun i k i0 i1 k0 k1 S => p2_calls x y fx fy i k i0 i1 k0 k1 S)
  have hT2 := table_calls 126 [] [.cp [intA1 ((x.size - 1) * (y.size - 1))] 0, .cp [.fn 124 [] [.cp (algC x) 0, .cp [intA1 (y.size - 1)] 0, .cp [intA1 ((x.size - 1) * (y.size - 1))] 0]] 0, .cp (algC x) 0, .cp [intA1 (y.size - 1)] 0, .cp (algC y) 0] (pairEdge x y)
    x.edges.length ((x.size - 1) * (y.size - 1) + 1) (by omega) (by omega) (by omega) (by omega) (by kernel_rfl) (fun e k e0 e1 k0 k1 S => p3_calls x y fx fy he e k e0 e1 k0 k1 S)
  have hE : ((ints x.edges.length).map fun e => (ints ((x.size - 1) * (y.size - 1) + 1)).map (pairEdge x y e)) = (pairA x y).edges := rfl
  have hs : (pairA x y).size = (x.size - 1) * (y.size - 1) + 1 := rfl
  have hB : (pairA x y).best = ((ints ((x.size - 1) * (y.size - 1) + 1)).map fun i => (ints ((x.size - 1) * (y.size - 1) + 1)).map (pairBest x y i)) := rfl
  have i1 : I64 (x.size - 1) := by unfold I64; omega
  have i2 : I64 (y.size - 1) := by unfold I64; omega
  have hX : ∀ (S : Store) (lo : Nat) (r : AV), OwnAlg S lo r (pairA x y) = ∃ ids a, r = .agg [intA1 ((x.size - 1) * (y.size - 1) + 1), rowsC (pairA x y).best, a] ∧ OwnM S lo ((x.size - 1) * (y.size - 1) + 1).toNat ids a (pairA x y).edges := fun _ _ _ => rfl
  simp only [hX]
  rw [hE] at hT2
  rw [← hB] at hT1
  obtain ⟨bests, hbests⟩ : ∃ b, (pairA x y).best = b := ⟨_, rfl⟩
  obtain ⟨edges, hedges⟩ : ∃ b, (pairA x y).edges = b := ⟨_, rfl⟩
  rw [hbests] at hT1 ⊢
  rw [hedges] at hT2 ⊢
  clear hX hE hs hB
  obtain ⟨L, hL⟩ : ∃ L, (x.size - 1) * (y.size - 1) = L := ⟨_, rfl⟩
  rw [hL] at hT1 hT2 hN h24 ⊢
  have i3 : I64 L := by unfold I64; omega
  have i4 : I64 (L + 1) := by unfold I64; omega
  refine ACalls_of_awp Try.func104 rfl Try.results104 ?_
  simp only [List.length_cons, List.length_nil, Try.ntmps104, Nat.reduceAdd, Nat.reduceSub, enterA]
  refine AWP_seq_k fun K hK => ?_
  (refine AWP_region ?_; simp -implicitDefEqProofs only [go_sem])
  refine hK _ _ ?_; clear hK K
  refine AWP_freezeP 2 rfl (by simp only [st0]; rfl) ?_
  simp only [ss0, List.set_cons_zero]
  refine AWP_freezeP 3 rfl (by simp only [st1]; rfl) ?_
  simp only [ss1, List.set_cons_zero, List.set_cons_succ]
  refine AWP_seq_k fun K hK => ?_
  (refine AWP_region ?_; simp -implicitDefEqProofs only [go_sem, i2])
  refine hK _ _ ?_; clear hK K
  refine AWP_freezeP 5 rfl (by first | rfl | (simp -implicitDefEqProofs only [go_sem]; done) | (simp -implicitDefEqProofs only [go_sem]; rfl)) ?_
  simp -implicitDefEqProofs only [go_sem]
  refine AWP_seq_k fun K hK => ?_
  (refine AWP_region ?_; simp -implicitDefEqProofs only [go_sem, i1, hL, i3])
  refine hK _ _ ?_; clear hK K
  refine AWP_freezeP 6 rfl (by first | rfl | (simp -implicitDefEqProofs only [go_sem]; done) | (simp -implicitDefEqProofs only [go_sem]; rfl)) ?_
  simp -implicitDefEqProofs only [go_sem]
  refine AWP_seq_k fun K hK => ?_
  (refine AWP_region ?_; simp -implicitDefEqProofs only [go_sem, i4])
  refine hK _ _ ?_; clear hK K
  refine AWP_seq_k fun K hK => ?_
  (refine AWP_region ?_; simp -implicitDefEqProofs only [go_sem])
  refine hK _ _ ?_; clear hK K
  refine AWP_freezeP 8 rfl (by first | rfl | (simp -implicitDefEqProofs only [go_sem]; done) | (simp -implicitDefEqProofs only [go_sem]; rfl)) ?_
  simp -implicitDefEqProofs only [go_sem]
  (repeat' (first|(refine g_s fun K hK=>?_)|(refine g_b ?_)|(refine g_r ?_)|(refine g_k ?_;simp only[thenQ,blockQ])|(refine g_e ?_;simp only[thenQ,blockQ,↓reduceIte,Nat.reduceEqDiff])|(refine g_c (fun h=>?_) (fun h=>?_)<;>(try simp only[go_sem] at h)<;>(try exact g_f))|((first|refine g_t ?_|refine g_g ?_|refine g_U ?_|refine g_A ?_|refine (hT1 _).use ?_|refine g_q (fun τ=>hT1 _) ?_|refine g_W ?_);(try simp -implicitDefEqProofs only[go_sem,i4]))|(with_reducible refine hK _ _ ?_;clear hK K)|(clear hK K;first|(with_reducible refine hK _ _ ?_;clear hK K)|(clear hK K;with_reducible refine hK _ _ ?_;clear hK K)|(clear hK K;clear hK K;with_reducible refine hK _ _ ?_;clear hK K))|(with_reducible refine splitB_intro (fun h=>?_) (fun h=>?_)<;>(try simp only[go_sem] at h)<;>(try exact g_f)<;>(try simp -implicitDefEqProofs only[go_sem,i4]))|(with_reducible refine And.intro (fun h=>?_) (fun h=>?_)<;>(try simp only[go_sem] at h)<;>(try exact g_f))|(with_reducible refine And.intro ?_ ?_;· exact g_x)|(with_reducible intro h;(try simp only[go_sem] at h);(try exact g_f))))
  refine ACalls.useX (hT2 _) ?_
  rintro τ r ⟨ids, h⟩
  rw [List.append_assoc] at h
  rcases h.2 with ⟨e1, e2, e3⟩ | ⟨b, q, e1, e2, e3, e4, e5, e6, e7⟩
  · subst e2
    simp -implicitDefEqProofs only [go_sem]
    (repeat' (first|(refine g_s fun K hK=>?_)|(refine g_b ?_)|(refine g_r ?_)|(refine g_k ?_;simp only[thenQ,blockQ])|(refine g_e ?_;simp only[thenQ,blockQ,↓reduceIte,Nat.reduceEqDiff])|(refine g_c (fun h=>?_) (fun h=>?_)<;>(try simp only[go_sem] at h)<;>(try exact g_f))|((first|refine g_t ?_|refine g_g ?_|refine g_U ?_|refine g_A ?_|refine g_W ?_);(try simp -implicitDefEqProofs only[go_sem]))|(with_reducible refine hK _ _ ?_;clear hK K)|(clear hK K;first|(with_reducible refine hK _ _ ?_;clear hK K)|(clear hK K;with_reducible refine hK _ _ ?_;clear hK K)|(clear hK K;clear hK K;with_reducible refine hK _ _ ?_;clear hK K))|(with_reducible refine splitB_intro (fun h=>?_) (fun h=>?_)<;>(try simp only[go_sem] at h)<;>(try exact g_f)<;>(try simp -implicitDefEqProofs only[go_sem]))|(with_reducible refine And.intro (fun h=>?_) (fun h=>?_)<;>(try simp only[go_sem] at h)<;>(try exact g_f))|(with_reducible refine And.intro ?_ ?_;· exact g_x)|(with_reducible intro h;(try simp only[go_sem] at h);(try exact g_f))))
    exact ⟨_, rfl, ids, _, rfl, h.skip (k := 7) (by simp) rfl⟩
  · subst e4
    simp -implicitDefEqProofs only [go_sem]
    (repeat' (first|(refine g_s fun K hK=>?_)|(refine g_b ?_)|(refine g_r ?_)|(refine g_k ?_;simp only[thenQ,blockQ])|(refine g_e ?_;simp only[thenQ,blockQ,↓reduceIte,Nat.reduceEqDiff])|(refine g_c (fun h=>?_) (fun h=>?_)<;>(try simp only[go_sem] at h)<;>(try exact g_f))|((first|refine g_t ?_|refine g_g ?_|refine g_U ?_|refine g_A ?_|refine g_W ?_);(try simp -implicitDefEqProofs only[go_sem]))|(with_reducible refine hK _ _ ?_;clear hK K)|(clear hK K;first|(with_reducible refine hK _ _ ?_;clear hK K)|(clear hK K;with_reducible refine hK _ _ ?_;clear hK K)|(clear hK K;clear hK K;with_reducible refine hK _ _ ?_;clear hK K))|(with_reducible refine splitB_intro (fun h=>?_) (fun h=>?_)<;>(try simp only[go_sem] at h)<;>(try exact g_f)<;>(try simp -implicitDefEqProofs only[go_sem]))|(with_reducible refine And.intro (fun h=>?_) (fun h=>?_)<;>(try simp only[go_sem] at h)<;>(try exact g_f))|(with_reducible refine And.intro ?_ ?_;· exact g_x)|(with_reducible intro h;(try simp only[go_sem] at h);(try exact g_f))))
    exact ⟨_, rfl, ids, _, rfl, h.skip (k := 7) (by simp) rfl⟩
end Go.Proofs.Ytephecognbbaoaa
