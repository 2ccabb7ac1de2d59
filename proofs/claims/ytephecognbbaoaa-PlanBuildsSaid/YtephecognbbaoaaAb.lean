/- Algebras: does a law hold, as the document says. -/
import Derived.Test.YtephecognbbaoaaSy
import Derived.Test.YtephecognbbaoaaPo
namespace Go.Proofs.Ytephecognbbaoaa
open Go
set_option linter.all false
set_option maxRecDepth 100000
set_option maxHeartbeats 4000000

def rowC (r : List Int) : List AV := [intsA r]
def rowsC (l : List (List Int)) : AV := .sl (l.map rowC)
def algC (x : Alg) : List AV := [intA1 x.size, rowsC x.best, rowsC x.edges]
def brkC (b : Brk) : List AV := [intA1 b.law, intA1 b.a, intA1 b.b, intA1 b.c, intA1 b.edge]
attribute [go_sem] rowC rowsC algC brkC
theorem rowC_len (l : List (List Int)) : (∀ e', e' ∈ l.map rowC → e'.length = 1) = True := len_map (f := rowC) (fun _ => rfl) l
theorem rowC_one (l : List (List Int)) : (∀ e', e' ∈ l.map rowC → e'.all oneA = true) = True := one_map (f := rowC) (fun _ => rfl) l
attribute [go_sem] rowC_len rowC_one
theorem Bd.rows {n : Nat} (l : List (List Int)) : Bd n (.sl (l.map rowC)) := .slL (fun r => .cons (Bd.ints r) .nil) l

theorem within_calls (n a b : Int) (σ : Store) : ACalls Try.prog 62 [intA1 n, intA1 a, intA1 b] σ fun r σ' => σ' = σ ∧ r = .c (.bool (inR n a b)) := by
  refine ACalls_of_awp Try.func62 rfl Try.results62 ?_
  simp only [List.length_cons, List.length_nil, Try.ntmps62, Nat.reduceAdd, Nat.reduceSub, enterA]
  (repeat' (first|(refine g_s fun K hK=>?_)|(refine g_b ?_)|(refine g_r ?_)|(refine g_k ?_;simp only[thenQ,blockQ])|(refine g_e ?_;simp only[thenQ,blockQ,↓reduceIte,Nat.reduceEqDiff])|(refine g_c (fun h=>?_) (fun h=>?_)<;>(try simp only[go_sem] at h)<;>(try exact g_f))|((first|refine g_t ?_|refine g_g ?_|refine g_U ?_|refine g_A ?_|refine g_W ?_);(try simp -implicitDefEqProofs only[go_sem]))|(with_reducible refine hK _ _ ?_;clear hK K)|(clear hK K;first|(with_reducible refine hK _ _ ?_;clear hK K)|(clear hK K;with_reducible refine hK _ _ ?_;clear hK K)|(clear hK K;clear hK K;with_reducible refine hK _ _ ?_;clear hK K))|(with_reducible refine splitB_intro (fun h=>?_) (fun h=>?_)<;>(try simp only[go_sem] at h)<;>(try exact g_f)<;>(try simp -implicitDefEqProofs only[go_sem]))|(with_reducible refine And.intro (fun h=>?_) (fun h=>?_)<;>(try simp only[go_sem] at h)<;>(try exact g_f))|(with_reducible refine And.intro ?_ ?_;· exact g_x)|(with_reducible intro h;(try simp only[go_sem] at h);(try exact g_f))))
  all_goals (simp [inR]; omega)

theorem is_calls (x : Alg) (n : Int) (hx : I64 (x.size - 1)) (σ : Store) : ACalls Try.prog 61 [.agg (algC x), intA1 n] σ fun r σ' => σ' = σ ∧ r = .c (.bool (inR n 0 (x.size - 1))) := by
  refine ACalls.cutX ?_
  refine ACalls_of_awp Try.func61 rfl Try.results61 ?_
  simp only [List.length_cons, List.length_nil, Try.ntmps61, Nat.reduceAdd, Nat.reduceSub, enterA]
  (repeat' (first|(refine g_s fun K hK=>?_)|(refine g_b ?_)|(refine g_r ?_)|(refine g_k ?_;simp only[thenQ,blockQ])|(refine g_e ?_;simp only[thenQ,blockQ,↓reduceIte,Nat.reduceEqDiff])|(refine g_c (fun h=>?_) (fun h=>?_)<;>(try simp only[go_sem] at h)<;>(try exact g_f))|((first|refine g_t ?_|refine g_g ?_|refine g_U ?_|refine g_A ?_|refine (within_calls _ _ _ _).use ?_|refine g_q (fun τ=>within_calls _ _ _ _) ?_|refine g_W ?_);(try simp -implicitDefEqProofs only[go_sem]))|(with_reducible refine hK _ _ ?_;clear hK K)|(clear hK K;first|(with_reducible refine hK _ _ ?_;clear hK K)|(clear hK K;with_reducible refine hK _ _ ?_;clear hK K)|(clear hK K;clear hK K;with_reducible refine hK _ _ ?_;clear hK K))|(with_reducible refine splitB_intro (fun h=>?_) (fun h=>?_)<;>(try simp only[go_sem] at h)<;>(try exact g_f)<;>(try simp -implicitDefEqProofs only[go_sem]))|(with_reducible refine And.intro (fun h=>?_) (fun h=>?_)<;>(try simp only[go_sem] at h)<;>(try exact g_f))|(with_reducible refine And.intro ?_ ?_;· exact g_x)|(with_reducible intro h;(try simp only[go_sem] at h);(try exact g_f))))
  exact CutQ_c rfl rfl

theorem invalid_calls (x : Alg) (hx : I64 (x.size - 1)) (σ : Store) : ACalls Try.prog 89 [.agg (algC x)] σ fun r σ' => σ' = σ ∧ r = intA1 (x.size - 1) := by
  refine ACalls.cutX ?_
  refine ACalls_of_awp Try.func89 rfl Try.results89 ?_
  simp only [List.length_cons, List.length_nil, Try.ntmps89, Nat.reduceAdd, Nat.reduceSub, enterA]
  (repeat' (first|(refine g_s fun K hK=>?_)|(refine g_b ?_)|(refine g_r ?_)|(refine g_k ?_;simp only[thenQ,blockQ])|(refine g_e ?_;simp only[thenQ,blockQ,↓reduceIte,Nat.reduceEqDiff])|(refine g_c (fun h=>?_) (fun h=>?_)<;>(try simp only[go_sem] at h)<;>(try exact g_f))|((first|refine g_t ?_|refine g_g ?_|refine g_U ?_|refine g_A ?_|refine g_W ?_);(try simp -implicitDefEqProofs only[go_sem]))|(with_reducible refine hK _ _ ?_;clear hK K)|(clear hK K;first|(with_reducible refine hK _ _ ?_;clear hK K)|(clear hK K;with_reducible refine hK _ _ ?_;clear hK K)|(clear hK K;clear hK K;with_reducible refine hK _ _ ?_;clear hK K))|(with_reducible refine splitB_intro (fun h=>?_) (fun h=>?_)<;>(try simp only[go_sem] at h)<;>(try exact g_f)<;>(try simp -implicitDefEqProofs only[go_sem]))|(with_reducible refine And.intro (fun h=>?_) (fun h=>?_)<;>(try simp only[go_sem] at h)<;>(try exact g_f))|(with_reducible refine And.intro ?_ ?_;· exact g_x)|(with_reducible intro h;(try simp only[go_sem] at h);(try exact g_f))))
  exact CutQ_c rfl rfl

theorem upTo_calls (b : Bool) (n : Int) (σ : Store) : ACalls Try.prog 136 [.c (.bool b), intA1 n] σ fun r σ' => σ' = σ ∧ r = intA1 (upN b n) := by
  refine ACalls_of_awp Try.func136 rfl Try.results136 ?_
  simp only [List.length_cons, List.length_nil, Try.ntmps136, Nat.reduceAdd, Nat.reduceSub, enterA]
  (repeat' (first|(refine g_s fun K hK=>?_)|(refine g_b ?_)|(refine g_r ?_)|(refine g_k ?_;simp only[thenQ,blockQ])|(refine g_e ?_;simp only[thenQ,blockQ,↓reduceIte,Nat.reduceEqDiff])|(refine g_c (fun h=>?_) (fun h=>?_)<;>(try simp only[go_sem] at h)<;>(try exact g_f))|((first|refine g_t ?_|refine g_g ?_|refine g_U ?_|refine g_A ?_|refine g_W ?_);(try simp -implicitDefEqProofs only[go_sem]))|(with_reducible refine hK _ _ ?_;clear hK K)|(clear hK K;first|(with_reducible refine hK _ _ ?_;clear hK K)|(clear hK K;with_reducible refine hK _ _ ?_;clear hK K)|(clear hK K;clear hK K;with_reducible refine hK _ _ ?_;clear hK K))|(with_reducible refine splitB_intro (fun h=>?_) (fun h=>?_)<;>(try simp only[go_sem] at h)<;>(try exact g_f)<;>(try simp -implicitDefEqProofs only[go_sem]))|(with_reducible refine And.intro (fun h=>?_) (fun h=>?_)<;>(try simp only[go_sem] at h)<;>(try exact g_f))|(with_reducible refine And.intro ?_ ?_;· exact g_x)|(with_reducible intro h;(try simp only[go_sem] at h);(try exact g_f))))
  all_goals (simp [upN, *])

theorem names_calls (law : Int) (σ : Store) : ACalls Try.prog 64 [intA1 law] σ fun r σ' => σ' = σ ∧ r = .tup [intA1 (manyA law), .c (.bool (edgeA law))] := by
  refine ACalls_of_awp Try.func64 rfl Try.results64 ?_
  simp only [List.length_cons, List.length_nil, Try.ntmps64, Nat.reduceAdd, Nat.reduceSub, enterA]
  (repeat' (first|(refine g_s fun K hK=>?_)|(refine g_b ?_)|(refine g_r ?_)|(refine g_k ?_;simp only[thenQ,blockQ])|(refine g_e ?_;simp only[thenQ,blockQ,↓reduceIte,Nat.reduceEqDiff])|(refine g_c (fun h=>?_) (fun h=>?_)<;>(try simp only[go_sem] at h)<;>(try exact g_f))|((first|refine g_t ?_|refine g_g ?_|refine g_U ?_|refine g_A ?_|refine g_W ?_);(try simp -implicitDefEqProofs only[go_sem]))|(with_reducible refine hK _ _ ?_;clear hK K)|(clear hK K;first|(with_reducible refine hK _ _ ?_;clear hK K)|(clear hK K;with_reducible refine hK _ _ ?_;clear hK K)|(clear hK K;clear hK K;with_reducible refine hK _ _ ?_;clear hK K))|(with_reducible refine splitB_intro (fun h=>?_) (fun h=>?_)<;>(try simp only[go_sem] at h)<;>(try exact g_f)<;>(try simp -implicitDefEqProofs only[go_sem]))|(with_reducible refine And.intro (fun h=>?_) (fun h=>?_)<;>(try simp only[go_sem] at h)<;>(try exact g_f))|(with_reducible refine And.intro ?_ ?_;· exact g_x)|(with_reducible intro h;(try simp only[go_sem] at h);(try exact g_f))))
  all_goals (simp_all [manyA, edgeA])

/-- What stands in range, of what a law is asked of. -/
structure InR (x : Alg) (b : Brk) : Prop where
  pl : 1 ≤ b.law ∧ b.law ≤ 9
  pa : 0 ≤ b.a ∧ b.a < x.size
  pb : 0 ≤ b.b ∧ b.b < x.size
  pc : 0 ≤ b.c ∧ b.c < x.size
  pe : (b.law = 1 ∨ b.law = 2 ∨ b.law = 3 ∨ b.law = 4 ∨ b.law = 5) ∨ (0 ≤ b.edge ∧ b.edge < x.edges.length)

theorem inR_of {x : Alg} {b : Brk} (hr : Right x) (h : checkB x b = 0) : InR x b := by
  rw [checkB_iff, mem_cases] at h
  have := hr.s2
  have up : ∀ n, upN n x.size ≤ x.size := fun n => by unfold upN; split <;> omega
  have u1 := up (decide (0 < manyA b.law))
  have u2 := up (decide (1 < manyA b.law))
  have u3 := up (decide (2 < manyA b.law))
  refine ⟨h.1, by omega, by omega, by omega, ?_⟩
  by_cases he : edgeA b.law = true
  · have := h.2.2.2.2.2
    rw [upN, if_pos he] at this
    exact .inr this
  · left
    simp [edgeA] at he
    omega

theorem holds1_calls (x : Alg) (p q : Int) (hr : Right x) (h1 : 0 ≤ p) (h2 : p < x.size) (h3 : 0 ≤ q) (h4 : q < x.size) (σ : Store) :
    ACalls Try.prog 99 [intA1 p, intA1 q, .cp (algC x) 0] σ fun r σ' => σ' = σ ∧ r = intA1 (at2 x.best p q) := by
  have e1 := hr.bl
  have e2 := hr.best_len h1 h2
  refine ACalls_of_awp Try.func99 rfl Try.results99 ?_
  simp only [List.length_cons, List.length_nil, Try.ntmps99, Nat.reduceAdd, Nat.reduceSub, enterA]
  (repeat' (first|(refine g_s fun K hK=>?_)|(refine g_b ?_)|(refine g_r ?_)|(refine g_k ?_;simp only[thenQ,blockQ])|(refine g_e ?_;simp only[thenQ,blockQ,↓reduceIte,Nat.reduceEqDiff])|(refine g_c (fun h=>?_) (fun h=>?_)<;>(try simp only[go_sem] at h)<;>(try exact g_f))|((first|refine g_t ?_|refine g_g ?_|refine g_U ?_|refine g_A ?_|refine g_W ?_);(try simp -implicitDefEqProofs only[go_sem]))|(with_reducible refine hK _ _ ?_;clear hK K)|(clear hK K;first|(with_reducible refine hK _ _ ?_;clear hK K)|(clear hK K;with_reducible refine hK _ _ ?_;clear hK K)|(clear hK K;clear hK K;with_reducible refine hK _ _ ?_;clear hK K))|(with_reducible refine splitB_intro (fun h=>?_) (fun h=>?_)<;>(try simp only[go_sem] at h)<;>(try exact g_f)<;>(try simp -implicitDefEqProofs only[go_sem]))|(with_reducible refine And.intro (fun h=>?_) (fun h=>?_)<;>(try simp only[go_sem] at h)<;>(try exact g_f))|(with_reducible refine And.intro ?_ ?_;· exact g_x)|(with_reducible intro h;(try simp only[go_sem] at h);(try exact g_f))))
  rfl
attribute [go_sem] at2

theorem holds_calls (x : Alg) (b : Brk) (hr : Right x) (hb : InR x b) (σ : Store) : ACalls Try.prog 63 [.agg (algC x), .agg (brkC b)] σ fun r σ' => σ' = σ ∧ r = .c (.bool (holdsA x b)) := by
  have ha := hb.pa
  have hbb := hb.pb
  have hc := hb.pc
  have hl := hb.pl
  have s2 := hr.s2
  have s24 := hr.s24
  have b1 := hr.best_in ha.1 ha.2 hbb.1 hbb.2
  have b2 := hr.best_in hbb.1 hbb.2 hc.1 hc.2
  have hE : (b.law = 1 ∨ b.law = 2 ∨ b.law = 3 ∨ b.law = 4 ∨ b.law = 5) ∨ (0 ≤ b.edge ∧ b.edge < x.edges.length ∧ ((at0 x.edges b.edge).length : Int) = x.size ∧ 0 ≤ at2 x.edges b.edge b.a ∧ at2 x.edges b.edge b.a < x.size ∧ 0 ≤ at2 x.edges b.edge b.b ∧ at2 x.edges b.edge b.b < x.size) := by
    rcases hb.pe with h | h
    · exact .inl h
    · have f1 := hr.edge_in h.1 h.2 ha.1 ha.2
      have f2 := hr.edge_in h.1 h.2 hbb.1 hbb.2
      exact .inr ⟨h.1, h.2, hr.edge_len h.1 h.2, f1.1, f1.2, f2.1, f2.2⟩
  simp only [at2] at b1 b2 hE
  refine ACalls.cutX ?_
  refine ACalls_of_awp Try.func63 rfl Try.results63 ?_
  simp only [List.length_cons, List.length_nil, Try.ntmps63, Nat.reduceAdd, Nat.reduceSub, enterA]
  refine AWP_seq_k fun K hK => ?_
  (refine AWP_region ?_; simp -implicitDefEqProofs only [go_sem])
  refine hK _ _ ?_; clear hK K
  refine AWP_freezeP 2 rfl (by simp only [st0]; rfl) ?_
  simp only [ss0, List.set_cons_zero]
  refine AWP_freezeP 3 rfl (by simp only [st1]; rfl) ?_
  simp only [ss1, List.set_cons_zero, List.set_cons_succ]
  (repeat' (first|(refine g_s fun K hK=>?_)|(refine g_b ?_)|(refine g_r ?_)|(refine g_k ?_;simp only[thenQ,blockQ])|(refine g_e ?_;simp only[thenQ,blockQ,↓reduceIte,Nat.reduceEqDiff])|(refine g_c (fun h=>?_) (fun h=>?_)<;>(try simp only[go_sem] at h)<;>(try exact g_f))|((first|refine g_t ?_|refine g_g ?_|refine g_U ?_|refine g_A ?_|refine (invalid_calls x (by unfold I64; omega) _).use ?_|refine g_q (fun τ=>invalid_calls x (by unfold I64; omega) _) ?_|refine (holds1_calls x _ _ hr (by omega) (by omega) (by omega) (by omega) _).use ?_|refine g_q (fun τ=>holds1_calls x _ _ hr (by omega) (by omega) (by omega) (by omega) _) ?_|refine g_W ?_);(try simp -implicitDefEqProofs only[go_sem]))|(with_reducible refine hK _ _ ?_;clear hK K)|(clear hK K;first|(with_reducible refine hK _ _ ?_;clear hK K)|(clear hK K;with_reducible refine hK _ _ ?_;clear hK K)|(clear hK K;clear hK K;with_reducible refine hK _ _ ?_;clear hK K))|(with_reducible refine splitB_intro (fun h=>?_) (fun h=>?_)<;>(try simp only[go_sem] at h)<;>(try exact g_f)<;>(try simp -implicitDefEqProofs only[go_sem]))|(with_reducible refine And.intro (fun h=>?_) (fun h=>?_)<;>(try simp only[go_sem] at h)<;>(try exact g_f))|(with_reducible refine And.intro ?_ ?_;· exact g_x)|(with_reducible intro h;(try simp only[go_sem] at h);(try exact g_f))))
  all_goals clear hE hr hb b1 b2 hl ha hbb hc
  all_goals (refine CutQ_c rfl ?_; try simp [holdsA, at2, Bool.beq_eq_decide_eq, bne, *])
  all_goals exact decide_eq_decide.2 Iff.rfl
end Go.Proofs.Ytephecognbbaoaa
namespace Go.Proofs.Ytephecognbbaoaa
open Go
set_option linter.all false
set_option maxRecDepth 100000
set_option maxHeartbeats 4000000

theorem holdsOf_calls (x : Alg) (b : Brk) (hr : Right x) (hb : InR x b) (σ : Store) : ACalls Try.prog 23 [.agg (algC x), .agg (brkC b)] σ fun r σ' => σ' = σ ∧ r = .c (.bool (holdsA x b)) := by
  have ha := hb.pa
  have hbb := hb.pb
  have hc := hb.pc
  have hl := hb.pl
  have s2 := hr.s2
  have s24 := hr.s24
  have bl := hr.bl
  have b1 := hr.best_in ha.1 ha.2 hbb.1 hbb.2
  have b2 := hr.best_in hbb.1 hbb.2 hc.1 hc.2
  have l1 := hr.best_len ha.1 ha.2
  have l2 := hr.best_len hbb.1 hbb.2
  have l3 := hr.best_len (i := 0) (by omega) (by omega)
  have l4 := hr.best_len (i := x.size - 1) (by omega) (by omega)
  have l5 := hr.best_len b1.1 b1.2
  have hE : (b.law = 1 ∨ b.law = 2 ∨ b.law = 3 ∨ b.law = 4 ∨ b.law = 5) ∨ (0 ≤ b.edge ∧ b.edge < x.edges.length ∧ ((at0 x.edges b.edge).length : Int) = x.size ∧ 0 ≤ at2 x.edges b.edge b.a ∧ at2 x.edges b.edge b.a < x.size ∧ 0 ≤ at2 x.edges b.edge b.b ∧ at2 x.edges b.edge b.b < x.size ∧ ((at0 x.best (at2 x.edges b.edge b.a)).length : Int) = x.size) := by
    rcases hb.pe with h | h
    · exact .inl h
    · have f1 := hr.edge_in h.1 h.2 ha.1 ha.2
      have f2 := hr.edge_in h.1 h.2 hbb.1 hbb.2
      exact .inr ⟨h.1, h.2, hr.edge_len h.1 h.2, f1.1, f1.2, f2.1, f2.2, hr.best_len f1.1 f1.2⟩
  simp only [at2] at b1 b2 hE l5
  refine ACalls.cutX ?_
  refine ACalls_of_awp Try.func23 rfl Try.results23 ?_
  simp only [List.length_cons, List.length_nil, Try.ntmps23, Nat.reduceAdd, Nat.reduceSub, enterA]
  refine AWP_seq_k fun K hK => ?_
  (refine AWP_region ?_; simp -implicitDefEqProofs only [go_sem])
  refine hK _ _ ?_; clear hK K
  refine AWP_freezeP 2 rfl (by simp only [st0]; rfl) ?_
  simp only [ss0, List.set_cons_zero]
  refine AWP_freezeP 3 rfl (by simp only [st1]; rfl) ?_
  simp only [ss1, List.set_cons_zero, List.set_cons_succ]
  (repeat' (first|(refine g_s fun K hK=>?_)|(refine g_b ?_)|(refine g_r ?_)|(refine g_k ?_;simp only[thenQ,blockQ])|(refine g_e ?_;simp only[thenQ,blockQ,↓reduceIte,Nat.reduceEqDiff])|(refine g_c (fun h=>?_) (fun h=>?_)<;>(try simp only[go_sem] at h)<;>(try exact g_f))|((first|refine g_t ?_|refine g_g ?_|refine g_U ?_|refine g_A ?_|refine g_W ?_);(try simp -implicitDefEqProofs only[go_sem]))|(with_reducible refine hK _ _ ?_;clear hK K)|(clear hK K;first|(with_reducible refine hK _ _ ?_;clear hK K)|(clear hK K;with_reducible refine hK _ _ ?_;clear hK K)|(clear hK K;clear hK K;with_reducible refine hK _ _ ?_;clear hK K))|(with_reducible refine splitB_intro (fun h=>?_) (fun h=>?_)<;>(try simp only[go_sem] at h)<;>(try exact g_f)<;>(try simp -implicitDefEqProofs only[go_sem]))|(with_reducible refine And.intro (fun h=>?_) (fun h=>?_)<;>(try simp only[go_sem] at h)<;>(try exact g_f))|(with_reducible refine And.intro ?_ ?_;· exact g_x)|(with_reducible intro h;(try simp only[go_sem] at h);(try exact g_f))))
  all_goals clear hE hr hb b1 b2 hl ha hbb hc l1 l2 l3 l4 l5
  all_goals (try (refine CutQ_c rfl ?_; try simp [holdsA, at2, Bool.beq_eq_decide_eq, bne, *]))
  all_goals (try exact decide_eq_decide.2 Iff.rfl)

theorem checkB_law {x : Alg} {b : Brk} (h : b.law < 1 ∨ 9 < b.law) : checkB x b = 7 := by
  unfold checkB
  rw [if_pos (not_inR.2 h)]

theorem checkB_bad {x : Alg} {b : Brk} (h : 1 ≤ b.law ∧ b.law ≤ 9) {k : Int} (h0 : 0 ≤ k) (h3 : k < 3) (hb : okAt (decide (k < manyA b.law)) (at0 [b.a, b.b, b.c] k) x.size = false) : checkB x b = 3 := by
  unfold checkB
  rw [if_neg (by rw [not_inR]; omega), if_pos]
  have : k = 0 ∨ k = 1 ∨ k = 2 := by omega
  rcases this with rfl | rfl | rfl
  · have e : at0 [b.a, b.b, b.c] 0 = b.a := rfl
    rw [e] at hb
    rw [hb]
    rfl
  · have e : at0 [b.a, b.b, b.c] 1 = b.b := rfl
    rw [e] at hb
    rw [hb]
    simp
  · have e : at0 [b.a, b.b, b.c] 2 = b.c := rfl
    rw [e] at hb
    rw [hb]
    simp

theorem checkB_edge {x : Alg} {b : Brk} (h : 1 ≤ b.law ∧ b.law ≤ 9) (hb : ∀ k : Int, 0 ≤ k → k < 3 → okAt (decide (k < manyA b.law)) (at0 [b.a, b.b, b.c] k) x.size = true) :
    checkB x b = if okAt (edgeA b.law) b.edge x.edges.length then 0 else 3 := by
  have h0 : okAt (decide (0 < manyA b.law)) b.a x.size = true := hb 0 (by omega) (by omega)
  have h1 : okAt (decide (1 < manyA b.law)) b.b x.size = true := hb 1 (by omega) (by omega)
  have h2 : okAt (decide (2 < manyA b.law)) b.c x.size = true := hb 2 (by omega) (by omega)
  unfold checkB
  rw [if_neg (by rw [not_inR]; omega), if_neg (by simp [h0, h1, h2])]
  cases okAt (edgeA b.law) b.edge x.edges.length <;> rfl

end Go.Proofs.Ytephecognbbaoaa
