/- States that are handed in: when two are the same. -/
import Derived.Test.YtephecognbbaoabZAb
import Derived.Test.YtephecognbbaoabZNc
import Derived.Test.YtephecognbbaoabZFz
import Derived.SizedLaws
open Go
set_option linter.all false
set_option maxRecDepth 100000
set_option maxHeartbeats 4000000
namespace Go.Proofs.Ytephecognbbaoab
open Go
set_option linter.all false
set_option maxRecDepth 100000
set_option maxHeartbeats 4000000
/-- What is known of a state that came in. -/
structure StOk (x : List (List Int)) : Prop where
  len : x.length ≤ 5864062014634
  row : ∀ r ∈ x, r.length ≤ 17592186044000
theorem ACalls.argW {P : Program} {f : FuncId} {args args' : List AV} {σ : Store} {R : AV → Store → Prop} (h : ACalls P f args' σ R) (hw : WkL args args') : ACalls P f args σ R := fun K imm m w vs hs hv => h K imm m w vs hs (hw _ _ _ hv)
theorem sameState_calls (a b : List (List Int)) (ha : StOk a) (σ : Store) : ACalls Try.prog 35 [rowsC a, rowsC b] σ fun r σ' => σ' = σ ∧ r = .c (.bool (decide (a = b))) := by
  have hlen := ha.len
  refine ACalls_of_awp Try.func35 rfl Try.results35 ?_
  simp only [List.length_cons, List.length_nil, Try.ntmps35, Nat.reduceAdd, Nat.reduceSub, enterA]
  (repeat' (first|(refine g_s fun K hK=>?_)|(refine g_b ?_)|(refine g_r ?_)|(refine g_k ?_;simp only[thenQ,blockQ])|(refine g_e ?_;simp only[thenQ,blockQ,↓reduceIte,Nat.reduceEqDiff])|(refine g_c (fun h=>?_) (fun h=>?_)<;>(try simp only[go_sem] at h)<;>(try exact g_f))|((first|refine g_t ?_|refine g_g ?_|refine g_U ?_|refine g_A ?_|refine g_W ?_);(try simp -implicitDefEqProofs only[go_sem]))|(with_reducible refine hK _ _ ?_;clear hK K)|(clear hK K;first|(with_reducible refine hK _ _ ?_;clear hK K)|(clear hK K;with_reducible refine hK _ _ ?_;clear hK K)|(clear hK K;clear hK K;with_reducible refine hK _ _ ?_;clear hK K))|(with_reducible refine splitB_intro (fun h=>?_) (fun h=>?_)<;>(try simp only[go_sem] at h)<;>(try exact g_f)<;>(try simp -implicitDefEqProofs only[go_sem]))|(with_reducible refine And.intro (fun h=>?_) (fun h=>?_)<;>(try simp only[go_sem] at h)<;>(try exact g_f))|(with_reducible refine And.intro ?_ ?_;· exact g_x)|(with_reducible intro h;(try simp only[go_sem] at h);(try exact g_f))))
  · rw [decide_eq_false (fun e : a = b => h (by rw [e]))]
  have hle : a.length = b.length := by omega
  refine AWP_for (a.length : Int) (fun k _ => ∀ i : Int, 0 ≤ i → i < k → at0 a i = at0 b i) (fun k _ _ => [(5, intA1 k)]) (fun _ _ _ => σ) () [] (by omega) (fun i h1 h2 => by omega) rfl (ALe_of ?_) ?_
  · simp -implicitDefEqProofs only [go_sem]
  · rintro k _ τ hk0 hk1 hH L hL
    by_cases hk2 : k < a.length
    · have hml : (at0 a k).length ≤ 1000000000000000000 := by have := ha.row _ (at0_mem a hk0 hk2); omega
      simp -implicitDefEqProofs only [go_sem]
      (repeat' (first|(refine g_s fun K hK=>?_)|(refine g_b ?_)|(refine g_r ?_)|(refine g_k ?_;simp only[thenQ,blockQ])|(refine g_e ?_;simp only[thenQ,blockQ,↓reduceIte,Nat.reduceEqDiff])|(refine g_c (fun h=>?_) (fun h=>?_)<;>(try simp only[go_sem] at h)<;>(try exact g_f))|((first|refine g_t ?_|refine g_g ?_|refine g_U ?_|refine g_A ?_|refine (sameInts_calls _ _ hml _).use ?_|refine g_q (fun τ=>sameInts_calls _ _ hml _) ?_|refine g_W ?_);(try simp -implicitDefEqProofs only[go_sem]))|(with_reducible refine hK _ _ ?_;clear hK K)|(clear hK K;first|(with_reducible refine hK _ _ ?_;clear hK K)|(clear hK K;with_reducible refine hK _ _ ?_;clear hK K)|(clear hK K;clear hK K;with_reducible refine hK _ _ ?_;clear hK K))|(with_reducible refine splitB_intro (fun h=>?_) (fun h=>?_)<;>(try simp only[go_sem] at h)<;>(try exact g_f)<;>(try simp -implicitDefEqProofs only[go_sem]))|(with_reducible refine And.intro (fun h=>?_) (fun h=>?_)<;>(try simp only[go_sem] at h)<;>(try exact g_f))|(with_reducible refine And.intro ?_ ?_;· exact g_x)|(with_reducible intro h;(try simp only[go_sem] at h);(try exact g_f))))
      · have hne : at0 a k ≠ at0 b k := by simpa using h
        rw [decide_eq_false (fun e : a = b => hne (by rw [e]))]
      · have heq : at0 a k = at0 b k := by simpa using h
        refine hL hk2 () [] _ _ ?_ (ALe_of ?_) rfl
        · intro i h1 h2
          rcases Int.lt_or_eq_of_le (Int.le_of_lt_add_one h2) with h3 | h3
          · exact hH i h1 h3
          · rw [h3]; exact heq
        · simp -implicitDefEqProofs only [go_sem]
    · simp -implicitDefEqProofs only [go_sem]
      (repeat' (first|(refine g_s fun K hK=>?_)|(refine g_b ?_)|(refine g_r ?_)|(refine g_k ?_;simp only[thenQ,blockQ])|(refine g_e ?_;simp only[thenQ,blockQ,↓reduceIte,Nat.reduceEqDiff])|(refine g_c (fun h=>?_) (fun h=>?_)<;>(try simp only[go_sem] at h)<;>(try exact g_f))|((first|refine g_t ?_|refine g_g ?_|refine g_U ?_|refine g_A ?_|refine g_W ?_);(try simp -implicitDefEqProofs only[go_sem]))|(with_reducible refine hK _ _ ?_;clear hK K)|(clear hK K;first|(with_reducible refine hK _ _ ?_;clear hK K)|(clear hK K;with_reducible refine hK _ _ ?_;clear hK K)|(clear hK K;clear hK K;with_reducible refine hK _ _ ?_;clear hK K))|(with_reducible refine splitB_intro (fun h=>?_) (fun h=>?_)<;>(try simp only[go_sem] at h)<;>(try exact g_f)<;>(try simp -implicitDefEqProofs only[go_sem]))|(with_reducible refine And.intro (fun h=>?_) (fun h=>?_)<;>(try simp only[go_sem] at h)<;>(try exact g_f))|(with_reducible refine And.intro ?_ ?_;· exact g_x)|(with_reducible intro h;(try simp only[go_sem] at h);(try exact g_f))))
      rw [decide_eq_true (at0_eq hle fun i h1 h2 => hH i h1 (by omega) : a = b)]
end Go.Proofs.Ytephecognbbaoab
/- States: copied, compared. -/
namespace Go.Proofs.Ytephecognbbaoab
def uintA (n : Int) : AV := .c (.int .u64 n)
attribute [go_sem] uintA
theorem ok_mul64 : callOk Try.prog 202 = true := by kernel_rfl
theorem ok_mul : callOk Try.prog 184 = true := by kernel_rfl
attribute [go_sem] ok_mul64 ok_mul
theorem mul64_calls (n : Int) (h : n = 1 ∨ n = 2 ∨ n = 3 ∨ n = 4 ∨ n = 5 ∨ n = 6) (σ : Store) : ACalls Try.prog 202 [uintA 1, uintA n] σ fun r σ' => σ' = σ ∧ r = .tup [uintA 0, uintA n] := by
  rcases h with rfl | rfl | rfl | rfl | rfl | rfl
  all_goals refine ACalls_of_awp Try.func202 rfl Try.results202 ?_
            simp only [List.length_cons, List.length_nil, Try.ntmps202, Nat.reduceAdd, Nat.reduceSub, enterA]
  all_goals (repeat' (first|(refine g_s fun K hK=>?_)|(refine g_b ?_)|(refine g_r ?_)|(refine g_k ?_;simp only[thenQ,blockQ])|(refine g_e ?_;simp only[thenQ,blockQ,↓reduceIte,Nat.reduceEqDiff])|(refine g_c (fun h=>?_) (fun h=>?_)<;>(try simp only[go_sem] at h)<;>(try exact g_f))|((first|refine g_t ?_|refine g_g ?_|refine g_U ?_|refine g_A ?_|refine g_W ?_);(try simp -implicitDefEqProofs only[go_sem]))|(with_reducible refine hK _ _ ?_;clear hK K)|(clear hK K;first|(with_reducible refine hK _ _ ?_;clear hK K)|(clear hK K;with_reducible refine hK _ _ ?_;clear hK K)|(clear hK K;clear hK K;with_reducible refine hK _ _ ?_;clear hK K))|(with_reducible refine splitB_intro (fun h=>?_) (fun h=>?_)<;>(try simp only[go_sem] at h)<;>(try exact g_f)<;>(try simp -implicitDefEqProofs only[go_sem]))|(with_reducible refine And.intro (fun h=>?_) (fun h=>?_)<;>(try simp only[go_sem] at h)<;>(try exact g_f))|(with_reducible refine And.intro ?_ ?_;· exact g_x)|(with_reducible intro h;(try simp only[go_sem] at h);(try exact g_f))))
  all_goals rfl
theorem mul_calls (n : Int) (h : n = 1 ∨ n = 2 ∨ n = 3 ∨ n = 4 ∨ n = 5 ∨ n = 6) (σ : Store) : ACalls Try.prog 184 [uintA 1, uintA n] σ fun r σ' => σ' = σ ∧ r = .tup [uintA 0, uintA n] := by
  have w1 : IntKind.u64.wrap 1 = 1 := by decide
  have w0 : IntKind.u64.wrap 0 = 0 := by decide
  have wn : IntKind.u64.wrap n = n := by rcases h with rfl | rfl | rfl | rfl | rfl | rfl <;> decide
  refine ACalls_of_awp Try.func184 rfl Try.results184 ?_
  simp only [List.length_cons, List.length_nil, Try.ntmps184, Nat.reduceAdd, Nat.reduceSub, enterA]
  (repeat' (first|(refine g_s fun K hK=>?_)|(refine g_b ?_)|(refine g_r ?_)|(refine g_k ?_;simp only[thenQ,blockQ])|(refine g_e ?_;simp only[thenQ,blockQ,↓reduceIte,Nat.reduceEqDiff])|(refine g_c (fun h=>?_) (fun h=>?_)<;>(try simp only[go_sem] at h)<;>(try exact g_f))|((first|refine g_t ?_|refine g_g ?_|refine g_U ?_|refine g_A ?_);(try simp -implicitDefEqProofs only[go_sem]))|(with_reducible refine hK _ _ ?_;clear hK K)|(clear hK K;first|(with_reducible refine hK _ _ ?_;clear hK K)|(clear hK K;with_reducible refine hK _ _ ?_;clear hK K)|(clear hK K;clear hK K;with_reducible refine hK _ _ ?_;clear hK K))|(with_reducible refine splitB_intro (fun h=>?_) (fun h=>?_)<;>(try simp only[go_sem] at h)<;>(try exact g_f)<;>(try simp -implicitDefEqProofs only[go_sem]))|(with_reducible refine And.intro (fun h=>?_) (fun h=>?_)<;>(try simp only[go_sem] at h)<;>(try exact g_f))|(with_reducible refine And.intro ?_ ?_;· exact g_x)|(with_reducible intro h;(try simp only[go_sem] at h);(try exact g_f))))
  refine AWP_condC (fun h => by cases h) (fun _ => ?_)
  (repeat' (first|(refine g_s fun K hK=>?_)|(refine g_b ?_)|(refine g_r ?_)|(refine g_k ?_;simp only[thenQ,blockQ])|(refine g_e ?_;simp only[thenQ,blockQ,↓reduceIte,Nat.reduceEqDiff])|(refine g_c (fun h=>?_) (fun h=>?_)<;>(try simp only[go_sem] at h)<;>(try exact g_f))|((first|refine g_t ?_|refine g_g ?_|refine g_U ?_|refine g_A ?_|refine (mul64_calls n h _).use ?_|refine g_q (fun τ=>mul64_calls n h _) ?_|refine g_W ?_);(try simp -implicitDefEqProofs only[go_sem,w1, wn]))|(with_reducible refine hK _ _ ?_;clear hK K)|(clear hK K;first|(with_reducible refine hK _ _ ?_;clear hK K)|(clear hK K;with_reducible refine hK _ _ ?_;clear hK K)|(clear hK K;clear hK K;with_reducible refine hK _ _ ?_;clear hK K))|(with_reducible refine splitB_intro (fun h=>?_) (fun h=>?_)<;>(try simp only[go_sem] at h)<;>(try exact g_f)<;>(try simp -implicitDefEqProofs only[go_sem,w1, wn]))|(with_reducible refine And.intro (fun h=>?_) (fun h=>?_)<;>(try simp only[go_sem] at h)<;>(try exact g_f))|(with_reducible refine And.intro ?_ ?_;· exact g_x)|(with_reducible intro h;(try simp only[go_sem] at h);(try exact g_f))))
theorem convA_u64 {P : Program} {k k' : IntKind} {n : Int} {σ : Store} {K : AV → Store → Prop} : convA P (some (.int k)) (some (.int .u64)) (.c (.int k' n)) σ K = K (.c (.int .u64 (IntKind.u64.wrap n))) σ := rfl
attribute [go_sem] convA_u64
theorem nc0 : ((0 : Nat) : Int) = 0 := rfl
theorem nc1 : ((1 : Nat) : Int) = 1 := rfl
theorem nc2 : ((2 : Nat) : Int) = 2 := rfl
theorem nc3 : ((3 : Nat) : Int) = 3 := rfl
theorem nc4 : ((4 : Nat) : Int) = 4 := rfl
theorem nc5 : ((5 : Nat) : Int) = 5 := rfl
theorem nc6 : ((6 : Nat) : Int) = 6 := rfl
theorem repeat_calls (v n : Int) (h : n = 1 ∨ n = 2 ∨ n = 3 ∨ n = 4 ∨ n = 5 ∨ n = 6) (σ : Store) : ACalls Try.prog 143 [intsA [v], intA1 n] σ fun r σ' => σ' = σ ++ [.cells 1 ((List.replicate n.toNat v).map intC)] ∧ r = .own σ.length 1 0 n.toNat n.toNat := by
  have w1 : IntKind.u64.wrap 1 = 1 := by decide
  have wn : IntKind.u64.wrap n = n := by rcases h with rfl | rfl | rfl | rfl | rfl | rfl <;> decide
  have hm := mul_calls n h
  rcases h with rfl | rfl | rfl | rfl | rfl | rfl
  all_goals refine ACalls_of_awp Try.func143 rfl Try.results143 ?_
            simp only [List.length_cons, List.length_nil, Try.ntmps143, Nat.reduceAdd, Nat.reduceSub, enterA]
  all_goals (repeat' (first|(refine g_s fun K hK=>?_)|(refine g_b ?_)|(refine g_r ?_)|(refine g_k ?_;simp only[thenQ,blockQ])|(refine g_e ?_;simp only[thenQ,blockQ,↓reduceIte,Nat.reduceEqDiff])|(refine g_c (fun h=>?_) (fun h=>?_)<;>(try simp only[go_sem] at h)<;>(try exact g_f))|((first|refine g_t ?_|refine g_g ?_|refine g_U ?_|refine g_A ?_|refine (hm _).use ?_|refine g_q (fun τ=>hm _) ?_);(try simp -implicitDefEqProofs only[go_sem,nc0, nc1, nc2, nc3, nc4, nc5, nc6, w1, wn, List.map_cons, List.map_nil, List.replicate]))|(with_reducible refine hK _ _ ?_;clear hK K)|(clear hK K;first|(with_reducible refine hK _ _ ?_;clear hK K)|(clear hK K;with_reducible refine hK _ _ ?_;clear hK K)|(clear hK K;clear hK K;with_reducible refine hK _ _ ?_;clear hK K))|(with_reducible refine splitB_intro (fun h=>?_) (fun h=>?_)<;>(try simp only[go_sem] at h)<;>(try exact g_f)<;>(try simp -implicitDefEqProofs only[go_sem,nc0, nc1, nc2, nc3, nc4, nc5, nc6, w1, wn, List.map_cons, List.map_nil, List.replicate]))|(with_reducible refine And.intro (fun h=>?_) (fun h=>?_)<;>(try simp only[go_sem] at h)<;>(try exact g_f))|(with_reducible refine And.intro ?_ ?_;· exact g_x)|(with_reducible intro h;(try simp only[go_sem] at h);(try exact g_f))))
  all_goals refine AWP_rounds 4 ?_
  all_goals (repeat' (first|(refine g_s fun K hK=>?_)|(refine g_b ?_)|(refine g_r ?_)|(refine g_k ?_;simp only[thenQ,blockQ])|(refine g_e ?_;simp only[thenQ,blockQ,↓reduceIte,Nat.reduceEqDiff])|(refine g_c (fun h=>?_) (fun h=>?_)<;>(try simp only[go_sem] at h)<;>(try exact g_f))|((first|refine g_t ?_|refine g_g ?_|refine g_U ?_|refine g_A ?_|refine AWP_drawL false true tab_mixed (by decide +kernel) ?_);(try simp -implicitDefEqProofs only[go_sem,nc0, nc1, nc2, nc3, nc4, nc5, nc6, w1, wn, List.map_cons, List.map_nil, Nat.min_def, List.take, List.drop]))|(with_reducible refine hK _ _ ?_;clear hK K)|(clear hK K;first|(with_reducible refine hK _ _ ?_;clear hK K)|(clear hK K;with_reducible refine hK _ _ ?_;clear hK K)|(clear hK K;clear hK K;with_reducible refine hK _ _ ?_;clear hK K))|(with_reducible refine splitB_intro (fun h=>?_) (fun h=>?_)<;>(try simp only[go_sem] at h)<;>(try exact g_f)<;>(try simp -implicitDefEqProofs only[go_sem,nc0, nc1, nc2, nc3, nc4, nc5, nc6, w1, wn, List.map_cons, List.map_nil, Nat.min_def, List.take, List.drop]))|(with_reducible refine And.intro (fun h=>?_) (fun h=>?_)<;>(try simp only[go_sem] at h)<;>(try exact g_f))|(with_reducible refine And.intro ?_ ?_;· exact g_x)|(with_reducible intro h;(try simp only[go_sem] at h);(try exact g_f))))
  all_goals rfl
end Go.Proofs.Ytephecognbbaoab
namespace Go.Proofs.Ytephecognbbaoab
theorem clone_calls (l : List Int) (hl : l.length ≤ 17592186044000) (σ : Store) : ACalls Try.prog 148 [intsA l] σ fun r σ' => σ' = σ ∧ r = intsA l := by
  refine ACalls.cutX ?_
  refine ACalls_of_awp Try.func148 rfl Try.results148 ?_
  simp only [List.length_cons, List.length_nil, Try.ntmps148, Nat.reduceAdd, Nat.reduceSub, enterA]
  (repeat' (first|(refine g_s fun K hK=>?_)|(refine g_b ?_)|(refine g_r ?_)|(refine g_k ?_;simp only[thenQ,blockQ])|(refine g_e ?_;simp only[thenQ,blockQ,↓reduceIte,Nat.reduceEqDiff])|(refine g_c (fun h=>?_) (fun h=>?_)<;>(try simp only[go_sem] at h)<;>(try exact g_f))|((first|refine g_g ?_|refine g_U ?_|refine g_A ?_|refine g_W ?_);(try simp -implicitDefEqProofs only[go_sem]))|(with_reducible refine hK _ _ ?_;clear hK K)|(clear hK K;first|(with_reducible refine hK _ _ ?_;clear hK K)|(clear hK K;with_reducible refine hK _ _ ?_;clear hK K)|(clear hK K;clear hK K;with_reducible refine hK _ _ ?_;clear hK K))|(with_reducible refine splitB_intro (fun h=>?_) (fun h=>?_)<;>(try simp only[go_sem] at h)<;>(try exact g_f)<;>(try simp -implicitDefEqProofs only[go_sem]))|(with_reducible refine And.intro (fun h=>?_) (fun h=>?_)<;>(try simp only[go_sem] at h)<;>(try exact g_f))|(with_reducible refine And.intro ?_ ?_;· exact g_x)|(with_reducible intro h;(try simp only[go_sem] at h);(try exact g_f))))
  refine ⟨fun h => ?_, ?_⟩
  · have e : l = [] := List.eq_nil_of_length_eq_zero h
    subst e
    refine hK _ _ ?_; clear hK K
    (repeat' (first|(refine g_s fun K hK=>?_)|(refine g_b ?_)|(refine g_r ?_)|(refine g_k ?_;simp only[thenQ,blockQ])|(refine g_e ?_;simp only[thenQ,blockQ,↓reduceIte,Nat.reduceEqDiff])|(refine g_c (fun h=>?_) (fun h=>?_)<;>(try simp only[go_sem] at h)<;>(try exact g_f))|((first|refine g_t ?_|refine g_g ?_|refine g_U ?_|refine g_A ?_|refine g_W ?_);(try simp -implicitDefEqProofs only[go_sem]))|(with_reducible refine hK _ _ ?_;clear hK K)|(clear hK K;first|(with_reducible refine hK _ _ ?_;clear hK K)|(clear hK K;with_reducible refine hK _ _ ?_;clear hK K)|(clear hK K;clear hK K;with_reducible refine hK _ _ ?_;clear hK K))|(with_reducible refine splitB_intro (fun h=>?_) (fun h=>?_)<;>(try simp only[go_sem] at h)<;>(try exact g_f)<;>(try simp -implicitDefEqProofs only[go_sem]))|(with_reducible refine And.intro (fun h=>?_) (fun h=>?_)<;>(try simp only[go_sem] at h)<;>(try exact g_f))|(with_reducible refine And.intro ?_ ?_;· exact g_x)|(with_reducible intro h;(try simp only[go_sem] at h);(try exact g_f))))
    exact CutQ_w (τ := []) (by simp) (.c _) .nil
  · refine hK _ _ ?_; clear hK K
    (repeat' (first|(refine g_s fun K hK=>?_)|(refine g_b ?_)|(refine g_r ?_)|(refine g_k ?_;simp only[thenQ,blockQ])|(refine g_e ?_;simp only[thenQ,blockQ,↓reduceIte,Nat.reduceEqDiff])|(refine g_c (fun h=>?_) (fun h=>?_)<;>(try simp only[go_sem] at h)<;>(try exact g_f))|((first|refine g_g ?_|refine g_U ?_|refine g_A ?_|refine g_W ?_);(try simp -implicitDefEqProofs only[go_sem]))|(with_reducible refine hK _ _ ?_;clear hK K)|(clear hK K;first|(with_reducible refine hK _ _ ?_;clear hK K)|(clear hK K;with_reducible refine hK _ _ ?_;clear hK K)|(clear hK K;clear hK K;with_reducible refine hK _ _ ?_;clear hK K))|(with_reducible refine splitB_intro (fun h=>?_) (fun h=>?_)<;>(try simp only[go_sem] at h)<;>(try exact g_f)<;>(try simp -implicitDefEqProofs only[go_sem]))|(with_reducible refine And.intro (fun h=>?_) (fun h=>?_)<;>(try simp only[go_sem] at h)<;>(try exact g_f))|(with_reducible refine And.intro ?_ ?_;· exact g_x)|(with_reducible intro h;(try simp only[go_sem] at h);(try exact g_f))))
    refine AWP_freezeT 2 (a := .own (σ.length + 1) 1 0 l.length l.length) (es := l.map intC) (by first | rfl | (simp -implicitDefEqProofs only [go_sem]; done) | (simp -implicitDefEqProofs only [go_sem]; rfl)) (by simp [elemsA, st1]) ?_
    have hkil : killA (σ ++ [Ob.dead, Ob.cells 1 (List.map intC l)]) (.own (σ.length + 1) 1 0 l.length l.length) = σ ++ [.dead, .dead] := by simp [killA]
    rw [hkil]
    (repeat' (first|(refine g_s fun K hK=>?_)|(refine g_b ?_)|(refine g_r ?_)|(refine g_k ?_;simp only[thenQ,blockQ])|(refine g_e ?_;simp only[thenQ,blockQ,↓reduceIte,Nat.reduceEqDiff])|(refine g_c (fun h=>?_) (fun h=>?_)<;>(try simp only[go_sem] at h)<;>(try exact g_f))|((first|refine g_t ?_|refine g_g ?_|refine g_U ?_|refine g_A ?_|refine g_W ?_);(try simp -implicitDefEqProofs only[go_sem]))|(with_reducible refine hK _ _ ?_;clear hK K)|(clear hK K;first|(with_reducible refine hK _ _ ?_;clear hK K)|(clear hK K;with_reducible refine hK _ _ ?_;clear hK K)|(clear hK K;clear hK K;with_reducible refine hK _ _ ?_;clear hK K))|(with_reducible refine splitB_intro (fun h=>?_) (fun h=>?_)<;>(try simp only[go_sem] at h)<;>(try exact g_f)<;>(try simp -implicitDefEqProofs only[go_sem]))|(with_reducible refine And.intro (fun h=>?_) (fun h=>?_)<;>(try simp only[go_sem] at h)<;>(try exact g_f))|(with_reducible refine And.intro ?_ ?_;· exact g_x)|(with_reducible intro h;(try simp only[go_sem] at h);(try exact g_f))))
    exact CutQ_w rfl (Bd.ints l) (.eq rfl)
end Go.Proofs.Ytephecognbbaoab
namespace Go.Proofs.Ytephecognbbaoab
end Go.Proofs.Ytephecognbbaoab
namespace Go.Proofs.Ytephecognbbaoab
theorem at0_map {X Y : Type} [Inhabited X] [Inhabited Y] (f : X → Y) (l : List X) {k : Int} (h0 : 0 ≤ k) (h : k < l.length) : at0 (l.map f) k = f (at0 l k) := by
  have : k.toNat < l.length := by omega
  simp [at0, List.getD_eq_getElem?_getD, this]
/-- A contract used, whatever it makes. -/
theorem ACalls.useA {P : Program} {f : FuncId} {args : List AV} {σ S : Store} {X : AV} {R : AV → Store → Prop} (h : ACalls P f args σ fun r σ' => σ' = S ∧ r = X) (hr : R X S) : ACalls P f args σ R :=
  h.mono fun _ _ ⟨h1, h2⟩ => by subst h1; subst h2; exact hr
def Ext (σ S : Store) : Prop := ∃ τ, S = σ ++ τ
theorem Ext.a {σ τ : Store} : Ext σ (σ ++ τ) := ⟨τ, rfl⟩
theorem Ext.b {σ τ τ' : Store} : Ext σ ((σ ++ τ) ++ τ') := ⟨τ ++ τ', List.append_assoc ..⟩
theorem set_map (l : List Int) (k : Nat) (v : Int) : (l.map intC).set k [.c (.int .i64 v)] = (l.set k v).map intC := by
  rw [List.map_set]
  rfl
theorem get_map (l : List Int) {k : Int} (h0 : 0 ≤ k) (h : k < l.length) : (l.map intC)[k.toNat]? = some [.c (.int .i64 (at0 l k))] := by
  have : k.toNat < l.length := by omega
  simp [at0, List.getD_eq_getElem?_getD, this, intC]
theorem at0_set (l : List Int) {k q : Int} (v : Int) (h0 : 0 ≤ k) (hq : 0 ≤ q) (h : k < l.length) : at0 (l.set k.toNat v) q = if q = k then v else at0 l q := by
  simp only [at0, List.getD_eq_getElem?_getD, List.getElem?_set]
  by_cases e : q = k
  · subst e
    have : q.toNat < l.length := by omega
    simp [this]
  · have : ¬ k.toNat = q.toNat := by omega
    simp [this, e]
theorem at0_repl (m : Nat) (v : Int) {q : Int} (h0 : 0 ≤ q) (h : q < m) : at0 (List.replicate m v) q = v := by
  have : q.toNat < m := by omega
  simp [at0, List.getD_eq_getElem?_getD, List.getElem?_replicate, this]
theorem look_calls (n : Net) (i : Int) (H : Int → Int → Int) (f : FuncId) (cap : List AV) (σ : Store) (hn : NetIn n) (hl : n.links.length ≤ 5864062014634) (hi0 : 0 ≤ i) (hi1 : i < n.nodes) (hok : callOk Try.prog f = true)
    (hH : ∀ k j, 0 ≤ k → k < n.nodes → 0 ≤ j → j < n.nodes → 0 ≤ H k j ∧ H k j < n.alg.size)
    (hf : ∀ k j, 0 ≤ k → k < n.nodes → 0 ≤ j → j < n.nodes → ∀ S, Ext σ S → ACalls Try.prog f (intA1 k :: intA1 j :: cap) S fun r σ' => σ' = S ∧ r = intA1 (H k j)) :
    ACalls Try.prog 87 [.agg (netC n), intA1 i, .fn f [] cap] σ fun r σ' => σ' = σ ∧ r = intsA ((ints n.nodes).map fun j => routeL n i j (fun k => H k j) n.links) := by
  have n1 := hn.n1
  have n6 := hn.n6
  have s2 := hn.alg.s2
  have s24 := hn.alg.s24
  have hbl := hn.alg.bl
  have hns : n.nodes = 1 ∨ n.nodes = 2 ∨ n.nodes = 3 ∨ n.nodes = 4 ∨ n.nodes = 5 ∨ n.nodes = 6 := by omega
  obtain ⟨row0, hrow0⟩ : ∃ l, l = List.replicate n.nodes.toNat (n.alg.size - 1) := ⟨_, rfl⟩
  have hl0 : (row0.length : Int) = n.nodes := by rw [hrow0, List.length_replicate]; omega
  have hg0 := get_map row0 hi0 (by omega)
  refine ACalls.cutX ?_
  refine ACalls_of_awp Try.func87 rfl Try.results87 ?_
  simp only [List.length_cons, List.length_nil, Try.ntmps87, Nat.reduceAdd, Nat.reduceSub, enterA]
  refine AWP_seq_k fun K hK => ?_
  (refine AWP_region ?_; simp -implicitDefEqProofs only [go_sem])
  refine hK _ _ ?_; clear hK K
  refine AWP_freezeP 3 rfl (by simp only [st0]; rfl) ?_
  simp only [ss0, List.set_cons_zero]
  refine AWP_seq_k fun K hK => ?_
  (refine AWP_region ?_; simp -implicitDefEqProofs only [go_sem])
  refine hK _ _ ?_; clear hK K
  refine AWP_freezeP 7 rfl (by first | rfl | (simp -implicitDefEqProofs only [go_sem]; done) | (simp -implicitDefEqProofs only [go_sem]; rfl)) ?_
  simp -implicitDefEqProofs only [go_sem]
  refine AWP_seq_k fun K hK => ?_
  (refine AWP_drawK 5 tab_mixed (by kernel_rfl) ?_; simp -implicitDefEqProofs only [go_sem])
  (repeat' (first|(refine g_s fun K hK=>?_)|(refine g_b ?_)|(refine g_r ?_)|(refine g_k ?_;simp only[thenQ,blockQ])|(refine g_e ?_;simp only[thenQ,blockQ,↓reduceIte,Nat.reduceEqDiff])|(refine g_c (fun h=>?_) (fun h=>?_)<;>(try simp only[go_sem] at h)<;>(try exact g_f))|((first|refine g_t ?_|refine g_g ?_|refine g_U ?_|refine g_A ?_|refine (invalid_calls n.alg (by unfold I64; omega) _).use ?_|refine g_q (fun τ=>invalid_calls n.alg (by unfold I64; omega) _) ?_|refine ACalls.useA (hrow0 ▸ repeat_calls (n.alg.size - 1) n.nodes hns _) ?_|refine g_W ?_);(try simp -implicitDefEqProofs only[go_sem,hg0, set_map]))|(with_reducible refine hK _ _ ?_;clear hK K)|(clear hK K;first|(with_reducible refine hK _ _ ?_;clear hK K)|(clear hK K;with_reducible refine hK _ _ ?_;clear hK K)|(clear hK K;clear hK K;with_reducible refine hK _ _ ?_;clear hK K))|(with_reducible refine splitB_intro (fun h=>?_) (fun h=>?_)<;>(try simp only[go_sem] at h)<;>(try exact g_f)<;>(try simp -implicitDefEqProofs only[go_sem,hg0, set_map]))|(with_reducible refine And.intro (fun h=>?_) (fun h=>?_)<;>(try simp only[go_sem] at h)<;>(try exact g_f))|(with_reducible refine And.intro ?_ ?_;· exact g_x)|(with_reducible intro h;(try simp only[go_sem] at h);(try exact g_f))))
  have hJ := hK
  clear hK
  obtain ⟨row1, hrow1⟩ : ∃ l, l = row0.set i.toNat 0 := ⟨_, rfl⟩
  rw [← hrow1]
  have hl1 : (row1.length : Int) = n.nodes := by rw [hrow1, List.length_set]; exact hl0
  have hr1 : ∀ q, 0 ≤ q → q < n.nodes → at0 row1 q = if i = q then 0 else n.alg.size - 1 := fun q h0 h1 => by
    rw [hrow1, at0_set row0 0 hi0 h0 (by omega)]
    by_cases e : q = i
    · rw [if_pos e, if_pos e.symm]
    · rw [if_neg e, if_neg (fun e2 => e e2.symm), hrow0, at0_repl _ _ h0 (by omega)]
  refine AWP_each n.links (fun _ r (row : List Int) => (row.length : Int) = n.nodes ∧ ∀ q, 0 ≤ q → q < n.nodes → routeL n i q (fun k => H k q) n.links = r.foldl (fun out l => if l.fr = i then bestA n out (overA n l.edge (H l.dst q)) else out) (at0 row q) ∧ 0 ≤ at0 row q ∧ at0 row q < n.alg.size)
    (fun k _ _ => [(26, intA1 k)]) (fun _ row τ => σ ++ (.dead :: .dead :: .cells 1 (row.map intC) :: τ)) row1 [] ⟨hl1, fun q h0 h1 => ⟨by rw [hr1 q h0 h1]; rfl, by rw [hr1 q h0 h1]; split <;> omega⟩⟩ rfl (ALe_of ?_) ?_ ?_
  · simp -implicitDefEqProofs only [go_sem]
  · rintro k r row τ hk0 hk1 ⟨hrl, hq⟩ L hL
    have hmem := at0_mem n.links hk0 hk1
    obtain ⟨l, hla⟩ : ∃ l, at0 n.links k = l := ⟨_, rfl⟩
    rw [hla] at hq hmem
    have hlk := hn.lnk l hmem
    have hd0 := hlk.d0
    have hd1 := hlk.d1
    have he0 := hlk.e0
    have he1 := hlk.e1
    simp -implicitDefEqProofs only [go_sem]
    by_cases he : l.fr = i
    · (repeat' (first|(refine g_s fun K hK=>?_)|(refine g_b ?_)|(refine g_r ?_)|(refine g_k ?_;simp only[thenQ,blockQ])|(refine g_e ?_;simp only[thenQ,blockQ,↓reduceIte,Nat.reduceEqDiff])|(refine g_c (fun h=>?_) (fun h=>?_)<;>(try simp only[go_sem] at h)<;>(try exact g_f))|((first|refine g_t ?_|refine g_g ?_|refine g_U ?_|refine g_A ?_|refine g_W ?_);(try simp -implicitDefEqProofs only[go_sem,hla]))|(with_reducible refine hK _ _ ?_;clear hK K)|(clear hK K;first|(with_reducible refine hK _ _ ?_;clear hK K)|(clear hK K;with_reducible refine hK _ _ ?_;clear hK K)|(clear hK K;clear hK K;with_reducible refine hK _ _ ?_;clear hK K))|(with_reducible refine splitB_intro (fun h=>?_) (fun h=>?_)<;>(try simp only[go_sem] at h)<;>(try exact g_f)<;>(try simp -implicitDefEqProofs only[go_sem,hla]))|(with_reducible refine And.intro (fun h=>?_) (fun h=>?_)<;>(try simp only[go_sem] at h)<;>(try exact g_f))|(with_reducible refine And.intro ?_ ?_;· exact g_x)|(with_reducible intro h;(try simp only[go_sem] at h);(try exact g_f))))
      have hJ2 := hK
      clear hK
      refine AWP_for n.nodes (fun j (rw' : List Int) => (rw'.length : Int) = n.nodes ∧ ∀ q, 0 ≤ q → q < n.nodes → at0 rw' q = if q < j then bestA n (at0 row q) (overA n l.edge (H l.dst q)) else at0 row q) (fun j _ _ => [(36, intA1 j)])
        (fun _ rw' τ2 => σ ++ (.dead :: .dead :: .cells 1 (rw'.map intC) :: (τ ++ .cells 3 [lnkC l] :: τ2))) row [] (by omega) ⟨hrl, fun q h0 h1 => by rw [if_neg (by omega)]⟩ (by simp [lnkC, intA1]) (ALe_of ?_) ?_
      · simp -implicitDefEqProofs only [go_sem]
      · rintro j rw' τ2 hj0 hj1 ⟨hrl2, hA⟩ L2 hL2
        by_cases hj2 : j < n.nodes
        · have hold := hA j hj0 hj2
          rw [if_neg (by omega)] at hold
          have hrg := (hq j hj0 hj2).2
          rw [← hold] at hrg
          have hHr := hH l.dst j hd0 hd1 hj0 hj2
          have hov := over_in hn ⟨he0, he1⟩ hHr
          have hbi := best_in hn hrg hov
          have hbr := hn.alg.best_len hrg.1 hrg.2
          have her := hn.alg.edge_len he0 he1
          have hg := get_map rw' hj0 (by omega)
          simp only [bestA, overA, at2] at hov hbi
          simp -implicitDefEqProofs only [go_sem]
          (repeat' (first|(refine g_s fun K hK=>?_)|(refine g_b ?_)|(refine g_r ?_)|(refine g_k ?_;simp only[thenQ,blockQ])|(refine g_e ?_;simp only[thenQ,blockQ,↓reduceIte,Nat.reduceEqDiff])|(refine g_c (fun h=>?_) (fun h=>?_)<;>(try simp only[go_sem] at h)<;>(try exact g_f))|((first|refine g_t ?_|refine g_g ?_|refine g_U ?_|refine g_A ?_|refine (hf l.dst j hd0 hd1 hj0 hj2 _ Ext.b).use ?_|refine g_q (fun τ=>hf l.dst j hd0 hd1 hj0 hj2 _ Ext.b) ?_|refine g_W ?_);(try simp -implicitDefEqProofs only[go_sem,hg, set_map]))|(with_reducible refine hK _ _ ?_;clear hK K)|(clear hK K;first|(with_reducible refine hK _ _ ?_;clear hK K)|(clear hK K;with_reducible refine hK _ _ ?_;clear hK K)|(clear hK K;clear hK K;with_reducible refine hK _ _ ?_;clear hK K))|(with_reducible refine splitB_intro (fun h=>?_) (fun h=>?_)<;>(try simp only[go_sem] at h)<;>(try exact g_f)<;>(try simp -implicitDefEqProofs only[go_sem,hg, set_map]))|(with_reducible refine And.intro (fun h=>?_) (fun h=>?_)<;>(try simp only[go_sem] at h)<;>(try exact g_f))|(with_reducible refine And.intro ?_ ?_;· exact g_x)|(with_reducible intro h;(try simp only[go_sem] at h);(try exact g_f))))
          refine hL2 hj2 (rw'.set j.toNat (at0 (at0 n.alg.best (at0 rw' j)) (at0 (at0 n.alg.edges l.edge) (H l.dst j)))) τ2 _ _ ⟨by rw [List.length_set]; exact hrl2, fun q h0 h1 => ?_⟩ (ALe_of ?_) rfl
          · rw [at0_set rw' _ hj0 h0 (by omega)]
            by_cases e : q = j
            · rw [if_pos e, if_pos (by omega), e, ← hold]
              rfl
            · rw [if_neg e, hA q h0 h1]
              by_cases e2 : q < j
              · rw [if_pos e2, if_pos (by omega)]
              · rw [if_neg e2, if_neg (by omega)]
          · simp -implicitDefEqProofs only [go_sem]
        · simp -implicitDefEqProofs only [go_sem]
          (repeat' (first|(refine g_s fun K hK=>?_)|(refine g_b ?_)|(refine g_r ?_)|(refine g_k ?_;simp only[thenQ,blockQ])|(refine g_e ?_;simp only[thenQ,blockQ,↓reduceIte,Nat.reduceEqDiff])|(refine g_c (fun h=>?_) (fun h=>?_)<;>(try simp only[go_sem] at h)<;>(try exact g_f))|((first|refine g_t ?_|refine g_g ?_|refine g_U ?_|refine g_A ?_|refine g_W ?_);(try simp -implicitDefEqProofs only[go_sem]))|(with_reducible refine hK _ _ ?_;clear hK K)|(clear hK K;first|(with_reducible refine hK _ _ ?_;clear hK K)|(clear hK K;with_reducible refine hK _ _ ?_;clear hK K)|(clear hK K;clear hK K;with_reducible refine hK _ _ ?_;clear hK K))|(with_reducible refine splitB_intro (fun h=>?_) (fun h=>?_)<;>(try simp only[go_sem] at h)<;>(try exact g_f)<;>(try simp -implicitDefEqProofs only[go_sem]))|(with_reducible refine And.intro (fun h=>?_) (fun h=>?_)<;>(try simp only[go_sem] at h)<;>(try exact g_f))|(with_reducible refine And.intro ?_ ?_;· exact g_x)|(with_reducible intro h;(try simp only[go_sem] at h);(try exact g_f))))
          refine hJ2 _ _ ?_
          clear hJ2
          (repeat' (first|(refine g_s fun K hK=>?_)|(refine g_b ?_)|(refine g_r ?_)|(refine g_k ?_;simp only[thenQ,blockQ])|(refine g_e ?_;simp only[thenQ,blockQ,↓reduceIte,Nat.reduceEqDiff])|(refine g_c (fun h=>?_) (fun h=>?_)<;>(try simp only[go_sem] at h)<;>(try exact g_f))|((first|refine g_t ?_|refine g_g ?_|refine g_U ?_|refine g_A ?_|refine g_W ?_);(try simp -implicitDefEqProofs only[go_sem]))|(with_reducible refine hK _ _ ?_;clear hK K)|(clear hK K;first|(with_reducible refine hK _ _ ?_;clear hK K)|(clear hK K;with_reducible refine hK _ _ ?_;clear hK K)|(clear hK K;clear hK K;with_reducible refine hK _ _ ?_;clear hK K))|(with_reducible refine splitB_intro (fun h=>?_) (fun h=>?_)<;>(try simp only[go_sem] at h)<;>(try exact g_f)<;>(try simp -implicitDefEqProofs only[go_sem]))|(with_reducible refine And.intro (fun h=>?_) (fun h=>?_)<;>(try simp only[go_sem] at h)<;>(try exact g_f))|(with_reducible refine And.intro ?_ ?_;· exact g_x)|(with_reducible intro h;(try simp only[go_sem] at h);(try exact g_f))))
          refine hL rw' (τ ++ .cells 3 [lnkC l] :: τ2) _ _ ⟨hrl2, fun q h0 h1 => ?_⟩ (ALe_of ?_) (by simp [lnkC, intA1])
          · have h3 := hq q h0 h1
            have h4 := hA q h0 h1
            rw [if_pos (by omega)] at h4
            rw [List.foldl_cons, if_pos he] at h3
            rw [h4]
            exact ⟨h3.1, best_in hn h3.2 (over_in hn ⟨he0, he1⟩ (hH l.dst q hd0 hd1 h0 h1))⟩
          · simp -implicitDefEqProofs only [go_sem]
    · (repeat' (first|(refine g_s fun K hK=>?_)|(refine g_b ?_)|(refine g_r ?_)|(refine g_k ?_;simp only[thenQ,blockQ])|(refine g_e ?_;simp only[thenQ,blockQ,↓reduceIte,Nat.reduceEqDiff])|(refine g_c (fun h=>?_) (fun h=>?_)<;>(try simp only[go_sem] at h)<;>(try exact g_f))|((first|refine g_t ?_|refine g_g ?_|refine g_U ?_|refine g_A ?_|refine g_W ?_);(try simp -implicitDefEqProofs only[go_sem,hla]))|(with_reducible refine hK _ _ ?_;clear hK K)|(clear hK K;first|(with_reducible refine hK _ _ ?_;clear hK K)|(clear hK K;with_reducible refine hK _ _ ?_;clear hK K)|(clear hK K;clear hK K;with_reducible refine hK _ _ ?_;clear hK K))|(with_reducible refine splitB_intro (fun h=>?_) (fun h=>?_)<;>(try simp only[go_sem] at h)<;>(try exact g_f)<;>(try simp -implicitDefEqProofs only[go_sem,hla]))|(with_reducible refine And.intro (fun h=>?_) (fun h=>?_)<;>(try simp only[go_sem] at h)<;>(try exact g_f))|(with_reducible refine And.intro ?_ ?_;· exact g_x)|(with_reducible intro h;(try simp only[go_sem] at h);(try exact g_f))))
      refine hL row (τ ++ [.cells 3 [lnkC l]]) _ _ ⟨hrl, fun q h0 h1 => ?_⟩ (ALe_of ?_) (by simp [lnkC, intA1])
      · have h3 := hq q h0 h1
        rw [List.foldl_cons, if_neg he] at h3
        exact h3
      · simp -implicitDefEqProofs only [go_sem]
  · rintro k row τ hk ⟨hrl, hq⟩ L
    simp -implicitDefEqProofs only [go_sem]
    (repeat' (first|(refine g_s fun K hK=>?_)|(refine g_b ?_)|(refine g_r ?_)|(refine g_k ?_;simp only[thenQ,blockQ])|(refine g_e ?_;simp only[thenQ,blockQ,↓reduceIte,Nat.reduceEqDiff])|(refine g_c (fun h=>?_) (fun h=>?_)<;>(try simp only[go_sem] at h)<;>(try exact g_f))|((first|refine g_g ?_|refine g_U ?_|refine g_A ?_|refine g_W ?_);(try simp -implicitDefEqProofs only[go_sem]))|(with_reducible refine hK _ _ ?_;clear hK K)|(clear hK K;first|(with_reducible refine hK _ _ ?_;clear hK K)|(clear hK K;with_reducible refine hK _ _ ?_;clear hK K)|(clear hK K;clear hK K;with_reducible refine hK _ _ ?_;clear hK K))|(with_reducible refine splitB_intro (fun h=>?_) (fun h=>?_)<;>(try simp only[go_sem] at h)<;>(try exact g_f)<;>(try simp -implicitDefEqProofs only[go_sem]))|(with_reducible refine And.intro (fun h=>?_) (fun h=>?_)<;>(try simp only[go_sem] at h)<;>(try exact g_f))|(with_reducible refine And.intro ?_ ?_;· exact g_x)|(with_reducible intro h;(try simp only[go_sem] at h);(try exact g_f))))
    refine hJ _ _ ?_
    clear hJ
    refine AWP_freezeT 8 (a := .own (σ.length + 2) 1 0 n.nodes.toNat n.nodes.toNat) (es := row.map intC) (by first | rfl | (simp -implicitDefEqProofs only [go_sem]; done) | (simp -implicitDefEqProofs only [go_sem]; rfl)) (by simp [elemsA, st1]; omega) ?_
    have hkil : killA (σ ++ (.dead :: .dead :: .cells 1 (row.map intC) :: τ)) (.own (σ.length + 2) 1 0 n.nodes.toNat n.nodes.toNat) = σ ++ (.dead :: .dead :: .dead :: τ) := by simp [killA]
    rw [hkil]
    (repeat' (first|(refine g_s fun K hK=>?_)|(refine g_b ?_)|(refine g_r ?_)|(refine g_k ?_;simp only[thenQ,blockQ])|(refine g_e ?_;simp only[thenQ,blockQ,↓reduceIte,Nat.reduceEqDiff])|(refine g_c (fun h=>?_) (fun h=>?_)<;>(try simp only[go_sem] at h)<;>(try exact g_f))|((first|refine g_t ?_|refine g_g ?_|refine g_U ?_|refine g_A ?_|refine g_W ?_);(try simp -implicitDefEqProofs only[go_sem]))|(with_reducible refine hK _ _ ?_;clear hK K)|(clear hK K;first|(with_reducible refine hK _ _ ?_;clear hK K)|(clear hK K;with_reducible refine hK _ _ ?_;clear hK K)|(clear hK K;clear hK K;with_reducible refine hK _ _ ?_;clear hK K))|(with_reducible refine splitB_intro (fun h=>?_) (fun h=>?_)<;>(try simp only[go_sem] at h)<;>(try exact g_f)<;>(try simp -implicitDefEqProofs only[go_sem]))|(with_reducible refine And.intro (fun h=>?_) (fun h=>?_)<;>(try simp only[go_sem] at h)<;>(try exact g_f))|(with_reducible refine And.intro ?_ ?_;· exact g_x)|(with_reducible intro h;(try simp only[go_sem] at h);(try exact g_f))))
    have hrow : row = (ints n.nodes).map fun j => routeL n i j (fun k => H k j) n.links := by
      refine at0_eq (by rw [List.length_map, ints_length]; omega) fun q h0 h1 => ?_
      rw [at0_map _ _ h0 (by rw [ints_length]; omega), at0_ints h0 (by omega), (hq q h0 (by omega)).1]
      rfl
    rw [← hrow]
    exact CutQ_w rfl (Bd.ints _) (.eq rfl)
end Go.Proofs.Ytephecognbbaoab
namespace Go.Proofs.Ytephecognbbaoab
def beginRow (n : Net) (i : Int) : List Int := (ints n.nodes).map fun j => if i = j then 0 else n.alg.size - 1
theorem trivial_calls (n : Net) (hn : NetIn n) (σ : Store) : ACalls Try.prog 74 [.agg (netC n)] σ fun r σ' => σ' = σ ∧ r = rowsC (beginA n) := by
  have n1 := hn.n1
  have n6 := hn.n6
  have s2 := hn.alg.s2
  have s24 := hn.alg.s24
  have hns : n.nodes = 1 ∨ n.nodes = 2 ∨ n.nodes = 3 ∨ n.nodes = 4 ∨ n.nodes = 5 ∨ n.nodes = 6 := by omega
  refine ACalls.cutX ?_
  refine ACalls_of_awp Try.func74 rfl Try.results74 ?_
  simp only [List.length_cons, List.length_nil, Try.ntmps74, Nat.reduceAdd, Nat.reduceSub, enterA]
  refine AWP_seq_k fun K hK => ?_
  (refine AWP_region ?_; simp -implicitDefEqProofs only [go_sem])
  refine hK _ _ ?_; clear hK K
  refine AWP_freezeP 1 rfl (by simp only [st0]; rfl) ?_
  simp only [ss0, List.set_cons_zero]
  (repeat' (first|(refine g_s fun K hK=>?_)|(refine g_b ?_)|(refine g_r ?_)|(refine g_k ?_;simp only[thenQ,blockQ])|(refine g_e ?_;simp only[thenQ,blockQ,↓reduceIte,Nat.reduceEqDiff])|(refine g_c (fun h=>?_) (fun h=>?_)<;>(try simp only[go_sem] at h)<;>(try exact g_f))|((first|refine g_t ?_|refine g_G ?_|refine g_U ?_|refine g_A ?_|refine g_W ?_);(try simp -implicitDefEqProofs only[go_sem]))|(with_reducible refine hK _ _ ?_;clear hK K)|(clear hK K;first|(with_reducible refine hK _ _ ?_;clear hK K)|(clear hK K;with_reducible refine hK _ _ ?_;clear hK K)|(clear hK K;clear hK K;with_reducible refine hK _ _ ?_;clear hK K))|(with_reducible refine splitB_intro (fun h=>?_) (fun h=>?_)<;>(try simp only[go_sem] at h)<;>(try exact g_f)<;>(try simp -implicitDefEqProofs only[go_sem]))|(with_reducible refine And.intro (fun h=>?_) (fun h=>?_)<;>(try simp only[go_sem] at h)<;>(try exact g_f))|(with_reducible refine And.intro ?_ ?_;· exact g_x)|(with_reducible intro h;(try simp only[go_sem] at h);(try exact g_f))))
  refine AWP_pad ?_
  have hJ := hK
  clear hK
  refine AWP_each (ints n.nodes) (fun i r acc => acc ++ r.map (beginRow n) = beginA n) (fun i acc τ => [(8, intA1 i), (3, accV 1 (σ.length + (τ.length + 1)) acc)]) (fun _ acc τ => σ ++ (.dead :: (τ ++ [accO rowC 1 acc]))) [] [] rfl ?_ (ALe_of ?_) ?_ ?_
  · simp [accO]
  · simp -implicitDefEqProofs only [go_sem, accV, accO]
  · rintro i r acc τ hi0 hi1 h3 L hL
    rw [ints_length] at hi1
    rw [at0_ints hi0 (by omega)] at h3
    have hal : acc.length + 1 ≤ 6 := by have := congrArg List.length h3; simp [beginA, ints_length] at this; omega
    obtain ⟨row0, hrow0⟩ : ∃ l, l = List.replicate n.nodes.toNat (n.alg.size - 1) := ⟨_, rfl⟩
    have hl0 : (row0.length : Int) = n.nodes := by rw [hrow0, List.length_replicate]; omega
    have hg0 := get_map row0 hi0 (by omega)
    have hrow : row0.set i.toNat 0 = beginRow n i := by
      refine at0_eq (by rw [List.length_set, beginRow, List.length_map, ints_length]; omega) fun q h0 h1 => ?_
      rw [List.length_set] at h1
      rw [at0_set row0 0 hi0 h0 (by omega), beginRow, at0_map _ _ h0 (by rw [ints_length]; omega), at0_ints h0 (by omega)]
      by_cases e : q = i
      · rw [if_pos e, if_pos e.symm]
      · rw [if_neg e, if_neg (fun e2 => e e2.symm), hrow0, at0_repl _ _ h0 (by omega)]
    have hrl : (beginRow n i).length = n.nodes.toNat := by rw [beginRow, List.length_map, ints_length]
    rcases acc with _ | ⟨y, acc⟩ <;> simp only [List.length_cons, List.length_nil] at hal <;> simp -implicitDefEqProofs only [go_sem, accV, accO]
    · (repeat' (first|(refine g_s fun K hK=>?_)|(refine g_b ?_)|(refine g_r ?_)|(refine g_k ?_;simp only[thenQ,blockQ])|(refine g_e ?_;simp only[thenQ,blockQ,↓reduceIte,Nat.reduceEqDiff])|(refine g_c (fun h=>?_) (fun h=>?_)<;>(try simp only[go_sem] at h)<;>(try exact g_f))|((first|refine g_t ?_|refine g_G ?_);(try simp -implicitDefEqProofs only[go_sem]))|(with_reducible refine hK _ _ ?_;clear hK K)|(clear hK K;first|(with_reducible refine hK _ _ ?_;clear hK K)|(clear hK K;with_reducible refine hK _ _ ?_;clear hK K)|(clear hK K;clear hK K;with_reducible refine hK _ _ ?_;clear hK K))|(with_reducible refine splitB_intro (fun h=>?_) (fun h=>?_)<;>(try simp only[go_sem] at h)<;>(try exact g_f)<;>(try simp -implicitDefEqProofs only[go_sem]))|(with_reducible refine And.intro (fun h=>?_) (fun h=>?_)<;>(try simp only[go_sem] at h)<;>(try exact g_f))|(with_reducible refine And.intro ?_ ?_;· exact g_x)|(with_reducible intro h;(try simp only[go_sem] at h);(try exact g_f))))
      have hJ5 := hK
      clear hK
      (refine AWP_drawK 6 tab_mixed (by kernel_rfl) ?_; simp -implicitDefEqProofs only [go_sem])
      (repeat' (first|(refine g_s fun K hK=>?_)|(refine g_b ?_)|(refine g_r ?_)|(refine g_k ?_;simp only[thenQ,blockQ])|(refine g_e ?_;simp only[thenQ,blockQ,↓reduceIte,Nat.reduceEqDiff])|(refine g_c (fun h=>?_) (fun h=>?_)<;>(try simp only[go_sem] at h)<;>(try exact g_f))|((first|refine g_t ?_|refine g_G ?_|refine (invalid_calls n.alg (by unfold I64; omega) _).use ?_|refine g_q (fun τ=>invalid_calls n.alg (by unfold I64; omega) _) ?_|refine ACalls.useA (hrow0 ▸ repeat_calls (n.alg.size - 1) n.nodes hns _) ?_);(try simp -implicitDefEqProofs only[go_sem]))|(with_reducible refine hK _ _ ?_;clear hK K)|(clear hK K;first|(with_reducible refine hK _ _ ?_;clear hK K)|(clear hK K;with_reducible refine hK _ _ ?_;clear hK K)|(clear hK K;clear hK K;with_reducible refine hK _ _ ?_;clear hK K))|(with_reducible refine splitB_intro (fun h=>?_) (fun h=>?_)<;>(try simp only[go_sem] at h)<;>(try exact g_f)<;>(try simp -implicitDefEqProofs only[go_sem]))|(with_reducible refine And.intro (fun h=>?_) (fun h=>?_)<;>(try simp only[go_sem] at h)<;>(try exact g_f))|(with_reducible refine And.intro ?_ ?_;· exact g_x)|(with_reducible intro h;(try simp only[go_sem] at h);(try exact g_f))))
      refine hJ5 _ _ ?_
      clear hJ5
      refine AWP_seq_k fun K hK => ?_
      have hJ6 := hK
      clear hK
      (repeat' (first|(refine g_s fun K hK=>?_)|(refine g_b ?_)|(refine g_r ?_)|(refine g_k ?_;simp only[thenQ,blockQ])|(refine g_e ?_;simp only[thenQ,blockQ,↓reduceIte,Nat.reduceEqDiff])|(refine g_c (fun h=>?_) (fun h=>?_)<;>(try simp only[go_sem] at h)<;>(try exact g_f))|((first|refine g_t ?_|refine g_G ?_);(try simp -implicitDefEqProofs only[go_sem,hg0, set_map]))|(with_reducible refine hK _ _ ?_;clear hK K)|(clear hK K;first|(with_reducible refine hK _ _ ?_;clear hK K)|(clear hK K;with_reducible refine hK _ _ ?_;clear hK K)|(clear hK K;clear hK K;with_reducible refine hK _ _ ?_;clear hK K))|(with_reducible refine splitB_intro (fun h=>?_) (fun h=>?_)<;>(try simp only[go_sem] at h)<;>(try exact g_f)<;>(try simp -implicitDefEqProofs only[go_sem,hg0, set_map]))|(with_reducible refine And.intro (fun h=>?_) (fun h=>?_)<;>(try simp only[go_sem] at h)<;>(try exact g_f))|(with_reducible refine And.intro ?_ ?_;· exact g_x)|(with_reducible intro h;(try simp only[go_sem] at h);(try exact g_f))))
      refine hJ6 _ _ ?_
      clear hJ6
      rw [hrow]
      refine AWP_freezeT 5 (a := .own (σ.length + (τ.length + 2)) 1 0 n.nodes.toNat n.nodes.toNat) (es := (beginRow n i).map intC) (by first | rfl | (simp -implicitDefEqProofs only [go_sem]; done) | (simp -implicitDefEqProofs only [go_sem]; rfl)) (by simp [elemsA, st1, sc1, hrl]) ?_
      have hkil : killA (σ ++ (.dead :: (τ ++ [.dead, .cells 1 ((beginRow n i).map intC)]))) (.own (σ.length + (τ.length + 2)) 1 0 n.nodes.toNat n.nodes.toNat) = σ ++ (.dead :: (τ ++ [.dead, .dead])) := by simp [killA, ss1c]
      rw [hkil]
      (repeat' (first|(refine g_s fun K hK=>?_)|(refine g_b ?_)|(refine g_r ?_)|(refine g_k ?_;simp only[thenQ,blockQ])|(refine g_e ?_;simp only[thenQ,blockQ,↓reduceIte,Nat.reduceEqDiff])|(refine g_c (fun h=>?_) (fun h=>?_)<;>(try simp only[go_sem] at h)<;>(try exact g_f))|((first|refine g_t ?_|refine g_G ?_|refine g_U ?_|refine g_A ?_|refine g_W ?_);(try simp -implicitDefEqProofs only[go_sem]))|(with_reducible refine hK _ _ ?_;clear hK K)|(clear hK K;first|(with_reducible refine hK _ _ ?_;clear hK K)|(clear hK K;with_reducible refine hK _ _ ?_;clear hK K)|(clear hK K;clear hK K;with_reducible refine hK _ _ ?_;clear hK K))|(with_reducible refine splitB_intro (fun h=>?_) (fun h=>?_)<;>(try simp only[go_sem] at h)<;>(try exact g_f)<;>(try simp -implicitDefEqProofs only[go_sem]))|(with_reducible refine And.intro (fun h=>?_) (fun h=>?_)<;>(try simp only[go_sem] at h)<;>(try exact g_f))|(with_reducible refine And.intro ?_ ?_;· exact g_x)|(with_reducible intro h;(try simp only[go_sem] at h);(try exact g_f))))
      refine hL ([beginRow n i]) (τ ++ [.dead, .dead]) _ _ (by simpa using h3) (ALe_of ?_) ?_
      · simp -implicitDefEqProofs only [go_sem, accV]
      · simp [accO, rowC, intsA]
    · (repeat' (first|(refine g_s fun K hK=>?_)|(refine g_b ?_)|(refine g_r ?_)|(refine g_k ?_;simp only[thenQ,blockQ])|(refine g_e ?_;simp only[thenQ,blockQ,↓reduceIte,Nat.reduceEqDiff])|(refine g_c (fun h=>?_) (fun h=>?_)<;>(try simp only[go_sem] at h)<;>(try exact g_f))|((first|refine g_t ?_|refine g_G ?_);(try simp -implicitDefEqProofs only[go_sem]))|(with_reducible refine hK _ _ ?_;clear hK K)|(clear hK K;first|(with_reducible refine hK _ _ ?_;clear hK K)|(clear hK K;with_reducible refine hK _ _ ?_;clear hK K)|(clear hK K;clear hK K;with_reducible refine hK _ _ ?_;clear hK K))|(with_reducible refine splitB_intro (fun h=>?_) (fun h=>?_)<;>(try simp only[go_sem] at h)<;>(try exact g_f)<;>(try simp -implicitDefEqProofs only[go_sem]))|(with_reducible refine And.intro (fun h=>?_) (fun h=>?_)<;>(try simp only[go_sem] at h)<;>(try exact g_f))|(with_reducible refine And.intro ?_ ?_;· exact g_x)|(with_reducible intro h;(try simp only[go_sem] at h);(try exact g_f))))
      have hJ5 := hK
      clear hK
      (refine AWP_drawK 6 tab_mixed (by kernel_rfl) ?_; simp -implicitDefEqProofs only [go_sem])
      (repeat' (first|(refine g_s fun K hK=>?_)|(refine g_b ?_)|(refine g_r ?_)|(refine g_k ?_;simp only[thenQ,blockQ])|(refine g_e ?_;simp only[thenQ,blockQ,↓reduceIte,Nat.reduceEqDiff])|(refine g_c (fun h=>?_) (fun h=>?_)<;>(try simp only[go_sem] at h)<;>(try exact g_f))|((first|refine g_t ?_|refine g_G ?_|refine (invalid_calls n.alg (by unfold I64; omega) _).use ?_|refine g_q (fun τ=>invalid_calls n.alg (by unfold I64; omega) _) ?_|refine ACalls.useA (hrow0 ▸ repeat_calls (n.alg.size - 1) n.nodes hns _) ?_);(try simp -implicitDefEqProofs only[go_sem]))|(with_reducible refine hK _ _ ?_;clear hK K)|(clear hK K;first|(with_reducible refine hK _ _ ?_;clear hK K)|(clear hK K;with_reducible refine hK _ _ ?_;clear hK K)|(clear hK K;clear hK K;with_reducible refine hK _ _ ?_;clear hK K))|(with_reducible refine splitB_intro (fun h=>?_) (fun h=>?_)<;>(try simp only[go_sem] at h)<;>(try exact g_f)<;>(try simp -implicitDefEqProofs only[go_sem]))|(with_reducible refine And.intro (fun h=>?_) (fun h=>?_)<;>(try simp only[go_sem] at h)<;>(try exact g_f))|(with_reducible refine And.intro ?_ ?_;· exact g_x)|(with_reducible intro h;(try simp only[go_sem] at h);(try exact g_f))))
      refine hJ5 _ _ ?_
      clear hJ5
      refine AWP_seq_k fun K hK => ?_
      have hJ6 := hK
      clear hK
      (repeat' (first|(refine g_s fun K hK=>?_)|(refine g_b ?_)|(refine g_r ?_)|(refine g_k ?_;simp only[thenQ,blockQ])|(refine g_e ?_;simp only[thenQ,blockQ,↓reduceIte,Nat.reduceEqDiff])|(refine g_c (fun h=>?_) (fun h=>?_)<;>(try simp only[go_sem] at h)<;>(try exact g_f))|((first|refine g_t ?_|refine g_G ?_);(try simp -implicitDefEqProofs only[go_sem,hg0, set_map]))|(with_reducible refine hK _ _ ?_;clear hK K)|(clear hK K;first|(with_reducible refine hK _ _ ?_;clear hK K)|(clear hK K;with_reducible refine hK _ _ ?_;clear hK K)|(clear hK K;clear hK K;with_reducible refine hK _ _ ?_;clear hK K))|(with_reducible refine splitB_intro (fun h=>?_) (fun h=>?_)<;>(try simp only[go_sem] at h)<;>(try exact g_f)<;>(try simp -implicitDefEqProofs only[go_sem,hg0, set_map]))|(with_reducible refine And.intro (fun h=>?_) (fun h=>?_)<;>(try simp only[go_sem] at h)<;>(try exact g_f))|(with_reducible refine And.intro ?_ ?_;· exact g_x)|(with_reducible intro h;(try simp only[go_sem] at h);(try exact g_f))))
      refine hJ6 _ _ ?_
      clear hJ6
      rw [hrow]
      refine AWP_freezeT 5 (a := .own (σ.length + (τ.length + 2)) 1 0 n.nodes.toNat n.nodes.toNat) (es := (beginRow n i).map intC) (by first | rfl | (simp -implicitDefEqProofs only [go_sem]; done) | (simp -implicitDefEqProofs only [go_sem]; rfl)) (by simp [elemsA, st1, sc1, hrl]) ?_
      have hkil : killA (σ ++ (.dead :: (τ ++ [.cells 1 ((y :: acc).map rowC), .cells 1 ((beginRow n i).map intC)]))) (.own (σ.length + (τ.length + 2)) 1 0 n.nodes.toNat n.nodes.toNat) = σ ++ (.dead :: (τ ++ [.cells 1 ((y :: acc).map rowC), .dead])) := by simp [killA, ss1c]
      rw [hkil]
      (repeat' (first|(refine g_s fun K hK=>?_)|(refine g_b ?_)|(refine g_r ?_)|(refine g_k ?_;simp only[thenQ,blockQ])|(refine g_e ?_;simp only[thenQ,blockQ,↓reduceIte,Nat.reduceEqDiff])|(refine g_c (fun h=>?_) (fun h=>?_)<;>(try simp only[go_sem] at h)<;>(try exact g_f))|((first|refine g_t ?_|refine g_G ?_|refine g_U ?_|refine g_A ?_|refine g_W ?_);(try simp -implicitDefEqProofs only[go_sem]))|(with_reducible refine hK _ _ ?_;clear hK K)|(clear hK K;first|(with_reducible refine hK _ _ ?_;clear hK K)|(clear hK K;with_reducible refine hK _ _ ?_;clear hK K)|(clear hK K;clear hK K;with_reducible refine hK _ _ ?_;clear hK K))|(with_reducible refine splitB_intro (fun h=>?_) (fun h=>?_)<;>(try simp only[go_sem] at h)<;>(try exact g_f)<;>(try simp -implicitDefEqProofs only[go_sem]))|(with_reducible refine And.intro (fun h=>?_) (fun h=>?_)<;>(try simp only[go_sem] at h)<;>(try exact g_f))|(with_reducible refine And.intro ?_ ?_;· exact g_x)|(with_reducible intro h;(try simp only[go_sem] at h);(try exact g_f))))
      refine hL (y :: acc ++ [beginRow n i]) (τ ++ [.dead, .dead]) _ _ (by simpa using h3) (ALe_of ?_) ?_
      · simp -implicitDefEqProofs only [go_sem, accV]
      · simp [accO, rowC, intsA]
  · rintro i acc τ hi h3 L
    rw [ints_length] at hi
    rw [List.map_nil, List.append_nil] at h3
    simp -implicitDefEqProofs only [go_sem]
    (repeat' (first|(refine g_s fun K hK=>?_)|(refine g_b ?_)|(refine g_r ?_)|(refine g_k ?_;simp only[thenQ,blockQ])|(refine g_e ?_;simp only[thenQ,blockQ,↓reduceIte,Nat.reduceEqDiff])|(refine g_c (fun h=>?_) (fun h=>?_)<;>(try simp only[go_sem] at h)<;>(try exact g_f))|((first|refine g_g ?_|refine g_U ?_|refine g_A ?_|refine g_W ?_);(try simp -implicitDefEqProofs only[go_sem]))|(with_reducible refine hK _ _ ?_;clear hK K)|(clear hK K;first|(with_reducible refine hK _ _ ?_;clear hK K)|(clear hK K;with_reducible refine hK _ _ ?_;clear hK K)|(clear hK K;clear hK K;with_reducible refine hK _ _ ?_;clear hK K))|(with_reducible refine splitB_intro (fun h=>?_) (fun h=>?_)<;>(try simp only[go_sem] at h)<;>(try exact g_f)<;>(try simp -implicitDefEqProofs only[go_sem]))|(with_reducible refine And.intro (fun h=>?_) (fun h=>?_)<;>(try simp only[go_sem] at h)<;>(try exact g_f))|(with_reducible refine And.intro ?_ ?_;· exact g_x)|(with_reducible intro h;(try simp only[go_sem] at h);(try exact g_f))))
    refine hJ _ _ ?_
    clear hJ
    have est : σ ++ (.dead :: (τ ++ [accO rowC 1 acc])) = σ ++ ((.dead :: τ) ++ accO rowC 1 acc :: []) := by simp
    rw [est]
    refine AWP_freezeAcc 3 rowC 1 acc σ (.dead :: τ) [] (by simp [look, Nat.add_assoc]) ?_
    (repeat' (first|(refine g_s fun K hK=>?_)|(refine g_b ?_)|(refine g_r ?_)|(refine g_k ?_;simp only[thenQ,blockQ])|(refine g_e ?_;simp only[thenQ,blockQ,↓reduceIte,Nat.reduceEqDiff])|(refine g_c (fun h=>?_) (fun h=>?_)<;>(try simp only[go_sem] at h)<;>(try exact g_f))|((first|refine g_t ?_|refine g_G ?_|refine g_U ?_|refine g_A ?_|refine g_W ?_);(try simp -implicitDefEqProofs only[go_sem]))|(with_reducible refine hK _ _ ?_;clear hK K)|(clear hK K;first|(with_reducible refine hK _ _ ?_;clear hK K)|(clear hK K;with_reducible refine hK _ _ ?_;clear hK K)|(clear hK K;clear hK K;with_reducible refine hK _ _ ?_;clear hK K))|(with_reducible refine splitB_intro (fun h=>?_) (fun h=>?_)<;>(try simp only[go_sem] at h)<;>(try exact g_f)<;>(try simp -implicitDefEqProofs only[go_sem]))|(with_reducible refine And.intro (fun h=>?_) (fun h=>?_)<;>(try simp only[go_sem] at h)<;>(try exact g_f))|(with_reducible refine And.intro ?_ ?_;· exact g_x)|(with_reducible intro h;(try simp only[go_sem] at h);(try exact g_f))))
    rw [h3]
    exact CutQ_w rfl (Bd.rows _) (.eq rfl)
def twoN : Net := ⟨hopsX, 2, [⟨0, 1, 0⟩, ⟨1, 0, 0⟩]⟩
theorem twoN_ok : NetOk twoN := ⟨⟨by decide, by decide, by unfold I64; decide, by decide⟩, by unfold I64; decide, by decide, by unfold I64; decide⟩
theorem netC_bd {m : Nat} (n : Net) : Bd m (.agg (netC n)) := .aggL (.cons (.c _) (.cons (.rows _) (.cons (.rows _) (.cons (.c _) (.cons (.slL (fun _ => .cons (.c _) (.cons (.c _) (.cons (.c _) .nil))) _) .nil)))))
theorem two_calls (σ : Store) : ACalls Try.prog 81 [] σ fun r σ' => σ' = σ ∧ r = .agg (netC twoN) := by
  refine ACalls.cutX ?_
  refine ACalls_of_awp Try.func81 rfl Try.results81 ?_
  simp only [List.length_cons, List.length_nil, Try.ntmps81, Nat.reduceAdd, Nat.reduceSub, enterA]
  (repeat' (first|(refine g_s fun K hK=>?_)|(refine g_b ?_)|(refine g_r ?_)|(refine g_k ?_;simp only[thenQ,blockQ])|(refine g_e ?_;simp only[thenQ,blockQ,↓reduceIte,Nat.reduceEqDiff])|(refine g_c (fun h=>?_) (fun h=>?_)<;>(try simp only[go_sem] at h)<;>(try exact g_f))|((first|refine g_t ?_|refine g_G ?_|refine g_U ?_|refine g_A ?_|refine (hops_calls _).use ?_|refine g_q (fun τ=>hops_calls _) ?_|refine g_W ?_);(try simp -implicitDefEqProofs only[go_sem,hopsX]))|(with_reducible refine hK _ _ ?_;clear hK K)|(clear hK K;first|(with_reducible refine hK _ _ ?_;clear hK K)|(clear hK K;with_reducible refine hK _ _ ?_;clear hK K)|(clear hK K;clear hK K;with_reducible refine hK _ _ ?_;clear hK K))|(with_reducible refine splitB_intro (fun h=>?_) (fun h=>?_)<;>(try simp only[go_sem] at h)<;>(try exact g_f)<;>(try simp -implicitDefEqProofs only[go_sem,hopsX]))|(with_reducible refine And.intro (fun h=>?_) (fun h=>?_)<;>(try simp only[go_sem] at h)<;>(try exact g_f))|(with_reducible refine And.intro ?_ ?_;· exact g_x)|(with_reducible intro h;(try simp only[go_sem] at h);(try exact g_f))))
  refine CutQ_w rfl (netC_bd twoN) (.eq rfl)
end Go.Proofs.Ytephecognbbaoab
namespace Go.Proofs.Ytephecognbbaoab
theorem indexFunc_rows (l : List (List Int)) (p : List Int → Bool) (f : FuncId) (first cap : List AV) (σ : Store) (hl : l.length ≤ 1000000000000000000) (hok : callOk Try.prog f = true)
    (hf : ∀ x ∈ l, ACalls Try.prog f (first ++ intsA x :: cap) σ fun r σ' => σ' = σ ∧ r = .c (.bool (p x))) :
    ACalls Try.prog 158 [rowsC l, .fn f first cap] σ fun r σ' => σ' = σ ∧ r = intA1 (firstI p 0 l) := by
  refine ACalls_of_awp Try.func158 rfl Try.results158 ?_
  simp only [List.length_cons, List.length_nil, Try.ntmps158, Nat.reduceAdd, Nat.reduceSub, enterA]
  (repeat' (first|(refine g_s fun K hK=>?_)|(refine g_b ?_)|(refine g_r ?_)|(refine g_k ?_;simp only[thenQ,blockQ])|(refine g_e ?_;simp only[thenQ,blockQ,↓reduceIte,Nat.reduceEqDiff])|(refine g_c (fun h=>?_) (fun h=>?_)<;>(try simp only[go_sem] at h)<;>(try exact g_f))|((first|refine g_t ?_|refine g_g ?_|refine g_U ?_|refine g_A ?_|refine g_W ?_);(try simp -implicitDefEqProofs only[go_sem]))|(with_reducible refine hK _ _ ?_;clear hK K)|(clear hK K;first|(with_reducible refine hK _ _ ?_;clear hK K)|(clear hK K;with_reducible refine hK _ _ ?_;clear hK K)|(clear hK K;clear hK K;with_reducible refine hK _ _ ?_;clear hK K))|(with_reducible refine splitB_intro (fun h=>?_) (fun h=>?_)<;>(try simp only[go_sem] at h)<;>(try exact g_f)<;>(try simp -implicitDefEqProofs only[go_sem]))|(with_reducible refine And.intro (fun h=>?_) (fun h=>?_)<;>(try simp only[go_sem] at h)<;>(try exact g_f))|(with_reducible refine And.intro ?_ ?_;· exact g_x)|(with_reducible intro h;(try simp only[go_sem] at h);(try exact g_f))))
  refine AWP_each l (fun k r _ => firstI p 0 l = firstI p k r) (fun k _ _ => [(8, intA1 k)]) (fun _ _ _ => σ) () [] rfl rfl (ALe_of ?_) ?_ ?_
  · simp -implicitDefEqProofs only [go_sem]
  · rintro k r s τ hk0 hk1 h1 L hL
    have hc := hf _ (at0_mem l hk0 hk1)
    simp -implicitDefEqProofs only [go_sem]
    (repeat' (first|(refine g_s fun K hK=>?_)|(refine g_b ?_)|(refine g_r ?_)|(refine g_k ?_;simp only[thenQ,blockQ])|(refine g_e ?_;simp only[thenQ,blockQ,↓reduceIte,Nat.reduceEqDiff])|(refine g_c (fun h=>?_) (fun h=>?_)<;>(try simp only[go_sem] at h)<;>(try exact g_f))|((first|refine g_t ?_|refine g_g ?_|refine g_U ?_|refine g_A ?_|refine (hc).use ?_|refine g_q (fun τ=>hc) ?_|refine g_W ?_);(try simp -implicitDefEqProofs only[go_sem]))|(with_reducible refine hK _ _ ?_;clear hK K)|(clear hK K;first|(with_reducible refine hK _ _ ?_;clear hK K)|(clear hK K;with_reducible refine hK _ _ ?_;clear hK K)|(clear hK K;clear hK K;with_reducible refine hK _ _ ?_;clear hK K))|(with_reducible refine splitB_intro (fun h=>?_) (fun h=>?_)<;>(try simp only[go_sem] at h)<;>(try exact g_f)<;>(try simp -implicitDefEqProofs only[go_sem]))|(with_reducible refine And.intro (fun h=>?_) (fun h=>?_)<;>(try simp only[go_sem] at h)<;>(try exact g_f))|(with_reducible refine And.intro ?_ ?_;· exact g_x)|(with_reducible intro h;(try simp only[go_sem] at h);(try exact g_f))))
    · rw [h1, firstI, if_pos (by assumption)]
    · refine hL () [] _ _ ?_ (ALe_of ?_) rfl
      · rw [h1, firstI, if_neg (by simp [*])]
      · simp -implicitDefEqProofs only [go_sem]
  · intro k s τ hk h1 L
    simp -implicitDefEqProofs only [go_sem]
    (repeat' (first|(refine g_s fun K hK=>?_)|(refine g_b ?_)|(refine g_r ?_)|(refine g_k ?_;simp only[thenQ,blockQ])|(refine g_e ?_;simp only[thenQ,blockQ,↓reduceIte,Nat.reduceEqDiff])|(refine g_c (fun h=>?_) (fun h=>?_)<;>(try simp only[go_sem] at h)<;>(try exact g_f))|((first|refine g_t ?_|refine g_g ?_|refine g_U ?_|refine g_A ?_|refine g_W ?_);(try simp -implicitDefEqProofs only[go_sem]))|(with_reducible refine hK _ _ ?_;clear hK K)|(clear hK K;first|(with_reducible refine hK _ _ ?_;clear hK K)|(clear hK K;with_reducible refine hK _ _ ?_;clear hK K)|(clear hK K;clear hK K;with_reducible refine hK _ _ ?_;clear hK K))|(with_reducible refine splitB_intro (fun h=>?_) (fun h=>?_)<;>(try simp only[go_sem] at h)<;>(try exact g_f)<;>(try simp -implicitDefEqProofs only[go_sem]))|(with_reducible refine And.intro (fun h=>?_) (fun h=>?_)<;>(try simp only[go_sem] at h)<;>(try exact g_f))|(with_reducible refine And.intro ?_ ?_;· exact g_x)|(with_reducible intro h;(try simp only[go_sem] at h);(try exact g_f))))
    rw [h1, firstI]
theorem containsFunc_rows (l : List (List Int)) (p : List Int → Bool) (f : FuncId) (first cap : List AV) (σ : Store) (hl : l.length ≤ 1000000000000000000) (hok : callOk Try.prog f = true)
    (hf : ∀ x ∈ l, ACalls Try.prog f (first ++ intsA x :: cap) σ fun r σ' => σ' = σ ∧ r = .c (.bool (p x))) :
    ACalls Try.prog 112 [rowsC l, .fn f first cap] σ fun r σ' => σ' = σ ∧ r = .c (.bool (l.any p)) := by
  have hc := indexFunc_rows l p f first cap σ hl hok hf
  refine ACalls_of_awp Try.func112 rfl Try.results112 ?_
  simp only [List.length_cons, List.length_nil, Try.ntmps112, Nat.reduceAdd, Nat.reduceSub, enterA]
  (repeat' (first|(refine g_s fun K hK=>?_)|(refine g_b ?_)|(refine g_r ?_)|(refine g_k ?_;simp only[thenQ,blockQ])|(refine g_e ?_;simp only[thenQ,blockQ,↓reduceIte,Nat.reduceEqDiff])|(refine g_c (fun h=>?_) (fun h=>?_)<;>(try simp only[go_sem] at h)<;>(try exact g_f))|((first|refine g_t ?_|refine g_g ?_|refine g_U ?_|refine g_A ?_|refine (hc).use ?_|refine g_q (fun τ=>hc) ?_|refine g_W ?_);(try simp -implicitDefEqProofs only[go_sem]))|(with_reducible refine hK _ _ ?_;clear hK K)|(clear hK K;first|(with_reducible refine hK _ _ ?_;clear hK K)|(clear hK K;with_reducible refine hK _ _ ?_;clear hK K)|(clear hK K;clear hK K;with_reducible refine hK _ _ ?_;clear hK K))|(with_reducible refine splitB_intro (fun h=>?_) (fun h=>?_)<;>(try simp only[go_sem] at h)<;>(try exact g_f)<;>(try simp -implicitDefEqProofs only[go_sem]))|(with_reducible refine And.intro (fun h=>?_) (fun h=>?_)<;>(try simp only[go_sem] at h)<;>(try exact g_f))|(with_reducible refine And.intro ?_ ?_;· exact g_x)|(with_reducible intro h;(try simp only[go_sem] at h);(try exact g_f))))
  rw [← firstI_ge p l 0 (Int.le_refl _)]
end Go.Proofs.Ytephecognbbaoab
namespace Go.Proofs.Ytephecognbbaoab
/-- Whatever reads at type t is the content f x of some x with Q x. -/
def Reads (P : Program) (W : World) (t : TypeId) {X : Type} (f : X → List AV) (Q : X → Prop) : Prop :=
  ∀ (H : Type) (enc : TypeId × Value → H) (fuel : Nat) (cs : List Value) (d : DataW H) (ps : List MemPlace), DataW.trod enc P W 0 (fun _ => true) true fuel t cs = some (d, ps) →
    (∀ n ∈ d.weights P t, n ≤ reachBytes) → ∃ x, RepL (fun b => W.heap[b]?) (fun _ => none) cs (f x) ∧ Q x
/-- The same, as deep as B: what holds of a type that speaks of itself is shown by how deep one reads. -/
def ReadsB (P : Program) (W : World) (B : Nat) (t : TypeId) {X : Type} (f : X → List AV) (Q : X → Prop) : Prop :=
  ∀ (H : Type) (enc : TypeId × Value → H) (fuel : Nat) (cs : List Value) (d : DataW H) (ps : List MemPlace), fuel < B → DataW.trod enc P W 0 (fun _ => true) true fuel t cs = some (d, ps) →
    (∀ n ∈ d.weights P t, n ≤ reachBytes) → ∃ x, RepL (fun b => W.heap[b]?) (fun _ => none) cs (f x) ∧ Q x
section
variable {P : Program} {W : World} {t e : TypeId}
theorem Reads.toB {X : Type} {f : X → List AV} {Q : X → Prop} (h : Reads P W t f Q) (B : Nat) : ReadsB P W B t f Q := fun H enc fuel cs d ps _ => h H enc fuel cs d ps
theorem Reads.ofB {X : Type} {f : X → List AV} {Q : X → Prop} (h : ∀ B, ReadsB P W B t f Q) : Reads P W t f Q := fun H enc fuel cs d ps => h (fuel + 1) H enc fuel cs d ps (Nat.lt_succ_self _)
theorem ReadsB.less {X : Type} {f : X → List AV} {Q : X → Prop} {B B' : Nat} (hB : B' ≤ B) (h : ReadsB P W B t f Q) : ReadsB P W B' t f Q := fun H enc fuel cs d ps hf => h H enc fuel cs d ps (by omega)
theorem ReadsB.zero {X : Type} {f : X → List AV} {Q : X → Prop} : ReadsB P W 0 t f Q := fun H enc fuel cs d ps hf => absurd hf (by omega)
theorem RepL.one {imm : Imm} {m : Own} {v : Value} {a : AV} (h : Rep imm m v a) : RepL imm m [v] [a] := ⟨rfl, fun i h1 h2 => by
  obtain rfl : i = 0 := by simp at h1; omega
  exact h⟩
theorem Reads.int (hu : P.underlying t = some (.int .i64)) : Reads P W t (fun n : Int => [.c (.int .i64 n)]) I64 := by
  intro H enc fuel cs d ps h _
  cases fuel with
  | zero => cases h
  | succ fuel =>
    unfold DataW.trod at h
    rw [hu] at h
    split at h <;> (try cases h; done) <;> rename_i heq <;> (try cases heq; done)
    all_goals first | (exfalso; simp at heq; done) | skip
    · cases heq
      split at h
      · rename_i hc
        obtain ⟨rfl, hw⟩ := hc
        refine ⟨_, .one (.c _), ?_⟩
        have := hw
        simp [Lit.wf, IntKind.min, IntKind.max, IntKind.bits, IntKind.signed] at this
        unfold I64
        omega
      · cases h
theorem Reads.bool (hu : P.underlying t = some .bool) : Reads P W t (fun b : Bool => [.c (.bool b)]) (fun _ => True) := by
  intro H enc fuel cs d ps h _
  cases fuel with
  | zero => cases h
  | succ fuel =>
    unfold DataW.trod at h
    rw [hu] at h
    split at h <;> (try cases h; done) <;> rename_i heq <;> (try cases heq; done)
    all_goals first | (exfalso; simp at heq; done) | skip
    · cases heq
      exact ⟨_, .one (.c _), trivial⟩
theorem Reads.string (hu : P.underlying t = some .string) : Reads P W t (fun s : ByteArray => [.c (.string s)]) (fun s => s.size ≤ reachBytes) := by
  intro H enc fuel cs d ps h hw
  cases fuel with
  | zero => cases h
  | succ fuel =>
    unfold DataW.trod at h
    rw [hu] at h
    split at h <;> (try cases h; done) <;> rename_i heq <;> (try cases heq; done)
    all_goals first | (exfalso; simp at heq; done) | skip
    · cases heq
      split at h
      · cases h
        rename_i s _
        refine ⟨s, .one (.c _), ?_⟩
        have := hw s.data.toList.length (by simp [DataW.weights])
        simpa using this
      · cases h
theorem mapM_some {α β : Type} {g : α → Option β} : ∀ {l : List α} {r : List β}, l.mapM g = some r → r.length = l.length ∧ ∀ i (h : i < l.length) (h' : i < r.length), g l[i] = some r[i]
  | [], r, h => by simp at h; subst h; exact ⟨rfl, fun i h => by simp at h⟩
  | a :: l, r, h => by
    simp only [List.mapM_cons, Option.bind_eq_bind, Option.bind_eq_some_iff, Option.pure_def, Option.some.injEq] at h
    obtain ⟨b, hb, r', hr', rfl⟩ := h
    obtain ⟨h1, h2⟩ := mapM_some hr'
    refine ⟨by simp [h1], fun i hi hi' => ?_⟩
    cases i with
    | zero => exact hb
    | succ i =>
      simp only [List.getElem_cons_succ]
      exact h2 i (by simpa using hi) (by simpa using hi')
theorem weightsAll_mem {H : Type} {e : TypeId} : ∀ (l : List (DataW H)) (i : Nat) (h : i < l.length) (n : Nat), n ∈ l[i].weights P e → n ∈ DataW.weightsAll P e l
  | d :: r, 0, h, n, hn => by simp only [DataW.weightsAll, List.mem_append]; exact .inl hn
  | d :: r, i + 1, h, n, hn => by
    simp only [DataW.weightsAll, List.mem_append]
    exact .inr (weightsAll_mem r i (by simpa using h) n hn)
theorem cells?_spec {base n : Nat} {a : Addr} {cs : List Value} (h : W.cells? base a n = some cs) : cs.length = n ∧ ∀ j (hj : j < cs.length), W.cell? (a.add j) = some cs[j] := by
  unfold World.cells? at h
  split at h
  · obtain ⟨h1, h2⟩ := mapM_some h
    refine ⟨by simpa using h1, fun j hj => ?_⟩
    have := h2 j (by simp at h1 ⊢; omega) hj
    simpa using this
  · cases h
theorem ReadsB.slice {B : Nat} {X : Type} {f : X → List AV} {Q : X → Prop} {k : Nat} (hu : P.underlying t = some (.slice e)) (hk : P.cellsOf e = k) (hk0 : 0 < k) (hf : ∀ x, (f x).length = k) (he : ReadsB P W B e f Q) :
    ReadsB P W (B + 1) t (fun l : List X => [.sl (l.map f)]) (fun l => (∀ x ∈ l, Q x) ∧ l.length * P.bytesOf e ≤ reachBytes) := by
  intro H enc fuel cs d ps hB h hw
  cases fuel with
  | zero => cases h
  | succ fuel =>
    unfold DataW.trod at h
    rw [hu] at h
    split at h <;> (try cases h; done) <;> rename_i heq <;> (try cases heq; done)
    all_goals first | (exfalso; simp at heq; done) | skip
    · exact ⟨[], .one (.sl none 0 0 [] 0 (fun _ _ => undef) rfl (Nat.le_refl _) (fun i hi => by simp at hi) (fun h => by simp at h) (fun i hi => by simp at hi)), fun x hx => by simp at hx, by simp⟩
    · cases heq
      rename_i a len cap
      split at h
      · rename_i hc
        obtain ⟨_, hlc, hcm⟩ := hc
        simp only [Option.bind_eq_some_iff, Option.map_eq_some_iff] at h
        obtain ⟨elems, hel, rest, hrest, hd⟩ := h
        cases hd
        obtain ⟨hlen, hget⟩ := mapM_some hel
        simp only [List.length_range] at hlen
        have hweights : ∀ i (h' : i < elems.length), ∀ n ∈ (elems[i].1).weights P e, n ≤ reachBytes := fun i h' n hn => by
          refine hw n ?_
          simp only [DataW.weights, hu, List.mem_cons, List.mem_append]
          refine .inr (.inl ?_)
          exact weightsAll_mem (elems.map (·.1)) i (by simpa using h') n (by simpa using hn)
        have hread : ∀ i (h' : i < elems.length), ∃ (cs : List Value) (x : X), cs.length = k ∧ (∀ j (hj : j < cs.length), W.cell? ((a.add (i * k)).add j) = some cs[j]) ∧ RepL (fun b => W.heap[b]?) (fun _ => none) cs (f x) ∧ Q x := fun i h' => by
          have := hget i (by simp; omega) h'
          simp only [List.getElem_range, Option.bind_eq_some_iff] at this
          obtain ⟨cs, hcs, htr⟩ := this
          obtain ⟨h1, h2⟩ := cells?_spec hcs
          obtain ⟨x, hx, hq⟩ := he H enc fuel cs _ _ (by omega) htr (hweights i h')
          refine ⟨cs, x, by rw [h1, hk], fun j hj => ?_, hx, hq⟩
          rw [← hk]
          exact h2 j hj
        let csOf : Nat → List Value := fun i => if h : i < elems.length then (hread i h).choose else []
        have hcs : ∀ i (h : i < elems.length), ∃ x, (csOf i).length = k ∧ (∀ j (hj : j < (csOf i).length), W.cell? ((a.add (i * k)).add j) = some (csOf i)[j]) ∧ RepL (fun b => W.heap[b]?) (fun _ => none) (csOf i) (f x) ∧ Q x := fun i h => by
          have := (hread i h).choose_spec
          simp only [csOf, h, dif_pos]
          exact this
        let xs : List X := (List.finRange elems.length).map fun i => (hcs i.1 i.2).choose
        have hxs : ∀ i (h : i < elems.length), xs[i]'(by simp [xs]; exact h) = (hcs i h).choose := fun i h => by simp [xs]
        have hxl : xs.length = elems.length := by simp [xs]
        have hspot : 0 < elems.length → a.spot = none := fun h0 => by
          obtain ⟨x, h1, h2, _⟩ := hcs 0 h0
          have := h2 0 (by omega)
          simp only [Nat.zero_mul, Addr.add, if_true] at this
          unfold World.cell? at this
          split at this
          · split at this
            · cases this
            · rename_i hsp; simpa using hsp
          · cases this
        refine ⟨xs, .one (.sl (some a) cap len _ k (fun i j => (csOf i).getD j undef) (by simp; omega) hlc (fun i hi => by simp [hf]) (fun h0 => ?_) (fun i hi j hj => ?_)), fun x hx => ?_, ?_⟩
        · simp only [List.length_map] at h0
          have hsp := hspot (by omega)
          obtain ⟨b, o, spt⟩ := a
          simp only at hsp
          subst hsp
          refine ⟨b, o, rfl, fun i hi j hj => ?_⟩
          simp only [List.length_map] at hi
          obtain ⟨x, h1, h2, _⟩ := hcs i (by omega)
          have := h2 j (by omega)
          rw [addr_add, addr_add] at this
          unfold World.cell? at this
          unfold icell
          split at this
          · rename_i c T fr hb
            simp only at hb
            simp only [hb]
            have e1 : o + i * k + j = o + (i * k + j) := by omega
            rw [e1] at this
            rw [List.getD_eq_getElem?_getD, List.getElem?_eq_getElem (by omega)]
            simpa using this
          · cases this
        · simp only [List.length_map] at hi
          have hi' : i < elems.length := by omega
          have hsp := (hcs i hi').choose_spec
          have hx := hxs i hi'
          simp only [List.getElem_map] at hj ⊢
          have hj' : j < k := by rw [hf] at hj; exact hj
          rw [List.getD_eq_getElem?_getD, List.getElem?_eq_getElem (by omega)]
          simp only [hx] at hj ⊢
          exact hsp.2.2.1.2 j (by omega) hj
        · obtain ⟨i, hi, rfl⟩ := List.getElem_of_mem hx
          rw [hxs i (by omega)]
          exact (hcs i (by omega)).choose_spec.2.2.2
        · have := hw ((elems.map (·.1)).length * P.bytesOf e + (rest.map (·.1)).length * P.bytesOf e) (by
            simp only [DataW.weights, hu, List.mem_cons]
            exact .inl (by rw [Nat.add_mul]))
          simp only [List.length_map] at this
          rw [hxl]
          omega
      · cases h
theorem Reads.slice {X : Type} {f : X → List AV} {Q : X → Prop} {k : Nat} (hu : P.underlying t = some (.slice e)) (hk : P.cellsOf e = k) (hk0 : 0 < k) (hf : ∀ x, (f x).length = k) (he : Reads P W e f Q) :
    Reads P W t (fun l : List X => [.sl (l.map f)]) (fun l => (∀ x ∈ l, Q x) ∧ l.length * P.bytesOf e ≤ reachBytes) :=
  .ofB fun B => (ReadsB.slice hu hk hk0 hf (he.toB B)).less (by omega)
theorem ReadsB.map {B : Nat} {X Y : Type} {f : X → List AV} {Q : X → Prop} {g : Y → List AV} {R : Y → Prop} (to : X → Y) (hg : ∀ x, g (to x) = f x) (hR : ∀ x, Q x → R (to x)) (h : ReadsB P W B t f Q) : ReadsB P W B t g R :=
  fun H enc fuel cs d ps hB h1 h2 => let ⟨x, r, q⟩ := h H enc fuel cs d ps hB h1 h2; ⟨to x, by rw [hg]; exact r, hR x q⟩
theorem Reads.map {X Y : Type} {f : X → List AV} {Q : X → Prop} {g : Y → List AV} {R : Y → Prop} (to : X → Y) (hg : ∀ x, g (to x) = f x) (hR : ∀ x, Q x → R (to x)) (h : Reads P W t f Q) : Reads P W t g R :=
  fun H enc fuel cs d ps h1 h2 => let ⟨x, r, q⟩ := h H enc fuel cs d ps h1 h2; ⟨to x, by rw [hg]; exact r, hR x q⟩
/-- A struct's fields from cell o on. -/
def ReadsFB (P : Program) (W : World) (B : Nat) (fs : List Field) (o : Nat) {X : Type} (f : X → List AV) (Q : X → Prop) (n : Nat) : Prop :=
  ∀ (H : Type) (enc : TypeId × Value → H) (fuel : Nat) (cs : List Value) (xs : List (DataW H × List MemPlace)), fuel < B → (fs.mapM fun f => DataW.trod enc P W 0 (fun _ => true) true fuel f.type ((cs.drop f.offset).take (P.cellsOf f.type))) = some xs →
    (∀ n ∈ DataW.weightsEach P (fs.map (·.type)) (xs.map (·.1)), n ≤ reachBytes) → cs.length = o + n → ∃ x, RepL (fun b => W.heap[b]?) (fun _ => none) (cs.drop o) (f x) ∧ Q x
def ReadsF (P : Program) (W : World) (fs : List Field) (o : Nat) {X : Type} (f : X → List AV) (Q : X → Prop) (n : Nat) : Prop := ∀ B, ReadsFB P W B fs o f Q n
theorem ReadsFB.nil {B o : Nat} : ReadsFB P W B [] o (fun _ : Unit => []) (fun _ => True) 0 := by
  intro H enc fuel cs xs _ _ _ hl
  exact ⟨(), ⟨by simp; omega, fun i h1 h2 => by simp at h2⟩, trivial⟩
theorem ReadsF.nil {o : Nat} : ReadsF P W [] o (fun _ : Unit => []) (fun _ => True) 0 := fun _ => ReadsFB.nil
theorem ReadsFB.cons {B : Nat} {fd : Field} {fs : List Field} {o k n : Nat} {X Y : Type} {f : X → List AV} {Q : X → Prop} {g : Y → List AV} {R : Y → Prop} (ho : fd.offset = o) (hk : P.cellsOf fd.type = k)
    (h1 : ReadsB P W B fd.type f Q) (h2 : ReadsFB P W B fs (o + k) g R n) : ReadsFB P W B (fd :: fs) o (fun p : X × Y => f p.1 ++ g p.2) (fun p => Q p.1 ∧ R p.2) (k + n) := by
  intro H enc fuel cs xs hB hm hw hl
  simp only [List.mapM_cons, Option.bind_eq_bind, Option.bind_eq_some_iff, Option.pure_def, Option.some.injEq] at hm
  obtain ⟨⟨d, ps⟩, hd, xs', hxs, rfl⟩ := hm
  have hw1 : ∀ n ∈ d.weights P fd.type, n ≤ reachBytes := fun n hn => hw n (by simp only [List.map_cons, DataW.weightsEach, List.mem_append]; exact .inl hn)
  have hw2 : ∀ n ∈ DataW.weightsEach P (fs.map (·.type)) (xs'.map (·.1)), n ≤ reachBytes := fun n hn => hw n (by simp only [List.map_cons, DataW.weightsEach, List.mem_append]; exact .inr hn)
  obtain ⟨x, hx, qx⟩ := h1 H enc fuel _ d ps hB hd hw1
  obtain ⟨y, hy, qy⟩ := h2 H enc fuel cs xs' hB hxs hw2 (by omega)
  refine ⟨(x, y), ?_, qx, qy⟩
  have e : cs.drop o = (cs.drop fd.offset).take (P.cellsOf fd.type) ++ cs.drop (o + k) := by
    rw [ho, hk, ← List.drop_drop, List.take_append_drop]
  rw [e]
  exact hx.append hy
theorem ReadsF.cons {fd : Field} {fs : List Field} {o k n : Nat} {X Y : Type} {f : X → List AV} {Q : X → Prop} {g : Y → List AV} {R : Y → Prop} (ho : fd.offset = o) (hk : P.cellsOf fd.type = k)
    (h1 : Reads P W fd.type f Q) (h2 : ReadsF P W fs (o + k) g R n) : ReadsF P W (fd :: fs) o (fun p : X × Y => f p.1 ++ g p.2) (fun p => Q p.1 ∧ R p.2) (k + n) := fun B => .cons ho hk (h1.toB B) (h2 B)
theorem ReadsB.struct {B : Nat} {fs : Array Field} {X : Type} {f : X → List AV} {Q : X → Prop} {n : Nat} (hu : P.underlying t = some (.struct fs)) (hn : P.cellsOf t = n) (h : ReadsFB P W B fs.toList 0 f Q n) : ReadsB P W (B + 1) t f Q := by
  intro H enc fuel cs d ps hB ht hw
  cases fuel with
  | zero => cases ht
  | succ fuel =>
    simp only [DataW.trod, hu] at ht
    split at ht
    · rename_i hl
      obtain ⟨xs, hxs, hd⟩ := Option.map_eq_some_iff.1 ht
      cases hd
      obtain ⟨x, hx, q⟩ := h H enc fuel _ xs (by omega) hxs (fun n hn => hw n (by simp only [DataW.weights, hu]; exact hn)) (by omega)
      exact ⟨x, by simpa using hx, q⟩
    · cases ht
theorem Reads.struct {fs : Array Field} {X : Type} {f : X → List AV} {Q : X → Prop} {n : Nat} (hu : P.underlying t = some (.struct fs)) (hn : P.cellsOf t = n) (h : ReadsF P W fs.toList 0 f Q n) : Reads P W t f Q :=
  .ofB fun B => (ReadsB.struct hu hn (h B)).less (by omega)
/-- What a law's proof needs: from the contract with content to the call. -/
theorem law_calls {f : FuncId} {avs : List AV} {vs : List Value} (h : ACalls P f avs [] fun r _ => r = .c (.bool true)) (hv : RepL (fun b => W.heap[b]?) (fun _ => none) vs avs) :
    Calls P f vs.toArray W fun e W' => e = .returned (.bool true) ∧ RowKit.Below W.heap.size W W' := by
  have hs : Sim W (fun b => W.heap[b]?) (fun _ => none) W [] := ⟨rfl, rfl, rfl, Nat.le_refl _, fun _ _ h => h, fun _ _ => rfl, fun id h => by simp at h, fun i j hi => by simp at hi⟩
  refine (h W _ _ W vs hs hv).mono ?_
  rintro e W' ⟨imm', m', v, r, σ', rfl, hi, _, hs', hr, rfl⟩
  rw [hr.c_inv]
  refine ⟨rfl, hs'.os, hs'.tape, hs'.output, hs'.size, fun k hk => ?_⟩
  have := hs'.imm_ok k _ (hi k _ (Array.getElem?_eq_getElem hk))
  rw [this, Array.getElem?_eq_getElem hk]
/-- One argument of a law. -/
theorem Reads.arg {X : Type} {f : X → AV} {Q : X → Prop} {H : Type} {enc : TypeId × Value → H} {v : Value} {d : DataW H} {ps : List MemPlace} (h : Reads P W t (fun x => [f x]) Q) (hr : DataW.Trod enc P W 0 (fun _ => true) true t v d ps)
    (hv : v.cells.toList = [v]) (hw : ∀ n ∈ d.weights P t, n ≤ reachBytes) : ∃ x, Rep (fun b => W.heap[b]?) (fun _ => none) v (f x) ∧ Q x := by
  obtain ⟨fuel, hf⟩ := hr
  rw [hv] at hf
  obtain ⟨x, hx, q⟩ := h H enc fuel _ d ps hf hw
  exact ⟨x, by simpa using hx.2 0 (by simp) (by simp), q⟩
/-- A struct that is handed by value. -/
theorem Reads.argS {X : Type} {f : X → List AV} {Q : X → Prop} {H : Type} {enc : TypeId × Value → H} {cs : Array Value} {d : DataW H} {ps : List MemPlace} (h : Reads P W t f Q) (hr : DataW.Trod enc P W 0 (fun _ => true) true t (.agg cs) d ps)
    (hw : ∀ n ∈ d.weights P t, n ≤ reachBytes) : ∃ x, Rep (fun b => W.heap[b]?) (fun _ => none) (.agg cs) (.agg (f x)) ∧ Q x := by
  obtain ⟨fuel, hf⟩ := hr
  obtain ⟨x, hx, q⟩ := h H enc fuel _ d ps hf hw
  refine ⟨x, ?_, q⟩
  have : cs = cs.toList.toArray := by simp
  rw [this]
  exact .agg _ _ hx.1 hx.2
end
end Go.Proofs.Ytephecognbbaoab
