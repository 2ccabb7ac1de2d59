/- Plans: simple algebras, built by the program. -/
import Derived.Test.YtephecognbbaoaaBm
import Derived.Test.YtephecognbbaoaaBb
namespace Go.Proofs.Ytephecognbbaoaa
open Go
set_option linter.all false
set_option maxRecDepth 100000
set_option maxHeartbeats 4000000

theorem map_at {X : Type} [Inhabited X] {Y : Type} (h : X → Y) (l : List X) : ((ints l.length).map fun i => h (at0 l i)) = l.map h := by
  apply List.ext_getElem
  · rw [List.length_map, List.length_map, ints_length]
    omega
  · intro i h1 h2
    rw [List.length_map] at h2
    simp [ints, at0, List.getD_eq_getElem?_getD, h2]

/-- What 'table' makes, by its content. -/
theorem tableC_calls (f : FuncId) (first cap : List AV) (g : Int → Int → Int) (rows cols : Int) (hr0 : 0 ≤ rows) (hr1 : rows ≤ 24) (hc0 : 1 ≤ cols) (hc1 : cols ≤ 24) (hok : callOk Try.prog f = true)
    (hf : ∀ i k, 0 ≤ i → i < rows → 0 ≤ k → k < cols → ∀ S, ACalls Try.prog f (first ++ intA1 i :: intA1 k :: cap) S fun r S' => S' = S ∧ r = intA1 (g i k)) (σ : Store) :
    ACalls Try.prog 121 [intA1 rows, intA1 cols, .fn f first cap] σ fun r σ' => σ' = σ ∧ r = rowsC ((ints rows).map fun i => (ints cols).map (g i)) := by
  refine ACalls.deep ((table_calls f first cap g rows cols hr0 hr1 hc0 hc1 hok hf σ).mono ?_)
  rintro r σ' ⟨τ, e, ids, h⟩
  subst e
  exact DeepQ_of rfl (Bd.rows _) (h.deep fun b hb => (h.lt b hb).2)

/-- An algebra of the call's own: its edges may be written. -/
def OwnAlg (S : Store) (lo : Nat) (r : AV) (A : Alg) : Prop := ∃ ids a, r = .agg [intA1 A.size, rowsC A.best, a] ∧ OwnM S lo A.size.toNat ids a A.edges

theorem tabF_known : knownT Try.prog 34 = true := by kernel_rfl
theorem tabF_agg : aggSize Try.prog 34 = none := by kernel_rfl
theorem tabF_info : (Try.prog.info? 34).isSome = true := by kernel_rfl
theorem tabF_cells : Try.prog.cellsOf 34 = 1 := by kernel_rfl
theorem tabF_zero : zeroA Try.prog 34 = some [.c .nilFunc] := by kernel_rfl
attribute [go_sem] tabF_known tabF_agg tabF_info tabF_cells tabF_zero

theorem at_skip {σ X Y : Store} {c k : Nat} (hc : σ.length + k ≤ c) (hX : X.drop k = Y.drop k) : (σ ++ X)[c]? = (σ ++ Y)[c]? := by
  rw [List.getElem?_append_right (by omega), List.getElem?_append_right (by omega)]
  have e : c - σ.length = k + (c - σ.length - k) := by omega
  rw [e, ← List.getElem?_drop, ← List.getElem?_drop, hX]
theorem OwnM.skip {σ X Y : Store} {lo w k : Nat} {ids : List Nat} {a : AV} {M : List (List Int)} (h : OwnM (σ ++ X) lo w ids a M) (hlo : σ.length + k ≤ lo) (hX : X.drop k = Y.drop k) : OwnM (σ ++ Y) σ.length w ids a M :=
  h.congr (by omega) fun c hc o ho => by rw [← at_skip (Nat.le_trans hlo (h.lt c hc).2) hX]; exact ho

theorem b1_calls (x a : Int) (h : I64 (a + x)) (σ : Store) : ACalls Try.prog 102 [intA1 x, intA1 a] σ fun r σ' => σ' = σ ∧ r = intA1 (a + x) := by
  refine ACalls_of_awp Try.func102 rfl Try.results102 ?_
  simp only [List.length_cons, List.length_nil, Try.ntmps102, Nat.reduceAdd, Nat.reduceSub, enterA]
  (repeat' (first|(refine g_s fun K hK=>?_)|(refine g_b ?_)|(refine g_r ?_)|(refine g_k ?_;simp only[thenQ,blockQ])|(refine g_e ?_;simp only[thenQ,blockQ,↓reduceIte,Nat.reduceEqDiff])|(refine g_c (fun h=>?_) (fun h=>?_)<;>(try simp only[go_sem] at h)<;>(try exact g_f))|((first|refine g_t ?_|refine g_g ?_|refine g_U ?_|refine g_A ?_|refine g_W ?_);(try simp -implicitDefEqProofs only[go_sem]))|(with_reducible refine hK _ _ ?_;clear hK K)|(clear hK K;first|(with_reducible refine hK _ _ ?_;clear hK K)|(clear hK K;with_reducible refine hK _ _ ?_;clear hK K)|(clear hK K;clear hK K;with_reducible refine hK _ _ ?_;clear hK K))|(with_reducible refine splitB_intro (fun h=>?_) (fun h=>?_)<;>(try simp only[go_sem] at h)<;>(try exact g_f)<;>(try simp -implicitDefEqProofs only[go_sem]))|(with_reducible refine And.intro (fun h=>?_) (fun h=>?_)<;>(try simp only[go_sem] at h)<;>(try exact g_f))|(with_reducible refine And.intro ?_ ?_;· exact g_x)|(with_reducible intro h;(try simp only[go_sem] at h);(try exact g_f))))
theorem b2_calls (x a : Int) (σ : Store) : ACalls Try.prog 103 [intA1 x, intA1 a] σ fun r σ' => σ' = σ ∧ r = intA1 (max a x) := by
  refine ACalls_of_awp Try.func103 rfl Try.results103 ?_
  simp only [List.length_cons, List.length_nil, Try.ntmps103, Nat.reduceAdd, Nat.reduceSub, enterA]
  (repeat' (first|(refine g_s fun K hK=>?_)|(refine g_b ?_)|(refine g_r ?_)|(refine g_k ?_;simp only[thenQ,blockQ])|(refine g_e ?_;simp only[thenQ,blockQ,↓reduceIte,Nat.reduceEqDiff])|(refine g_c (fun h=>?_) (fun h=>?_)<;>(try simp only[go_sem] at h)<;>(try exact g_f))|((first|refine g_t ?_|refine g_g ?_|refine g_U ?_|refine g_A ?_|refine g_W ?_);(try simp -implicitDefEqProofs only[go_sem]))|(with_reducible refine hK _ _ ?_;clear hK K)|(clear hK K;first|(with_reducible refine hK _ _ ?_;clear hK K)|(clear hK K;with_reducible refine hK _ _ ?_;clear hK K)|(clear hK K;clear hK K;with_reducible refine hK _ _ ?_;clear hK K))|(with_reducible refine splitB_intro (fun h=>?_) (fun h=>?_)<;>(try simp only[go_sem] at h)<;>(try exact g_f)<;>(try simp -implicitDefEqProofs only[go_sem]))|(with_reducible refine And.intro (fun h=>?_) (fun h=>?_)<;>(try simp only[go_sem] at h)<;>(try exact g_f))|(with_reducible refine And.intro ?_ ?_;· exact g_x)|(with_reducible intro h;(try simp only[go_sem] at h);(try exact g_f))))
theorem s1_calls (x a : Int) (σ : Store) : ACalls Try.prog 122 [intA1 x, intA1 a] σ fun r σ' => σ' = σ ∧ r = intA1 (min x a) := by
  refine ACalls_of_awp Try.func122 rfl Try.results122 ?_
  simp only [List.length_cons, List.length_nil, Try.ntmps122, Nat.reduceAdd, Nat.reduceSub, enterA]
  (repeat' (first|(refine g_s fun K hK=>?_)|(refine g_b ?_)|(refine g_r ?_)|(refine g_k ?_;simp only[thenQ,blockQ])|(refine g_e ?_;simp only[thenQ,blockQ,↓reduceIte,Nat.reduceEqDiff])|(refine g_c (fun h=>?_) (fun h=>?_)<;>(try simp only[go_sem] at h)<;>(try exact g_f))|((first|refine g_t ?_|refine g_g ?_|refine g_U ?_|refine g_A ?_|refine g_W ?_);(try simp -implicitDefEqProofs only[go_sem]))|(with_reducible refine hK _ _ ?_;clear hK K)|(clear hK K;first|(with_reducible refine hK _ _ ?_;clear hK K)|(clear hK K;with_reducible refine hK _ _ ?_;clear hK K)|(clear hK K;clear hK K;with_reducible refine hK _ _ ?_;clear hK K))|(with_reducible refine splitB_intro (fun h=>?_) (fun h=>?_)<;>(try simp only[go_sem] at h)<;>(try exact g_f)<;>(try simp -implicitDefEqProofs only[go_sem]))|(with_reducible refine And.intro (fun h=>?_) (fun h=>?_)<;>(try simp only[go_sem] at h)<;>(try exact g_f))|(with_reducible refine And.intro ?_ ?_;· exact g_x)|(with_reducible intro h;(try simp only[go_sem] at h);(try exact g_f))))
theorem s2_calls (n k i a : Int) (e : List Int) (ps : List Pl) (f : FuncId) (F : Int → Int → Int) (hn : 1 ≤ n ∧ n ≤ 22) (hi0 : 0 ≤ i) (hi1 : i < e.length) (ha : 0 ≤ a ∧ a < n + 2) (hok : callOk Try.prog f = true)
    (hF : a ≠ n + 1 → ∀ S, ACalls Try.prog f [intA1 (at0 e i), intA1 a] S fun r S' => S' = S ∧ r = intA1 (F (at0 e i) a)) (σ : Store) :
    ACalls Try.prog 123 [intA1 i, intA1 a, .cp [intA1 (n + 2)] 0, .cp [.fn f [] []] 0, .cp (plC (.mk k n e ps)) 0] σ fun r σ' => σ' = σ ∧ r = intA1 (if a = n + 1 then a else min (F (at0 e i) a) (n + 1)) := by
  have h1 : n + 2 - 1 = n + 1 := by omega
  have h2 : I64 (n + 2 - 1) := by unfold I64; omega
  have h3 : I64 (n + 1) := by unfold I64; omega
  rw [plC_mk]
  refine ACalls.cutX ?_
  by_cases hl : a = n + 1
  · rw [if_pos hl]
    refine ACalls_of_awp Try.func123 rfl Try.results123 ?_
    simp only [List.length_cons, List.length_nil, Try.ntmps123, Nat.reduceAdd, Nat.reduceSub, enterA]
    (repeat' (first|(refine g_s fun K hK=>?_)|(refine g_b ?_)|(refine g_r ?_)|(refine g_k ?_;simp only[thenQ,blockQ])|(refine g_e ?_;simp only[thenQ,blockQ,↓reduceIte,Nat.reduceEqDiff])|(refine g_c (fun h=>?_) (fun h=>?_)<;>(try simp only[go_sem] at h)<;>(try exact g_f))|((first|refine g_t ?_|refine g_g ?_|refine g_U ?_|refine g_A ?_|refine g_W ?_);(try simp -implicitDefEqProofs only[go_sem,h1, h2, h3]))|(with_reducible refine hK _ _ ?_;clear hK K)|(clear hK K;first|(with_reducible refine hK _ _ ?_;clear hK K)|(clear hK K;with_reducible refine hK _ _ ?_;clear hK K)|(clear hK K;clear hK K;with_reducible refine hK _ _ ?_;clear hK K))|(with_reducible refine splitB_intro (fun h=>?_) (fun h=>?_)<;>(try simp only[go_sem] at h)<;>(try exact g_f)<;>(try simp -implicitDefEqProofs only[go_sem,h1, h2, h3]))|(with_reducible refine And.intro (fun h=>?_) (fun h=>?_)<;>(try simp only[go_sem] at h)<;>(try exact g_f))|(with_reducible refine And.intro ?_ ?_;· exact g_x)|(with_reducible intro h;(try simp only[go_sem] at h);(try exact g_f))))
    exact CutQ_c (τ := []) (by simp) rfl
  · rw [if_neg hl]
    have hF := hF hl
    refine ACalls_of_awp Try.func123 rfl Try.results123 ?_
    simp only [List.length_cons, List.length_nil, Try.ntmps123, Nat.reduceAdd, Nat.reduceSub, enterA]
    (repeat' (first|(refine g_s fun K hK=>?_)|(refine g_b ?_)|(refine g_r ?_)|(refine g_k ?_;simp only[thenQ,blockQ])|(refine g_e ?_;simp only[thenQ,blockQ,↓reduceIte,Nat.reduceEqDiff])|(refine g_c (fun h=>?_) (fun h=>?_)<;>(try simp only[go_sem] at h)<;>(try exact g_f))|((first|refine g_t ?_|refine g_g ?_|refine g_U ?_|refine g_A ?_|refine (hF _).use ?_|refine g_q (fun τ=>hF _) ?_|refine g_W ?_);(try simp -implicitDefEqProofs only[go_sem,h1, h2, h3]))|(with_reducible refine hK _ _ ?_;clear hK K)|(clear hK K;first|(with_reducible refine hK _ _ ?_;clear hK K)|(clear hK K;with_reducible refine hK _ _ ?_;clear hK K)|(clear hK K;clear hK K;with_reducible refine hK _ _ ?_;clear hK K))|(with_reducible refine splitB_intro (fun h=>?_) (fun h=>?_)<;>(try simp only[go_sem] at h)<;>(try exact g_f)<;>(try simp -implicitDefEqProofs only[go_sem,h1, h2, h3]))|(with_reducible refine And.intro (fun h=>?_) (fun h=>?_)<;>(try simp only[go_sem] at h)<;>(try exact g_f))|(with_reducible refine And.intro ?_ ?_;· exact g_x)|(with_reducible intro h;(try simp only[go_sem] at h);(try exact g_f))))
    exact CutQ_c (τ := []) (by simp) rfl

theorem simple_calls (n k : Int) (e : List Int) (ps : List Pl) (f : FuncId) (F : Int → Int → Int) (hn : 1 ≤ n ∧ n ≤ 22) (he : e.length ≤ 24) (hok : callOk Try.prog f = true)
    (hF : ∀ x ∈ e, ∀ a, 0 ≤ a → a < n + 1 → ∀ S, ACalls Try.prog f [intA1 x, intA1 a] S fun r S' => S' = S ∧ r = intA1 (F x a)) (σ : Store) :
    ACalls Try.prog 101 [.agg (plC (.mk k n e ps)), .fn f [] []] σ fun r σ' => ∃ τ, σ' = σ ++ τ ∧ OwnAlg (σ ++ τ) σ.length r (simpleA n e F) := by
  have hT1 := tableC_calls 122 [] [] (fun i k => min i k) (n + 2) (n + 2) (by omega) (by omega) (by omega) (by omega) (by kernel_rfl) (fun i k _ _ _ _ S => s1_calls i k S)
  have hT2 := table_calls 123 [] [.cp [intA1 (n + 2)] 0, .cp [.fn f [] []] 0, .cp (plC (.mk k n e ps)) 0] (fun i a => if a = n + 1 then a else min (F (at0 e i) a) (n + 1)) e.length (n + 2) (by omega) (by omega) (by omega) (by omega) (by kernel_rfl)
    (fun i a i0 i1 a0 a1 S => s2_calls n k i a e ps f F hn i0 i1 ⟨a0, a1⟩ hok (fun hne S => hF _ (at0_mem e i0 i1) a a0 (by omega) S) S)
  have hE : ((ints e.length).map fun i => (ints (n + 2)).map fun a => if a = n + 1 then a else min (F (at0 e i) a) (n + 1)) = (simpleA n e F).edges := map_at (fun x => (ints (n + 2)).map fun a => if a = n + 1 then a else min (F x a) (n + 1)) e
  have h2 : I64 (n + 2) := by unfold I64; omega
  rw [plC_mk] at hT2 ⊢
  refine ACalls_of_awp Try.func101 rfl Try.results101 ?_
  simp only [List.length_cons, List.length_nil, Try.ntmps101, Nat.reduceAdd, Nat.reduceSub, enterA]
  refine AWP_seq_k fun K hK => ?_
  (refine AWP_region ?_; simp -implicitDefEqProofs only [go_sem])
  refine hK _ _ ?_; clear hK K
  refine AWP_freezeP 2 rfl (by simp only [st0]; rfl) ?_
  simp only [ss0, List.set_cons_zero]
  refine AWP_freezeP 3 rfl (by simp only [st1]; rfl) ?_
  simp only [ss1, List.set_cons_zero, List.set_cons_succ]
  refine AWP_seq_k fun K hK => ?_
  (refine AWP_region ?_; simp -implicitDefEqProofs only [go_sem, h2])
  refine hK _ _ ?_; clear hK K
  refine AWP_freezeP 5 rfl (by first | rfl | (simp -implicitDefEqProofs only [go_sem]; done) | (simp -implicitDefEqProofs only [go_sem]; rfl)) ?_
  simp -implicitDefEqProofs only [go_sem]
  (repeat' (first|(refine g_s fun K hK=>?_)|(refine g_b ?_)|(refine g_r ?_)|(refine g_k ?_;simp only[thenQ,blockQ])|(refine g_e ?_;simp only[thenQ,blockQ,↓reduceIte,Nat.reduceEqDiff])|(refine g_c (fun h=>?_) (fun h=>?_)<;>(try simp only[go_sem] at h)<;>(try exact g_f))|((first|refine g_t ?_|refine g_g ?_|refine g_U ?_|refine g_A ?_|refine (hT1 _).use ?_|refine g_q (fun τ=>hT1 _) ?_|refine g_W ?_);(try simp -implicitDefEqProofs only[go_sem]))|(with_reducible refine hK _ _ ?_;clear hK K)|(clear hK K;first|(with_reducible refine hK _ _ ?_;clear hK K)|(clear hK K;with_reducible refine hK _ _ ?_;clear hK K)|(clear hK K;clear hK K;with_reducible refine hK _ _ ?_;clear hK K))|(with_reducible refine splitB_intro (fun h=>?_) (fun h=>?_)<;>(try simp only[go_sem] at h)<;>(try exact g_f)<;>(try simp -implicitDefEqProofs only[go_sem]))|(with_reducible refine And.intro (fun h=>?_) (fun h=>?_)<;>(try simp only[go_sem] at h)<;>(try exact g_f))|(with_reducible refine And.intro ?_ ?_;· exact g_x)|(with_reducible intro h;(try simp only[go_sem] at h);(try exact g_f))))
  refine ACalls.useX (hT2 _) ?_
  rintro τ r ⟨ids, h⟩
  rw [hE] at h
  rw [List.append_assoc] at h
  rcases h.2 with ⟨e1, e2, e3⟩ | ⟨b, q, e1, e2, e3, e4, e5, e6, e7⟩
  · subst e2
    simp -implicitDefEqProofs only [go_sem]
    (repeat' (first|(refine g_s fun K hK=>?_)|(refine g_b ?_)|(refine g_r ?_)|(refine g_k ?_;simp only[thenQ,blockQ])|(refine g_e ?_;simp only[thenQ,blockQ,↓reduceIte,Nat.reduceEqDiff])|(refine g_c (fun h=>?_) (fun h=>?_)<;>(try simp only[go_sem] at h)<;>(try exact g_f))|((first|refine g_t ?_|refine g_g ?_|refine g_U ?_|refine g_A ?_|refine g_W ?_);(try simp -implicitDefEqProofs only[go_sem]))|(with_reducible refine hK _ _ ?_;clear hK K)|(clear hK K;first|(with_reducible refine hK _ _ ?_;clear hK K)|(clear hK K;with_reducible refine hK _ _ ?_;clear hK K)|(clear hK K;clear hK K;with_reducible refine hK _ _ ?_;clear hK K))|(with_reducible refine splitB_intro (fun h=>?_) (fun h=>?_)<;>(try simp only[go_sem] at h)<;>(try exact g_f)<;>(try simp -implicitDefEqProofs only[go_sem]))|(with_reducible refine And.intro (fun h=>?_) (fun h=>?_)<;>(try simp only[go_sem] at h)<;>(try exact g_f))|(with_reducible refine And.intro ?_ ?_;· exact g_x)|(with_reducible intro h;(try simp only[go_sem] at h);(try exact g_f))))
    exact ⟨_, rfl, ids, _, rfl, h.skip (k := 5) (by simp) rfl⟩
  · subst e4
    simp -implicitDefEqProofs only [go_sem]
    (repeat' (first|(refine g_s fun K hK=>?_)|(refine g_b ?_)|(refine g_r ?_)|(refine g_k ?_;simp only[thenQ,blockQ])|(refine g_e ?_;simp only[thenQ,blockQ,↓reduceIte,Nat.reduceEqDiff])|(refine g_c (fun h=>?_) (fun h=>?_)<;>(try simp only[go_sem] at h)<;>(try exact g_f))|((first|refine g_t ?_|refine g_g ?_|refine g_U ?_|refine g_A ?_|refine g_W ?_);(try simp -implicitDefEqProofs only[go_sem]))|(with_reducible refine hK _ _ ?_;clear hK K)|(clear hK K;first|(with_reducible refine hK _ _ ?_;clear hK K)|(clear hK K;with_reducible refine hK _ _ ?_;clear hK K)|(clear hK K;clear hK K;with_reducible refine hK _ _ ?_;clear hK K))|(with_reducible refine splitB_intro (fun h=>?_) (fun h=>?_)<;>(try simp only[go_sem] at h)<;>(try exact g_f)<;>(try simp -implicitDefEqProofs only[go_sem]))|(with_reducible refine And.intro (fun h=>?_) (fun h=>?_)<;>(try simp only[go_sem] at h)<;>(try exact g_f))|(with_reducible refine And.intro ?_ ?_;· exact g_x)|(with_reducible intro h;(try simp only[go_sem] at h);(try exact g_f))))
    exact ⟨_, rfl, ids, _, rfl, h.skip (k := 5) (by simp) rfl⟩
end Go.Proofs.Ytephecognbbaoaa
