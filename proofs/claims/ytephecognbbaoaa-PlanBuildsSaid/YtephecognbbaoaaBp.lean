/- Plans: algebras with routes filtered away; what a checked plan is built into. -/
import Derived.Test.YtephecognbbaoaaBo
namespace Go.Proofs.Ytephecognbbaoaa
open Go
set_option linter.all false
set_option maxRecDepth 100000
set_option maxHeartbeats 4000000

theorem and_one {x : Int} (h0 : 0 ≤ x) (h1 : x < 9223372036854775808) : IntKind.i64.wrap ((BitVec.ofInt 64 x &&& BitVec.ofInt 64 1).toNat : Nat) = x % 2 := by
  have e : ((BitVec.ofInt 64 x &&& BitVec.ofInt 64 1).toNat : Nat) = x.toNat % 2 := by
    rw [BitVec.toNat_and, BitVec.toNat_ofInt, BitVec.toNat_ofInt]
    have a : (x % ((2 ^ 64 : Nat) : Int)).toNat = x.toNat := by
      have : ((2 ^ 64 : Nat) : Int) = 18446744073709551616 := rfl
      rw [this, Int.emod_eq_of_lt h0 (by omega)]
    have b : ((1 : Int) % ((2 ^ 64 : Nat) : Int)).toNat = 1 := by decide
    rw [a, b, Nat.and_one_is_mod]
  rw [e, wrap_of_I64 (by unfold I64; omega)]
  omega

theorem bit_of {v k : Int} : bitA v k = decide ((v / 2 ^ k.toNat) % 2 = 1) := rfl

/-- A row of an own matrix is written. -/
theorem OwnM.parts {S : Store} {lo w : Nat} {ids : List Nat} {a : AV} {M : List (List Int)} (h : OwnM S lo w ids a M) (hM : M ≠ []) : ∃ b q, ids = b :: q ∧ a = .own b 1 0 M.length M.length ∧ S[b]? = some (.cells 1 (q.map (rowV w))) ∧ q.length = M.length ∧ (b :: q).Nodup ∧ lo ≤ b ∧ RowsAt S lo q M := by
  rcases h.2 with ⟨e, _⟩ | ⟨b, q, h1, h2, h3, h4, h5, h6, h7⟩
  · exact absurd e hM
  · exact ⟨b, q, h1, h4, h6, h7.1, h1 ▸ h2, h5, h7⟩

theorem RowsAt.put {S : Store} {lo : Nat} {b : Nat} {q : List Nat} {M : List (List Int)} {o : Ob} (hb : S[b]? = some o) (hn : (b :: q).Nodup) (hr : RowsAt S lo q M)
    {i : Nat} (hi : i < M.length) (hi2 : i < q.length) (r : List Int) : (S.set q[i] (.cells 1 (r.map intC)))[b]? = some o ∧ RowsAt (S.set q[i] (.cells 1 (r.map intC))) lo q (M.set i r) := by
  rw [List.nodup_cons] at hn
  refine ⟨?_, by rw [List.length_set]; exact hr.1, fun j h1 h2 => ?_⟩
  · rw [List.getElem?_set_ne (fun e => hn.1 (by rw [← e]; exact List.getElem_mem hi2))]
    exact hb
  · rw [List.length_set] at h2
    have hj := hr.2 j h1 h2
    refine ⟨hj.1, ?_⟩
    by_cases e : j = i
    · subst e
      rw [List.getElem_set_self, List.getElem?_set_self (List.getElem?_eq_some_iff.1 hj.2).1]
    · rw [List.getElem_set_ne (fun h => e h.symm), List.getElem?_set_ne (fun h => e ((List.getElem_inj hn.2).1 h).symm)]
      exact hj.2

theorem at0_setX {X : Type} [Inhabited X] (l : List X) {k q : Int} (v : X) (h0 : 0 ≤ k) (hq : 0 ≤ q) (h : k < l.length) : at0 (l.set k.toNat v) q = if q = k then v else at0 l q := by
  simp only [at0, List.getD_eq_getElem?_getD, List.getElem?_set]
  by_cases e : q = k
  · subst e
    have : q.toNat < l.length := by omega
    simp [this]
  · have : ¬ k.toNat = q.toNat := by omega
    simp [this, e]

/-- How far a filter has come. -/
def Filt (s : Int) (e : List Int) (E M : List (List Int)) (i k : Int) : Prop :=
  M.length = E.length ∧ (∀ r ∈ M, r.length = s.toNat) ∧ ∀ p q : Int, 0 ≤ p → p < E.length → 0 ≤ q → q < s → at2 M p q = if (p < i ∨ (p = i ∧ q < k)) ∧ bitA (at0 e p) q = true then s - 1 else at2 E p q

theorem Filt.next {s i : Int} {e : List Int} {E M : List (List Int)} (h : Filt s e E M i s) : Filt s e E M (i + 1) 0 := ⟨h.1, h.2.1, fun p q p0 p1 q0 q1 => by
  rw [h.2.2 p q p0 p1 q0 q1]
  have : (p < i ∨ (p = i ∧ q < s)) ↔ (p < i + 1 ∨ (p = i + 1 ∧ q < 0)) := by omega
  simp only [this]⟩

theorem Filt.skip {s i k : Int} {e : List Int} {E M : List (List Int)} (h : Filt s e E M i k) (hb : ¬ bitA (at0 e i) k = true) : Filt s e E M i (k + 1) := ⟨h.1, h.2.1, fun p q p0 p1 q0 q1 => by
  rw [h.2.2 p q p0 p1 q0 q1]
  by_cases c : p = i ∧ q = k
  · obtain ⟨rfl, rfl⟩ := c
    rw [if_neg (fun h => hb h.2), if_neg (fun h => hb h.2)]
  · have : (p < i ∨ (p = i ∧ q < k)) ↔ (p < i ∨ (p = i ∧ q < k + 1)) := by omega
    simp only [this]⟩

theorem Filt.put {s i k : Int} {e : List Int} {E M : List (List Int)} (h : Filt s e E M i k) (hb : bitA (at0 e i) k = true) (i0 : 0 ≤ i) (i1 : i < E.length) (k0 : 0 ≤ k) (k1 : k < s) : Filt s e E (M.set i.toNat ((at0 M i).set k.toNat (s - 1))) i (k + 1) := by
  have hm : at0 M i ∈ M := at0_mem M i0 (by rw [h.1]; exact i1)
  have hl := h.2.1 _ hm
  refine ⟨by rw [List.length_set]; exact h.1, fun r hr => ?_, fun p q p0 p1 q0 q1 => ?_⟩
  · rcases List.mem_or_eq_of_mem_set hr with h' | h'
    · exact h.2.1 r h'
    · rw [h', List.length_set]; exact hl
  · have hp := h.2.2 p q p0 p1 q0 q1
    unfold at2 at hp ⊢
    rw [at0_setX M _ i0 p0 (by rw [h.1]; exact i1)]
    by_cases e1 : p = i
    · subst e1
      rw [if_pos rfl, at0_setX _ _ k0 q0 (by omega)]
      by_cases e2 : q = k
      · subst e2
        rw [if_pos rfl, if_pos ⟨by omega, hb⟩]
      · rw [if_neg e2, hp]
        have a1 : (q < k) = (q < k + 1) := propext (by omega)
        simp only [a1]
    · rw [if_neg e1, hp]
      have : (p < i ∨ (p = i ∧ q < k)) ↔ (p < i ∨ (p = i ∧ q < k + 1)) := by omega
      simp only [this]

theorem Filt.done {x : Alg} {e : List Int} {M : List (List Int)} (hf : FormA x) (he : e.length = x.edges.length) (h : Filt x.size e x.edges M e.length 0) : M = (filterA e x).edges := by
  have hs := hf.s2
  refine at0_eq (by simp [filterA, ints_length, h.1, he]) fun p p0 p1 => ?_
  have p2 : p < x.edges.length := by rw [← h.1]; exact p1
  have hrow : at0 (filterA e x).edges p = filterRow x.size (at0 e p) (at0 x.edges p) := by
    unfold filterA
    simp only
    rw [at0_mapL _ _ p0 (by rw [ints_length]; omega), at0_intsX p0 (by omega)]
  rw [hrow]
  have hl := h.2.1 _ (at0_mem M p0 p1)
  refine at0_eq (by rw [hl]; simp [filterRow, ints_length]) fun q q0 q1 => ?_
  have q2 : q < x.size := by omega
  have := h.2.2 p q p0 p2 q0 q2
  unfold at2 at this
  rw [this]
  unfold filterRow
  rw [at0_intsM _ q0 q2]
  by_cases hb : bitA (at0 e p) q = true
  · rw [if_pos ⟨by omega, hb⟩, if_pos hb]
  · rw [if_neg (fun h => hb h.2), if_neg hb]

theorem Filt.start {x : Alg} {e : List Int} (hf : FormA x) : Filt x.size e x.edges x.edges 0 0 := ⟨rfl, fun r hr => by have := hf.row r (List.mem_append_right _ hr); omega, fun p q p0 p1 q0 q1 => by rw [if_neg (by omega)]⟩

theorem OwnM.form {S : Store} {lo w : Nat} {ids : List Nat} {a : AV} {M : List (List Int)} (h : OwnM S lo w ids a M) : a = .c (.slice none 0 0) ∨ ∃ b m, a = .own b 1 0 m m := by
  rcases h.2 with ⟨_, e, _⟩ | ⟨b, q, _, _, _, e, _⟩
  · exact .inl e
  · exact .inr ⟨_, _, e⟩

theorem algW_of {S : Store} {lo : Nat} {r : AV} {A : Alg} (h : OwnAlg S lo r A) {D : Nat → Prop} (hD : ∀ b, lo ≤ b → D b) : Deep S D r (.agg (algC A)) := by
  obtain ⟨ids, a, rfl, h⟩ := h
  exact .aggL (.cons (.same _) (.cons (.same _) (.cons (h.deep fun b hb => hD b (h.lt b hb).2) .nil)))

theorem build_calls : ∀ (p : Pl), PlOk p → checkP p = 0 → wideP p = false → ∀ σ : Store, ACalls Try.prog 67 [.agg (plC p)] σ fun r σ' => ∃ τ, σ' = σ ++ τ ∧ OwnAlg (σ ++ τ) σ.length r (buildP p) := by
  refine Pl.ind fun k n e ps ih ok hc hw σ => ?_
  have hBO := (build_ok _ hc).form
  have hel := edges_le _ hc hw
  obtain ⟨hps, hcs⟩ := check_cases hc
  cases ok with
  | mk _ _ _ _ hk hn he hev hpl hp =>
  rw [wideP, Bool.or_eq_false_iff] at hw
  have he8 : e.length ≤ 8 := by have := of_decide_eq_false hw.1; omega
  have hwp : ∀ x ∈ ps, wideP x = false := by
    have h := hw.2
    clear hcs hps hp hpl ih hc hw hBO hel
    induction ps with
    | nil => intro x hx; cases hx
    | cons y r ihr =>
      rw [wideL, Bool.or_eq_false_iff] at h
      intro x hx
      rcases List.mem_cons.1 hx with rfl | hx
      · exact h.1
      · exact ihr h.2 x hx
  have ihC : ∀ x ∈ ps, ∀ S, ACalls Try.prog 67 [.agg (plC x)] S fun r S' => S' = S ∧ r = .agg (algC (buildP x)) := fun x hx S =>
    ACalls.deep ((ih x hx (hp x hx) (hps x hx) (hwp x hx) S).mono (by
      rintro r S' ⟨τ, e, h⟩
      subst e
      exact DeepQ_of rfl (.aggL (.cons (.c _) (.cons (.rows _) (.cons (.rows _) .nil)))) (algW_of h fun b hb => hb)))
  rcases hcs with ⟨rfl, rfl, hn2, hx⟩ | ⟨rfl, rfl, hn2, hx⟩ | ⟨rfl, rfl, rfl, x, y, rfl, hee, hss⟩ | ⟨rfl, rfl, x, rfl, hee, hx⟩
  · have hB : buildP (.mk 1 n e []) = simpleA n e (fun x a => a + x) := by rw [buildP, if_pos rfl]
    have hS := simple_calls n 1 e [] 102 (fun x a => a + x) hn2 (by omega) (by kernel_rfl) (fun x hm a a0 a1 S => b1_calls x a (by have := hx x hm; unfold I64; omega) S)
    rw [hB]
    rw [plC_mk] at hS ⊢
    refine ACalls_of_awp Try.func67 rfl Try.results67 ?_
    simp only [List.length_cons, List.length_nil, Try.ntmps67, Nat.reduceAdd, Nat.reduceSub, enterA]
    refine AWP_seq_k fun K hK => ?_
    (refine AWP_region ?_; simp -implicitDefEqProofs only [go_sem])
    refine hK _ _ ?_; clear hK K
    refine AWP_freezeP 1 rfl (by simp only [st0]; rfl) ?_
    simp only [ss0, List.set_cons_zero]
    (repeat' (first|(refine g_s fun K hK=>?_)|(refine g_b ?_)|(refine g_r ?_)|(refine g_k ?_;simp only[thenQ,blockQ])|(refine g_e ?_;simp only[thenQ,blockQ,↓reduceIte,Nat.reduceEqDiff])|(refine g_c (fun h=>?_) (fun h=>?_)<;>(try simp only[go_sem] at h)<;>(try exact g_f))|((first|refine g_t ?_|refine g_g ?_|refine g_U ?_|refine g_A ?_|refine g_W ?_);(try simp -implicitDefEqProofs only[go_sem]))|(with_reducible refine hK _ _ ?_;clear hK K)|(clear hK K;first|(with_reducible refine hK _ _ ?_;clear hK K)|(clear hK K;with_reducible refine hK _ _ ?_;clear hK K)|(clear hK K;clear hK K;with_reducible refine hK _ _ ?_;clear hK K))|(with_reducible refine splitB_intro (fun h=>?_) (fun h=>?_)<;>(try simp only[go_sem] at h)<;>(try exact g_f)<;>(try simp -implicitDefEqProofs only[go_sem]))|(with_reducible refine And.intro (fun h=>?_) (fun h=>?_)<;>(try simp only[go_sem] at h)<;>(try exact g_f))|(with_reducible refine And.intro ?_ ?_;· exact g_x)|(with_reducible intro h;(try simp only[go_sem] at h);(try exact g_f))))
    refine ACalls.useX (hS _) ?_
    rintro τ r ⟨ids, a, rfl, h⟩
    rw [List.append_assoc] at h
    rcases h.form with rfl | ⟨b, m, rfl⟩
    all_goals simp -implicitDefEqProofs only [go_sem]
    all_goals (repeat' (first|(refine g_s fun K hK=>?_)|(refine g_b ?_)|(refine g_r ?_)|(refine g_k ?_;simp only[thenQ,blockQ])|(refine g_e ?_;simp only[thenQ,blockQ,↓reduceIte,Nat.reduceEqDiff])|(refine g_c (fun h=>?_) (fun h=>?_)<;>(try simp only[go_sem] at h)<;>(try exact g_f))|((first|refine g_t ?_|refine g_g ?_|refine g_U ?_|refine g_A ?_|refine g_W ?_);(try simp -implicitDefEqProofs only[go_sem]))|(with_reducible refine hK _ _ ?_;clear hK K)|(clear hK K;first|(with_reducible refine hK _ _ ?_;clear hK K)|(clear hK K;with_reducible refine hK _ _ ?_;clear hK K)|(clear hK K;clear hK K;with_reducible refine hK _ _ ?_;clear hK K))|(with_reducible refine splitB_intro (fun h=>?_) (fun h=>?_)<;>(try simp only[go_sem] at h)<;>(try exact g_f)<;>(try simp -implicitDefEqProofs only[go_sem]))|(with_reducible refine And.intro (fun h=>?_) (fun h=>?_)<;>(try simp only[go_sem] at h)<;>(try exact g_f))|(with_reducible refine And.intro ?_ ?_;· exact g_x)|(with_reducible intro h;(try simp only[go_sem] at h);(try exact g_f))))
    all_goals exact ⟨_, rfl, ids, _, rfl, h.skip (k := 2) (by simp) rfl⟩
  · have hB : buildP (.mk 2 n e []) = simpleA n e (fun x a => max a x) := by rw [buildP, if_neg (by decide), if_pos rfl]
    have hS := simple_calls n 2 e [] 103 (fun x a => max a x) hn2 (by omega) (by kernel_rfl) (fun x hm a a0 a1 S => b2_calls x a S)
    rw [hB]
    rw [plC_mk] at hS ⊢
    refine ACalls_of_awp Try.func67 rfl Try.results67 ?_
    simp only [List.length_cons, List.length_nil, Try.ntmps67, Nat.reduceAdd, Nat.reduceSub, enterA]
    refine AWP_seq_k fun K hK => ?_
    (refine AWP_region ?_; simp -implicitDefEqProofs only [go_sem])
    refine hK _ _ ?_; clear hK K
    refine AWP_freezeP 1 rfl (by simp only [st0]; rfl) ?_
    simp only [ss0, List.set_cons_zero]
    (repeat' (first|(refine g_s fun K hK=>?_)|(refine g_b ?_)|(refine g_r ?_)|(refine g_k ?_;simp only[thenQ,blockQ])|(refine g_e ?_;simp only[thenQ,blockQ,↓reduceIte,Nat.reduceEqDiff])|(refine g_c (fun h=>?_) (fun h=>?_)<;>(try simp only[go_sem] at h)<;>(try exact g_f))|((first|refine g_t ?_|refine g_g ?_|refine g_U ?_|refine g_A ?_|refine g_W ?_);(try simp -implicitDefEqProofs only[go_sem]))|(with_reducible refine hK _ _ ?_;clear hK K)|(clear hK K;first|(with_reducible refine hK _ _ ?_;clear hK K)|(clear hK K;with_reducible refine hK _ _ ?_;clear hK K)|(clear hK K;clear hK K;with_reducible refine hK _ _ ?_;clear hK K))|(with_reducible refine splitB_intro (fun h=>?_) (fun h=>?_)<;>(try simp only[go_sem] at h)<;>(try exact g_f)<;>(try simp -implicitDefEqProofs only[go_sem]))|(with_reducible refine And.intro (fun h=>?_) (fun h=>?_)<;>(try simp only[go_sem] at h)<;>(try exact g_f))|(with_reducible refine And.intro ?_ ?_;· exact g_x)|(with_reducible intro h;(try simp only[go_sem] at h);(try exact g_f))))
    refine ACalls.useX (hS _) ?_
    rintro τ r ⟨ids, a, rfl, h⟩
    rw [List.append_assoc] at h
    rcases h.form with rfl | ⟨b, m, rfl⟩
    all_goals simp -implicitDefEqProofs only [go_sem]
    all_goals (repeat' (first|(refine g_s fun K hK=>?_)|(refine g_b ?_)|(refine g_r ?_)|(refine g_k ?_;simp only[thenQ,blockQ])|(refine g_e ?_;simp only[thenQ,blockQ,↓reduceIte,Nat.reduceEqDiff])|(refine g_c (fun h=>?_) (fun h=>?_)<;>(try simp only[go_sem] at h)<;>(try exact g_f))|((first|refine g_t ?_|refine g_g ?_|refine g_U ?_|refine g_A ?_|refine g_W ?_);(try simp -implicitDefEqProofs only[go_sem]))|(with_reducible refine hK _ _ ?_;clear hK K)|(clear hK K;first|(with_reducible refine hK _ _ ?_;clear hK K)|(clear hK K;with_reducible refine hK _ _ ?_;clear hK K)|(clear hK K;clear hK K;with_reducible refine hK _ _ ?_;clear hK K))|(with_reducible refine splitB_intro (fun h=>?_) (fun h=>?_)<;>(try simp only[go_sem] at h)<;>(try exact g_f)<;>(try simp -implicitDefEqProofs only[go_sem]))|(with_reducible refine And.intro (fun h=>?_) (fun h=>?_)<;>(try simp only[go_sem] at h)<;>(try exact g_f))|(with_reducible refine And.intro ?_ ?_;· exact g_x)|(with_reducible intro h;(try simp only[go_sem] at h);(try exact g_f))))
    all_goals exact ⟨_, rfl, ids, _, rfl, h.skip (k := 2) (by simp) rfl⟩
  · have hB : buildP (.mk 3 0 [] [x, y]) = pairA (buildP x) (buildP y) := by rw [buildP, if_neg (by decide), if_neg (by decide), if_pos rfl, buildL_map]; rfl
    rw [hB]
    have hox := build_ok x (hps x (by simp))
    have hoy := build_ok y (hps y (by simp))
    have hcx := ihC x (by simp)
    have hcy := ihC y (by simp)
    have hlx := edges_le x (hps x (by simp)) (hwp x (by simp))
    have hS := pair_calls (buildP x) (buildP y) hox.form hoy.form (by have := hox.edges; have := hoy.edges; omega) (by rw [hox.size, hoy.size]; exact hss) (by have := hox.edges; omega)
    obtain ⟨A, hA⟩ : ∃ A, buildP x = A := ⟨_, rfl⟩
    obtain ⟨B, hB2⟩ : ∃ B, buildP y = B := ⟨_, rfl⟩
    rw [hA] at hcx hS ⊢
    rw [hB2] at hcy hS ⊢
    have hx0 : at0 [x, y] 0 = x := rfl
    have hy0 : at0 [x, y] 1 = y := rfl
    obtain ⟨k', n', e', ps'⟩ := x
    obtain ⟨k'', n'', e'', ps''⟩ := y
    rw [plC_mk] at hcx hcy ⊢
    refine ACalls_of_awp Try.func67 rfl Try.results67 ?_
    simp only [List.length_cons, List.length_nil, Try.ntmps67, Nat.reduceAdd, Nat.reduceSub, enterA]
    refine AWP_seq_k fun K hK => ?_
    (refine AWP_region ?_; simp -implicitDefEqProofs only [go_sem])
    refine hK _ _ ?_; clear hK K
    refine AWP_freezeP 1 rfl (by simp only [st0]; rfl) ?_
    simp only [ss0, List.set_cons_zero]
    (repeat' (first|(refine g_s fun K hK=>?_)|(refine g_b ?_)|(refine g_r ?_)|(refine g_k ?_;simp only[thenQ,blockQ])|(refine g_e ?_;simp only[thenQ,blockQ,↓reduceIte,Nat.reduceEqDiff])|(refine g_c (fun h=>?_) (fun h=>?_)<;>(try simp only[go_sem] at h)<;>(try exact g_f))|((first|refine g_t ?_|refine g_G ?_|refine AWP_drawK 10 tab_mixed (by decide +kernel) ?_|refine (hcx _).use ?_|refine g_q (fun τ=>hcx _) ?_|refine (hcy _).use ?_|refine g_q (fun τ=>hcy _) ?_);(try simp -implicitDefEqProofs only[go_sem,hx0, hy0]))|(with_reducible refine hK _ _ ?_;clear hK K)|(clear hK K;first|(with_reducible refine hK _ _ ?_;clear hK K)|(clear hK K;with_reducible refine hK _ _ ?_;clear hK K)|(clear hK K;clear hK K;with_reducible refine hK _ _ ?_;clear hK K))|(with_reducible refine splitB_intro (fun h=>?_) (fun h=>?_)<;>(try simp only[go_sem] at h)<;>(try exact g_f)<;>(try simp -implicitDefEqProofs only[go_sem,hx0, hy0]))|(with_reducible refine And.intro (fun h=>?_) (fun h=>?_)<;>(try simp only[go_sem] at h)<;>(try exact g_f))|(with_reducible refine And.intro ?_ ?_;· exact g_x)|(with_reducible intro h;(try simp only[go_sem] at h);(try exact g_f))))
    refine ACalls.useX (hS _) ?_
    rintro τ r ⟨ids, a, rfl, h⟩
    rw [List.append_assoc] at h
    rcases h.form with rfl | ⟨b, m, rfl⟩
    all_goals simp -implicitDefEqProofs only [go_sem]
    all_goals (repeat' (first|(refine g_s fun K hK=>?_)|(refine g_b ?_)|(refine g_r ?_)|(refine g_k ?_;simp only[thenQ,blockQ])|(refine g_e ?_;simp only[thenQ,blockQ,↓reduceIte,Nat.reduceEqDiff])|(refine g_c (fun h=>?_) (fun h=>?_)<;>(try simp only[go_sem] at h)<;>(try exact g_f))|((first|refine g_t ?_|refine g_g ?_|refine g_U ?_|refine g_A ?_|refine g_W ?_);(try simp -implicitDefEqProofs only[go_sem]))|(with_reducible refine hK _ _ ?_;clear hK K)|(clear hK K;first|(with_reducible refine hK _ _ ?_;clear hK K)|(clear hK K;with_reducible refine hK _ _ ?_;clear hK K)|(clear hK K;clear hK K;with_reducible refine hK _ _ ?_;clear hK K))|(with_reducible refine splitB_intro (fun h=>?_) (fun h=>?_)<;>(try simp only[go_sem] at h)<;>(try exact g_f)<;>(try simp -implicitDefEqProofs only[go_sem]))|(with_reducible refine And.intro (fun h=>?_) (fun h=>?_)<;>(try simp only[go_sem] at h)<;>(try exact g_f))|(with_reducible refine And.intro ?_ ?_;· exact g_x)|(with_reducible intro h;(try simp only[go_sem] at h);(try exact g_f))))
    all_goals exact ⟨_, rfl, ids, _, rfl, h.skip (k := 2) (by simp) rfl⟩
  · have hB : buildP (.mk 4 0 e [x]) = filterA e (buildP x) := by rw [buildP, if_neg (by decide), if_neg (by decide), if_neg (by decide), buildL_map]; rfl
    rw [hB]
    have hox := build_ok x (hps x (by simp))
    have hix := ih x (by simp) (hp x (by simp)) (hps x (by simp)) (hwp x (by simp))
    have hfx := hox.form
    have hes : e.length = (buildP x).edges.length := by have := hox.edges; omega
    have hsz := hox.size
    obtain ⟨A, hA⟩ : ∃ A, buildP x = A := ⟨_, rfl⟩
    rw [hA] at hix hfx hes hsz ⊢
    have hx0 : at0 [x] 0 = x := rfl
    rw [← hsz] at hx
    obtain ⟨k', n', e', ps'⟩ := x
    rw [plC_mk] at hix ⊢
    refine ACalls_of_awp Try.func67 rfl Try.results67 ?_
    simp only [List.length_cons, List.length_nil, Try.ntmps67, Nat.reduceAdd, Nat.reduceSub, enterA]
    refine AWP_seq_k fun K hK => ?_
    (refine AWP_region ?_; simp -implicitDefEqProofs only [go_sem])
    refine hK _ _ ?_; clear hK K
    refine AWP_freezeP 1 rfl (by simp only [st0]; rfl) ?_
    simp only [ss0, List.set_cons_zero]
    (repeat' (first|(refine g_s fun K hK=>?_)|(refine g_b ?_)|(refine g_r ?_)|(refine g_k ?_;simp only[thenQ,blockQ])|(refine g_e ?_;simp only[thenQ,blockQ,↓reduceIte,Nat.reduceEqDiff])|(refine g_c (fun h=>?_) (fun h=>?_)<;>(try simp only[go_sem] at h)<;>(try exact g_f))|((first|refine g_t ?_|refine g_g ?_|refine g_U ?_|refine g_A ?_|refine g_W ?_);(try simp -implicitDefEqProofs only[go_sem,hx0]))|(with_reducible refine hK _ _ ?_;clear hK K)|(clear hK K;first|(with_reducible refine hK _ _ ?_;clear hK K)|(clear hK K;with_reducible refine hK _ _ ?_;clear hK K)|(clear hK K;clear hK K;with_reducible refine hK _ _ ?_;clear hK K))|(with_reducible refine splitB_intro (fun h=>?_) (fun h=>?_)<;>(try simp only[go_sem] at h)<;>(try exact g_f)<;>(try simp -implicitDefEqProofs only[go_sem,hx0]))|(with_reducible refine And.intro (fun h=>?_) (fun h=>?_)<;>(try simp only[go_sem] at h)<;>(try exact g_f))|(with_reducible refine And.intro ?_ ?_;· exact g_x)|(with_reducible intro h;(try simp only[go_sem] at h);(try exact g_f))))
    refine ACalls.useX (hix _) ?_
    rintro τ r ⟨ids, a, rfl, h⟩
    rw [List.append_assoc] at h
    by_cases hM : A.edges = []
    · have he0 : e = [] := by rw [hM] at hes; exact List.eq_nil_of_length_eq_zero hes
      subst he0
      rcases h.2 with ⟨_, rfl, _⟩ | ⟨_, _, _, _, hne, _⟩
      · simp -implicitDefEqProofs only [go_sem]
        (repeat' (first|(refine g_s fun K hK=>?_)|(refine g_b ?_)|(refine g_r ?_)|(refine g_k ?_;simp only[thenQ,blockQ])|(refine g_e ?_;simp only[thenQ,blockQ,↓reduceIte,Nat.reduceEqDiff])|(refine g_c (fun h=>?_) (fun h=>?_)<;>(try simp only[go_sem] at h)<;>(try exact g_f))|((first|refine g_t ?_|refine g_g ?_|refine g_U ?_|refine g_A ?_|refine g_W ?_);(try simp -implicitDefEqProofs only[go_sem,hx0]))|(with_reducible refine hK _ _ ?_;clear hK K)|(clear hK K;first|(with_reducible refine hK _ _ ?_;clear hK K)|(clear hK K;with_reducible refine hK _ _ ?_;clear hK K)|(clear hK K;clear hK K;with_reducible refine hK _ _ ?_;clear hK K))|(with_reducible refine splitB_intro (fun h=>?_) (fun h=>?_)<;>(try simp only[go_sem] at h)<;>(try exact g_f)<;>(try simp -implicitDefEqProofs only[go_sem,hx0]))|(with_reducible refine And.intro (fun h=>?_) (fun h=>?_)<;>(try simp only[go_sem] at h)<;>(try exact g_f))|(with_reducible refine And.intro ?_ ?_;· exact g_x)|(with_reducible intro h;(try simp only[go_sem] at h);(try exact g_f))))
        have hJ := hK
        clear hK
        refine AWP_each ([] : List Int) (fun _ _ _ => True) (fun k _ _ => [(38, intA1 k)]) (fun _ _ _ => σ ++ .dead :: .cells 3 [[intA1 0, .c (.slice none 0 0), .c (.slice none 0 0)]] :: (τ ++ [.cells 3 [[intA1 A.size, rowsC A.best, .c (.slice none 0 0)]]])) () [] trivial rfl (ALe_of ?_) ?_ ?_
        · simp -implicitDefEqProofs only [go_sem]
        · intro k r s τ2 h0 h1
          simp at h1
          omega
        · rintro k _ τ2 hk _ L
          simp -implicitDefEqProofs only [go_sem]
          (repeat' (first|(refine g_s fun K hK=>?_)|(refine g_b ?_)|(refine g_r ?_)|(refine g_k ?_;simp only[thenQ,blockQ])|(refine g_e ?_;simp only[thenQ,blockQ,↓reduceIte,Nat.reduceEqDiff])|(refine g_c (fun h=>?_) (fun h=>?_)<;>(try simp only[go_sem] at h)<;>(try exact g_f))|((first|refine g_t ?_|refine g_g ?_|refine g_U ?_|refine g_A ?_|refine g_W ?_);(try simp -implicitDefEqProofs only[go_sem]))|(with_reducible refine hK _ _ ?_;clear hK K)|(clear hK K;first|(with_reducible refine hK _ _ ?_;clear hK K)|(clear hK K;with_reducible refine hK _ _ ?_;clear hK K)|(clear hK K;clear hK K;with_reducible refine hK _ _ ?_;clear hK K))|(with_reducible refine splitB_intro (fun h=>?_) (fun h=>?_)<;>(try simp only[go_sem] at h)<;>(try exact g_f)<;>(try simp -implicitDefEqProofs only[go_sem]))|(with_reducible refine And.intro (fun h=>?_) (fun h=>?_)<;>(try simp only[go_sem] at h)<;>(try exact g_f))|(with_reducible refine And.intro ?_ ?_;· exact g_x)|(with_reducible intro h;(try simp only[go_sem] at h);(try exact g_f))))
          refine hJ _ _ ?_
          clear hJ
          (repeat' (first|(refine g_s fun K hK=>?_)|(refine g_b ?_)|(refine g_r ?_)|(refine g_k ?_;simp only[thenQ,blockQ])|(refine g_e ?_;simp only[thenQ,blockQ,↓reduceIte,Nat.reduceEqDiff])|(refine g_c (fun h=>?_) (fun h=>?_)<;>(try simp only[go_sem] at h)<;>(try exact g_f))|((first|refine g_t ?_|refine g_g ?_|refine g_U ?_|refine g_A ?_|refine g_W ?_);(try simp -implicitDefEqProofs only[go_sem]))|(with_reducible refine hK _ _ ?_;clear hK K)|(clear hK K;first|(with_reducible refine hK _ _ ?_;clear hK K)|(clear hK K;with_reducible refine hK _ _ ?_;clear hK K)|(clear hK K;clear hK K;with_reducible refine hK _ _ ?_;clear hK K))|(with_reducible refine splitB_intro (fun h=>?_) (fun h=>?_)<;>(try simp only[go_sem] at h)<;>(try exact g_f)<;>(try simp -implicitDefEqProofs only[go_sem]))|(with_reducible refine And.intro (fun h=>?_) (fun h=>?_)<;>(try simp only[go_sem] at h)<;>(try exact g_f))|(with_reducible refine And.intro ?_ ?_;· exact g_x)|(with_reducible intro h;(try simp only[go_sem] at h);(try exact g_f))))
          exact ⟨_, rfl, [], _, rfl, ⟨fun r hr => (by cases hr), .inl ⟨rfl, rfl, rfl⟩⟩⟩
      · exact absurd hM hne
    · obtain ⟨b, q, rfl, rfl, hb, hql, hnd, hlo, hra⟩ := h.parts hM
      have hA2 := hfx.s2
      have hA24 := hfx.s24
      have hst := Filt.start (e := e) hfx
      obtain ⟨_, hp1, hp2, _⟩ := shl_one (s := A.size) (by omega) (by omega)
      have hMw := h.1
      obtain ⟨w, hwd⟩ : ∃ w, A.size.toNat = w := ⟨_, rfl⟩
      have hws : (w : Int) = A.size := by omega
      rw [hwd] at hb hMw
      simp only [List.length_append, List.length_cons, List.length_nil, Nat.zero_add] at hlo hra
      have i1 : I64 (A.size - 1) := by unfold I64; omega
      simp -implicitDefEqProofs only [go_sem]
      (repeat' (first|(refine g_s fun K hK=>?_)|(refine g_b ?_)|(refine g_r ?_)|(refine g_k ?_;simp only[thenQ,blockQ])|(refine g_e ?_;simp only[thenQ,blockQ,↓reduceIte,Nat.reduceEqDiff])|(refine g_c (fun h=>?_) (fun h=>?_)<;>(try simp only[go_sem] at h)<;>(try exact g_f))|((first|refine g_t ?_|refine g_g ?_|refine g_U ?_|refine g_A ?_|refine g_W ?_);(try simp -implicitDefEqProofs only[go_sem,hx0]))|(with_reducible refine hK _ _ ?_;clear hK K)|(clear hK K;first|(with_reducible refine hK _ _ ?_;clear hK K)|(clear hK K;with_reducible refine hK _ _ ?_;clear hK K)|(clear hK K;clear hK K;with_reducible refine hK _ _ ?_;clear hK K))|(with_reducible refine splitB_intro (fun h=>?_) (fun h=>?_)<;>(try simp only[go_sem] at h)<;>(try exact g_f)<;>(try simp -implicitDefEqProofs only[go_sem,hx0]))|(with_reducible refine And.intro (fun h=>?_) (fun h=>?_)<;>(try simp only[go_sem] at h)<;>(try exact g_f))|(with_reducible refine And.intro ?_ ?_;· exact g_x)|(with_reducible intro h;(try simp only[go_sem] at h);(try exact g_f))))
      have hJ := hK
      clear hK
      obtain ⟨c2, hc2⟩ : ∃ c2, Ob.cells 3 [[AV.c (Value.int IntKind.i64 0), AV.c (Value.slice none 0 0), AV.c (Value.slice none 0 0)]] = c2 := ⟨_, rfl⟩
      obtain ⟨ml, hml⟩ : ∃ ml, A.edges.length = ml := ⟨_, rfl⟩
      have hbT : (σ ++ (.dead :: c2 :: τ))[b]? = some (.cells 1 (q.map (rowV w))) := by rw [← hc2]; exact hb
      have hrT : RowsAt (σ ++ (.dead :: c2 :: τ)) (σ.length + 2) q A.edges := by rw [← hc2]; exact hra
      have hbl : b < σ.length + 2 + τ.length := by have := (List.getElem?_eq_some_iff.1 hbT).1; simp at this; omega
      have hset : ∀ (T : Store) (p : Nat) (o : Ob), σ.length + 2 ≤ p → p < σ.length + 2 + T.length → ∀ X : Store, (σ ++ .dead :: c2 :: (T ++ X)).set p o = σ ++ .dead :: c2 :: (T.set (p - (σ.length + 2)) o ++ X) := fun T p o h1 h2 X => by
        obtain ⟨d, rfl⟩ : ∃ d, p = σ.length + (d + 2) := ⟨p - (σ.length + 2), by omega⟩
        rw [List.set_append_right _ _ (by omega)]
        have e1 : σ.length + (d + 2) - σ.length = d + 1 + 1 := by omega
        have e2 : σ.length + (d + 2) - (σ.length + 2) = d := by omega
        rw [e1, e2, List.set_cons_succ, List.set_cons_succ, List.set_append_left _ _ (by omega)]
      have hget : ∀ (T X : Store) (p : Nat) (o : Ob), (σ ++ (.dead :: c2 :: T))[p]? = some o → (σ ++ .dead :: c2 :: (T ++ X))[p]? = some o := fun T X p o h => by
        have e : σ ++ .dead :: c2 :: (T ++ X) = (σ ++ (.dead :: c2 :: T)) ++ X := by simp
        rw [e, List.getElem?_append_left (List.getElem?_eq_some_iff.1 h).1]
        exact h
      refine AWP_each e (fun i _ (s : Store × List (List Int)) => s.1.length = τ.length ∧ Filt A.size e A.edges s.2 i 0 ∧ (σ ++ (.dead :: c2 :: s.1))[b]? = some (.cells 1 (q.map (rowV w))) ∧ RowsAt (σ ++ (.dead :: c2 :: s.1)) (σ.length + 2) q s.2)
        (fun i _ _ => [(38, intA1 i)]) (fun _ s _ => σ ++ .dead :: c2 :: (s.1 ++ [.cells 3 [[intA1 A.size, rowsC A.best, .own b 1 0 A.edges.length A.edges.length]]])) (τ, A.edges) [] ⟨rfl, hst, hbT, hrT⟩ (by rw [← hc2]; rfl) (ALe_of ?_) ?_ ?_
      · simp -implicitDefEqProofs only [go_sem]
      · rintro i r ⟨T, M⟩ τ9 hi0 hi1 ⟨g1, g2, g3, g4⟩ L hL
        have g1 : T.length = τ.length := g1
        have hiA : i < A.edges.length := by rw [← hes]; exact hi1
        obtain ⟨v, hv⟩ : ∃ v, at0 e i = v := ⟨_, rfl⟩
        have hvr := hx _ (at0_mem e hi0 hi1)
        rw [hv] at hvr
        simp -implicitDefEqProofs only [go_sem]
        (repeat' (first|(refine g_s fun K hK=>?_)|(refine g_b ?_)|(refine g_r ?_)|(refine g_k ?_;simp only[thenQ,blockQ])|(refine g_e ?_;simp only[thenQ,blockQ,↓reduceIte,Nat.reduceEqDiff])|(refine g_c (fun h=>?_) (fun h=>?_)<;>(try simp only[go_sem] at h)<;>(try exact g_f))|((first|refine g_t ?_|refine g_g ?_|refine g_U ?_|refine g_A ?_|refine g_W ?_);(try simp -implicitDefEqProofs only[go_sem,hv, g1.symm]))|(with_reducible refine hK _ _ ?_;clear hK K)|(clear hK K;first|(with_reducible refine hK _ _ ?_;clear hK K)|(clear hK K;with_reducible refine hK _ _ ?_;clear hK K)|(clear hK K;clear hK K;with_reducible refine hK _ _ ?_;clear hK K))|(with_reducible refine splitB_intro (fun h=>?_) (fun h=>?_)<;>(try simp only[go_sem] at h)<;>(try exact g_f)<;>(try simp -implicitDefEqProofs only[go_sem,hv, g1.symm]))|(with_reducible refine And.intro (fun h=>?_) (fun h=>?_)<;>(try simp only[go_sem] at h)<;>(try exact g_f))|(with_reducible refine And.intro ?_ ?_;· exact g_x)|(with_reducible intro h;(try simp only[go_sem] at h);(try exact g_f))))
        have g2 : Filt A.size e A.edges M i 0 := g2
        have g3 : (σ ++ (.dead :: c2 :: T))[b]? = some (.cells 1 (q.map (rowV w))) := g3
        have g4 : RowsAt (σ ++ (.dead :: c2 :: T)) (σ.length + 2) q M := g4
        have hJ2 := hK
        clear hK
        refine AWP_each (ints A.size) (fun k _ (s : Store × List (List Int)) => s.1.length = τ.length ∧ Filt A.size e A.edges s.2 i k ∧ (σ ++ (.dead :: c2 :: s.1))[b]? = some (.cells 1 (q.map (rowV w))) ∧ RowsAt (σ ++ (.dead :: c2 :: s.1)) (σ.length + 2) q s.2)
          (fun k _ _ => [(45, intA1 k)]) (fun _ s _ => σ ++ .dead :: c2 :: (s.1 ++ [.cells 3 [[intA1 A.size, rowsC A.best, .own b 1 0 A.edges.length A.edges.length]]])) (T, M) [] ⟨g1, g2, g3, g4⟩ rfl (ALe_of ?_) ?_ ?_
        · simp -implicitDefEqProofs only [go_sem]
        · rintro k r2 ⟨T1, M1⟩ τ8 hk0 hk1 ⟨f1, f2, f3, f4⟩ L2 hL2
          have f1 : T1.length = τ.length := f1
          have f2 : Filt A.size e A.edges M1 i k := f2
          have f3 : (σ ++ (.dead :: c2 :: T1))[b]? = some (.cells 1 (q.map (rowV w))) := f3
          have f4 : RowsAt (σ ++ (.dead :: c2 :: T1)) (σ.length + 2) q M1 := f4
          rw [ints_length] at hk1
          have hkk : k < A.size := by omega
          have hM1 := f2.1
          have hiE : i.toNat < M1.length := by omega
          have hiq : i.toNat < q.length := by rw [f4.1]; exact hiE
          have hpos : (0 : Int) < 2 ^ k.toNat := Int.pow_pos (by decide)
          obtain ⟨u, hu⟩ : ∃ u, v / 2 ^ k.toNat = u := ⟨_, rfl⟩
          have hu0 : 0 ≤ u := hu ▸ Int.ediv_nonneg hvr.1 (Int.le_of_lt hpos)
          have huv : u ≤ v := hu ▸ Int.ediv_le_self _ hvr.1
          have hmin : min k.toNat 64 = k.toNat := by omega
          have z1 : v.fdiv (2 ^ min k.toNat 64) = u := by rw [hmin, Int.fdiv_eq_ediv_of_nonneg _ (Int.le_of_lt hpos), hu]
          have z2 := and_one hu0 (by omega)
          have hbit : bitA (at0 e i) k = decide (u % 2 = 1) := by rw [hv, bit_of, hu]
          have hq2 := f4.2 i.toNat hiq hiE
          obtain ⟨qi, hqi⟩ : ∃ qi, q[i.toNat]'hiq = qi := ⟨_, rfl⟩
          rw [hqi] at hq2
          have hrow : (q.map (rowV w))[i.toNat]? = some [.own qi 1 0 w w] := by
            rw [List.getElem?_map, List.getElem?_eq_getElem hiq, hqi]
            rfl
          have hMr : M1[i.toNat] = at0 M1 i := by simp [at0, List.getD_eq_getElem?_getD, hiE]
          obtain ⟨row, hrw⟩ : ∃ row, at0 M1 i = row := ⟨_, rfl⟩
          rw [hMr, hrw] at hq2
          have hrl : row.length = w := by rw [← hrw, ← hwd]; exact f2.2.1 _ (at0_mem M1 hi0 (by omega))
          have hgb := hget T1 [.cells 3 [[.c (.int .i64 A.size), .sl (A.best.map rowC), .own b 1 0 A.edges.length A.edges.length]]] b _ f3
          have hgq := hget T1 [.cells 3 [[.c (.int .i64 A.size), .sl (A.best.map rowC), .own b 1 0 A.edges.length A.edges.length]]] qi _ hq2.2
          have hgk : (row.map intC)[k.toNat]? = some [.c (.int .i64 (at0 row k))] := by
            have : k.toNat < row.length := by omega
            simp [at0, List.getD_eq_getElem?_getD, this, intC]
          have hsk := set_ints row k.toNat (A.size - 1)
          have hqlt : qi < σ.length + 2 + T1.length := by have := (List.getElem?_eq_some_iff.1 hq2.2).1; simp at this; omega
          have hst := hset T1 qi (.cells 1 ((row.set k.toNat (A.size - 1)).map intC)) hq2.1 hqlt [.cells 3 [[.c (.int .i64 A.size), .sl (A.best.map rowC), .own b 1 0 A.edges.length A.edges.length]]]
          simp -implicitDefEqProofs only [go_sem]
          have f5 : T.length = T1.length := by omega
          (repeat' (first|(refine g_s fun K hK=>?_)|(refine g_b ?_)|(refine g_r ?_)|(refine g_k ?_;simp only[thenQ,blockQ])|(refine g_e ?_;simp only[thenQ,blockQ,↓reduceIte,Nat.reduceEqDiff])|(refine g_c (fun h=>?_) (fun h=>?_)<;>(try simp only[go_sem] at h)<;>(try exact g_f))|((first|refine g_t ?_|refine g_g ?_|refine g_U ?_|refine g_A ?_|refine g_W ?_);(try simp -implicitDefEqProofs only[go_sem,hv, hx0, z1, f5, hgb, hgq, hrow, hgk, hsk, i1]))|(with_reducible refine hK _ _ ?_;clear hK K)|(clear hK K;first|(with_reducible refine hK _ _ ?_;clear hK K)|(clear hK K;with_reducible refine hK _ _ ?_;clear hK K)|(clear hK K;clear hK K;with_reducible refine hK _ _ ?_;clear hK K))|(with_reducible refine splitB_intro (fun h=>?_) (fun h=>?_)<;>(try simp only[go_sem] at h)<;>(try exact g_f)<;>(try simp -implicitDefEqProofs only[go_sem,hv, hx0, z1, f5, hgb, hgq, hrow, hgk, hsk, i1]))|(with_reducible refine And.intro (fun h=>?_) (fun h=>?_)<;>(try simp only[go_sem] at h)<;>(try exact g_f))|(with_reducible refine And.intro ?_ ?_;· exact g_x)|(with_reducible intro h;(try simp only[go_sem] at h);(try exact g_f))))
          · have hb1 : bitA (at0 e i) k = true := by rw [hbit, ← z2]; exact decide_eq_true h
            have hput := RowsAt.put f3 hnd f4 hiE hiq (row.set k.toNat (A.size - 1))
            have hst0 := hset T1 qi (.cells 1 ((row.set k.toNat (A.size - 1)).map intC)) hq2.1 hqlt []
            rw [List.append_nil, List.append_nil] at hst0
            rw [hqi, hst0] at hput
            have hfp := f2.put hb1 hi0 hiA hk0 hkk
            rw [hrw] at hfp
            refine hL2 (T1.set (qi - (σ.length + 2)) (.cells 1 ((row.set k.toNat (A.size - 1)).map intC)), M1.set i.toNat (row.set k.toNat (A.size - 1))) τ8 _ _ ⟨by rw [List.length_set]; exact f1, hfp, hput.1, hput.2⟩ (ALe_of ?_) hst.symm
            simp -implicitDefEqProofs only [go_sem, f5]
          · have hb1 : ¬ bitA (at0 e i) k = true := by rw [hbit, ← z2, decide_eq_true_eq]; exact h
            refine hL2 (T1, M1) τ8 _ _ ⟨f1, f2.skip hb1, f3, f4⟩ (ALe_of ?_) rfl
            simp -implicitDefEqProofs only [go_sem, f5]
        · rintro k ⟨T1, M1⟩ τ8 hk ⟨f1, f2, f3, f4⟩ L2
          rw [ints_length] at hk
          have f2 : Filt A.size e A.edges M1 i k := f2
          have hkA : k = A.size := by omega
          rw [hkA] at f2
          simp -implicitDefEqProofs only [go_sem]
          (repeat' (first|(refine g_s fun K hK=>?_)|(refine g_b ?_)|(refine g_r ?_)|(refine g_k ?_;simp only[thenQ,blockQ])|(refine g_e ?_;simp only[thenQ,blockQ,↓reduceIte,Nat.reduceEqDiff])|(refine g_c (fun h=>?_) (fun h=>?_)<;>(try simp only[go_sem] at h)<;>(try exact g_f))|((first|refine g_t ?_|refine g_g ?_|refine g_U ?_|refine g_A ?_|refine g_W ?_);(try simp -implicitDefEqProofs only[go_sem]))|(with_reducible refine hK _ _ ?_;clear hK K)|(clear hK K;first|(with_reducible refine hK _ _ ?_;clear hK K)|(clear hK K;with_reducible refine hK _ _ ?_;clear hK K)|(clear hK K;clear hK K;with_reducible refine hK _ _ ?_;clear hK K))|(with_reducible refine splitB_intro (fun h=>?_) (fun h=>?_)<;>(try simp only[go_sem] at h)<;>(try exact g_f)<;>(try simp -implicitDefEqProofs only[go_sem]))|(with_reducible refine And.intro (fun h=>?_) (fun h=>?_)<;>(try simp only[go_sem] at h)<;>(try exact g_f))|(with_reducible refine And.intro ?_ ?_;· exact g_x)|(with_reducible intro h;(try simp only[go_sem] at h);(try exact g_f))))
          refine hJ2 _ _ ?_
          clear hJ2
          (repeat' (first|(refine g_s fun K hK=>?_)|(refine g_b ?_)|(refine g_r ?_)|(refine g_k ?_;simp only[thenQ,blockQ])|(refine g_e ?_;simp only[thenQ,blockQ,↓reduceIte,Nat.reduceEqDiff])|(refine g_c (fun h=>?_) (fun h=>?_)<;>(try simp only[go_sem] at h)<;>(try exact g_f))|((first|refine g_t ?_|refine g_g ?_|refine g_U ?_|refine g_A ?_|refine g_W ?_);(try simp -implicitDefEqProofs only[go_sem]))|(with_reducible refine hK _ _ ?_;clear hK K)|(clear hK K;first|(with_reducible refine hK _ _ ?_;clear hK K)|(clear hK K;with_reducible refine hK _ _ ?_;clear hK K)|(clear hK K;clear hK K;with_reducible refine hK _ _ ?_;clear hK K))|(with_reducible refine splitB_intro (fun h=>?_) (fun h=>?_)<;>(try simp only[go_sem] at h)<;>(try exact g_f)<;>(try simp -implicitDefEqProofs only[go_sem]))|(with_reducible refine And.intro (fun h=>?_) (fun h=>?_)<;>(try simp only[go_sem] at h)<;>(try exact g_f))|(with_reducible refine And.intro ?_ ?_;· exact g_x)|(with_reducible intro h;(try simp only[go_sem] at h);(try exact g_f))))
          refine hL (T1, M1) τ8 _ _ ⟨f1, f2.next, f3, f4⟩ (ALe_of ?_) rfl
          simp -implicitDefEqProofs only [go_sem, g1]
      · rintro i ⟨T, M⟩ τ9 hi ⟨g1, g2, g3, g4⟩ L
        have g1 : T.length = τ.length := g1
        have g2 : Filt A.size e A.edges M i 0 := g2
        have g3 : (σ ++ (.dead :: c2 :: T))[b]? = some (.cells 1 (q.map (rowV w))) := g3
        have g4 : RowsAt (σ ++ (.dead :: c2 :: T)) (σ.length + 2) q M := g4
        rw [hi] at g2
        have hMe := g2.done hfx hes
        have hMl := g2.1
        have hMr := g2.2.1
        subst hc2
        simp -implicitDefEqProofs only [go_sem]
        (repeat' (first|(refine g_s fun K hK=>?_)|(refine g_b ?_)|(refine g_r ?_)|(refine g_k ?_;simp only[thenQ,blockQ])|(refine g_e ?_;simp only[thenQ,blockQ,↓reduceIte,Nat.reduceEqDiff])|(refine g_c (fun h=>?_) (fun h=>?_)<;>(try simp only[go_sem] at h)<;>(try exact g_f))|((first|refine g_t ?_|refine g_g ?_|refine g_U ?_|refine g_A ?_|refine g_W ?_);(try simp -implicitDefEqProofs only[go_sem]))|(with_reducible refine hK _ _ ?_;clear hK K)|(clear hK K;first|(with_reducible refine hK _ _ ?_;clear hK K)|(clear hK K;with_reducible refine hK _ _ ?_;clear hK K)|(clear hK K;clear hK K;with_reducible refine hK _ _ ?_;clear hK K))|(with_reducible refine splitB_intro (fun h=>?_) (fun h=>?_)<;>(try simp only[go_sem] at h)<;>(try exact g_f)<;>(try simp -implicitDefEqProofs only[go_sem]))|(with_reducible refine And.intro (fun h=>?_) (fun h=>?_)<;>(try simp only[go_sem] at h)<;>(try exact g_f))|(with_reducible refine And.intro ?_ ?_;· exact g_x)|(with_reducible intro h;(try simp only[go_sem] at h);(try exact g_f))))
        refine hJ _ _ ?_
        clear hJ
        (repeat' (first|(refine g_s fun K hK=>?_)|(refine g_b ?_)|(refine g_r ?_)|(refine g_k ?_;simp only[thenQ,blockQ])|(refine g_e ?_;simp only[thenQ,blockQ,↓reduceIte,Nat.reduceEqDiff])|(refine g_c (fun h=>?_) (fun h=>?_)<;>(try simp only[go_sem] at h)<;>(try exact g_f))|((first|refine g_t ?_|refine g_g ?_|refine g_U ?_|refine g_A ?_|refine g_W ?_);(try simp -implicitDefEqProofs only[go_sem,g1.symm]))|(with_reducible refine hK _ _ ?_;clear hK K)|(clear hK K;first|(with_reducible refine hK _ _ ?_;clear hK K)|(clear hK K;with_reducible refine hK _ _ ?_;clear hK K)|(clear hK K;clear hK K;with_reducible refine hK _ _ ?_;clear hK K))|(with_reducible refine splitB_intro (fun h=>?_) (fun h=>?_)<;>(try simp only[go_sem] at h)<;>(try exact g_f)<;>(try simp -implicitDefEqProofs only[go_sem,g1.symm]))|(with_reducible refine And.intro (fun h=>?_) (fun h=>?_)<;>(try simp only[go_sem] at h)<;>(try exact g_f))|(with_reducible refine And.intro ?_ ?_;· exact g_x)|(with_reducible intro h;(try simp only[go_sem] at h);(try exact g_f))))
        have hfs : (filterA e A).size = A.size := rfl
        refine ⟨_, rfl, b :: q, _, rfl, ?_⟩
        rw [hfs, ← hMe, hwd]
        have hgo : ∀ c : Nat, σ.length + 2 ≤ c → ∀ o, (σ ++ (Ob.dead :: Ob.cells 3 [[AV.c (Value.int IntKind.i64 0), AV.c (Value.slice none 0 0), AV.c (Value.slice none 0 0)]] :: T))[c]? = some o →
            ∀ x X, (σ ++ .dead :: x :: (T ++ X))[c]? = some o := fun c hc o ho x X => by
          have h1 := hget T X c o ho
          rw [← at_skip (σ := σ) (X := .dead :: Ob.cells 3 [[AV.c (Value.int IntKind.i64 0), AV.c (Value.slice none 0 0), AV.c (Value.slice none 0 0)]] :: (T ++ X)) (Y := .dead :: x :: (T ++ X)) (k := 2) hc rfl]
          exact h1
        refine ⟨fun r hr => by rw [← hwd]; exact hMr r hr, .inr ⟨b, q, rfl, hnd, ?_, by rw [hMl], by omega, ?_, ?_⟩⟩
        · intro e0
          rw [e0] at hMl
          exact hM (List.eq_nil_of_length_eq_zero hMl.symm)
        · exact hgo b hlo _ g3 _ _
        · exact g4.congr (by omega) fun c hc o ho => hgo c (g4.lt c hc).2 o ho _ _
end Go.Proofs.Ytephecognbbaoaa
