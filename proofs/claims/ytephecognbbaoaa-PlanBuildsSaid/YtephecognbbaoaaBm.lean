/- Matrices of the call's own: an array of slices; how they are made by 'table'. -/
import Derived.Test.YtephecognbbaoaaAb
import Derived.Test.YtephecognbbaoaaDp
import Derived.Test.YtephecognbbaoaaMv
namespace Go.Proofs.Ytephecognbbaoaa
open Go
set_option linter.all false
set_option maxRecDepth 100000
set_option maxHeartbeats 4000000

/-- Rows at places: place q[i] holds row i. -/
def RowsAt (S : Store) (lo : Nat) (q : List Nat) (M : List (List Int)) : Prop := q.length = M.length ∧ ∀ i (h1 : i < q.length) (h2 : i < M.length), lo ≤ q[i] ∧ S[q[i]]? = some (.cells 1 (M[i].map intC))
def rowV (w : Nat) (q : Nat) : List AV := [.own q 1 0 w w]
theorem rowV_len (w : Nat) (l : List Nat) : (∀ e', e' ∈ l.map (rowV w) → e'.length = 1) = True := len_map (f := rowV w) (fun _ => rfl) l
theorem rowV_one (w : Nat) (l : List Nat) : (∀ e', e' ∈ l.map (rowV w) → e'.all oneA = true) = True := one_map (f := rowV w) (fun _ => rfl) l
attribute [go_sem] rowV_len rowV_one

theorem RowsAt.nil (S : Store) (lo : Nat) : RowsAt S lo [] [] := ⟨rfl, fun i h => by simp at h⟩
theorem RowsAt.congr {S S' : Store} {lo lo' : Nat} (hlo : lo' ≤ lo) {q : List Nat} {M : List (List Int)} (hS : ∀ b, b ∈ q → ∀ o, S[b]? = some o → S'[b]? = some o) (h : RowsAt S lo q M) : RowsAt S' lo' q M :=
  ⟨h.1, fun i h1 h2 => ⟨Nat.le_trans hlo (h.2 i h1 h2).1, hS _ (List.getElem_mem h1) _ (h.2 i h1 h2).2⟩⟩
theorem RowsAt.snoc {S : Store} {lo : Nat} {q : List Nat} {M : List (List Int)} (h : RowsAt S lo q M) {b : Nat} {r : List Int} (hb : lo ≤ b) (ho : S[b]? = some (.cells 1 (r.map intC))) : RowsAt S lo (q ++ [b]) (M ++ [r]) := by
  refine ⟨by simp [h.1], fun i h1 h2 => ?_⟩
  rcases Nat.lt_or_ge i q.length with hlt | hge
  · have hlt2 : i < M.length := by rw [← h.1]; exact hlt
    rw [List.getElem_append_left hlt, List.getElem_append_left hlt2]
    exact h.2 i hlt hlt2
  · have hi : i = q.length := by simp at h1; omega
    subst hi
    have e := h.1
    simp only [List.getElem_append_right (Nat.le_refl _), Nat.sub_self, List.getElem_cons_zero]
    simp only [e, List.getElem_append_right (Nat.le_refl _), Nat.sub_self, List.getElem_cons_zero]
    exact ⟨hb, ho⟩
theorem RowsAt.lt {S : Store} {lo : Nat} {q : List Nat} {M : List (List Int)} (h : RowsAt S lo q M) : ∀ b ∈ q, b < S.length ∧ lo ≤ b := fun b hb => by
  obtain ⟨i, hi, rfl⟩ := List.getElem_of_mem hb
  have := h.2 i hi (by rw [← h.1]; exact hi)
  exact ⟨(List.getElem?_eq_some_iff.1 this.2).1, this.1⟩

/-- A matrix of the call's own, its rows of w numbers each; ids: all objects that it holds. -/
def OwnM (S : Store) (lo w : Nat) (ids : List Nat) (a : AV) (M : List (List Int)) : Prop := (∀ r ∈ M, r.length = w) ∧
  ((M = [] ∧ a = .c (.slice none 0 0) ∧ ids = []) ∨ ∃ b q, ids = b :: q ∧ ids.Nodup ∧ M ≠ [] ∧ a = .own b 1 0 M.length M.length ∧ lo ≤ b ∧ S[b]? = some (.cells 1 (q.map (rowV w))) ∧ RowsAt S lo q M)

theorem OwnM.congr {S S' : Store} {lo lo' w : Nat} {ids : List Nat} {a : AV} {M : List (List Int)} (hlo : lo' ≤ lo) (hS : ∀ b, b ∈ ids → ∀ o, S[b]? = some o → S'[b]? = some o) (h : OwnM S lo w ids a M) : OwnM S' lo' w ids a M := by
  refine ⟨h.1, ?_⟩
  rcases h.2 with h2 | ⟨b, q, h1, h2, h3, h4, h5, h6, h7⟩
  · exact .inl h2
  · exact .inr ⟨b, q, h1, h2, h3, h4, Nat.le_trans hlo h5, hS b (by rw [h1]; simp) _ h6, h7.congr hlo fun c hc => hS c (by rw [h1]; simp [hc])⟩
theorem OwnM.lt {S : Store} {lo w : Nat} {ids : List Nat} {a : AV} {M : List (List Int)} (h : OwnM S lo w ids a M) : ∀ b ∈ ids, b < S.length ∧ lo ≤ b := fun b hb => by
  rcases h.2 with ⟨_, _, e⟩ | ⟨b', q, h1, h2, h3, h4, h5, h6, h7⟩
  · rw [e] at hb; cases hb
  · rw [h1] at hb
    rcases List.mem_cons.1 hb with rfl | hb
    · exact ⟨(List.getElem?_eq_some_iff.1 h6).1, h5⟩
    · exact h7.lt b hb
theorem OwnM.nodup {S : Store} {lo w : Nat} {ids : List Nat} {a : AV} {M : List (List Int)} (h : OwnM S lo w ids a M) : ids.Nodup := by
  rcases h.2 with ⟨_, _, e⟩ | ⟨b', q, h1, h2, _⟩
  · rw [e]; exact List.nodup_nil
  · exact h2

/-- The content of a matrix. -/
theorem OwnM.deep {S : Store} {lo w : Nat} {ids : List Nat} {a : AV} {M : List (List Int)} (h : OwnM S lo w ids a M) {D : Nat → Prop} (hD : ∀ b ∈ ids, D b) : Deep S D a (rowsC M) := by
  rcases h.2 with ⟨e1, e2, _⟩ | ⟨b, q, h1, h2, h3, h4, h5, h6, h7⟩
  · rw [e1, e2]
    exact .nil
  · rw [h4]
    refine Deep.ownW (hD b (by rw [h1]; simp)) h6 (by rw [List.length_map, h7.1]) ⟨by simp [h7.1], fun i a1 a2 => ?_⟩
    rw [List.length_map] at a1 a2
    simp only [List.getElem_map]
    have := h7.2 i a1 a2
    refine .cons (Deep.ownW (hD _ (by rw [h1]; simp)) this.2 ?_ (.same _)) .nil
    rw [List.length_map, h.1 _ (List.getElem_mem a2)]

/-- Where more lies behind, and what lies ahead has been written. -/
theorem ext_mid {σ A A' τ τ' : Store} (h : A.length = A'.length) {b : Nat} (hb : σ.length + A.length ≤ b) {o : Ob} (ho : (σ ++ (A ++ τ))[b]? = some o) : (σ ++ (A' ++ (τ ++ τ')))[b]? = some o := by
  rw [← List.append_assoc, List.getElem?_append_right (by simp; omega)] at ho ⊢
  rw [List.length_append] at ho ⊢
  rw [← h]
  obtain ⟨hlt, _⟩ := List.getElem?_eq_some_iff.1 ho
  rw [List.getElem?_append_left hlt]
  exact ho

theorem set_ints (l : List Int) (k : Nat) (v : Int) : (l.map intC).set k [.c (.int .i64 v)] = (l.set k v).map intC := by
  rw [List.map_set]
  rfl
theorem rep_ints (w : Nat) : List.replicate w [AV.c (.int .i64 0)] = (List.replicate w (0 : Int)).map intC := by
  rw [List.map_replicate]
  rfl

theorem at0_extI {a b : List Int} (hl : a.length = b.length) (h : ∀ k : Int, 0 ≤ k → k < a.length → at0 a k = at0 b k) : a = b := at0_eq hl h
theorem at0_setI (l : List Int) {k q : Int} (v : Int) (h0 : 0 ≤ k) (hq : 0 ≤ q) (h : k < l.length) : at0 (l.set k.toNat v) q = if q = k then v else at0 l q := by
  simp only [at0, List.getD_eq_getElem?_getD, List.getElem?_set]
  by_cases e : q = k
  · subst e
    have : q.toNat < l.length := by omega
    simp [this]
  · have : ¬ k.toNat = q.toNat := by omega
    simp [this, e]
theorem at0_intsM (f : Int → Int) {m k : Int} (h0 : 0 ≤ k) (h1 : k < m) : at0 ((ints m).map f) k = f k := by
  have h2 : k.toNat < m.toNat := by omega
  simp only [at0, List.getD_eq_getElem?_getD, ints, List.getElem?_map, List.getElem?_range h2, Option.map_some, Option.getD_some]
  congr 1
  omega
theorem at0_intsX {m k : Int} (h0 : 0 ≤ k) (h1 : k < m) : at0 (ints m) k = k := by
  have h2 : k.toNat < m.toNat := by omega
  simp only [at0, List.getD_eq_getElem?_getD, ints, List.getElem?_map, List.getElem?_range h2, Option.map_some, Option.getD_some]
  omega

theorem snocAt {σ T : Store} {lo : Nat} {q : List Nat} {M : List (List Int)} {r : List Int} (h : RowsAt (σ ++ T) lo q M) {o : Ob} (ho : o = .cells 1 (r.map intC)) {X : Store} (hX : X = .dead :: o :: X.drop 2) (hlo : lo ≤ σ.length := by omega) : RowsAt (σ ++ (T ++ X)) lo (q ++ [σ.length + (T.length + 1)]) (M ++ [r]) := by
  subst ho
  refine RowsAt.snoc (h.congr (Nat.le_refl _) fun b hb o ho => ?_) (by omega) ?_
  · have := (List.getElem?_eq_some_iff.1 ho).1
    rw [← List.append_assoc, List.getElem?_append_left this]
    exact ho
  · rw [hX, List.getElem?_append_right (by omega), List.getElem?_append_right (by omega)]
    have e : σ.length + (T.length + 1) - σ.length - T.length = 1 := by omega
    rw [e]
    rfl
theorem snocN {σ T : Store} {lo : Nat} {q : List Nat} {M : List (List Int)} (h : RowsAt (σ ++ T) lo q M) (hn : q.Nodup) : (q ++ [σ.length + (T.length + 1)]).Nodup := by
  rw [List.nodup_append]
  refine ⟨hn, by simp, fun a ha b hb => ?_⟩
  have := (h.lt a ha).1
  rw [List.length_append] at this
  rw [List.mem_singleton.1 hb]
  omega

theorem table_calls (f : FuncId) (first cap : List AV) (g : Int → Int → Int) (rows cols : Int) (hr0 : 0 ≤ rows) (hr1 : rows ≤ 24) (hc0 : 1 ≤ cols) (hc1 : cols ≤ 24) (hok : callOk Try.prog f = true)
    (hf : ∀ i k, 0 ≤ i → i < rows → 0 ≤ k → k < cols → ∀ S, ACalls Try.prog f (first ++ intA1 i :: intA1 k :: cap) S fun r S' => S' = S ∧ r = intA1 (g i k)) (σ : Store) :
    ACalls Try.prog 121 [intA1 rows, intA1 cols, .fn f first cap] σ fun r σ' => ∃ τ, σ' = σ ++ τ ∧ ∃ ids, OwnM (σ ++ τ) σ.length cols.toNat ids r ((ints rows).map fun i => (ints cols).map (g i)) := by
  obtain ⟨M, hM⟩ : ∃ M, ((ints rows).map fun i => (ints cols).map (g i)) = M := ⟨_, rfl⟩
  have hMw : ∀ r ∈ M, r.length = cols.toNat := fun r hr => by
    rw [← hM] at hr
    obtain ⟨i, _, rfl⟩ := List.mem_map.1 hr
    rw [List.length_map, ints_length]
  have hMl : M.length = rows.toNat := by rw [← hM, List.length_map, ints_length]
  rw [hM]
  have hw : ((cols.toNat : Nat) : Int) = cols := by omega
  refine ACalls_of_awp Try.func121 rfl Try.results121 ?_
  simp only [List.length_cons, List.length_nil, Try.ntmps121, Nat.reduceAdd, Nat.reduceSub, enterA]
  (repeat' (first|(refine g_s fun K hK=>?_)|(refine g_b ?_)|(refine g_r ?_)|(refine g_k ?_;simp only[thenQ,blockQ])|(refine g_e ?_;simp only[thenQ,blockQ,↓reduceIte,Nat.reduceEqDiff])|(refine g_c (fun h=>?_) (fun h=>?_)<;>(try simp only[go_sem] at h)<;>(try exact g_f))|((first|refine g_t ?_|refine g_G ?_|refine g_U ?_|refine g_A ?_|refine g_W ?_);(try simp -implicitDefEqProofs only[go_sem]))|(with_reducible refine hK _ _ ?_;clear hK K)|(clear hK K;first|(with_reducible refine hK _ _ ?_;clear hK K)|(clear hK K;with_reducible refine hK _ _ ?_;clear hK K)|(clear hK K;clear hK K;with_reducible refine hK _ _ ?_;clear hK K))|(with_reducible refine splitB_intro (fun h=>?_) (fun h=>?_)<;>(try simp only[go_sem] at h)<;>(try exact g_f)<;>(try simp -implicitDefEqProofs only[go_sem]))|(with_reducible refine And.intro (fun h=>?_) (fun h=>?_)<;>(try simp only[go_sem] at h)<;>(try exact g_f))|(with_reducible refine And.intro ?_ ?_;· exact g_x)|(with_reducible intro h;(try simp only[go_sem] at h);(try exact g_f))))
  refine AWP_pad ?_
  have hJ := hK
  clear hK
  refine AWP_each (ints rows) (fun i r (s : List Nat × Store) => ∃ M', M' ++ r.map (fun i => (ints cols).map (g i)) = M ∧ RowsAt (σ ++ s.2) σ.length s.1 M' ∧ s.1.Nodup)
    (fun i s _ => [(12, intA1 i), (7, accV 1 (σ.length + s.2.length) s.1)]) (fun _ s _ => σ ++ (s.2 ++ [accO (rowV cols.toNat) 1 s.1])) ([], []) [] ⟨[], hM, RowsAt.nil _ _, List.nodup_nil⟩ rfl (ALe_of ?_) ?_ ?_
  · simp -implicitDefEqProofs only [go_sem, accV]
  · rintro i r ⟨q, T⟩ τ hi0 hi1 ⟨M', h3, h4, h5⟩ L hL
    rw [ints_length] at hi1
    rw [at0_intsX hi0 (by omega), List.map_cons] at h3
    have hql : q.length + 1 ≤ 24 := by have := congrArg List.length h3; have := h4.1; simp at *; omega
    have h4 : RowsAt (σ ++ T) σ.length q M' := h4
    have hrep := rep_ints cols.toNat
    simp -implicitDefEqProofs only [go_sem]
    (repeat' (first|(refine g_s fun K hK=>?_)|(refine g_b ?_)|(refine g_r ?_)|(refine g_k ?_;simp only[thenQ,blockQ])|(refine g_e ?_;simp only[thenQ,blockQ,↓reduceIte,Nat.reduceEqDiff])|(refine g_c (fun h=>?_) (fun h=>?_)<;>(try simp only[go_sem] at h)<;>(try exact g_f))|((first|refine g_t ?_|refine g_G ?_|refine g_U ?_|refine g_A ?_|refine g_W ?_);(try simp -implicitDefEqProofs only[go_sem,hrep, hw]))|(with_reducible refine hK _ _ ?_;clear hK K)|(clear hK K;first|(with_reducible refine hK _ _ ?_;clear hK K)|(clear hK K;with_reducible refine hK _ _ ?_;clear hK K)|(clear hK K;clear hK K;with_reducible refine hK _ _ ?_;clear hK K))|(with_reducible refine splitB_intro (fun h=>?_) (fun h=>?_)<;>(try simp only[go_sem] at h)<;>(try exact g_f)<;>(try simp -implicitDefEqProofs only[go_sem,hrep, hw]))|(with_reducible refine And.intro (fun h=>?_) (fun h=>?_)<;>(try simp only[go_sem] at h)<;>(try exact g_f))|(with_reducible refine And.intro ?_ ?_;· exact g_x)|(with_reducible intro h;(try simp only[go_sem] at h);(try exact g_f))))
    have hJ2 := hK
    clear hK
    refine AWP_each (ints cols) (fun k _ (st : List Int) => st.length = cols.toNat ∧ ∀ p, 0 ≤ p → p < k → at0 st p = g i p) (fun k _ _ => [(18, intA1 k)]) (fun _ st _ => σ ++ (T ++ [accO (rowV cols.toNat) 1 q, .cells 1 (st.map intC)])) (List.replicate cols.toNat 0) [] ⟨by simp, fun p h0 h1 => by omega⟩ rfl (ALe_of ?_) ?_ ?_
    · simp -implicitDefEqProofs only [go_sem]
    · rintro k r9 st τ9 hk0 hk1 ⟨h6, h7⟩ L2 hL2
      rw [ints_length] at hk1
      have hF := hf i k hi0 (by omega) hk0 (by omega)
      have hset := set_ints st k.toNat (g i k)
      have hg : (st.map intC)[k.toNat]? = some (intC (at0 st k)) := by
        have : k.toNat < st.length := by omega
        simp [at0, List.getD_eq_getElem?_getD, this]
      simp -implicitDefEqProofs only [go_sem]
      (repeat' (first|(refine g_s fun K hK=>?_)|(refine g_b ?_)|(refine g_r ?_)|(refine g_k ?_;simp only[thenQ,blockQ])|(refine g_e ?_;simp only[thenQ,blockQ,↓reduceIte,Nat.reduceEqDiff])|(refine g_c (fun h=>?_) (fun h=>?_)<;>(try simp only[go_sem] at h)<;>(try exact g_f))|((first|refine g_t ?_|refine g_G ?_|refine g_U ?_|refine g_A ?_|refine (hF _).use ?_|refine g_q (fun τ=>hF _) ?_|refine g_W ?_);(try simp -implicitDefEqProofs only[go_sem,hg, hset]))|(with_reducible refine hK _ _ ?_;clear hK K)|(clear hK K;first|(with_reducible refine hK _ _ ?_;clear hK K)|(clear hK K;with_reducible refine hK _ _ ?_;clear hK K)|(clear hK K;clear hK K;with_reducible refine hK _ _ ?_;clear hK K))|(with_reducible refine splitB_intro (fun h=>?_) (fun h=>?_)<;>(try simp only[go_sem] at h)<;>(try exact g_f)<;>(try simp -implicitDefEqProofs only[go_sem,hg, hset]))|(with_reducible refine And.intro (fun h=>?_) (fun h=>?_)<;>(try simp only[go_sem] at h)<;>(try exact g_f))|(with_reducible refine And.intro ?_ ?_;· exact g_x)|(with_reducible intro h;(try simp only[go_sem] at h);(try exact g_f))))
      refine hL2 (st.set k.toNat (g i k)) [] _ _ ⟨by rw [List.length_set]; exact h6, fun p h0 h1 => ?_⟩ (ALe_of ?_) rfl
      · rw [at0_setI st _ hk0 h0 (by omega)]
        by_cases e : p = k
        · rw [if_pos e, e]
        · rw [if_neg e]
          exact h7 p h0 (by omega)
      · simp -implicitDefEqProofs only [go_sem]
    · rintro k st τ9 hk ⟨h6, h7⟩ L2
      rw [ints_length] at hk
      have hst : st = (ints cols).map (g i) := at0_extI (by rw [h6, List.length_map, ints_length]) fun p h0 h1 => by
        rw [h7 p h0 (by omega), at0_intsM _ h0 (by omega)]
      simp -implicitDefEqProofs only [go_sem]
      (repeat' (first|(refine g_s fun K hK=>?_)|(refine g_b ?_)|(refine g_r ?_)|(refine g_k ?_;simp only[thenQ,blockQ])|(refine g_e ?_;simp only[thenQ,blockQ,↓reduceIte,Nat.reduceEqDiff])|(refine g_c (fun h=>?_) (fun h=>?_)<;>(try simp only[go_sem] at h)<;>(try exact g_f))|((first|refine g_t ?_|refine g_g ?_|refine g_U ?_|refine g_A ?_|refine g_W ?_);(try simp -implicitDefEqProofs only[go_sem]))|(with_reducible refine hK _ _ ?_;clear hK K)|(clear hK K;first|(with_reducible refine hK _ _ ?_;clear hK K)|(clear hK K;with_reducible refine hK _ _ ?_;clear hK K)|(clear hK K;clear hK K;with_reducible refine hK _ _ ?_;clear hK K))|(with_reducible refine splitB_intro (fun h=>?_) (fun h=>?_)<;>(try simp only[go_sem] at h)<;>(try exact g_f)<;>(try simp -implicitDefEqProofs only[go_sem]))|(with_reducible refine And.intro (fun h=>?_) (fun h=>?_)<;>(try simp only[go_sem] at h)<;>(try exact g_f))|(with_reducible refine And.intro ?_ ?_;· exact g_x)|(with_reducible intro h;(try simp only[go_sem] at h);(try exact g_f))))
      refine hJ2 _ _ ?_
      clear hJ2
      rcases q with _ | ⟨y, q⟩ <;> simp only [List.length_cons, List.length_nil] at hql <;> simp -implicitDefEqProofs only [go_sem, accV, accO]
      all_goals (repeat' (first|(refine g_s fun K hK=>?_)|(refine g_b ?_)|(refine g_r ?_)|(refine g_k ?_;simp only[thenQ,blockQ])|(refine g_e ?_;simp only[thenQ,blockQ,↓reduceIte,Nat.reduceEqDiff])|(refine g_c (fun h=>?_) (fun h=>?_)<;>(try simp only[go_sem] at h)<;>(try exact g_f))|((first|refine g_t ?_|refine g_g ?_|refine g_U ?_|refine g_A ?_|refine g_W ?_);(try simp -implicitDefEqProofs only[go_sem]))|(with_reducible refine hK _ _ ?_;clear hK K)|(clear hK K;first|(with_reducible refine hK _ _ ?_;clear hK K)|(clear hK K;with_reducible refine hK _ _ ?_;clear hK K)|(clear hK K;clear hK K;with_reducible refine hK _ _ ?_;clear hK K))|(with_reducible refine splitB_intro (fun h=>?_) (fun h=>?_)<;>(try simp only[go_sem] at h)<;>(try exact g_f)<;>(try simp -implicitDefEqProofs only[go_sem]))|(with_reducible refine And.intro (fun h=>?_) (fun h=>?_)<;>(try simp only[go_sem] at h)<;>(try exact g_f))|(with_reducible refine And.intro ?_ ?_;· exact g_x)|(with_reducible intro h;(try simp only[go_sem] at h);(try exact g_f))))
      · refine hL ([] ++ [σ.length + (T.length + 1)], T ++ [.dead, .cells 1 (st.map intC), .cells 1 [rowV cols.toNat (σ.length + (T.length + 1))]]) τ _ _ ⟨M' ++ [(ints cols).map (g i)], by simpa using h3, snocAt h4 (by rw [hst]) rfl, snocN h4 h5⟩ (ALe_of ?_) ?_
        · simp -implicitDefEqProofs only [go_sem, accV, rowV]
        · simp [accO, rowV]
      · refine hL ((y :: q) ++ [σ.length + (T.length + 1)], T ++ [.dead, .cells 1 (st.map intC), .cells 1 [rowV cols.toNat (σ.length + (T.length + 1))]]) τ _ _ ⟨M' ++ [(ints cols).map (g i)], by simpa using h3, snocAt h4 (by rw [hst]) rfl, snocN h4 h5⟩ (ALe_of ?_) ?_
        · simp -implicitDefEqProofs only [go_sem, accV, rowV]
        · simp [accO, rowV]
  · rintro i ⟨q, T⟩ τ hi ⟨M', h3, h4, h5⟩ L
    rw [ints_length] at hi
    simp -implicitDefEqProofs only [go_sem]
    (repeat' (first|(refine g_s fun K hK=>?_)|(refine g_b ?_)|(refine g_r ?_)|(refine g_k ?_;simp only[thenQ,blockQ])|(refine g_e ?_;simp only[thenQ,blockQ,↓reduceIte,Nat.reduceEqDiff])|(refine g_c (fun h=>?_) (fun h=>?_)<;>(try simp only[go_sem] at h)<;>(try exact g_f))|((first|refine g_t ?_|refine g_g ?_|refine g_U ?_|refine g_A ?_|refine g_W ?_);(try simp -implicitDefEqProofs only[go_sem]))|(with_reducible refine hK _ _ ?_;clear hK K)|(clear hK K;first|(with_reducible refine hK _ _ ?_;clear hK K)|(clear hK K;with_reducible refine hK _ _ ?_;clear hK K)|(clear hK K;clear hK K;with_reducible refine hK _ _ ?_;clear hK K))|(with_reducible refine splitB_intro (fun h=>?_) (fun h=>?_)<;>(try simp only[go_sem] at h)<;>(try exact g_f)<;>(try simp -implicitDefEqProofs only[go_sem]))|(with_reducible refine And.intro (fun h=>?_) (fun h=>?_)<;>(try simp only[go_sem] at h)<;>(try exact g_f))|(with_reducible refine And.intro ?_ ?_;· exact g_x)|(with_reducible intro h;(try simp only[go_sem] at h);(try exact g_f))))
    refine hJ _ _ ?_
    clear hJ
    have h4 : RowsAt (σ ++ T) σ.length q M' := h4
    have h5 : q.Nodup := h5
    have h3 : M' = M := by simpa using h3
    subst h3
    rcases q with _ | ⟨y, q⟩ <;> simp -implicitDefEqProofs only [go_sem, accV, accO]
    all_goals (repeat' (first|(refine g_s fun K hK=>?_)|(refine g_b ?_)|(refine g_r ?_)|(refine g_k ?_;simp only[thenQ,blockQ])|(refine g_e ?_;simp only[thenQ,blockQ,↓reduceIte,Nat.reduceEqDiff])|(refine g_c (fun h=>?_) (fun h=>?_)<;>(try simp only[go_sem] at h)<;>(try exact g_f))|((first|refine g_t ?_|refine g_g ?_|refine g_U ?_|refine g_A ?_|refine g_W ?_);(try simp -implicitDefEqProofs only[go_sem]))|(with_reducible refine hK _ _ ?_;clear hK K)|(clear hK K;first|(with_reducible refine hK _ _ ?_;clear hK K)|(clear hK K;with_reducible refine hK _ _ ?_;clear hK K)|(clear hK K;clear hK K;with_reducible refine hK _ _ ?_;clear hK K))|(with_reducible refine splitB_intro (fun h=>?_) (fun h=>?_)<;>(try simp only[go_sem] at h)<;>(try exact g_f)<;>(try simp -implicitDefEqProofs only[go_sem]))|(with_reducible refine And.intro (fun h=>?_) (fun h=>?_)<;>(try simp only[go_sem] at h)<;>(try exact g_f))|(with_reducible refine And.intro ?_ ?_;· exact g_x)|(with_reducible intro h;(try simp only[go_sem] at h);(try exact g_f))))
    · have hM0 : M' = [] := by
        have := h4.1
        exact List.eq_nil_of_length_eq_zero this.symm
      exact ⟨T ++ [.dead], rfl, [], hMw, .inl ⟨hM0, rfl, rfl⟩⟩
    · have hl : q.length + 1 = M'.length := h4.1
      refine ⟨_, rfl, (σ.length + T.length) :: y :: q, hMw, .inr ⟨_, y :: q, rfl, ?_, ?_, by rw [hl], by omega, ?_, ?_⟩⟩
      · rw [List.nodup_cons]
        refine ⟨fun hm => ?_, h5⟩
        have := (h4.lt _ hm).1
        rw [List.length_append] at this
        omega
      · intro e
        rw [e] at hl
        simp at hl
      · rw [List.getElem?_append_right (by omega), List.getElem?_append_right (by omega)]
        have e : σ.length + T.length - σ.length - T.length = 0 := by omega
        rw [e]
        rfl
      · refine h4.congr (Nat.le_refl _) fun b hb o ho => ?_
        have := (List.getElem?_eq_some_iff.1 ho).1
        rw [← List.append_assoc, List.getElem?_append_left this]
        exact ho
end Go.Proofs.Ytephecognbbaoaa
